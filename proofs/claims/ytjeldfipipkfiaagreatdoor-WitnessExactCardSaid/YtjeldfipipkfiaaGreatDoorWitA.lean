/- The contracts of slices.IndexFunc at changes and at named types, with witness's own closures. -/
import Derived.Test.YtjeldfipipkfiaaGreatDoorBrkP
import Derived.Test.YtjeldfipipkfiaaGreatDoorGOf
namespace Go.Proofs.YtjeldfipipkfiaaGreatDoor
open Go.RowKit
set_option linter.unusedSimpArgs false
set_option linter.unusedVariables false
def bigI (l : List Chg) : Int := match l.findIdx? bigB with
  | some i => (i : Nat)
  | none => -1
theorem bigI_hit {l : List Chg} {k : Nat} (hk : k < l.length) (h : ∀ i (h : i < l.length), i < k → bigB l[i] = false) (h2 : bigB l[k] = true) : bigI l = (k : Nat) := by
  have : l.findIdx? bigB = some k := by
    rw [List.findIdx?_eq_some_iff_getElem]
    exact ⟨hk, h2, fun j hj => by simp [h j (by omega) hj]⟩
  rw [bigI, this]
theorem bigI_miss {l : List Chg} (h : ∀ i (h : i < l.length), bigB l[i] = false) : bigI l = -1 := by
  have : l.findIdx? bigB = none := by
    rw [List.findIdx?_eq_none_iff]
    intro x hx
    obtain ⟨i, hi, rfl⟩ := List.getElem_of_mem hx
    exact h i hi
  rw [bigI, this]
set_option maxHeartbeats 1000000 in
theorem big_c (k : Int) (m n : ByteArray) (o : Bool) (w : World) : Calls Tryz.prog 88 #[.agg #[.int .i64 k, .string m, .string n, .bool o]] w fun e w' => e = .returned (.bool (bigB ⟨k, m, n, o⟩)) ∧ Below w.heap.size w w' := by
  obtain ⟨r, hr⟩ : ∃ r, bigB ⟨k, m, n, o⟩ = r := ⟨_, rfl⟩
  rw [hr]
  have hr' : (k == 1 || k == 2) = r := hr
  clear hr
  have hb := (Below.refl w.heap.size w).alloc (Nat.le_refl _) (.cells #[.int .i64 k, .string m, .string n, .bool o] 132)
  have HB := Lib.hid hb
  clear hb
  by_cases e1 : k = 1
  · subst e1
    obtain rfl : r = true := by rw [← hr']; rfl
    go_enter Tryz.func88, Tryz.ntmps88
    go_wp2_with fail
    go_ret
    exact ⟨rfl, HB.out⟩
  · by_cases e2 : k = 2
    · subst e2
      obtain rfl : r = true := by rw [← hr']; rfl
      have n1 : ((2 : Int) == 1) = false := by decide
      go_enter Tryz.func88, Tryz.ntmps88
      go_wp2_with fail
      go_ret
      exact ⟨rfl, HB.out⟩
    · obtain rfl : r = false := by rw [← hr']; simp [e1, e2]
      have n1 : (k == 1) = false := by simp [e1]
      have n2 : (k == 2) = false := by simp [e2]
      go_enter Tryz.func88, Tryz.ntmps88
      go_wp2_with fail
      go_ret
      exact ⟨rfl, HB.out⟩
set_option maxRecDepth 100000 in
set_option maxHeartbeats 4000000 in
theorem idxChg_c (l : List Chg) (v : Value) (w : World) (h : ChgAt w v l) (hl : l.length ≤ 2000000) :
    Calls Tryz.prog 87 #[v, .func (.func 88) #[] #[]] w fun e w' => e = .returned (.int .i64 (bigI l)) ∧ Below w.heap.size w w' := by
  obtain ⟨q, hq⟩ : ∃ q, bigI l = q := ⟨_, rfl⟩
  rw [hq]
  have HQ := Lib.hid hq
  obtain ⟨pp, cap, rfl, hc⟩ := h
  have HC := Lib.hid hc
  clear hc hq
  go_enter Tryz.func87, Tryz.ntmps87
  go_wp2
  go_loopw [8] (fun i w1 => ∃ k : Nat, k ≤ l.length ∧ i = .int .i64 k ∧ Below w.heap.size w w1 ∧ ∀ i (h : i < l.length), i < k → bigB l[i] = false) (fun i _ => l.length - (intOf i).toNat)
  case atStart => exact ⟨0, Nat.zero_le _, rfl, Below.refl _ _, fun i _ hi => absurd hi (by omega)⟩
  case round =>
    obtain ⟨k, hk, rfl, hacc, hall⟩ := hrel
    have HA := Lib.hid hall
    have HB := Lib.hid hacc
    clear hall hacc
    by_cases hlt : k < l.length
    · obtain ⟨b, o, rfl, lb, g⟩ := HC.out (by omega)
      obtain ⟨x, hx⟩ : ∃ x, l[k] = x := ⟨_, rfl⟩
      have c0 := g k hlt 0 (by decide)
      have c1 := g k hlt 1 (by decide)
      have c2 := g k hlt 2 (by decide)
      have c3 := g k hlt 3 (by decide)
      rw [hx, ← HB.out.cell (p := ⟨b, _, none⟩) lb] at c0 c1 c2 c3
      simp [Chg.cells] at c0 c1 c2 c3
      have hltI : (k : Int) < (l.length : Int) := by omega
      have lb2 := Nat.lt_of_lt_of_le lb HB.out.size
      have HX := Lib.hid hx
      clear hx g
      go_wp2_with fail
      have hcall := big_c x.kind x.mod x.name x.ofType wr
      refine hcall.mono ?_
      clear hcall
      rintro e w1 ⟨rfl, hb1⟩
      have HB1 := Lib.hid (HB.out.trans (hb1.mono HB.out.size))
      clear hb1
      obtain ⟨t, ht⟩ : ∃ t, bigB ⟨x.kind, x.mod, x.name, x.ofType⟩ = t := ⟨_, rfl⟩
      rw [ht]
      have HT := Lib.hid ht
      clear ht
      cases t
      · go_wp2_with fail
        exact ⟨⟨k + 1, by omega, by go_num, HB1.out, fun i hi hik => by
          by_cases e : i = k
          · subst e; rw [HX.out]; exact HT.out
          · exact HA.out i hi (by omega)⟩, by simp [intOf]; omega⟩
      · have hr := HQ.out.symm.trans (bigI_hit hlt HA.out (by rw [HX.out]; exact HT.out))
        subst hr
        go_wp2_with fail
        go_ret
        exact ⟨rfl, HB1.out⟩
    · obtain rfl : k = l.length := by omega
      have hltI : ¬ (l.length : Int) < (l.length : Int) := by omega
      have hr := HQ.out.symm.trans (bigI_miss fun i hi => HA.out i hi hi)
      subst hr
      go_wp2_with fail
      go_ret
      exact ⟨rfl, HB.out⟩
set_option maxHeartbeats 1000000 in
theorem isNamed_c (nm : ByteArray) (a : Int) (p : ByteArray) (b : Int) (m n : ByteArray) (na : Option Addr) (nl nc : Nat) (sa : Option Addr) (sl sc : Nat) (s : ByteArray) (pc : Nat) (w : World) (hc : w.cell? ⟨pc, 2, none⟩ = some (.string s)) (hpc : pc < w.heap.size) :
    Calls Tryz.prog 147 #[.agg #[.string nm, .int .i64 a, .string p, .int .i64 b, .string m, .string n, .slice na nl nc, .slice sa sl sc], .pointer (some ⟨pc, 0, none⟩)] w fun e w' => e = .returned (.bool (nm.toList == s.toList)) ∧ Below w.heap.size w w' := by
  have hc2 : (w.alloc (.cells #[.string nm, .int .i64 a, .string p, .int .i64 b, .string m, .string n, .slice na nl nc, .slice sa sl sc] 62)).cell? ⟨pc, 2, none⟩ = some (.string s) := (World.cell?_alloc_lt _ _ _ hpc).trans hc
  have hb := (Below.refl w.heap.size w).alloc (Nat.le_refl _) (.cells #[.string nm, .int .i64 a, .string p, .int .i64 b, .string m, .string n, .slice na nl nc, .slice sa sl sc] 62)
  have HB := Lib.hid hb
  clear hb
  go_enter Tryz.func147, Tryz.ntmps147
  go_wp2_with fail
  go_ret
  exact ⟨rfl, HB.out⟩
set_option maxRecDepth 100000 in
set_option maxHeartbeats 4000000 in
theorem idxNamed_c (A : Option Addr) (c B : Nat) (l : List Nm) (s : ByteArray) (pc : Nat) (w : World) (h1 : NmsAt w B A l) (hB : B ≤ w.heap.size) (hl : l.length ≤ 1000) (hc : w.cell? ⟨pc, 2, none⟩ = some (.string s)) (hpc : pc < w.heap.size) :
    Calls Tryz.prog 67 #[.slice A l.length c, .func (.func 147) #[] #[.pointer (some ⟨pc, 0, none⟩)]] w fun e w' => e = .returned (.int .i64 (ofN l s)) ∧ Below w.heap.size w w' := by
  obtain ⟨q, hq⟩ : ∃ q, ofN l s = q := ⟨_, rfl⟩
  rw [hq]
  have HQ := Lib.hid hq
  have H1 := Lib.hid h1
  have HC := Lib.hid hc
  clear h1 hq hc
  go_enter Tryz.func67, Tryz.ntmps67
  go_wp2
  go_loopw [8] (fun i w1 => ∃ k : Nat, k ≤ l.length ∧ i = .int .i64 k ∧ Below w.heap.size w w1 ∧ ∀ i (h : i < l.length), i < k → (l[i].name.toList == s.toList) = false) (fun i _ => l.length - (intOf i).toNat)
  case atStart => exact ⟨0, Nat.zero_le _, rfl, Below.refl _ _, fun i _ hi => absurd hi (by omega)⟩
  case round =>
    obtain ⟨k, hk, rfl, hacc, hall⟩ := hrel
    have HA := Lib.hid hall
    have HB := Lib.hid hacc
    clear hall hacc
    by_cases hlt : k < l.length
    · have hltI : (k : Int) < (l.length : Int) := by omega
      obtain ⟨x, hx⟩ : ∃ x, l[k] = x := ⟨_, rfl⟩
      obtain ⟨hns, b, o, na, nc, sa, sc, rfl, hbB, hty, c0, c1, c2, c3, c4, c5, c6, c7⟩ := (H1.out.under (HB.out.mono hB)).elem hlt hx
      have hbw : b < wr.heap.size := by have := HB.out.size; omega
      have HX := Lib.hid hx
      clear hx hty
      go_wp2_with fail
      have hcall := isNamed_c x.name x.ty.kind x.ty.pkg x.ty.major x.ty.mod x.ty.name na x.ty.names.length nc sa x.ty.subs.length sc s pc wr ((HB.out.cell (p := ⟨pc, _, none⟩) hpc).trans HC.out) (Nat.lt_of_lt_of_le hpc HB.out.size)
      refine hcall.mono ?_
      clear hcall
      rintro e w1 ⟨rfl, hb1⟩
      have HB1 := Lib.hid (HB.out.trans (hb1.mono HB.out.size))
      clear hb1
      obtain ⟨t, ht⟩ : ∃ t, (x.name.toList == s.toList) = t := ⟨_, rfl⟩
      rw [ht]
      have HT := Lib.hid ht
      clear ht
      cases t
      · go_wp2_with fail
        exact ⟨⟨k + 1, by omega, by go_num, HB1.out, fun i hi hik => by
          by_cases e : i = k
          · subst e; rw [HX.out]; exact HT.out
          · exact HA.out i hi (by omega)⟩, by simp [intOf]; omega⟩
      · have hr := HQ.out.symm.trans (ofN_hit hlt HA.out (by rw [HX.out]; exact HT.out))
        subst hr
        go_wp2_with fail
        go_ret
        exact ⟨rfl, HB1.out⟩
    · obtain rfl : k = l.length := by omega
      have hltI : ¬ (l.length : Int) < (l.length : Int) := by omega
      have hr := HQ.out.symm.trans (ofN_miss fun i hi => HA.out i hi hi)
      subst hr
      go_wp2_with fail
      go_ret
      exact ⟨rfl, HB.out⟩
end Go.Proofs.YtjeldfipipkfiaaGreatDoor
