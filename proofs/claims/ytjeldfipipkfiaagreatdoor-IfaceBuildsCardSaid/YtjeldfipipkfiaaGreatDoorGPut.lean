/- Rows of named types, appended to one another in memory of the call's own; a named type at its place. Plain Lean; no condition. -/
import Derived.Test.YtjeldfipipkfiaaGreatDoorGBldP
import Derived.Test.YtjeldfipipkfiaaGreatDoorCatK
import Derived.Test.YtjeldfipipkfiaaGreatDoorGMent
import Derived.Test.YtjeldfipipkfiaaGreatDoorGIf
import Derived.Test.YtjeldfipipkfiaaGreatDoorGReg
import Derived.Deep.QuietTactic
import Derived.Deep.Draws
namespace Go.Proofs.YtjeldfipipkfiaaGreatDoor
open Go.RowKit
set_option linter.unusedSimpArgs false
set_option linter.unusedVariables false
def NmcM (w : World) (M : Nat → Prop) (n : Nm) (cs : Array Value) : Prop := n.name.size ≤ maxLen ∧ ∃ na nc sa sc, cs = nmCells n na nc sa sc ∧ TyM w M n.ty (tyCells n.ty na nc sa sc)
theorem NmcM.move {w w' : World} {M M' : Nat → Prop} {n : Nm} {cs : Array Value} (h : NmcM w M n cs) (hM : ∀ b, M b → M' b) (hk : ∀ p : Addr, M p.block → w'.cell? p = w.cell? p) : NmcM w' M' n cs := by
  obtain ⟨h1, na, nc, sa, sc, h2, h3⟩ := h
  exact ⟨h1, na, nc, sa, sc, h2, h3.move hM hk⟩
theorem NmcM.size {w : World} {M : Nat → Prop} {n : Nm} {cs : Array Value} (h : NmcM w M n cs) : cs.size = 8 := by
  obtain ⟨-, na, nc, sa, sc, rfl, -⟩ := h; rfl
theorem NmcM.one {w : World} {M : Nat → Prop} {n : Nm} {cs : Array Value} (h : NmcM w M n cs) : ∀ u ∈ cs.toList, u.oneCell' = true := by
  obtain ⟨-, na, nc, sa, sc, rfl, -⟩ := h
  simp [nmCells, Value.oneCell']
theorem NmcM.toC {w : World} {M : Nat → Prop} {B : Nat} {n : Nm} {cs : Array Value} (h : NmcM w M n cs) (hM : ∀ b, M b → b < B) : NmC w B n cs := by
  obtain ⟨h1, na, nc, sa, sc, h2, h3⟩ := h
  exact ⟨h1, na, nc, sa, sc, h2, (h3.mono hM).toC⟩
def NmsM (w : World) (M : Nat → Prop) (A : Option Addr) (l : List Nm) : Prop := ∃ f : Nat → Array Value, (l.length = 0 ∨ ∃ b o, A = some ⟨b, o, none⟩ ∧ M b ∧ ∀ i, i < l.length → ∀ j, j < (f i).size → w.cell? ⟨b, o + i * 8 + j, none⟩ = (f i)[j]?) ∧ ∀ i (h : i < l.length), NmcM w M l[i] (f i)
theorem NmsM.move {w w' : World} {M M' : Nat → Prop} {A : Option Addr} {l : List Nm} (h : NmsM w M A l) (hM : ∀ b, M b → M' b) (hk : ∀ p : Addr, M p.block → w'.cell? p = w.cell? p) : NmsM w' M' A l := by
  obtain ⟨f, h1, h2⟩ := h
  refine ⟨f, ?_, fun i hi => (h2 i hi).move hM hk⟩
  rcases h1 with h1 | ⟨b, o, hA, hb, hc⟩
  · exact .inl h1
  · exact .inr ⟨b, o, hA, hM b hb, fun i hi j hj => (hk ⟨b, _, none⟩ hb).trans (hc i hi j hj)⟩
theorem NmsM.nil (w : World) (M : Nat → Prop) (A : Option Addr) : NmsM w M A [] := ⟨fun _ => #[], .inl rfl, fun i hi => absurd hi (by simp)⟩
theorem NmsM.at {w : World} {M : Nat → Prop} {B : Nat} {A : Option Addr} {l : List Nm} (h : NmsM w M A l) (hM : ∀ b, M b → b < B) : NmsAt w B A l := by
  obtain ⟨f, h1, h2⟩ := h
  refine ⟨f, ?_, fun i hi => (h2 i hi).toC hM⟩
  rcases h1 with h1 | ⟨b, o, hA, hb, hc⟩
  · exact .inl h1
  · exact .inr ⟨b, o, hA, hM b hb, hc⟩
def CatN (w : World) (M : Nat → Prop) (base : Nat) (v : Value) (l : List Nm) : Prop := ∃ g, w.ownsRow base 62 8 v l.length (flatK g l.length) ∧ ∀ i (h : i < l.length), NmcM w M l[i] (g i)
def SrcN (w : World) (M : Nat → Prop) (A : Option Addr) (l : List Nm) : Prop := ∃ f, RowsK 8 w w.heap.size A l.length f ∧ ∀ i (h : i < l.length), NmcM w M l[i] (f i)
theorem CatN.under {w w' : World} {M : Nat → Prop} {base : Nat} {v : Value} {l : List Nm} (h : CatN w M base v l) (hb : Below w.heap.size w w') (hM : ∀ b, M b → b < w.heap.size) : CatN w' M base v l := by
  obtain ⟨g, h1, h2⟩ := h
  exact ⟨g, owns_under h1 hb, fun i hi => (h2 i hi).move (fun _ h => h) fun p hp => hb.cell (hM _ hp)⟩
theorem CatN.next {w w' : World} {M : Nat → Prop} {base : Nat} {v' : Value} {l m : List Nm} {g f : Nat → Array Value} (h2 : ∀ i (h : i < l.length), NmcM w M l[i] (g i)) (hm : ∀ i (h : i < m.length), NmcM w M m[i] (f i)) (hBb : ∀ b, M b → b < base) (hb : Below base w w')
    (hown : w'.ownsRow base 62 8 v' (l.length + m.length) (flatK g l.length ++ flatK f m.length)) : CatN w' M base v' (l ++ m) := by
  rw [flatK_app] at hown
  refine ⟨_, by rw [List.length_append]; exact hown, fun i hi => ?_⟩
  rw [List.length_append] at hi
  by_cases e : i < l.length
  · simp only [if_pos e]
    rw [List.getElem_append_left e]
    exact (h2 i e).move (fun _ h => h) fun p hp => hb.cell (hBb _ hp)
  · simp only [if_neg e]
    rw [List.getElem_append_right (by omega)]
    exact (hm (i - l.length) (by omega)).move (fun _ h => h) fun p hp => hb.cell (hBb _ hp)
theorem wpl_cat {w : World} {ops : Array Oper} {rest : List Oper} {o : Oper} {a : Act} {Q : Exit → Act → World → Prop} (hgd : o.guard = none) (s x : Operand)
    (ho : o.op = .call { callee := .builtin .append, args := #[s, x], argTypes := #[49, 49] })
    (M : Nat → Prop) (base : Nat) (v : Value) (l : List Nm) (hs : a.eval s = v) (hc : CatN w M base v l) (A : Option Addr) (c n : Nat) (m : List Nm) (hx : a.eval x = .slice A n c) (hn : n = m.length) (hm : SrcN w M A m)
    (hnm : l.length + m.length ≤ 1000000) (hbase : base ≤ w.heap.size) (hBb : ∀ b, M b → b < base)
    (h : ∀ v' w', CatN w' M base v' (l ++ m) → Below base w w' → wpList Tryz.prog ops Q rest (a.put o.dst v') w') : wpList Tryz.prog ops Q (o :: rest) a w := by
  obtain ⟨i0, hi, hz0, hz1, hz2⟩ := info_parts infoNamed
  subst hn
  obtain ⟨g, hown, hg⟩ := hc
  obtain ⟨f, hr, hf⟩ := hm
  cases A with
  | none =>
    have h0 : m.length = 0 := by
      rcases hr with h | ⟨b, o, h, -⟩
      · exact h
      · cases h
    have hm0 : m = [] := List.length_eq_zero_iff.1 h0
    refine wpList_append_noneC hgd s x 49 ho base 62 i0 8 Tryz.underlying49 hi v l.length _ hs hown m.length c hx h0 ?_
    refine h v w ?_ (Below.refl _ _)
    rw [hm0, List.append_nil]
    exact ⟨g, hown, hg⟩
  | some ad =>
    refine wpList_append_own _ hgd s x 49 ho base 62 i0 _ 8 128 Tryz.underlying49 hi hz0 hz1 hz2 rfl (by decide) v l.length _ hs hown ad m.length c (flatK f m.length) hx (flatK_len fun i h => (hf i h).size) (rows_src (by decide) hr fun i h => (hf i h).size) (flatK_one (K := 8) fun i h => (hf i h).one) (by unfold maxLen; omega) (by omega) hbase ?_
    intro v' w' h2 h3 h4
    have hb := (Below.refl base w).grown h3 hbase (fun k hk => (owns_lt hown hk).1)
    exact h v' w' (CatN.next hg hf hBb hb h2) hb
theorem CatN.nil (w : World) (M : Nat → Prop) {base : Nat} {v : Value} (h : w.ownsRow base 62 8 v 0 []) : CatN w M base v [] := ⟨fun _ => #[], h, fun i hi => absurd hi (by simp)⟩
theorem CatN.at {w : World} {M M' : Nat → Prop} {base : Nat} {v : Value} {l : List Nm} (h : CatN w M base v l) (hM : ∀ b, M b → M' b) (hM' : ∀ b, base ≤ b → b < w.heap.size → M' b) : ∃ A cap, v = .slice A l.length cap ∧ l.length ≤ cap ∧ NmsM w M' A l := by
  obtain ⟨g, h1, h2⟩ := h
  obtain ⟨A, cap, rfl, hcap, hr⟩ := own_rows h1 fun i hi => (h2 i hi).size
  refine ⟨A, cap, rfl, hcap, g, ?_, fun i hi => (h2 i hi).move hM fun _ _ => rfl⟩
  rcases hr with hr | ⟨b, o, hA, hb, hc⟩
  · exact .inl hr
  · refine .inr ⟨b, o, hA, ?_, hc⟩
    subst hA
    by_cases h0 : l.length = 0
    · have := h1.2
      rcases this with ⟨e, -⟩ | ⟨g', cap', cur, e, h3, -⟩
      · cases e
      · cases e
        exact hM' _ h3 hb
    · have := h1.2
      rcases this with ⟨e, -⟩ | ⟨g', cap', cur, e, h3, -⟩
      · cases e
      · cases e
        exact hM' _ h3 hb
theorem SrcN.of {w : World} {M : Nat → Prop} {A : Option Addr} {l : List Nm} (h : NmsM w M A l) (hM : ∀ b, M b → b < w.heap.size) : SrcN w M A l := by
  obtain ⟨f, h1, h2⟩ := h
  refine ⟨f, ?_, h2⟩
  rcases h1 with h1 | ⟨b, o, hA, hb, hc⟩
  · exact .inl h1
  · exact .inr ⟨b, o, hA, hM b hb, hc⟩
theorem SrcN.under {w w' : World} {M : Nat → Prop} {A : Option Addr} {l : List Nm} (h : SrcN w M A l) (hb : Below w.heap.size w w') (hM : ∀ b, M b → b < w.heap.size) : SrcN w' M A l := by
  obtain ⟨f, h1, h2⟩ := h
  exact ⟨f, (h1.keep fun p hp => hb.cell hp).mono hb.size, fun i hi => (h2 i hi).move (fun _ h => h) fun p hp => hb.cell (hM _ hp)⟩
theorem NmsM.take {w : World} {M : Nat → Prop} {A : Option Addr} {l : List Nm} (h : NmsM w M A l) (k : Nat) : NmsM w M A (l.take k) := by
  obtain ⟨f, h1, h2⟩ := h
  refine ⟨f, ?_, fun i hi => ?_⟩
  · rcases h1 with h1 | ⟨b, o, hA, hb, hc⟩
    · exact .inl (by rw [List.length_take]; omega)
    · exact .inr ⟨b, o, hA, hb, fun i hi => hc i (by rw [List.length_take] at hi; omega)⟩
  · rw [List.getElem_take]
    exact h2 i (by rw [List.length_take] at hi; omega)
theorem NmsM.drop {w : World} {M : Nat → Prop} {b o : Nat} {l : List Nm} (h : NmsM w M (some ⟨b, o, none⟩) l) (k : Nat) : NmsM w M (some ⟨b, o + k * 8, none⟩) (l.drop k) := by
  obtain ⟨f, h1, h2⟩ := h
  refine ⟨fun i => f (k + i), ?_, fun i hi => ?_⟩
  · rcases h1 with h1 | ⟨b', o', hA, hb, hc⟩
    · exact .inl (by rw [List.length_drop]; omega)
    · cases hA
      refine .inr ⟨b, o + k * 8, rfl, hb, fun i hi j hj => ?_⟩
      rw [List.length_drop] at hi
      have := hc (k + i) (by omega) j hj
      rw [← this]
      congr 2
      rw [Nat.add_mul]; omega
  · rw [List.getElem_drop]
    exact h2 (k + i) (by rw [List.length_drop] at hi; omega)
theorem SrcN.one {w : World} {M : Nat → Prop} {g : Nat} {x : Nm} {cs : Array Value} {T : TypeId} (h : Blk w g cs T) (hx : NmcM w M x cs) : SrcN w M (some ⟨g, 0, none⟩) [x] := by
  refine ⟨fun _ => cs, .inr ⟨g, 0, rfl, h.lt, fun i hi j hj => ?_⟩, fun i hi => ?_⟩
  · have : i = 0 := by simpa using hi
    subst this
    simpa using h.cell j
  · have : i = 0 := by simpa using hi
    subst this
    exact hx
theorem putNm_at : ∀ {l : List Nm} {x : Nm} {k : Nat}, k ≤ l.length → (∀ j (h : j < l.length), j < k → ltB l[j].name x.name = true) → (∀ h : k < l.length, ltB l[k].name x.name = false) → putNm l x = l.take k ++ x :: l.drop k
  | [], x, k, hk, _, _ => by simp [putNm]
  | y :: l, x, 0, _, _, h2 => by
    have := h2 (by simp)
    have : ltB y.name x.name = false := this
    rw [putNm, if_neg (by rw [this]; decide)]
    rfl
  | y :: l, x, k + 1, hk, h1, h2 => by
    have h0 : ltB y.name x.name = true := h1 0 (by simp) (by omega)
    rw [putNm, if_pos h0, putNm_at (k := k) (by simpa using hk) (fun j hj hjk => by have := h1 (j + 1) (by simpa using hj) (by omega); simpa using this) (fun h => by have := h2 (by simpa using h); simpa using this)]
    rfl
end Go.Proofs.YtjeldfipipkfiaaGreatDoor
namespace Go.Proofs.YtjeldfipipkfiaaGreatDoor
open Go.RowKit
set_option linter.unusedSimpArgs false
set_option linter.unusedVariables false
set_option maxRecDepth 100000 in
set_option maxHeartbeats 40000000 in
theorem put_c (l : List Nm) (A : Option Addr) (cap : Nat) (M : Nat → Prop) (x : Nm) (cs : Array Value) (w : World) (h : NmsM w M A l) (hx : NmcM w M x cs) (hM : ∀ b, M b → b < w.heap.size) (hl : l.length ≤ 1000) (hcap : l.length ≤ cap) :
    Calls Tryz.prog 83 #[.slice A l.length cap, .agg cs] w fun e w' => ∃ A' cap', e = .returned (.slice A' (putNm l x).length cap') ∧ (putNm l x).length ≤ cap' ∧ NmsM w' (fun b => M b ∨ (w.heap.size ≤ b ∧ b < w'.heap.size)) A' (putNm l x) ∧ Below w.heap.size w w' := by
  have HX := Lib.hid hx
  obtain ⟨-, na, nc, sa, sc, rfl, -⟩ := hx
  have H := Lib.hid h
  have HM := Lib.hid hM
  simp only [nmCells] at HX ⊢
  clear h
  go_enter Tryz.func83, Tryz.ntmps83
  go_upto_region 1 with fail
  obtain ⟨W, hWq, d0, hb, hz⟩ := laidNX w #[.string x.name, .int .i64 x.ty.kind, .string x.ty.pkg, .int .i64 x.ty.major, .string x.ty.mod, .string x.ty.name, .slice na x.ty.names.length nc, .slice sa x.ty.subs.length sc] 62
  rewrite [← hWq]; clear hWq
  have D0 := Lib.hid d0
  have BC := Lib.hid hb
  have hsw : w.heap.size + 1 = W.heap.size := hz.symm
  clear d0 hb hz
  go_wp2_with fail
  go_loopw [5] (fun iv wr => ∃ k : Nat, iv = .int .i64 k ∧ k ≤ l.length ∧ (∀ j (h : j < l.length), j < k → ltB l[j].name x.name = true) ∧ Below W.heap.size W wr) (fun iv _ => l.length - (intOf iv).toNat)
  case atStart => exact ⟨0, rfl, Nat.zero_le _, fun j h h0 => absurd h0 (by omega), Below.refl _ _⟩
  case round =>
    rename World => wr
    obtain ⟨k, rfl, hk, hlo, hbr⟩ := hrel
    have HLO := Lib.hid hlo
    have D1 := Lib.hid (D0.out.under hbr D0.out.lt)
    have BW := Lib.hid hbr
    have BR := Lib.hid (BC.out.trans (hbr.mono BC.out.size))
    have hk0 : (0 : Int) ≤ (k : Int) := by omega
    have hsz := BW.out.size
    clear hlo hbr
    go_upto_region 2 with fail
    go_cut [20] (fun v wx => ∃ q : Bool, v = .bool q ∧ (q = true → k < l.length ∧ ∀ h : k < l.length, ltB l[k].name x.name = true) ∧ (q = false → ∀ h : k < l.length, ltB l[k].name x.name = false) ∧ (q = false → putNm l x = l.take k ++ x :: l.drop k) ∧ Below W.heap.size W wx)
    case first =>
      obtain ⟨k0, k1, k2, k3, k4, k5, k6, k7⟩ := cells8 D1.out
      have kl := D1.out.lt
      by_cases hlt : k < l.length
      · obtain ⟨n, hn⟩ : ∃ n, l[k] = n := ⟨_, rfl⟩
        obtain ⟨-, b, o, na2, nc2, sa2, sc2, hA, hbl, -, c0, -⟩ := ((H.out.at HM.out).under BR.out).elem hlt hn
        obtain rfl := hA
        have hltI : (k : Int) < (l.length : Int) := by omega
        have lb : b < wr.heap.size := by omega
        obtain ⟨q, hq⟩ : ∃ q, ltB n.name x.name = q := ⟨_, rfl⟩
        have hqb : Op.bytesLess n.name.toList x.name.toList = q := hq
        have HN := Lib.hid hn
        have HQ := Lib.hid hq
        clear hn hq
        go_quiet (fail)
        go_wp2_with fail
        go_meet
        refine ⟨q, rfl, fun e => ⟨hlt, fun h => by rw [HN.out, HQ.out]; exact e⟩, fun e h => by rw [HN.out, HQ.out]; exact e, fun e => putNm_at hk HLO.out fun h => by rw [HN.out, HQ.out]; exact e, below_drewN BW.out _⟩
      · have hltI : ¬ (k : Int) < (l.length : Int) := by omega
        go_quiet (fail)
        go_wp2_with fail
        go_meet
        refine ⟨false, rfl, fun e => (by cases e), fun _ h => absurd h hlt, fun _ => putNm_at hk HLO.out fun h => absurd h hlt, below_drewN BW.out _⟩
    case rest =>
      rename World => wx
      obtain ⟨q, rfl, hq1, hq2, hq3, hbx⟩ := hcut
      cases q
      · have HP := Lib.hid (hq3 rfl)
        have BX := Lib.hid (BC.out.trans (hbx.mono BC.out.size))
        have DX := Lib.hid (D0.out.under hbx D0.out.lt)
        have hsx := hbx.size
        have hbw0 := hbx
        clear hq1 hq2 hq3 hbx D1 BW BR hsz HLO
        have hX := (Below.refl wx.heap.size wx).alloc (Nat.le_refl _) (.cells #[] 62)
        have HSR := Lib.hid (SrcN.of (H.out.move (fun _ h => h) fun p hp => BX.out.cell (HM.out _ hp)) (fun b hb => Nat.lt_of_lt_of_le (HM.out b hb) BX.out.size) : SrcN wx M A l)
        have HC0 := Lib.hid (CatN.nil (wx.alloc (.cells #[] 62)) M (World.ownsRow_lit (base := W.heap.size) (e := 62) (size := 8) wx #[] 0 (by omega) (by unfold maxLen; omega) rfl))
        have HMX := Lib.hid (fun b (hb : M b) => show b < wx.heap.size by have := HM.out b hb; omega)
        have HMB := Lib.hid (fun b (hb : M b) => show b < W.heap.size by have := HM.out b hb; omega)
        have HXA := Lib.hid hX
        have hkc : (k : Int) ≤ (cap : Int) := by omega
        have hkc2 : k ≤ cap := by omega
        have hz1 : (wx.alloc (.cells #[] 62)).heap.size = wx.heap.size + 1 := by simp
        have HBW := Lib.hid (show Below W.heap.size W (wx.alloc (.cells #[] 62)) from hbw0.trans (hX.mono hsx))
        have HT1 := Lib.hid (SrcN.under (SrcN.of (NmsM.take (H.out.move (fun _ h => h) fun p hp => BX.out.cell (HM.out _ hp)) k) HMX.out) hX HMX.out)
        have HLK := Lib.hid (show k = (l.take k).length by rw [List.length_take]; omega)
        clear hX
        go_upto_region 5 with (at_builtin; go_loud (refine wpl_cat rfl _ _ rfl M W.heap.size _ [] rfl HC0.out A cap k (l.take k) rfl HLK.out HT1.out (by rw [List.length_take, List.length_nil]; omega) (by rw [hz1]; omega) HMB.out ?_); intro v1 w1 hc1 hb1; have HC1 := Lib.hid hc1; have HB1 := Lib.hid (HBW.out.trans hb1); clear hc1 hb1)
        clear hz1 HT1 HC0 HBW
        have hs1 := HB1.out.size
        have D2 := Lib.hid (D0.out.under HB1.out D0.out.lt)
        have HMW := Lib.hid (fun b (hb : M b) => show b < w1.heap.size by have := HMB.out b hb; omega)
        have hb0 := BC.out.trans (HB1.out.mono BC.out.size)
        have HX1 := Lib.hid (HX.out.move (M' := M) (fun _ h => h) fun p hp => hb0.cell (HM.out _ hp))
        obtain ⟨bN, hX, hz2⟩ := laidN w1 #[.string x.name, .int .i64 x.ty.kind, .string x.ty.pkg, .int .i64 x.ty.major, .string x.ty.mod, .string x.ty.name, .slice na x.ty.names.length nc, .slice sa x.ty.subs.length sc] 62
        have HBW := Lib.hid (HB1.out.trans (hX.mono hs1))
        have HS1 := Lib.hid (SrcN.one bN (HX1.out.move (M' := M) (fun _ h => h) fun p hp => hX.cell (HMW.out _ hp)))
        have HC2 := Lib.hid (HC1.out.under hX HMW.out)
        obtain ⟨k0, k1, k2, k3, k4, k5, k6, k7⟩ := cells8 D2.out
        have kl := D2.out.lt
        clear bN hX hb0
        go_upto_region 6 with (at_builtin; go_loud (refine wpl_cat rfl _ _ rfl M W.heap.size v1 ([] ++ l.take k) rfl HC2.out (some ⟨w1.heap.size, 0, none⟩) 1 1 [x] rfl rfl HS1.out (by rw [List.nil_append, List.length_take]; simp; omega) (by rw [hz2]; omega) HMB.out ?_); intro v2 w2 hc2 hb2; have HC3 := Lib.hid hc2; have HB2 := Lib.hid (HBW.out.trans hb2); clear hc2 hb2)
        clear k0 k1 k2 k3 k4 k5 k6 k7 kl hz2 HC2 HS1 HX1 D2 HBW
        have hs2 := HB2.out.size
        have hb0 := BC.out.trans (HB2.out.mono BC.out.size)
        have HM2 := Lib.hid (fun b (hb : M b) => show b < w2.heap.size by have := HMB.out b hb; omega)
        have HN2 := Lib.hid (H.out.move (M' := M) (fun _ h => h) fun p hp => hb0.cell (HM.out _ hp))
        have HBE := Lib.hid hb0
        have hkl : (k : Int) ≤ (l.length : Int) := by omega
        have hld : (l.drop k).length = l.length - k := List.length_drop ..
        have hlt : (l.take k).length = k := by rw [List.length_take]; omega
        have HFIN := Lib.hid (fun (v : Value) (w3 : World) (hc : CatN w3 M W.heap.size v ([] ++ l.take k ++ [x] ++ l.drop k)) (hb : Below W.heap.size w2 w3) => show (∃ A' cap', v = .slice A' (putNm l x).length cap' ∧ (putNm l x).length ≤ cap' ∧ NmsM w3 (fun b => M b ∨ (w.heap.size ≤ b ∧ b < w3.heap.size)) A' (putNm l x)) ∧ Below w.heap.size w w3 by
          have e : [] ++ l.take k ++ [x] ++ l.drop k = putNm l x := by rw [HP.out]; simp
          rw [e] at hc
          exact ⟨hc.at (fun b hb => .inl hb) (fun b h1 h2 => .inr ⟨by omega, h2⟩), HBE.out.trans (hb.mono (by omega))⟩)
        have HBD := Lib.hid (show ([] ++ l.take k ++ [x]).length + (l.drop k).length ≤ 1000000 by rw [hld]; simp; omega)
        clear hb0
        cases A with
        | none =>
          have hl0 : l.length = 0 := by
            obtain ⟨f, h1, -⟩ := HN2.out
            rcases h1 with h1 | ⟨b, o, h1, -⟩
            · exact h1
            · cases h1
          have hk0' : k = 0 := by omega
          subst hk0'
          have HS3 := Lib.hid (show SrcN w2 M none (l.drop 0) by rw [List.drop_zero, List.length_eq_zero_iff.1 hl0]; exact SrcN.of (NmsM.nil w2 M none) HM2.out)
          have HE := Lib.hid (show l.drop 0 = [] by rw [List.drop_zero]; exact List.length_eq_zero_iff.1 hl0)
          have HL0 := Lib.hid hl0
          go_wp2_with (at_builtin; go_loud (refine wpl_cat rfl _ _ rfl M W.heap.size v2 ([] ++ l.take 0 ++ [x]) rfl HC3.out none cap 0 (l.drop 0) rfl (show 0 = (l.drop 0).length by rw [HE.out]; rfl) HS3.out HBD.out hs2 HMB.out ?_); intro v3 w3 hc3 hb3; obtain ⟨⟨A', cap', rfl, h1, h2⟩, h3⟩ := HFIN.out _ _ hc3 hb3; have F1 := Lib.hid h1; have F2 := Lib.hid h2; have F3 := Lib.hid h3; clear h1 h2 h3 hc3 hb3)
          go_ret
          exact ⟨_, _, rfl, F1.out, F2.out, F3.out⟩
        | some a =>
          have hsrc : ∀ A', (A' = a.add (k * 8) ∨ l.length = k) → SrcN w2 M (some A') (l.drop k) := by
            intro A' hA
            refine SrcN.of ?_ HM2.out
            by_cases h0 : l.length = k
            · have : l.drop k = [] := by rw [← h0, List.drop_length]
              rw [this]; exact NmsM.nil _ _ _
            · rcases hA with rfl | hA
              · obtain ⟨b, o, rfl⟩ : ∃ b o, a = ⟨b, o, none⟩ := by
                  obtain ⟨f, h1, -⟩ := HN2.out
                  rcases h1 with h1 | ⟨b, o, h1, -⟩
                  · omega
                  · exact ⟨b, o, by injection h1⟩
                have e : (⟨b, o, none⟩ : Addr).add (k * 8) = ⟨b, o + k * 8, none⟩ := by simp [Addr.add]
                rw [e]
                exact NmsM.drop HN2.out k
              · exact absurd hA h0
          have HSR2 := Lib.hid hsrc
          clear hsrc
          by_cases hck : cap = k
          · have hlk2 : l.length = k := by omega
            have HS3 := Lib.hid (HSR2.out a (.inr hlk2))
            go_wp2_with (at_builtin; go_loud (refine wpl_cat rfl _ _ rfl M W.heap.size v2 ([] ++ l.take k ++ [x]) rfl HC3.out (some a) 0 0 (l.drop k) rfl (show 0 = (l.drop k).length by rw [hld]; omega) HS3.out HBD.out hs2 HMB.out ?_); intro v3 w3 hc3 hb3; obtain ⟨⟨A', cap', rfl, h1, h2⟩, h3⟩ := HFIN.out _ _ hc3 hb3; have F1 := Lib.hid h1; have F2 := Lib.hid h2; have F3 := Lib.hid h3; clear h1 h2 h3 hc3 hb3)
            go_ret
            exact ⟨_, _, rfl, F1.out, F2.out, F3.out⟩
          · have HS3 := Lib.hid (HSR2.out _ (.inl rfl))
            go_wp2_with (at_builtin; go_loud (refine wpl_cat rfl _ _ rfl M W.heap.size v2 ([] ++ l.take k ++ [x]) rfl HC3.out (some (a.add (k * 8))) (cap - k) (l.length - k) (l.drop k) rfl hld.symm HS3.out HBD.out hs2 HMB.out ?_); intro v3 w3 hc3 hb3; obtain ⟨⟨A', cap', rfl, h1, h2⟩, h3⟩ := HFIN.out _ _ hc3 hb3; have F1 := Lib.hid h1; have F2 := Lib.hid h2; have F3 := Lib.hid h3; clear h1 h2 h3 hc3 hb3)
            go_ret
            exact ⟨_, _, rfl, F1.out, F2.out, F3.out⟩
      · obtain ⟨hlt, hq⟩ := hq1 rfl
        have hq := hq hlt
        go_wp2_with fail
        first
          | exact ⟨⟨k + 1, by go_num, by omega, fun j h hj => by
              by_cases e : j = k
              · subst e; exact hq
              · exact HLO.out j h (by omega), hbx⟩, by simp [intOf]; omega⟩
          | (go_roundw
             case rel => exact ⟨k + 1, by go_num, by omega, fun j h hj => by
                by_cases e : j = k
                · subst e; exact hq
                · exact HLO.out j h (by omega), hbx⟩
             case measure => simp [intOf]; omega)
end Go.Proofs.YtjeldfipipkfiaaGreatDoor
