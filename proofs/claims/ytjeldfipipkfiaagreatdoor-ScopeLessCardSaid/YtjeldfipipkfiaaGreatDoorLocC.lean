/- The contract of scope.locals over any closure: what it does at each Local, one after the other; M: the blocks that the closure may write. -/
import Derived.Test.YtjeldfipipkfiaaGreatDoorScopeB
import Derived.Deep.DeepCutAuto
import Derived.Deep.Cut
import Derived.Test.YtjeldfipipkfiaaGreatDoorMemM
namespace Go.Proofs.YtjeldfipipkfiaaGreatDoor
open Go.RowKit
set_option linter.unusedSimpArgs false
set_option linter.unusedVariables false
/-- nothing but the blocks M, and new ones, is another -/
structure Fr (M : Nat → Prop) (w w' : World) : Prop where
  os : w'.os = w.os
  tape : w'.tape = w.tape
  output : w'.output = w.output
  size : w.heap.size ≤ w'.heap.size
  block : ∀ b, b < w.heap.size → ¬ M b → w'.heap[b]? = w.heap[b]?
theorem Fr.below {M : Nat → Prop} {w w' : World} {B : Nat} (h : Fr M w w') (hM : ∀ b, M b → B ≤ b) (hB : B ≤ w.heap.size) : Below B w w' :=
  ⟨h.os, h.tape, h.output, h.size, fun b hb => h.block b (by omega) (fun hm => by have := hM b hm; omega)⟩
theorem Fr.of_below {M : Nat → Prop} {w w' : World} (h : Below w.heap.size w w') : Fr M w w' := ⟨h.os, h.tape, h.output, h.size, fun b hb _ => h.block b hb⟩
theorem Fr.trans {M M' : Nat → Prop} {w w' w'' : World} (h : Fr M w w') (h2 : Fr M' w' w'') (hM : ∀ b, M' b → M b ∨ w.heap.size ≤ b) : Fr M w w'' :=
  ⟨h2.os.trans h.os, h2.tape.trans h.tape, h2.output.trans h.output, Nat.le_trans h.size h2.size, fun b hb hn => (h2.block b (Nat.lt_of_lt_of_le hb h.size) (fun hm => by rcases hM b hm with h | h; exact hn h; omega)).trans (h.block b hb hn)⟩
theorem Blk.fr {M : Nat → Prop} {w w' : World} {b : Nat} {C : Array Value} {T : TypeId} (h : Blk w b C T) (hf : Fr M w w') (hn : ¬ M b) : Blk w' b C T := (hf.block b h.lt hn).trans h
set_option maxRecDepth 100000 in
set_option maxHeartbeats 8000000 in
theorem locals_c {S : Type} (fn : Nat) (c0_ c1_ : Value) (R : S → (Nat → Prop) → World → Prop) (step : S → Ty → S) (B : Nat)
    (hfn : ∀ (a : Array Value) (w : World), (callFunc fn a).run Tryz.prog w = .ok (.enter fn a) w)
    (hR : ∀ s M w w', R s M w → Below w.heap.size w w' → R s M w') (hRM : ∀ s M w, R s M w → ∀ b, M b → B ≤ b ∧ b < w.heap.size)
    (hstep : ∀ s M l cs w, l.kind = 8 → TyC w B l cs → B ≤ w.heap.size → R s M w → Calls Tryz.prog fn #[.agg cs, c0_, c1_] w fun e w' => e = .returned (.tuple #[]) ∧ ∃ M', R (step s l) M' w' ∧ (∀ b, M' b → M b ∨ w.heap.size ≤ b) ∧ Fr M w w') :
    ∀ (t : Ty) (s : S) (M : Nat → Prop) (cs : Array Value) (w : World), TyC w B t cs → B ≤ w.heap.size → R s M w → Calls Tryz.prog 109 #[.agg cs, .func (.func fn) #[] #[c0_, c1_]] w fun e w' => e = .returned (.tuple #[]) ∧ ∃ M', R ((localsT t).foldl step s) M' w' ∧ (∀ b, M' b → M b ∨ w.heap.size ≤ b) ∧ Fr M w w' := by
  have HR := Lib.hid hR
  have HRM := Lib.hid hRM
  have HST := Lib.hid hstep
  clear hR hRM hstep
  intro t
  induction t using Ty.ind with
  | h t ih =>
    intro s M cs w ht hB hr
    have IH := Lib.hid ih
    obtain ⟨na, nc, sa, sc, f, rfl, hf, hn, hs, hnc, hsc, hsub⟩ := ht.inv
    have HT := Lib.hid ht
    have HS := Lib.hid hs
    have HU := Lib.hid hsub
    have MW := Lib.hid (HRM.out s M w hr)
    have HL := Lib.hid (localsT_eq t)
    have ht0 := hf
    clear hs hsub ih hn hf
    have hb0 := (Below.refl w.heap.size w).alloc (Nat.le_refl _) (.cells #[.int .i64 t.kind, .string t.pkg, .int .i64 t.major, .string t.mod, .string t.name, .slice na t.names.length nc, .slice sa t.subs.length sc] 29)
    have hr0 := HR.out s M w _ hr hb0
    have d0 := Blk.new w #[.int .i64 t.kind, .string t.pkg, .int .i64 t.major, .string t.mod, .string t.name, .slice na t.names.length nc, .slice sa t.subs.length sc] 29
    clear hr ht
    simp only [tyCells] at HT ⊢
    go_enter Tryz.func109, Tryz.ntmps109
    go_upto_region 1 with fail
    generalize w.alloc (.cells #[.int .i64 t.kind, .string t.pkg, .int .i64 t.major, .string t.mod, .string t.name, .slice na t.names.length nc, .slice sa t.subs.length sc] 29) = W at hb0 hr0 d0 ⊢
    have D0 := Lib.hid d0
    have B0 := Lib.hid hb0
    have R0 := Lib.hid hr0
    have hBW : B ≤ W.heap.size := Nat.le_trans hB hb0.size
    have hnb : ¬ M w.heap.size := fun h => by have := (MW.out _ h).2; omega
    clear hr0 hb0
    have k0 := d0.cell 0
    have k1 := d0.cell 1
    have k2 := d0.cell 2
    have k3 := d0.cell 3
    have k4 := d0.cell 4
    have k5 := d0.cell 5
    have k6 := d0.cell 6
    simp at k0 k1 k2 k3 k4 k5 k6
    have kl := d0.lt
    clear d0
    go_upto_if 8 with fail
    go_cut [11] (fun _ wx => ∃ M1, R (if t.kind = 8 then step s t else s) M1 wx ∧ (∀ b, M1 b → M b ∨ W.heap.size ≤ b) ∧ Fr M W wx)
    case first =>
      by_cases h8 : t.kind = 8
      · have hc8 : (t.kind == 8) = true := by simp [h8]
        have hc := HST.out s M t _ W h8 (HT.out.under (B0.out.mono hB)) hBW R0.out
        have HC := Lib.hid hc
        have H8 := Lib.hid h8
        clear hc h8
        go_wp2_with fail
        refine HC.out.mono ?_
        rintro e wx ⟨rfl, M1, h1, h2, h3⟩
        go_wp2_with fail
        go_meet
        exact ⟨M1, by rw [if_pos H8.out]; exact h1, h2, h3⟩
      · have hc8 : (t.kind == 8) = false := by simp [h8]
        have H8 := Lib.hid h8
        clear h8
        go_wp2_with fail
        go_meet
        exact ⟨M, by rw [if_neg H8.out]; exact R0.out, fun b hb => .inl hb, Fr.of_below (Below.refl _ _)⟩
    case rest =>
      rename World => wx
      obtain ⟨M1, r1, n1, f1⟩ := hcut
      have hM : ∀ b, M b → B ≤ b := fun b h => (MW.out b h).1
      have dx := D0.out.fr f1 hnb
      clear k0 k1 k2 k3 k4 k5 k6 kl
      have k0 := dx.cell 0
      have k1 := dx.cell 1
      have k2 := dx.cell 2
      have k3 := dx.cell 3
      have k4 := dx.cell 4
      have k5 := dx.cell 5
      have k6 := dx.cell 6
      simp at k0 k1 k2 k3 k4 k5 k6
      have HLF := Lib.hid (show (localsT t).foldl step s = (localsL t.subs).foldl step (if t.kind = 8 then step s t else s) by rw [HL.out, List.foldl_append]; split <;> rfl)
      generalize (if t.kind = 8 then step s t else s) = s1 at r1 HLF
      have R1 := Lib.hid r1
      have N1 := Lib.hid n1
      have F1 := Lib.hid f1
      have hnm := ht0.subs
      clear r1 n1 f1 dx
      unfold maxLen at hnm
      go_wp2
      go_loopw [15] (fun i wr => ∃ (k : Nat) (M2 : Nat → Prop), k ≤ t.subs.length ∧ i = .int .i64 k ∧ R ((localsL (t.subs.take k)).foldl step s1) M2 wr ∧ (∀ b, M2 b → M b ∨ W.heap.size ≤ b) ∧ Fr M W wr) (fun i _ => t.subs.length - (intOf i).toNat)
      case atStart => exact ⟨0, M1, Nat.zero_le _, rfl, R1.out, N1.out, F1.out⟩
      case round =>
        clear k0 k1 k2 k3 k4 k5 k6
        obtain ⟨k, M2, hk, rfl, r2, n2, f2⟩ := hrel
        by_cases hlt : k < t.subs.length
        · have hbe : Below B w wr := (B0.out.mono hB).trans (f2.below hM hBW)
          have hTk := (HU.out k hlt).under hbe
          obtain ⟨b, o, na', nc', sa', sc', rfl, hbb, hfk, c0, c1, c2, c3, c4, c5, c6⟩ := TyC.elem (HS.out.keep fun p hp => hbe.cell (p := p) hp) hlt hTk
          rw [hfk] at hTk
          have hT2 := hTk.alloc (Nat.le_trans hBW f2.size) (.cells (tyCells t.subs[k] na' nc' sa' sc') 29)
          have hb2 := (Below.refl wr.heap.size wr).alloc (Nat.le_refl _) (.cells (tyCells t.subs[k] na' nc' sa' sc') 29)
          have HC := Lib.hid (IH.out t.subs[k] (List.getElem_mem hlt) _ M2 _ _ hT2 (Nat.le_trans hBW (Nat.le_trans f2.size hb2.size)) (HR.out _ _ _ _ r2 hb2))
          have F3 := Lib.hid (f2.trans (Fr.of_below (M := M) hb2) (fun b h => .inl h))
          have N2 := Lib.hid n2
          clear r2 n2 f2 hT2 hb2 hTk hfk hbe
          go_wp2_with fail
          refine HC.out.mono ?_
          rintro e w2 ⟨rfl, M3, r3, n3, f3⟩
          have R3 := Lib.hid r3
          have N3 := Lib.hid (fun b (h : M3 b) => (show M b ∨ W.heap.size ≤ b by rcases n3 b h with h | h; exact N2.out b h; have := F3.out.size; omega))
          have F4 := Lib.hid (F3.out.trans f3 N2.out)
          clear r3 n3 f3
          go_wp2
          go_roundw
          case rel => exact ⟨k + 1, M3, by omega, by go_num, by rw [localsL_succ hlt, List.foldl_append]; exact R3.out, N3.out, F4.out⟩
          case measure => simp [intOf]; omega
        · obtain rfl : k = t.subs.length := by omega
          go_wp2
          refine bodyPost_end (by simp [results, Tryz.results109, go_sem]; try rfl) rfl ?_
          rw [List.take_length] at r2
          exact ⟨rfl, M2, by rw [HLF.out]; exact r2, fun b h => (n2 b h).imp id (fun h => Nat.le_trans B0.out.size h), (Fr.of_below B0.out).trans f2 (fun b h => .inl h)⟩
end Go.Proofs.YtjeldfipipkfiaaGreatDoor
