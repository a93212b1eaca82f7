/- The contract of scope.locals over any closure: what it does at each Local, one after the other; M: the blocks that the closure may write. -/
import Derived.Test.YtjeldfipipkfiaaGreatGScope
import Derived.Deep.DeepCutAuto
import Derived.Deep.Cut
import Derived.Test.YtjeldfipipkfiaaGreatGMem
import Derived.Laws.AppendOwn
import Derived.OrdersHeld
import Derived.Test.YtjeldfipipkfiaaGreatCopied
import Derived.Test.YtjeldfipipkfiaaGreatGIdx
import Derived.OwnWalk
namespace Go.Proofs.YtjeldfipipkfiaaGreat
open Go.RowKit
set_option linter.unusedSimpArgs false
set_option linter.unusedVariables false
structure Fr (M : Nat → Prop) (w w' : World) : Prop where
  os : w'.os = w.os
  tape : w'.tape = w.tape
  output : w'.output = w.output
  size : w.heap.size ≤ w'.heap.size
  block : ∀ b, b < w.heap.size → ¬ M b → w'.heap[b]? = w.heap[b]?
theorem Fr.below {M : Nat → Prop} {w w' : World} {B : Nat} (h : Fr M w w') (hM : ∀ b, M b → B ≤ b) (hB : B ≤ w.heap.size) : Below B w w' :=
  ⟨h.os, h.tape, h.output, h.size, fun b hb => h.block b (by omega) (fun hm => by have := hM b hm; omega)⟩
theorem Fr.of_below {M : Nat → Prop} {w w' : World} (h : Below w.heap.size w w') : Fr M w w' := ⟨h.os, h.tape, h.output, h.size, fun b hb _ => h.block b hb⟩
theorem Fr.trans {M M' : Nat → Prop} {w w' w'' : World} (h : Fr M w w') (h2 : Fr M' w' w'') (hM : ∀ b, M' b → M b ∨ w.heap.size ≤ b) : Fr M w w'' :=
  ⟨h2.os.trans h.os, h2.tape.trans h.tape, h2.output.trans h.output, Nat.le_trans h.size h2.size, fun b hb hn => (h2.block b (Nat.lt_of_lt_of_le hb h.size) (fun hm => by rcases hM b hm with h | h; exact hn h; omega)).trans (h.block b hb hn)⟩
theorem Blk.fr {M : Nat → Prop} {w w' : World} {b : Nat} {C : Array Value} {T : TypeId} (h : Blk w b C T) (hf : Fr M w w') (hn : ¬ M b) : Blk w' b C T := (hf.block b h.lt hn).trans h
set_option maxRecDepth 100000 in
set_option maxHeartbeats 8000000 in
theorem locals_c {S : Type} (fn : Nat) (c0_ c1_ : Value) (R : S → (Nat → Prop) → World → Prop) (step : S → Ty → S) (B : Nat)
    (hfn : ∀ (a : Array Value) (w : World), (callFunc fn a).run Tryz.prog w = .ok (.enter fn a) w)
    (hR : ∀ s M w w', R s M w → Below w.heap.size w w' → R s M w') (hRM : ∀ s M w, R s M w → ∀ b, M b → B ≤ b ∧ b < w.heap.size)
    (hstep : ∀ s M l cs w, l.kind = 8 → TyC w B l cs → B ≤ w.heap.size → R s M w → Calls Tryz.prog fn #[.agg cs, c0_, c1_] w fun e w' => e = .returned (.tuple #[]) ∧ ∃ M', R (step s l) M' w' ∧ (∀ b, M' b → M b ∨ w.heap.size ≤ b) ∧ Fr M w w') :
    ∀ (t : Ty) (s : S) (M : Nat → Prop) (cs : Array Value) (w : World), TyC w B t cs → B ≤ w.heap.size → R s M w → Calls Tryz.prog 132 #[.agg cs, .func (.func fn) #[] #[c0_, c1_]] w fun e w' => e = .returned (.tuple #[]) ∧ ∃ M', R ((localsT t).foldl step s) M' w' ∧ (∀ b, M' b → M b ∨ w.heap.size ≤ b) ∧ Fr M w w' := by
  have HR := Lib.hid hR
  have HRM := Lib.hid hRM
  have HST := Lib.hid hstep
  clear hR hRM hstep
  intro t
  induction t using Ty.ind with
  | h t ih =>
    intro s M cs w ht hB hr
    have IH := Lib.hid ih
    obtain ⟨na, nc, sa, sc, f, rfl, hf, hn, hs, hnc, hsc, hsub⟩ := ht.inv
    have HT := Lib.hid ht
    have HS := Lib.hid hs
    have HU := Lib.hid hsub
    have MW := Lib.hid (HRM.out s M w hr)
    have HL := Lib.hid (localsT_eq t)
    have ht0 := hf
    clear hs hsub ih hn hf
    have hb0 := (Below.refl w.heap.size w).alloc (Nat.le_refl _) (.cells #[.int .i64 t.kind, .string t.pkg, .int .i64 t.major, .string t.mod, .string t.name, .slice na t.names.length nc, .slice sa t.subs.length sc] 53)
    have hr0 := HR.out s M w _ hr hb0
    have d0 := Blk.new w #[.int .i64 t.kind, .string t.pkg, .int .i64 t.major, .string t.mod, .string t.name, .slice na t.names.length nc, .slice sa t.subs.length sc] 53
    clear hr ht
    simp only [tyCells] at HT ⊢
    go_enter Tryz.func132, Tryz.ntmps132
    go_upto_region 1 with fail
    generalize w.alloc (.cells #[.int .i64 t.kind, .string t.pkg, .int .i64 t.major, .string t.mod, .string t.name, .slice na t.names.length nc, .slice sa t.subs.length sc] 53) = W at hb0 hr0 d0 ⊢
    have D0 := Lib.hid d0
    have B0 := Lib.hid hb0
    have R0 := Lib.hid hr0
    have hBW : B ≤ W.heap.size := Nat.le_trans hB hb0.size
    have hnb : ¬ M w.heap.size := fun h => by have := (MW.out _ h).2; omega
    clear hr0 hb0
    have k0 := d0.cell 0
    have k1 := d0.cell 1
    have k2 := d0.cell 2
    have k3 := d0.cell 3
    have k4 := d0.cell 4
    have k5 := d0.cell 5
    have k6 := d0.cell 6
    simp at k0 k1 k2 k3 k4 k5 k6
    have kl := d0.lt
    clear d0
    go_upto_if 8 with fail
    go_cut [11] (fun _ wx => ∃ M1, R (if t.kind = 8 then step s t else s) M1 wx ∧ (∀ b, M1 b → M b ∨ W.heap.size ≤ b) ∧ Fr M W wx)
    case first =>
      by_cases h8 : t.kind = 8
      · have hc8 : (t.kind == 8) = true := by simp [h8]
        have hc := HST.out s M t _ W h8 (HT.out.under (B0.out.mono hB)) hBW R0.out
        have HC := Lib.hid hc
        have H8 := Lib.hid h8
        clear hc h8
        go_wp2_with fail
        refine HC.out.mono ?_
        rintro e wx ⟨rfl, M1, h1, h2, h3⟩
        go_wp2_with fail
        go_meet
        exact ⟨M1, by rw [if_pos H8.out]; exact h1, h2, h3⟩
      · have hc8 : (t.kind == 8) = false := by simp [h8]
        have H8 := Lib.hid h8
        clear h8
        go_wp2_with fail
        go_meet
        exact ⟨M, by rw [if_neg H8.out]; exact R0.out, fun b hb => .inl hb, Fr.of_below (Below.refl _ _)⟩
    case rest =>
      rename World => wx
      obtain ⟨M1, r1, n1, f1⟩ := hcut
      have hM : ∀ b, M b → B ≤ b := fun b h => (MW.out b h).1
      have dx := D0.out.fr f1 hnb
      clear k0 k1 k2 k3 k4 k5 k6 kl
      have k0 := dx.cell 0
      have k1 := dx.cell 1
      have k2 := dx.cell 2
      have k3 := dx.cell 3
      have k4 := dx.cell 4
      have k5 := dx.cell 5
      have k6 := dx.cell 6
      simp at k0 k1 k2 k3 k4 k5 k6
      have HLF := Lib.hid (show (localsT t).foldl step s = (localsL t.subs).foldl step (if t.kind = 8 then step s t else s) by rw [HL.out, List.foldl_append]; split <;> rfl)
      generalize (if t.kind = 8 then step s t else s) = s1 at r1 HLF
      have R1 := Lib.hid r1
      have N1 := Lib.hid n1
      have F1 := Lib.hid f1
      have hnm := ht0.subs
      clear r1 n1 f1 dx
      unfold maxLen at hnm
      go_wp2
      go_loopw [15] (fun i wr => ∃ (k : Nat) (M2 : Nat → Prop), k ≤ t.subs.length ∧ i = .int .i64 k ∧ R ((localsL (t.subs.take k)).foldl step s1) M2 wr ∧ (∀ b, M2 b → M b ∨ W.heap.size ≤ b) ∧ Fr M W wr) (fun i _ => t.subs.length - (intOf i).toNat)
      case atStart => exact ⟨0, M1, Nat.zero_le _, rfl, R1.out, N1.out, F1.out⟩
      case round =>
        clear k0 k1 k2 k3 k4 k5 k6
        obtain ⟨k, M2, hk, rfl, r2, n2, f2⟩ := hrel
        by_cases hlt : k < t.subs.length
        · have hbe : Below B w wr := (B0.out.mono hB).trans (f2.below hM hBW)
          have hTk := (HU.out k hlt).under hbe
          obtain ⟨b, o, na', nc', sa', sc', rfl, hbb, hfk, c0, c1, c2, c3, c4, c5, c6⟩ := TyC.elem (HS.out.keep fun p hp => hbe.cell (p := p) hp) hlt hTk
          rw [hfk] at hTk
          have hT2 := hTk.alloc (Nat.le_trans hBW f2.size) (.cells (tyCells t.subs[k] na' nc' sa' sc') 53)
          have hb2 := (Below.refl wr.heap.size wr).alloc (Nat.le_refl _) (.cells (tyCells t.subs[k] na' nc' sa' sc') 53)
          have HC := Lib.hid (IH.out t.subs[k] (List.getElem_mem hlt) _ M2 _ _ hT2 (Nat.le_trans hBW (Nat.le_trans f2.size hb2.size)) (HR.out _ _ _ _ r2 hb2))
          have F3 := Lib.hid (f2.trans (Fr.of_below (M := M) hb2) (fun b h => .inl h))
          have N2 := Lib.hid n2
          clear r2 n2 f2 hT2 hb2 hTk hfk hbe
          go_wp2_with fail
          refine HC.out.mono ?_
          rintro e w2 ⟨rfl, M3, r3, n3, f3⟩
          have R3 := Lib.hid r3
          have N3 := Lib.hid (fun b (h : M3 b) => (show M b ∨ W.heap.size ≤ b by rcases n3 b h with h | h; exact N2.out b h; have := F3.out.size; omega))
          have F4 := Lib.hid (F3.out.trans f3 N2.out)
          clear r3 n3 f3
          go_wp2
          go_roundw
          case rel => exact ⟨k + 1, M3, by omega, by go_num, by rw [localsL_succ hlt, List.foldl_append]; exact R3.out, N3.out, F4.out⟩
          case measure => simp [intOf]; omega
        · obtain rfl : k = t.subs.length := by omega
          go_wp2
          refine bodyPost_end (by simp [results, Tryz.results132, go_sem]; try rfl) rfl ?_
          rw [List.take_length] at r2
          exact ⟨rfl, M2, by rw [HLF.out]; exact r2, fun b h => (n2 b h).imp id (fun h => Nat.le_trans B0.out.size h), (Fr.of_below B0.out).trans f2 (fun b h => .inl h)⟩
end Go.Proofs.YtjeldfipipkfiaaGreat
namespace Go.Proofs.YtjeldfipipkfiaaGreat
set_option linter.unusedSimpArgs false
set_option linter.unusedVariables false
theorem run_append_own2 {P : Program} (w : World) (base : Nat) (t ty e : TypeId) (i : TypeInfo) (z : Value) (size bytes : Nat) (ht : P.underlying t = some (.slice e)) (hi : P.info? e = some i) (hz : i.zero = some z)
    (hsize : i.size = size) (hby : i.bytes = bytes) (hzs : z.cells.size = size) (hsz : 0 < size)
    (v : Value) (n : Nat) (xs : List Value) (hown : w.ownsRow base e size v n xs)
    (a : Addr) (m c : Nat) (news : List Value) (hl : news.length = m * size) (hnews : ∀ j u, news[j]? = some u → w.cell? (a.add j) = some u) (h1 : ∀ u ∈ news, u.oneCell' = true)
    (h63 : n + m ≤ maxLen) (hbytes : (n + m) * bytes ≤ 140737488355328) (hbase : base ≤ w.heap.size) :
    ∃ v' w', (Builtin.append_ #[t, t] ty #[v, .slice (some a) m c]).run P w = .ok v' w' ∧ w'.ownsRow base e size v' (n + m) (xs ++ news) ∧ w.grownBy w' v.ownBlock ∧
      (v'.ownBlock = v.ownBlock ∨ ∀ g, v'.ownBlock = some g → w.heap.size ≤ g) := by
  obtain ⟨v', w', hr, h2, h3, -⟩ := run_append_own (P := P) w base t ty e i z size bytes ht hi hz hsize hby hzs hsz v n xs hown a m c news hl hnews h1 h63 hbytes hbase
  refine ⟨v', w', hr, h2, h3, ?_⟩
  subst hsize
  rcases hown.2 with ⟨rfl, rfl⟩ | ⟨g, cap, cur, rfl, hbg, hg, hnc, hcm, hcs, htake⟩
  · have hx : xs = [] := List.eq_nil_of_length_eq_zero (by simpa using hown.1)
    subst hx
    obtain ⟨v2, w2, hr2, h5, -, -⟩ := run_append_own (P := P) w w.heap.size t ty e i z i.size bytes ht hi hz rfl hby hzs hsz _ 0 [] (World.ownsRow_nil w w.heap.size e i.size) a m c news hl hnews h1 h63 hbytes (Nat.le_refl _)
    rw [hr] at hr2
    injection hr2 with e1 e2
    subst e1 e2
    exact .inr fun g hg => (h5.lt g hg).1
  · by_cases hroom : n + m ≤ cap
    · have hr2 := run_append_room (P := P) w t ty e i ht hi g n cap cur hg a m c news hl hnews h1 hroom (by rw [hl, hcs, ← Nat.add_mul]; exact Nat.mul_le_mul_right _ hroom)
      rw [hr] at hr2
      injection hr2 with e1 e2
      subst e1
      exact .inl rfl
    · subst hby
      have hr2 := run_append_grow (P := P) w t ty e i z ht hi hz ⟨g, 0, none⟩ n cap xs hown.1 (hown.cells (g := g) rfl) a m c news hl hnews (by omega) (by unfold maxLen at h63; omega) (growslice_fits (by omega) hbytes)
      rw [hr] at hr2
      injection hr2 with e1 e2
      subst e1
      refine .inr fun g hg => ?_
      injection hg with hg
      exact Nat.le_of_eq hg
theorem wpList_append_own2 {P : Program} {w : World} {ops : Array Oper} {rest : List Oper} {o : Oper} {a : Act} {Q : Exit → Act → World → Prop} (hgd : o.guard = none) (s x : Operand) (t : TypeId)
    (ho : o.op = .call { callee := .builtin .append, args := #[s, x], argTypes := #[t, t] })
    (base : Nat) (e : TypeId) (i : TypeInfo) (z : Value) (size bytes : Nat) (ht : P.underlying t = some (.slice e)) (hi : P.info? e = some i) (hz : i.zero = some z)
    (hsize : i.size = size) (hby : i.bytes = bytes) (hzs : z.cells.size = size) (hsz : 0 < size)
    (v : Value) (n : Nat) (xs : List Value) (hs : a.eval s = v) (hown : w.ownsRow base e size v n xs)
    (ad : Addr) (m c : Nat) (news : List Value) (hx : a.eval x = .slice (some ad) m c) (hl : news.length = m * size) (hnews : ∀ j u, news[j]? = some u → w.cell? (ad.add j) = some u) (h1 : ∀ u ∈ news, u.oneCell' = true)
    (h63 : n + m ≤ maxLen) (hbytes : (n + m) * bytes ≤ 140737488355328) (hbase : base ≤ w.heap.size)
    (h : ∀ v' w', w'.ownsRow base e size v' (n + m) (xs ++ news) → w.grownBy w' v.ownBlock → (v'.ownBlock = v.ownBlock ∨ ∀ g, v'.ownBlock = some g → w.heap.size ≤ g) → wpList P ops Q rest (a.put o.dst v') w') : wpList P ops Q (o :: rest) a w := by
  refine wpList_plain hgd fun K hK => ?_
  obtain ⟨v', w', hr, h2, h3, h4⟩ := run_append_own2 (P := P) w base t o.type e i z size bytes ht hi hz hsize hby hzs hsz v n xs hown ad m c news hl hnews h1 h63 hbytes hbase
  unfold Oper.wp execOp
  simp only [ho, resolve, invoke, builtin, Sem.run_bind, Sem.run_pure, Result.andThen_ok, List.map_toArray, List.map_cons, List.map_nil, hs, hx, hr]
  exact hK _ _ (h v' w' h2 h3 h4)
theorem step_append_own2 {P : Program} {w : World} {ops : Array Oper} {o : Oper} {a : Act} {K : Act → World → Prop} {Q : Exit → Act → World → Prop} {E : Prop} (hgd : o.guard = none) (s x : Operand) (t : TypeId)
    (ho : o.op = .call { callee := .builtin .append, args := #[s, x], argTypes := #[t, t] })
    (base : Nat) (e : TypeId) (i : TypeInfo) (z : Value) (size bytes : Nat) (ht : P.underlying t = some (.slice e)) (hi : P.info? e = some i) (hz : i.zero = some z)
    (hsize : i.size = size) (hby : i.bytes = bytes) (hzs : z.cells.size = size) (hsz : 0 < size)
    (v : Value) (n : Nat) (xs : List Value) (hs : a.eval s = v) (hown : w.ownsRow base e size v n xs)
    (ad : Addr) (m c : Nat) (news : List Value) (hx : a.eval x = .slice (some ad) m c) (hl : news.length = m * size) (hnews : ∀ j u, news[j]? = some u → w.cell? (ad.add j) = some u) (h1 : ∀ u ∈ news, u.oneCell' = true)
    (h63 : n + m ≤ maxLen) (hbytes : (n + m) * bytes ≤ 140737488355328) (hbase : base ≤ w.heap.size)
    (h : ∀ v' w', w'.ownsRow base e size v' (n + m) (xs ++ news) → w.grownBy w' v.ownBlock → (v'.ownBlock = v.ownBlock ∨ ∀ g, v'.ownBlock = some g → w.heap.size ≤ g) → K (a.put o.dst v') w') :
    if Region.wanted o (yielded ops a.tmps) = true then Oper.wp P o a w K Q else E := by
  have hw : Region.wanted o (yielded ops a.tmps) = true := by simp [Region.wanted, hgd]
  rw [if_pos hw]
  obtain ⟨v', w', hr, h2, h3, h4⟩ := run_append_own2 (P := P) w base t o.type e i z size bytes ht hi hz hsize hby hzs hsz v n xs hown ad m c news hl hnews h1 h63 hbytes hbase
  unfold Oper.wp execOp
  simp only [ho, resolve, invoke, builtin, Sem.run_bind, Sem.run_pure, Result.andThen_ok, List.map_toArray, List.map_cons, List.map_nil, hs, hx, hr]
  exact h v' w' h2 h3 h4
theorem wpList_append_noneC {P : Program} {w : World} {ops : Array Oper} {rest : List Oper} {o : Oper} {a : Act} {Q : Exit → Act → World → Prop} (hgd : o.guard = none) (s x : Operand) (t : TypeId)
    (ho : o.op = .call { callee := .builtin .append, args := #[s, x], argTypes := #[t, t] })
    (base : Nat) (e : TypeId) (i : TypeInfo) (size : Nat) (ht : P.underlying t = some (.slice e)) (hi : P.info? e = some i)
    (v : Value) (n : Nat) (xs : List Value) (hs : a.eval s = v) (hown : w.ownsRow base e size v n xs) (m c : Nat) (hx : a.eval x = .slice none m c) (hm : m = 0)
    (h : wpList P ops Q rest (a.put o.dst v) w) : wpList P ops Q (o :: rest) a w := by
  subst hm
  refine wpList_plain hgd fun K hK => ?_
  have hrun : (Builtin.append_ #[t, t] o.type #[v, .slice none 0 c]).run P w = .ok v w := by
    rcases hown.2 with ⟨rfl, rfl⟩ | ⟨g, cap, cur, rfl, _, _, hnc, _⟩
    · simp [Builtin.append_, run_underlying ht, sizeOf, typeInfo, hi, Builtin.lenOf, Builtin.firstCells]
    · simp [Builtin.append_, run_underlying ht, sizeOf, typeInfo, hi, Builtin.lenOf, Builtin.firstCells, hnc, storeCells]
  unfold Oper.wp
  simp [execOp, ho, resolve, invoke, builtin, hs, hx, hrun, Result.andThen]
  exact hK _ _ h
end Go.Proofs.YtjeldfipipkfiaaGreat
namespace Go.Proofs.YtjeldfipipkfiaaGreat
open Go.RowKit
set_option linter.unusedSimpArgs false
set_option linter.unusedVariables false
theorem owns_keep {w w' : World} {base e size n : Nat} {v : Value} {xs : List Value} (h : w.ownsRow base e size v n xs) (hk : ∀ g, v.ownBlock = some g → w'.heap[g]? = w.heap[g]?) : w'.ownsRow base e size v n xs := by
  obtain ⟨h1, h2⟩ := h
  refine ⟨h1, ?_⟩
  rcases h2 with h2 | ⟨g, cap, cur, hv, hg, hh, r⟩
  · exact .inl h2
  · subst hv
    exact .inr ⟨g, cap, cur, rfl, hg, (hk g rfl).trans hh, r⟩
theorem owns_lt {w : World} {base e size n g : Nat} {v : Value} {xs : List Value} (h : w.ownsRow base e size v n xs) (hg : v.ownBlock = some g) : base ≤ g ∧ g < w.heap.size := by
  obtain ⟨-, ⟨rfl, -⟩ | ⟨g', cap, cur, rfl, hb, hh, -⟩⟩ := h
  · simp [Value.ownBlock] at hg
  · simp [Value.ownBlock] at hg
    subst hg
    exact ⟨hb, (Array.getElem?_eq_some_iff.1 hh).1⟩
theorem owns_under {w w' : World} {base e size n : Nat} {v : Value} {xs : List Value} (h : w.ownsRow base e size v n xs) (hb : Below w.heap.size w w') : w'.ownsRow base e size v n xs :=
  owns_keep h fun g hg => hb.block g (owns_lt h hg).2
def InM (w : World) (B base : Nat) (nv sv : Value) : Nat → Prop := fun b => b < B ∨ (base ≤ b ∧ b < w.heap.size ∧ nv.ownBlock ≠ some b ∧ sv.ownBlock ≠ some b)
structure Out2 (w : World) (B base : Nat) (nv sv : Value) (L : List (ByteArray × Ty)) (F : List (Array Value)) : Prop where
  len : F.length = L.length
  row1 : w.ownsRow base 9 1 nv L.length (L.map fun p => Value.string p.1)
  row2 : w.ownsRow base 53 7 sv L.length (F.flatMap (·.toList))
  seven : ∀ c ∈ F, c.size = 7
  apart : ∀ g, nv.ownBlock = some g → sv.ownBlock ≠ some g
  each : ∀ i (h : i < L.length) (h' : i < F.length), TyM w (InM w B base nv sv) L[i].2 F[i]
theorem Out2.under {w w' : World} {B base : Nat} {nv sv : Value} {L : List (ByteArray × Ty)} {F : List (Array Value)} (h : Out2 w B base nv sv L F) (hb : Below w.heap.size w w') (hB : B ≤ w.heap.size) : Out2 w' B base nv sv L F :=
  ⟨h.len, owns_under h.row1 hb, owns_under h.row2 hb, h.seven, h.apart, fun i hi hi' => (h.each i hi hi').move (fun b hM => by
    rcases hM with hM | hM
    · exact .inl hM
    · exact .inr ⟨hM.1, Nat.lt_of_lt_of_le hM.2.1 hb.size, hM.2.2⟩) (fun p hp => by
    rcases hp with hp | hp
    · exact hb.cell (Nat.lt_of_lt_of_le hp hB)
    · exact hb.cell hp.2.1)⟩
theorem Out2.nil (w : World) (B base : Nat) : Out2 w B base (.slice none 0 0) (.slice none 0 0) [] [] :=
  ⟨rfl, World.ownsRow_nil _ _ _ _, World.ownsRow_nil _ _ _ _, by simp, fun g hg => by simp [Value.ownBlock] at hg, fun i hi => by simp at hi⟩
theorem Out2.push {w x1 x2 x3 x4 x5 : World} {B base gN cN gS cS : Nat} {nv sv : Value} {L : List (ByteArray × Ty)} {F : List (Array Value)} {s : ByteArray} {t : Ty} {c : Array Value} (h : Out2 w B base nv sv L F) (hB : B ≤ base) (hbase : base ≤ w.heap.size)
    (hx1 : Below w.heap.size w x1) (hg1 : x1.grownBy x2 nv.ownBlock) (hx3 : Below x2.heap.size x2 x3) (hg2 : x3.grownBy x4 sv.ownBlock) (hx5 : ∀ b, (b < B ∨ base ≤ b) → x5.heap[b]? = x4.heap[b]?) (hz5 : x5.heap.size = x4.heap.size)
    (hN : x2.ownsRow base 9 1 (.slice (some ⟨gN, 0, none⟩) (L.length + 1) cN) (L.length + 1) ((L.map fun p => Value.string p.1) ++ [.string s])) (hNat : nv.ownBlock = some gN ∨ w.heap.size ≤ gN)
    (hS : x4.ownsRow base 53 7 (.slice (some ⟨gS, 0, none⟩) (L.length + 1) cS) (L.length + 1) (F.flatMap (·.toList) ++ c.toList)) (hSat : sv.ownBlock = some gS ∨ x2.heap.size ≤ gS)
    (hc : c.size = 7) (ht : TyM w (InM w B base nv sv) t c) :
    Out2 x5 B base (.slice (some ⟨gN, 0, none⟩) (L.length + 1) cN) (.slice (some ⟨gS, 0, none⟩) (L.length + 1) cS) (L ++ [(s, t)]) (F ++ [c]) := by
  have s1 := hx1.size
  have s2 := hg1.size
  have s3 := hx3.size
  have s4 := hg2.size
  have hgN := owns_lt hN (show (Value.slice (some ⟨gN, 0, none⟩) (L.length + 1) cN).ownBlock = some gN from rfl)
  have hgS := owns_lt hS (show (Value.slice (some ⟨gS, 0, none⟩) (L.length + 1) cS).ownBlock = some gS from rfl)
  have hne : gN ≠ gS := by
    rintro rfl
    rcases hSat with hSat | hSat
    · rcases hNat with hNat | hNat
      · exact h.apart _ hNat hSat
      · have := (owns_lt h.row2 hSat).2
        omega
    · omega
  have hNS : sv.ownBlock ≠ some gN := by
    intro e
    rcases hNat with hNat | hNat
    · exact h.apart _ hNat e
    · have := (owns_lt h.row2 e).2
      omega
  -- a block that is neither row, of the first world
  have hfar : ∀ b, b < w.heap.size → nv.ownBlock ≠ some b → sv.ownBlock ≠ some b → (b < B ∨ base ≤ b) → x5.heap[b]? = w.heap[b]? := by
    intro b hb h1 h2 h3
    rw [hx5 b h3, hg2.block b (by omega) (fun e => h2 e.symm), hx3.block b (by omega), hg1.block b (by omega) (fun e => h1 e.symm), hx1.block b hb]
  have hcell : ∀ p : Addr, p.block < w.heap.size → nv.ownBlock ≠ some p.block → sv.ownBlock ≠ some p.block → (p.block < B ∨ base ≤ p.block) → x5.cell? p = w.cell? p :=
    fun p h0 h1 h2 h3 => World.cell?_of_block (w := w) (hfar p.block h0 h1 h2 h3)
  have hmove : ∀ {t c}, TyM w (InM w B base nv sv) t c → TyM x5 (InM x5 B base (.slice (some ⟨gN, 0, none⟩) (L.length + 1) cN) (.slice (some ⟨gS, 0, none⟩) (L.length + 1) cS)) t c := by
    intro t c ht
    refine ht.move (fun b hM => ?_) (fun p hM => ?_)
    · rcases hM with hM | ⟨m1, m2, m3, m4⟩
      · exact .inl hM
      · refine .inr ⟨m1, by omega, ?_, ?_⟩
        · rintro e
          simp [Value.ownBlock] at e
          subst e
          rcases hNat with hNat | hNat
          · exact m3 hNat
          · omega
        · rintro e
          simp [Value.ownBlock] at e
          subst e
          rcases hSat with hSat | hSat
          · exact m4 hSat
          · omega
    · rcases hM with hM | ⟨m1, m2, m3, m4⟩
      · refine hcell p (by omega) (fun e => ?_) (fun e => ?_) (.inl hM)
        · have := (owns_lt h.row1 e).1; omega
        · have := (owns_lt h.row2 e).1; omega
      · exact hcell p m2 m3 m4 (.inr m1)
  refine ⟨by simp [h.len], ?_, ?_, ?_, ?_, ?_⟩
  · have e : (L ++ [(s, t)]).length = L.length + 1 := by simp
    rw [e, List.map_append]
    refine owns_keep hN fun g hg => ?_
    simp [Value.ownBlock] at hg
    subst hg
    rw [hx5 _ (.inr hgN.1), hg2.block _ (by omega) (fun e => hNS e.symm), hx3.block _ (by omega)]
  · have e : (L ++ [(s, t)]).length = L.length + 1 := by simp
    rw [e, List.flatMap_append]
    have e2 : ([c] : List (Array Value)).flatMap (·.toList) = c.toList := by simp
    rw [e2]
    refine owns_keep hS fun g hg => ?_
    simp [Value.ownBlock] at hg
    subst hg
    exact hx5 _ (.inr hgS.1)
  · intro x hx
    rcases List.mem_append.1 hx with hx | hx
    · exact h.seven x hx
    · simp at hx; subst hx; exact hc
  · intro g hg e
    simp [Value.ownBlock] at hg e
    omega
  · intro i hi hi'
    by_cases hil : i < L.length
    · have hif : i < F.length := by rw [h.len]; exact hil
      rw [List.getElem_append_left hil, List.getElem_append_left hif]
      exact hmove (h.each i hil hif)
    · have e : i = L.length := by simp at hi; omega
      subst e
      have e1 : (L ++ [(s, t)])[L.length] = (s, t) := by simp
      have e2 : (F ++ [c])[L.length] = c := by
        rw [List.getElem_append_right (by rw [h.len]; omega)]
        simp [h.len]
      rw [e1, e2]
      exact hmove ht
end Go.Proofs.YtjeldfipipkfiaaGreat
namespace Go.Proofs.YtjeldfipipkfiaaGreat
open Go.RowKit
set_option linter.unusedSimpArgs false
set_option linter.unusedVariables false
theorem owns_lt2 {w : World} {base e size n g : Nat} {v : Value} {xs : List Value} (h : w.ownsRow base e size v n xs) (hg : v.ownBlock = some g) : base ≤ g ∧ g < w.heap.size := by
  obtain ⟨-, ⟨rfl, -⟩ | ⟨b, cap, cur, rfl, hb, hh, -⟩⟩ := h
  · cases hg
  · injection hg with hg
    subst hg
    exact ⟨hb, (Array.getElem?_eq_some_iff.1 hh).1⟩
structure MentR (m : Mdl) (ia : Option Addr) (ic : Nat) (da : Option Addr) (dc B g0 g1 : Nat) (out : List ByteArray) (M : Nat → Prop) (w : World) : Prop where
  low : B ≤ g0
  ord : g0 < g1
  box : Blk w g0 (mdlCells m ia ic da dc) 25
  mdl : MdlC w B m ia ic da dc
  nodup : out.Nodup
  has : ∀ x ∈ out, hasD m.decls x = true
  row : ∃ v, Blk w g1 #[v] 50 ∧ w.ownsRow (g1 + 1) 9 1 v out.length (out.map Value.string) ∧ ∀ b, M b ↔ (b = g1 ∨ v.ownBlock = some b)
theorem MentR.under {m : Mdl} {ia : Option Addr} {ic : Nat} {da : Option Addr} {dc B g0 g1 : Nat} {out : List ByteArray} {M : Nat → Prop} {w w' : World} (h : MentR m ia ic da dc B g0 g1 out M w) (hb : Below w.heap.size w w') : MentR m ia ic da dc B g0 g1 out M w' := by
  obtain ⟨h0, h1, h2, h3, h4, h5, v, h6, h7, h8⟩ := h
  have hl := h2.lt
  exact ⟨h0, h1, h2.under hb h2.lt, h3.under (hb.mono (by omega)), h4, h5, v, h6.under hb h6.lt, owns_under h7 hb, h8⟩
theorem MentR.mem {m : Mdl} {ia : Option Addr} {ic : Nat} {da : Option Addr} {dc B g0 g1 : Nat} {out : List ByteArray} {M : Nat → Prop} {w : World} (h : MentR m ia ic da dc B g0 g1 out M w) : ∀ b, M b → B ≤ b ∧ b < w.heap.size := by
  obtain ⟨h0, h1, h2, h3, h4, h5, v, h6, h7, h8⟩ := h
  intro b hb
  rcases (h8 b).1 hb with rfl | hb
  · exact ⟨by omega, h6.lt⟩
  · have := owns_lt2 h7 hb
    exact ⟨by omega, by omega⟩
theorem MentR.len {m : Mdl} {ia : Option Addr} {ic : Nat} {da : Option Addr} {dc B g0 g1 : Nat} {out : List ByteArray} {M : Nat → Prop} {w : World} (h : MentR m ia ic da dc B g0 g1 out M w) : out.length ≤ m.decls.length := by
  have := nodup_len h.nodup (fun x hx => has_mem (h.has x hx))
  rwa [List.length_map] at this
theorem MentR.add {m : Mdl} {ia : Option Addr} {ic : Nat} {da : Option Addr} {dc B g0 g1 : Nat} {out : List ByteArray} {M : Nat → Prop} {w w1 w2 : World} {v v2 : Value} {x : ByteArray} {o : Obj} (h : MentR m ia ic da dc B g0 g1 out M w)
    (hb1 : Below w.heap.size w w1) (hv : Blk w g1 #[v] 50) (hown : w.ownsRow (g1 + 1) 9 1 v out.length (out.map Value.string)) (hM : ∀ b, M b ↔ (b = g1 ∨ v.ownBlock = some b))
    (hg : (w1.alloc o).grownBy w2 v.ownBlock) (hown2 : w2.ownsRow (g1 + 1) 9 1 v2 (out.length + 1) (out.map Value.string ++ [.string x]))
    (hfr : v2.ownBlock = v.ownBlock ∨ ∀ g, v2.ownBlock = some g → (w1.alloc o).heap.size ≤ g) (hx : (out ++ [x]).Nodup) (hmem : hasD m.decls x = true) :
    ∃ M', MentR m ia ic da dc B g0 g1 (out ++ [x]) M' (w2.setCell ⟨g1, 0, none⟩ v2) ∧ (∀ b, M' b → M b ∨ w.heap.size ≤ b) ∧ Fr M w (w2.setCell ⟨g1, 0, none⟩ v2) := by
  have hba : Below w.heap.size w (w1.alloc o) := hb1.alloc hb1.size o
  have hmem' := h.mem
  have hbk : ∀ b, b < w.heap.size → v.ownBlock ≠ some b → w2.heap[b]? = w.heap[b]? := fun b hb hn => (hg.block b (Nat.lt_of_lt_of_le hb hba.size) (fun e => hn e.symm)).trans (hba.block b hb)
  have hoi : ∀ b, v.ownBlock = some b → g1 + 1 ≤ b := fun b hb => (owns_lt2 hown hb).1
  have hv2 : Blk w2 g1 #[v] 50 := (hbk g1 hv.lt (fun e => by have := hoi _ e; omega)).trans hv
  have hbx : Blk w2 g0 (mdlCells m ia ic da dc) 25 := (hbk g0 h.box.lt (fun e => by have := hoi _ e; have := h.ord; omega)).trans h.box
  have hF : Fr M w (w2.setCell ⟨g1, 0, none⟩ v2) := by
    refine ⟨hg.os.trans hba.os, hg.tape.trans hba.tape, hg.output.trans hba.output, ?_, fun b hb hn => ?_⟩
    · have := hba.size
      have := hg.size
      simp [World.setCell]
      omega
    · rw [hM] at hn
      exact (Below.heap_setCell w2 ⟨g1, 0, none⟩ v2 b (fun e => hn (.inl e))).trans (hbk b hb (fun e => hn (.inr e)))
  have hlow := h.low
  have hord := h.ord
  have hl1 := hv.lt
  refine ⟨fun b => b = g1 ∨ v2.ownBlock = some b, ⟨h.low, h.ord, hbx.far _ _ (by show g0 ≠ g1; omega), h.mdl.under (hF.below (fun b hb => (hmem' b hb).1) (by omega)), hx, ?_, v2, ?_, ?_, fun b => Iff.rfl⟩, ?_, hF⟩
  · intro y hy
    rcases List.mem_append.1 hy with hy | hy
    · exact h.has y hy
    · rw [List.mem_singleton.1 hy]; exact hmem
  · have := hv2.set 0 v2
    simpa using this
  · have := owns_keep (w' := w2.setCell ⟨g1, 0, none⟩ v2) hown2 (fun g hg => Below.heap_setCell w2 ⟨g1, 0, none⟩ v2 g (by have := (owns_lt2 hown2 hg).1; show g ≠ g1; omega))
    simpa using this
  · rintro b (rfl | hb)
    · exact .inl ((hM b).2 (.inl rfl))
    · rcases hfr with e | e
      · exact .inl ((hM b).2 (.inr (e ▸ hb)))
      · exact .inr (Nat.le_trans hba.size (e b hb))
theorem own_strs {w : World} {base n : Nat} {v : Value} {l : List ByteArray} (h : w.ownsRow base 9 1 v n (l.map Value.string)) (hn : l.length = n) :
    ∃ A c, v = .slice A l.length c ∧ StrsAt w w.heap.size A l ∧ l.length ≤ c := by
  obtain ⟨hl, ⟨rfl, h0⟩ | ⟨g, cap, cur, rfl, hb, hh, hnc, hcm, hsz, htk⟩⟩ := h
  · have : l = [] := by cases l with
      | nil => rfl
      | cons _ _ => simp at hn; omega
    subst this
    exact ⟨none, 0, rfl, .inl rfl, Nat.le_refl _⟩
  · subst hn
    refine ⟨_, cap, rfl, .inr ⟨g, 0, rfl, (Array.getElem?_eq_some_iff.1 hh).1, fun i hi => ?_⟩, hnc⟩
    have e : (l.map Value.string)[i]? = some (.string l[i]) := by simp [hi]
    rw [← htk, List.getElem?_take, if_pos (by omega)] at e
    simp [World.cell?, hh]
    simpa using e
theorem ba_inj {a b : ByteArray} (h : a.toList = b.toList) : a = b := by
  have := ba_eq a b
  rw [h] at this
  simpa using this
theorem has_idx {ds : List Dcl} {s : ByteArray} (h : hasD ds s = true) : 0 ≤ idxP (isT s) ds := by
  rw [hasD, findD, Option.isSome_iff_exists] at h
  obtain ⟨k, hk⟩ := h
  rw [idxP, hk]
  simp
theorem has_no {ds : List Dcl} {s : ByteArray} (h : ¬ hasD ds s = true) : idxP (isT s) ds = -1 := by
  rw [idxP]
  rw [hasD, findD] at h
  cases hf : ds.findIdx? (isT s) with
  | none => rfl
  | some k => rw [hf] at h; simp at h
theorem info_strM : ((Tryz.prog).info? 9).map (fun i => (i.zero, i.size, i.bytes)) = some (some (.string { data := #[] }), 1, 16) := by kernel_rfl
set_option maxRecDepth 100000 in
set_option maxHeartbeats 8000000 in
theorem ment1_c (m : Mdl) (ia : Option Addr) (ic : Nat) (da : Option Addr) (dc B g0 g1 : Nat) (t : Ty) (cs : Array Value) (out : List ByteArray) (M : Nat → Prop) (w : World) (ht : TyC w B t cs) (hB : B ≤ w.heap.size) (hr : MentR m ia ic da dc B g0 g1 out M w) (hl : m.decls.length ≤ 1000000) :
    Calls Tryz.prog 162 #[.agg cs, .pointer (some ⟨g0, 0, none⟩), .pointer (some ⟨g1, 0, none⟩)] w fun e w' => e = .returned (.tuple #[]) ∧ ∃ M', MentR m ia ic da dc B g0 g1 (addF m.decls out t) M' w' ∧ (∀ b, M' b → M b ∨ w.heap.size ≤ b) ∧ Fr M w w' := by
  obtain ⟨i0, hi, hz0, hz1, hz2⟩ := info_parts info_strM
  obtain ⟨na, nc, sa, sc, f, rfl, hf, hn, hs, hnc, hsc, hsub⟩ := ht.inv
  have hlen := hr.len
  have hb0 := (Below.refl w.heap.size w).alloc (Nat.le_refl _) (.cells #[.int .i64 t.kind, .string t.pkg, .int .i64 t.major, .string t.mod, .string t.name, .slice na t.names.length nc, .slice sa t.subs.length sc] 53)
  have hr0 := hr.under hb0
  have MW := Lib.hid hr.mem
  have d0 := Blk.new w #[.int .i64 t.kind, .string t.pkg, .int .i64 t.major, .string t.mod, .string t.name, .slice na t.names.length nc, .slice sa t.subs.length sc] 53
  clear hr ht hs hsub hn hf
  simp only [tyCells]
  go_enter Tryz.func162, Tryz.ntmps162
  go_upto_region 1 with fail
  generalize w.alloc (.cells #[.int .i64 t.kind, .string t.pkg, .int .i64 t.major, .string t.mod, .string t.name, .slice na t.names.length nc, .slice sa t.subs.length sc] 53) = W at hb0 hr0 d0 ⊢
  have R0 := Lib.hid hr0
  have HB0 := Lib.hid hb0
  obtain ⟨hlow, hord, hbox, hmdl, hnd, hhas, v, hv, hown, hM⟩ := hr0
  have k3 := d0.cell 3
  have k4 := d0.cell 4
  simp at k3 k4
  have kl := d0.lt
  have x0 := hbox.cell 0
  have x1 := hbox.cell 1
  have x2 := hbox.cell 2
  simp [mdlCells] at x0 x1 x2
  have xl := hbox.lt
  have z0 := hv.cell 0
  simp at z0
  have zl := hv.lt
  have HO := Lib.hid hown
  have HV := Lib.hid hv
  have HM := Lib.hid hM
  have HMD := Lib.hid hmdl
  clear hown hv hM hmdl hbox d0 hb0 hnd hhas
  have hBW : B ≤ W.heap.size := Nat.le_trans hB HB0.out.size
  by_cases hmod : t.mod.toList.isEmpty = true
  · obtain ⟨A, c, rfl, hsa, hown2⟩ := own_strs HO.out rfl
    have HSA := Lib.hid hsa
    clear hsa hown2
    have hmt : t.mod = { data := #[] } := by
      have := List.isEmpty_iff.1 hmod
      exact ba_inj (this.trans (by decide +kernel))
    have HFD := Lib.hid (find_c m t.name ia ic da dc B W HMD.out hBW hl)
    simp only [mdlCells] at HFD
    by_cases hh : hasD m.decls t.name = true
    · have hq0 : 0 ≤ idxP (isT t.name) m.decls := has_idx hh
      generalize idxP (isT t.name) m.decls = q at HFD hq0
      by_cases hin : t.name ∈ out
      · have HE := Lib.hid (show addF m.decls out t = out by rw [addF, if_neg]; simp [okL, memN_iff.2 hin])
        have HC := Lib.hid (show memB t.name out = true from (memB_iff _ _).2 hin)
        go_wp2_with (first
          | (go_at_call 135; refine HFD.out.mono ?_; rintro e w1 ⟨rfl, hb1⟩; have k4 := (hb1.cell (p := ⟨w.heap.size, 4, none⟩) kl).trans k4; have z0 := (hb1.cell (p := ⟨g1, 0, none⟩) zl).trans z0; have HSA1 := Lib.hid (HSA.out.keep fun p hp => hb1.cell (p := p) hp); have HB1 := Lib.hid hb1; have kl1 := Nat.lt_of_lt_of_le kl hb1.size; have zl1 := Nat.lt_of_lt_of_le zl hb1.size; clear hb1)
          | (go_at_call 87; refine (contains_c _ _ _ out t.name _ (by unfold maxLen; omega) HSA1.out).mono ?_; rintro e w2 ⟨rfl, rfl⟩; rw [HC.out]))
        refine bodyPost_end (by simp [results, Tryz.results162, go_sem]; try rfl) rfl ?_
        exact ⟨rfl, M, by rw [HE.out]; exact R0.out.under HB1.out, fun b h => .inl h, Fr.of_below (HB0.out.trans (HB1.out.mono HB0.out.size))⟩
      · have HC := Lib.hid (show memB t.name out = false by cases h : memB t.name out; rfl; exact absurd ((memB_iff _ _).1 h) hin)
        have HE := Lib.hid (show addF m.decls out t = out ++ [t.name] by rw [addF, if_pos]; simp [okL, hh, hmod]; cases h : memN out t.name; rfl; exact absurd (memN_iff.1 h) hin)
        go_upto_region 2 with (first
          | (go_at_call 135; refine HFD.out.mono ?_; rintro e w1 ⟨rfl, hb1⟩; have k4 := (hb1.cell (p := ⟨w.heap.size, 4, none⟩) kl).trans k4; have z0 := (hb1.cell (p := ⟨g1, 0, none⟩) zl).trans z0; have HSA1 := Lib.hid (HSA.out.keep fun p hp => hb1.cell (p := p) hp); have HB1 := Lib.hid hb1; have kl1 := Nat.lt_of_lt_of_le kl hb1.size; have zl1 := Nat.lt_of_lt_of_le zl hb1.size; clear hb1)
          | (go_at_call 87; refine (contains_c _ _ _ out t.name _ (by unfold maxLen; omega) HSA1.out).mono ?_; rintro e w2 ⟨rfl, rfl⟩; rw [HC.out]))
        go_wp2_with (at_builtin; go_loud (refine wpList_append_own2 rfl _ _ 50 rfl (g1 + 1) 9 i0 (.string { data := #[] }) 1 16 Tryz.underlying50 hi hz0 hz1 hz2 rfl (by decide) (.slice A out.length c) out.length _ rfl (owns_under (owns_under HO.out HB1.out) ((Below.refl w1.heap.size w1).alloc (Nat.le_refl _) _)) ⟨w1.heap.size, 0, none⟩ 1 1 [.string t.name] rfl rfl (by exact World.news_of_block (cs := #[.string t.name]) (t := 9) (fr := (0, 0)) (heap_alloc_new w1 _)) (by simp [Value.oneCell']) (by unfold maxLen; omega) (by omega) (by simp; omega) ?_; intro v2 w2 hown2 hg2 hfr2; obtain ⟨A2, c2, rfl, -, -⟩ := own_strs (l := out ++ [t.name]) (by simpa using hown2) (by simp); have HW2 := Lib.hid hown2; have HG2 := Lib.hid hg2; have HFR := Lib.hid hfr2; have hz2b : Blk w2 g1 #[.slice A out.length c] 50 := (hg2.block g1 (by simp; omega) (fun e => by have := (owns_lt2 HO.out e.symm).1; omega)).trans ((HV.out.under HB1.out HV.out.lt).alloc _); have z2 := hz2b.cell 0; have f2 := hz2b.free 0; simp at z2; clear hown2 hg2 hfr2 hz2b))
        clear z0
        obtain ⟨M2, h1, h2, h3⟩ := MentR.add R0.out HB1.out HV.out HO.out HM.out HG2.out HW2.out HFR.out (by have := addF_nodup (ds := m.decls) (l := t) R0.out.nodup; rwa [HE.out] at this) hh
        rw [show (out ++ [t.name]).length = out.length + 1 by simp] at h1 h3
        refine bodyPost_end (by simp [results, Tryz.results162, go_sem]; try rfl) rfl ?_
        exact ⟨rfl, M2, by rw [HE.out]; exact h1, fun b hb => (h2 b hb).imp id (fun h => Nat.le_trans HB0.out.size h), (Fr.of_below HB0.out).trans h3 (fun b h => .inl h)⟩
    · have HE := Lib.hid (show addF m.decls out t = out by rw [addF, if_neg]; simp [okL, hh])
      rw [has_no hh] at HFD
      go_wp2_with (go_at_call 135; refine HFD.out.mono ?_; rintro e w1 ⟨rfl, hb1⟩; have k4 := (hb1.cell (p := ⟨w.heap.size, 4, none⟩) kl).trans k4; have z0 := (hb1.cell (p := ⟨g1, 0, none⟩) zl).trans z0; have HSA1 := Lib.hid (HSA.out.keep fun p hp => hb1.cell (p := p) hp); have HB1 := Lib.hid hb1; have kl1 := Nat.lt_of_lt_of_le kl hb1.size; have zl1 := Nat.lt_of_lt_of_le zl hb1.size; clear hb1)
      refine bodyPost_end (by simp [results, Tryz.results162, go_sem]; try rfl) rfl ?_
      exact ⟨rfl, M, by rw [HE.out]; exact R0.out.under HB1.out, fun b h => .inl h, Fr.of_below (HB0.out.trans (HB1.out.mono HB0.out.size))⟩
  · have HE := Lib.hid (show addF m.decls out t = out by rw [addF, if_neg]; simp [okL]; intro h; exact absurd (by simpa using h) hmod)
    go_wp2_with fail
    refine bodyPost_end (by simp [results, Tryz.results162, go_sem]; try rfl) rfl ?_
    exact ⟨rfl, M, by rw [HE.out]; exact R0.out, fun b h => .inl h, Fr.of_below HB0.out⟩
set_option maxRecDepth 100000 in
theorem mentL_c (m : Mdl) (ia : Option Addr) (ic : Nat) (da : Option Addr) (dc B g0 g1 : Nat) (t : Ty) (cs : Array Value) (out : List ByteArray) (M : Nat → Prop) (w : World) (ht : TyC w B t cs) (hB : B ≤ w.heap.size) (hr : MentR m ia ic da dc B g0 g1 out M w) (hl : m.decls.length ≤ 1000000) :
    Calls Tryz.prog 132 #[.agg cs, .func (.func 162) #[] #[.pointer (some ⟨g0, 0, none⟩), .pointer (some ⟨g1, 0, none⟩)]] w fun e w' => e = .returned (.tuple #[]) ∧ ∃ M', MentR m ia ic da dc B g0 g1 (locF m.decls out (localsT t)) M' w' ∧ (∀ b, M' b → M b ∨ w.heap.size ≤ b) ∧ Fr M w w' :=
  locals_c 162 _ _ (fun o M w => MentR m ia ic da dc B g0 g1 o M w) (addF m.decls) B (by intro a w; rfl) (fun s M w w' h hb => h.under hb) (fun s M w h => h.mem)
    (fun s M l cs w _ h1 h2 h3 => ment1_c m ia ic da dc B g0 g1 l cs s M w h1 h2 h3 hl) t out M cs w ht hB hr
end Go.Proofs.YtjeldfipipkfiaaGreat
