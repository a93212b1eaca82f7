/- The contract of merlonref07.Reach: which declarations a type mentions, all in all. Printed by mkreach.py. -/
import Derived.Test.YtjeldfipipkfiaaGreatDoorRfLoc
import Derived.Test.YtjeldfipipkfiaaGreatDoorGReg
import Derived.Deep.LoopGhost
import Derived.OwnWalk
namespace Go.Proofs.YtjeldfipipkfiaaGreatDoor
open Go.RowKit
set_option linter.unusedSimpArgs false
set_option linter.unusedVariables false
set_option linter.unnecessarySimpa false
theorem infoBool : ((Tryz.prog).info? 4).map (fun i => (i.zero, i.size, i.bytes)) = some (some (.bool false), 1, 1) := by kernel_rfl
theorem count_hit {out : List Bool} {j : Nat} (hj : j < out.length) (h : out[j]? = some false) : (out.set j true).count false + 1 = out.count false := by
  have h' : out[j] = false := by rw [List.getElem?_eq_getElem hj] at h; injection h
  have hp : 0 < out.count false := List.count_pos_iff.2 (h' ▸ List.getElem_mem hj)
  rw [List.count_set hj, h']
  simp
  omega
structure RSt (m : Mdl) (t : Ty) (W0 : World) (B : Nat) (l : List Ty) (out : List Bool) (vl : Value) (wz : World) : Prop where
  inv : RInv m.decls t l out
  row : wz.ownsRow W0.heap.size 4 1 (.slice (some ⟨W0.heap.size, 0, none⟩) m.decls.length m.decls.length) m.decls.length (out.map Value.bool)
  lst : TysV wz (W0.heap.size + 1) B vl l
  len : l.length + 1000 * out.count false ≤ 1000 + 1000 * m.decls.length
  below : Below W0.heap.size W0 wz
theorem RSt.under {m : Mdl} {t : Ty} {W0 : World} {B : Nat} {l : List Ty} {out : List Bool} {vl : Value} {w w' : World} (h : RSt m t W0 B l out vl w) (hb : Below w.heap.size w w') (hB : B ≤ w.heap.size) : RSt m t W0 B l out vl w' :=
  ⟨h.inv, owns_keep h.row fun g hg => hb.block g (owns_lt2 h.row hg).2, h.lst.under hb hB, h.len, h.below.trans (hb.mono h.below.size)⟩
theorem RSt.set {m : Mdl} {t : Ty} {W0 : World} {B : Nat} {l : List Ty} {out : List Bool} {vl : Value} {w : World} (h : RSt m t W0 B l out vl w) (hBW : B ≤ W0.heap.size) {x : Ty} (hx : x ∈ l) (hm : x.mod.toList.isEmpty = true) {j : Nat} (hj : findD m.decls x.name = some j) (hjl : j < m.decls.length) (ho : out[j]? = some false) :
    (m.decls[j].kind ≠ 3 → RSt m t W0 B l (out.set j true) vl (w.setCell ⟨W0.heap.size, j, none⟩ (.bool true))) ∧
    TysV (w.setCell ⟨W0.heap.size, j, none⟩ (.bool true)) (W0.heap.size + 1) B vl l ∧
    (w.setCell ⟨W0.heap.size, j, none⟩ (.bool true)).ownsRow W0.heap.size 4 1 (.slice (some ⟨W0.heap.size, 0, none⟩) m.decls.length m.decls.length) m.decls.length ((out.set j true).map Value.bool) ∧
    Below W0.heap.size W0 (w.setCell ⟨W0.heap.size, j, none⟩ (.bool true)) := by
  obtain ⟨h1, h2⟩ := h.row.stored j (.bool true)
  have hrow : (w.setCell ⟨W0.heap.size, j, none⟩ (.bool true)).ownsRow W0.heap.size 4 1 (.slice (some ⟨W0.heap.size, 0, none⟩) m.decls.length m.decls.length) m.decls.length ((out.set j true).map Value.bool) := by
    rw [List.map_set]; exact h1
  have hbl : Below W0.heap.size w (w.setCell ⟨W0.heap.size, j, none⟩ (.bool true)) := (Below.refl _ _).grown h2 h.below.size (fun q hq => by injection hq with hq; omega)
  have hl : TysV (w.setCell ⟨W0.heap.size, j, none⟩ (.bool true)) (W0.heap.size + 1) B vl l := by
    refine h.lst.keep (fun g hg => ?_) (hbl.mono hBW)
    obtain ⟨f, hf, -⟩ := h.lst
    have := owns_lt2 hf hg
    exact h2.block g this.2 fun e => by injection e with e; omega
  have hc := count_hit (j := j) (by rw [h.inv.len]; exact hjl) ho
  refine ⟨fun h3 => ⟨?_, hrow, hl, by have := h.len; omega, h.below.trans hbl⟩, hl, hrow, h.below.trans hbl⟩
  have := h.inv.add hx hm hj hjl
  rwa [if_neg h3] at this
theorem TysV.elem {w : World} {B n : Nat} {A : Option Addr} {L : List Ty} {f : Nat → Array Value} (hB : B ≤ w.heap.size) (e : L.length = n) (h1 : RowsK 7 w w.heap.size A n f) (h2 : ∀ i (h : i < L.length), TyC w B L[i] (f i)) {k : Nat} (hk : k < L.length) {x : Ty} (hx : L[k] = x) :
    ∃ b o na nc sa sc, A = some ⟨b, o, none⟩ ∧ b < w.heap.size ∧ f k = tyCells x na nc sa sc ∧
      w.cell? ⟨b, o + k * 7, none⟩ = some (.int .i64 x.kind) ∧ w.cell? ⟨b, o + k * 7 + 1, none⟩ = some (.string x.pkg) ∧ w.cell? ⟨b, o + k * 7 + 2, none⟩ = some (.int .i64 x.major) ∧
      w.cell? ⟨b, o + k * 7 + 3, none⟩ = some (.string x.mod) ∧ w.cell? ⟨b, o + k * 7 + 4, none⟩ = some (.string x.name) ∧
      w.cell? ⟨b, o + k * 7 + 5, none⟩ = some (.slice na x.names.length nc) ∧ w.cell? ⟨b, o + k * 7 + 6, none⟩ = some (.slice sa x.subs.length sc) := by
  subst e hx
  exact TyC.elem (hs := h1) hk ((h2 k hk).mono hB)
theorem step_append_row {P : Program} {w : World} {ops : Array Oper} {o : Oper} {a : Act} {K : Act → World → Prop} {Q : Exit → Act → World → Prop} {E : Prop} (hgd : o.guard = none) (s x : Operand) (t : TypeId)
    (ho : o.op = .call { callee := .builtin .append, args := #[s, x], argTypes := #[t, t] })
    (base : Nat) (e : TypeId) (i : TypeInfo) (z : Value) (size bytes : Nat) (ht : P.underlying t = some (.slice e)) (hi : P.info? e = some i) (hz : i.zero = some z)
    (hsize : i.size = size) (hby : i.bytes = bytes) (hzs : z.cells.size = size) (hsz : 0 < size)
    (v : Value) (n : Nat) (xs : List Value) (hs : a.eval s = v) (hown : w.ownsRow base e size v n xs)
    (ad : Option Addr) (m c : Nat) (f : Nat → Array Value) (hx : a.eval x = .slice ad m c) (hrows : RowsK size w w.heap.size ad m f) (hsf : ∀ i, i < m → (f i).size = size) (h1 : ∀ i, i < m → ∀ u ∈ (f i).toList, u.oneCell' = true)
    (h63 : n + m ≤ maxLen) (hbytes : (n + m) * bytes ≤ 140737488355328) (hbase : base ≤ w.heap.size)
    (h : ∀ v' w', w'.ownsRow base e size v' (n + m) (xs ++ flatK f m) → w.grownBy w' v.ownBlock → (v'.ownBlock = v.ownBlock ∨ ∀ g, v'.ownBlock = some g → w.heap.size ≤ g) → K (a.put o.dst v') w') :
    if Region.wanted o (yielded ops a.tmps) = true then Oper.wp P o a w K Q else E := by
  cases ad with
  | none =>
    have hm : m = 0 := by
      rcases hrows with h | ⟨b, o, h, -⟩
      · exact h
      · cases h
    subst hm
    have hw : Region.wanted o (yielded ops a.tmps) = true := by simp [Region.wanted, hgd]
    rw [if_pos hw]
    have hrun : (Builtin.append_ #[t, t] o.type #[v, .slice none 0 c]).run P w = .ok v w := by
      rcases hown.2 with ⟨rfl, rfl⟩ | ⟨g, cap, cur, rfl, _, _, hnc, _⟩
      · simp [Builtin.append_, run_underlying ht, sizeOf, typeInfo, hi, Builtin.lenOf, Builtin.firstCells]
      · simp [Builtin.append_, run_underlying ht, sizeOf, typeInfo, hi, Builtin.lenOf, Builtin.firstCells, hnc, storeCells]
    unfold Oper.wp
    simp [execOp, ho, resolve, invoke, builtin, hs, hx, hrun, Result.andThen]
    exact h v w (by simpa [flatK] using hown) ⟨rfl, rfl, rfl, Nat.le_refl _, fun _ _ _ => rfl⟩ (.inl rfl)
  | some a0 => exact step_append_own2 hgd s x t ho base e i z size bytes ht hi hz hsize hby hzs hsz v n xs hs hown a0 m c (flatK f m) hx (flatK_len hsf) (rows_src hsz hrows hsf) (flatK_one (K := size) h1) h63 hbytes hbase h

set_option maxRecDepth 100000 in
set_option maxHeartbeats 8000000 in
theorem rReach_c (m : Mdl) (ia : Option Addr) (ic : Nat) (da : Option Addr) (dc B : Nat) (t : Ty) (cs : Array Value) (w : World) (hm : MdlC w B m ia ic da dc) (ht : TyC w B t cs) (hB : B ≤ w.heap.size) (hl : m.decls.length ≤ 60) (hmt : manyT t ≤ 1000) (hmd : ∀ d ∈ m.decls, manyT d.ty ≤ 1000) :
    Calls Tryz.prog 62 #[.agg (mdlCells m ia ic da dc), .agg cs] w fun e w' => ∃ g, e = .returned (.slice (some ⟨g, 0, none⟩) m.decls.length m.decls.length) ∧ w.heap.size ≤ g ∧
      w'.ownsRow g 4 1 (.slice (some ⟨g, 0, none⟩) m.decls.length m.decls.length) m.decls.length (((List.range m.decls.length).map (reachF m.decls t)).map Value.bool) ∧ Below w.heap.size w w' := by
  obtain ⟨i0, hi, hz0, hz1, hz2⟩ := info_parts infoTy
  obtain ⟨j0, hj, hy0, hy1, hy2⟩ := info_parts infoBool
  obtain ⟨na, nc, sa, sc, f, rfl, -⟩ := ht.inv
  have HM := Lib.hid hm
  have C1 := Lib.hid (fun W (hb : Below w.heap.size w W) => rLocals_c t _ B W (ht.under (hb.mono hB)) (Nat.le_trans hB hb.size) (by omega))
  have HMD := Lib.hid hmd
  have HLT := Lib.hid (show ((localsT t).length : Int) ≤ 1000 by have := locals_many t; omega)
  obtain ⟨n0, hn0⟩ : ∃ n, (localsT t).length = n := ⟨_, rfl⟩
  have HN0 := Lib.hid hn0
  clear hm ht hmt hmd hn0
  simp only [mdlCells, tyCells] at C1 ⊢
  go_enter Tryz.func62, Tryz.ntmps62
  go_upto_region 1 with fail
  have z1 : (w.alloc (.cells #[.string m.name, .slice ia m.imps.length ic, .slice da m.decls.length dc] 25)).heap.size = w.heap.size + 1 := by simp
  obtain ⟨b1, hb1, hz3⟩ := laidN w #[.string m.name, .slice ia m.imps.length ic, .slice da m.decls.length dc] 25
  obtain ⟨b2, hb2, hz4⟩ := laidN (w.alloc (.cells #[.string m.name, .slice ia m.imps.length ic, .slice da m.decls.length dc] 25)) #[.int .i64 t.kind, .string t.pkg, .int .i64 t.major, .string t.mod, .string t.name, .slice na t.names.length nc, .slice sa t.subs.length sc] 29
  have b3 := b1.under hb2 b1.lt
  have hb3 := hb1.trans (hb2.mono hb1.size)
  rw [z1] at b2 hz4
  clear b1 hb1 hb2 hz3 z1
  generalize (w.alloc (.cells #[.string m.name, .slice ia m.imps.length ic, .slice da m.decls.length dc] 25)).alloc (.cells #[.int .i64 t.kind, .string t.pkg, .int .i64 t.major, .string t.mod, .string t.name, .slice na t.names.length nc, .slice sa t.subs.length sc] 29) = W at b3 b2 hb3 hz4 ⊢
  have B0 := Lib.hid hb3
  obtain ⟨x0, x1, x2⟩ := cellsT3 b3
  obtain ⟨y0, y1, y2, y3, y4, y5, y6⟩ := cellsT7 b2
  have l1 := b3.lt
  have l2 := b2.lt
  have P1 := Lib.hid b3
  have P2 := Lib.hid b2
  have hBW : B ≤ W.heap.size := Nat.le_trans hB hb3.size
  clear b3 b2 hb3 hz4
  go_upto_region 3 with (first
    | (at_make; refine wpList_make_full _ rfl _ _ 104 rfl W.heap.size 4 j0 (.bool false) 1 Tryz.underlying104 hj hy0 hy1 .i64 .i64 _ _ m.decls.length rfl rfl rfl rfl (by rw [hy2]; omega) (by unfold maxLen; omega) (Nat.le_refl _) ?_; intro w3 hown3 hg3; have B3 := Lib.hid ((Below.refl W.heap.size W).grown hg3 (Nat.le_refl _) (fun q hq => by cases hq)); have HO3 := Lib.hid hown3; have p1 := P1.out.under B3.out P1.out.lt; have p2 := P2.out.under B3.out P2.out.lt; clear hown3 hg3 x0 x1 x2 y0 y1 y2 y3 y4 y5 y6 l1 l2; obtain ⟨x0, x1, x2⟩ := cellsT3 p1; obtain ⟨y0, y1, y2, y3, y4, y5, y6⟩ := cellsT7 p2; have l1 := p1.lt; have l2 := p2.lt; clear p1 p2)
    | (go_at_call 74; refine (C1.out _ (B0.out.trans (B3.out.mono B0.out.size))).mono ?_; rintro e w4 ⟨v4, rfl, hv4, hb4⟩; have HV4 := Lib.hid hv4; obtain ⟨A4, c4', f4, rfl, -⟩ := hv4.atN HN0.out; have HB4 := Lib.hid hb4; clear hv4 hb4))
  have hg3 : W.heap.size < w3.heap.size := (owns_lt2 HO3.out rfl).2
  have hown3 := HO3.out
  have S0 : RSt m t W B (localsT t) (List.replicate m.decls.length false) (.slice A4 n0 c4') w4 := by
    refine ⟨RInv.init _ _, ?_, HV4.out.base hg3, ?_, B3.out.trans (HB4.out.mono B3.out.size)⟩
    · refine owns_keep ?_ fun g hg => HB4.out.block g (owns_lt2 HO3.out hg).2
      have e : (madeCells (Value.bool false).cells (m.decls.length * 1)).toList = (List.replicate m.decls.length false).map Value.bool := by
        rw [Nat.mul_one, show (Value.bool false).cells = #[Value.bool false] from rfl, toList_madeCells_one, List.map_replicate]
      rw [← e]
      exact HO3.out
    · have := HLT.out
      rw [List.count_replicate]
      simp
      omega
  have S1 := Lib.hid S0
  clear S0 hown3 hg3 x0 x1 x2 y0 y1 y2 y3 y4 y5 y6 l1 l2 HO3 HV4 HB4 B3 HLT
  go_wp2_with fail
  go_loopg [6, 7] (2 * m.decls.length + 1) (fun gk vl more wz => ∃ (l : List Ty) (out : List Bool) (b : Bool), more = .bool b ∧ RSt m t W B l out vl wz ∧ (b = false → ∀ x ∈ l, hitR m.decls out x) ∧ gk = 2 * out.count false + (if b then 1 else 0))
  case atStart => exact ⟨localsT t, _, true, rfl, S1.out, fun h => (by cases h), by rw [List.count_replicate]; simp⟩
  case round =>
    obtain ⟨l, out, bb, rfl, hs, hdone, rfl⟩ := hrel
    have HS := Lib.hid hs
    have HDN := Lib.hid hdone
    clear hs hdone S1
    obtain ⟨nl, hnl⟩ : ∃ n, l.length = n := ⟨_, rfl⟩
    have HNL := Lib.hid hnl
    obtain ⟨Al, cl, fl, rfl, -⟩ := HS.out.lst.atN hnl
    clear hnl
    cases bb
    · have hfin := HS.out.inv.out (HDN.out rfl)
      have HF := Lib.hid hfin
      clear hfin
      go_wp2_with fail
      go_ret
      refine ⟨W.heap.size, rfl, B0.out.size, ?_, B0.out.trans (HS.out.below.mono B0.out.size)⟩
      have hrow := HS.out.row
      rw [HF.out] at hrow
      simpa using hrow
    · go_wp2_with fail
      go_loopg [6, 7, 8] (2000 * out.count false + l.length) (fun gi vl more iv wz => ∃ (l' : List Ty) (out' : List Bool) (b : Bool) (k : Nat), more = .bool b ∧ iv = .int .i64 k ∧ k ≤ l'.length ∧ RSt m t W B l' out' vl wz ∧ (b = false → ∀ j (h : j < l'.length), j < k → hitR m.decls out' l'[j]) ∧ out'.count false + (if b then 1 else 0) ≤ out.count false ∧ gi = 2000 * out'.count false + (l'.length - k))
      case atStart => exact ⟨l, out, false, 0, rfl, rfl, Nat.zero_le _, HS.out, fun _ j _ h => absurd h (by omega), by simp, by simp⟩
      case round =>
        clear HS HNL HDN
        obtain ⟨l2, out2, bb, k, rfl, rfl, hk, hs, hdone, hcnt, rfl⟩ := hrel
        have HS := Lib.hid hs
        have HDN := Lib.hid hdone
        have HCT := Lib.hid hcnt
        obtain ⟨n2, hn2⟩ : ∃ n, l2.length = n := ⟨_, rfl⟩
        have HN2 := Lib.hid hn2
        obtain ⟨A2, c2, f2, rfl, hrows, htys, hown⟩ := hs.lst.atN hn2
        have HRW := Lib.hid hrows
        have HTY := Lib.hid htys
        have HOW := Lib.hid hown
        have BR := Lib.hid (B0.out.trans (hs.below.mono B0.out.size))
        have hBr : B ≤ wr.heap.size := Nat.le_trans hB BR.out.size
        rw [hn2] at hk
        have p1 := P1.out.under hs.below P1.out.lt
        have hn2b : n2 ≤ 61000 := by have := hs.len; omega
        clear hs hdone hcnt hn2 hrows htys hown
        by_cases hlt : k < n2
        · obtain ⟨x, hx⟩ : ∃ x, l2[k]'(by rw [HN2.out]; exact hlt) = x := ⟨_, rfl⟩
          obtain ⟨b, o, na', nc', sa', sc', hA2, hbl, hfk, c0, c1, c2', c3, c4, c5, c6⟩ := TysV.elem hBr HN2.out HRW.out HTY.out (by rw [HN2.out]; exact hlt) hx
          obtain rfl := hA2
          obtain ⟨x0, x1, x2⟩ := cellsT3 p1
          have l1 := p1.lt
          have hkI : (k : Int) < (n2 : Int) := by omega
          have hk0 : (0 : Int) ≤ (k : Int) := by omega
          have HX := Lib.hid hx
          have HXM := Lib.hid (hx ▸ List.getElem_mem _ : x ∈ l2)
          have P1R := Lib.hid p1
          have hnext : hitR m.decls out2 x → (bb = false → ∀ j (h : j < l2.length), j < k + 1 → hitR m.decls out2 l2[j]) := fun hh hb j hj hjk => by
            by_cases e : j = k
            · subst e; rw [HX.out]; exact hh
            · exact HDN.out hb j hj (by omega)
          have HNX := Lib.hid hnext
          clear hx hnext hfk p1
          cases hmod : x.mod.toList.isEmpty
          · have HHIT := Lib.hid (HNX.out (fun h => by rw [hmod] at h; cases h))
            go_wp2_with fail
            go_roundg (2000 * out2.count false + (n2 - (k + 1)))
            case rel => exact ⟨l2, out2, bb, k + 1, rfl, by go_num, by rw [HN2.out]; omega, HS.out, HHIT.out, HCT.out, by rw [HN2.out]⟩
            case measure => have := HN2.out; omega
          · have hfi := fun W2 (hb : Below wr.heap.size wr W2) => rFindD_c m x.name ia ic da dc B W2 (HM.out.under ((BR.out.mono hB).trans (hb.mono hBr))) (Nat.le_trans hBr hb.size) (by omega)
            obtain ⟨q, hq⟩ : ∃ q, idxP (isT x.name) m.decls = q := ⟨_, rfl⟩
            simp only [hq, mdlCells] at hfi
            have HFI := Lib.hid hfi
            have HQ := Lib.hid hq
            clear hfi hq
            go_upto_region 10 with fail
            go_cut [9] (fun v w2 => v = .int .i64 q ∧ Below wr.heap.size wr w2)
            case first =>
              refine wp_region_until [(6, fun w' => w'.cell? ⟨w.heap.size, 0, none⟩ = some (.string m.name) ∧ w'.cell? ⟨w.heap.size, 1, none⟩ = some (.slice ia m.imps.length ic) ∧ w'.cell? ⟨w.heap.size, 2, none⟩ = some (.slice da m.decls.length dc) ∧ w'.cell? ⟨b, o + k * 7 + 4, none⟩ = some (.string x.name))] (by kernel_rfl) (Until.cons (fun _ => ⟨x0, x1, x2, c4⟩) Until.nil) (fun hU => ?_)
              refine AnyU.loadc (i := 0) (d := 6) [6] (Si := fun w' => w'.cell? ⟨w.heap.size, 0, none⟩ = some (.string m.name) ∧ w'.cell? ⟨w.heap.size, 1, none⟩ = some (.slice ia m.imps.length ic) ∧ w'.cell? ⟨w.heap.size, 2, none⟩ = some (.slice da m.decls.length dc) ∧ w'.cell? ⟨b, o + k * 7 + 4, none⟩ = some (.string x.name)) (v := ?_) rfl (by kernel_rfl) (by kernel_rfl) (by kernel_rfl) (fun _ _ _ h => h) (by kernel_rfl) (by assumption) (by kernel_rfl) rfl (by simp) (by rfl) ?_ (fun hV => ?_)
              rotate_left 1
              · (intro wq hq; obtain ⟨u0, u1, u2, -⟩ := hq; go_simp; try with_reducible rfl)
              clear hU; have hU := hV; clear hV
              try simp only [Act.put, aput]
              refine AnyU.take (i := 1) (v := ?_) rfl (by kernel_rfl) (by kernel_rfl) (by kernel_rfl) (fun _ _ _ h => h) (by kernel_rfl) (by assumption) (by rfl) ?_ (fun hV => ?_)
              rotate_left 1
              · (intro wq; go_simp; try with_reducible rfl)
              clear hU; have hU := hV; clear hV
              try simp only [Act.put, aput]
              refine AnyU.take (i := 2) (v := ?_) rfl (by kernel_rfl) (by kernel_rfl) (by kernel_rfl) (fun _ _ _ h => h) (by kernel_rfl) (by assumption) (by rfl) ?_ (fun hV => ?_)
              rotate_left 1
              · (intro wq; go_simp; try with_reducible rfl)
              clear hU; have hU := hV; clear hV
              try simp only [Act.put, aput]
              refine AnyU.take (i := 3) (v := ?_) rfl (by kernel_rfl) (by kernel_rfl) (by kernel_rfl) (fun _ _ _ h => h) (by kernel_rfl) (by assumption) (by rfl) ?_ (fun hV => ?_)
              rotate_left 1
              · (intro wq; go_simp; try with_reducible rfl)
              clear hU; have hU := hV; clear hV
              try simp only [Act.put, aput]
              refine AnyU.take (i := 4) (v := ?_) rfl (by kernel_rfl) (by kernel_rfl) (by kernel_rfl) (fun _ _ _ h => h) (by kernel_rfl) (by assumption) (by rfl) ?_ (fun hV => ?_)
              rotate_left 1
              · (intro wq; go_simp; try with_reducible rfl)
              clear hU; have hU := hV; clear hV
              try simp only [Act.put, aput]
              refine AnyU.loadc (i := 5) (d := 6) [6] (Si := fun w' => w'.cell? ⟨w.heap.size, 0, none⟩ = some (.string m.name) ∧ w'.cell? ⟨w.heap.size, 1, none⟩ = some (.slice ia m.imps.length ic) ∧ w'.cell? ⟨w.heap.size, 2, none⟩ = some (.slice da m.decls.length dc) ∧ w'.cell? ⟨b, o + k * 7 + 4, none⟩ = some (.string x.name)) (v := ?_) rfl (by kernel_rfl) (by kernel_rfl) (by kernel_rfl) (fun _ _ _ h => h) (by kernel_rfl) (by assumption) (by kernel_rfl) rfl (by simp) (by rfl) ?_ (fun hV => ?_)
              rotate_left 1
              · (intro wq hq; obtain ⟨-, -, -, u⟩ := hq; go_simp; try with_reducible rfl)
              clear hU; have hU := hV; clear hV
              try simp only [Act.put, aput]
              refine AnyU.ready1 (i := 6) (by kernel_rfl) (AnyU.one rfl fun K hK => ?_)
              go_simp
              go_at_call 104
              refine (HFI.out _ ((Below.refl _ _).drew)).mono ?_
              rintro e w2 ⟨rfl, hb⟩
              have HB2 := Lib.hid (show Below wr.heap.size wr w2 from (Below.refl _ _).drew.trans hb)
              clear hb
              refine hK.out _ _ (Until.offT (by kernel_rfl)) (fun hV => ?_)
              clear hK K
              clear hU; have hU := hV; clear hV
              try simp only [Act.put, aput]
              refine AnyU.take (i := 7) (v := ?_) rfl (by kernel_rfl) (by kernel_rfl) (by kernel_rfl) (fun _ _ _ h => h) (by kernel_rfl) (by assumption) (by rfl) ?_ (fun hV => ?_)
              rotate_left 1
              · (intro wq; go_simp; try with_reducible rfl)
              clear hU; have hU := hV; clear hV
              try simp only [Act.put, aput]
              refine AnyU.done (by kernel_rfl) ?_
              go_wp2_with fail
              go_meet
              exact ⟨rfl, HB2.out⟩
            case rest =>
              rename World => wq
              obtain ⟨rfl, hb2⟩ := hcut
              have HS2 := Lib.hid (HS.out.under hb2 hBr)
              have hBq : B ≤ wq.heap.size := Nat.le_trans hBr hb2.size
              have HBQ := Lib.hid hb2
              have p1 := P1R.out.under hb2 P1R.out.lt
              clear hb2 x0 x1 x2 c0 c1 c2' c3 c4 c5 c6 l1
              cases hfd : findD m.decls x.name with
              | none =>
                have hq : q = -1 := by rw [← HQ.out, findF_idx, hfd]
                subst hq
                have HHIT := Lib.hid (HNX.out (fun _ j hj => by rw [hfd] at hj; cases hj))
                clear hfd p1
                go_wp2_with fail
                go_roundg (2000 * out2.count false + (n2 - (k + 1)))
                case rel => exact ⟨l2, out2, bb, k + 1, rfl, by go_num, by rw [HN2.out]; omega, HS2.out, HHIT.out, HCT.out, by rw [HN2.out]⟩
                case measure => have := HN2.out; omega
              | some j =>
                have hq : q = ((j : Nat) : Int) := by rw [← HQ.out, findF_idx, hfd]
                subst hq
                have HFD := Lib.hid hfd
                obtain ⟨hjl, -, -⟩ := findD_name hfd
                clear hfd
                have hjI : (j : Int) < (m.decls.length : Int) := by omega
                have hj0 : (0 : Int) ≤ (j : Int) := by omega
                have hjo : j < out2.length := by rw [HS2.out.inv.len]; exact hjl
                obtain ⟨ov, hov⟩ : ∃ v, out2[j]? = some v := ⟨_, List.getElem?_eq_getElem hjo⟩
                have oc := (HS2.out.row.cellAt j (by omega)).trans (show (out2.map Value.bool)[j]? = some (.bool ov) by rw [List.getElem?_map, hov]; rfl)
                have of := HS2.out.row.frozenAt j
                have lW : W.heap.size < wq.heap.size := (owns_lt2 HS2.out.row rfl).2
                cases ov
                · have HOV := Lib.hid hov
                  clear hov hjo
                  obtain ⟨hstay, hlst5, hrow5, hbel5⟩ := HS2.out.set hBW HXM.out hmod HFD.out hjl HOV.out
                  have HST := Lib.hid hstay
                  have HL5 := Lib.hid hlst5
                  have HR5 := Lib.hid hrow5
                  have HB5 := Lib.hid hbel5
                  clear hstay hlst5 hrow5 hbel5
                  obtain ⟨x0, x1, x2⟩ := cellsT3 p1
                  have l1 := p1.lt
                  clear p1
                  go_upto_region 13 with fail
                  generalize wq.setCell ⟨W.heap.size, j, none⟩ (.bool true) = W5 at HST HL5 HR5 HB5 ⊢
                  have HCH := Lib.hid (count_hit (j := j) (by rw [HS2.out.inv.len]; exact hjl) HOV.out)
                  clear oc of x0 x1 x2 l1
                  have B5 := Lib.hid (B0.out.trans (HB5.out.mono B0.out.size))
                  have hB5 : B ≤ W5.heap.size := Nat.le_trans hB B5.out.size
                  have p5 := P1.out.under HB5.out P1.out.lt
                  obtain ⟨x0, x1, x2⟩ := cellsT3 p5
                  have l1 := p5.lt
                  clear p5
                  obtain ⟨d, hd⟩ : ∃ d, m.decls[j] = d := ⟨_, rfl⟩
                  obtain ⟨hfd, bd, od, nd, ne, sd, se, hda, hbd, htd, e0, e1, e2, e3, e4, e5, e6, e7, e8⟩ := (HM.out.decls.under (B5.out.mono hB)).elem hjl hd
                  obtain rfl := hda
                  have lbd : bd < W5.heap.size := by omega
                  have hdm : manyT d.ty ≤ 1000 := HMD.out d (hd ▸ List.getElem_mem _)
                  rw [hd] at HST
                  have hadd := HS2.out.inv.add HXM.out hmod HFD.out hjl
                  rw [hd] at hadd
                  have HADD := Lib.hid hadd
                  have HTD := Lib.hid htd
                  clear hd hfd htd hadd
                  cases h3 : (d.kind == 3)
                  · have HST' := Lib.hid (HST.out (by intro e; rw [e] at h3; cases h3))
                    go_wp2_with fail
                    go_roundg (2000 * (out2.set j true).count false + (n2 - (k + 1)))
                    case rel => exact ⟨l2, out2.set j true, true, k + 1, rfl, by go_num, by rw [HN2.out]; omega, HST'.out, fun h => (by cases h), by have := HCH.out; have := HCT.out; revert this; cases bb <;> simp <;> omega, by rw [HN2.out]⟩
                    case measure => have := HN2.out; have := HCH.out; omega
                  · have hlm := locals_many d.ty
                    obtain ⟨m9, hm9⟩ : ∃ n, (localsT d.ty).length = n := ⟨_, rfl⟩
                    have hm9b : m9 ≤ 1000 := by omega
                    have HM9 := Lib.hid hm9
                    have c9 := fun W' (hb : Below W5.heap.size W5 W') => rLocals_c d.ty _ B W' (HTD.out.under (hb.mono hB5)) (Nat.le_trans hB5 hb.size) (by omega)
                    simp only [tyCells] at c9
                    have C9 := Lib.hid c9
                    have hk3 : d.kind = 3 := by simpa using h3
                    have HADD3 : RInv m.decls t (l2 ++ localsT d.ty) (out2.set j true) := by have := HADD.out; rwa [if_pos hk3] at this
                    have HLEN := Lib.hid (show (l2 ++ localsT d.ty).length + 1000 * (out2.set j true).count false ≤ 1000 + 1000 * m.decls.length by
                      have h1 := HS2.out.len
                      have h2 := HCH.out
                      rw [List.length_append]
                      omega)
                    have hlW5 : W.heap.size < W5.heap.size := (owns_lt2 HR5.out rfl).2
                    have HFIN := Lib.hid (fun Wz v (hb : Below W5.heap.size W5 Wz) (hv : TysV Wz W5.heap.size B v (l2 ++ localsT d.ty)) => (show RSt m t W B (l2 ++ localsT d.ty) (out2.set j true) v Wz from ⟨HADD3, owns_keep HR5.out fun g hg => hb.block g (owns_lt2 HR5.out hg).2, hv.base hlW5, HLEN.out, HB5.out.trans (hb.mono (Nat.le_of_lt hlW5))⟩))
                    obtain ⟨A5, c5', f5, hsl5, hr5, ht5, -⟩ := HL5.out.atN HN2.out
                    injection hsl5 with q1 q2 q3
                    subst q1 q3
                    have lb : b < W5.heap.size := by
                      rcases hr5 with h | ⟨b', o', h, h', -⟩
                      · omega
                      · injection h with h; injection h with h; subst h; exact h'
                    have HSZ5 := Lib.hid (fun i (hi : i < n2) => (ht5 i (by rw [HN2.out]; exact hi)).size7)
                    have HON5 := Lib.hid (flatK_one (K := 7) (f := f5) (n := n2) fun i hi => (ht5 i (by rw [HN2.out]; exact hi)).one7)
                    have HLN5 := Lib.hid (flatK_len HSZ5.out)
                    have HSR5 := Lib.hid (rows_src (by decide) hr5 HSZ5.out)
                    have HTY5 := Lib.hid ht5
                    have HS9 := Lib.hid (fun Wz (hb : Below W5.heap.size W5 Wz) => (show Wz.cell? ⟨w.heap.size, 2, none⟩ = some (.slice (some ⟨bd, od, none⟩) m.decls.length dc) ∧ Wz.cell? ⟨bd, od + j * 9 + 2, none⟩ = some (.int .i64 d.ty.kind) ∧ Wz.cell? ⟨bd, od + j * 9 + 3, none⟩ = some (.string d.ty.pkg) ∧ Wz.cell? ⟨bd, od + j * 9 + 4, none⟩ = some (.int .i64 d.ty.major) ∧ Wz.cell? ⟨bd, od + j * 9 + 5, none⟩ = some (.string d.ty.mod) ∧ Wz.cell? ⟨bd, od + j * 9 + 6, none⟩ = some (.string d.ty.name) ∧ Wz.cell? ⟨bd, od + j * 9 + 7, none⟩ = some (.slice nd d.ty.names.length ne) ∧ Wz.cell? ⟨bd, od + j * 9 + 8, none⟩ = some (.slice sd d.ty.subs.length se) from ⟨(hb.cell (p := ⟨w.heap.size, 2, none⟩) l1).trans x2, (hb.cell (p := ⟨bd, od + j * 9 + 2, none⟩) lbd).trans e2, (hb.cell (p := ⟨bd, od + j * 9 + 3, none⟩) lbd).trans e3, (hb.cell (p := ⟨bd, od + j * 9 + 4, none⟩) lbd).trans e4, (hb.cell (p := ⟨bd, od + j * 9 + 5, none⟩) lbd).trans e5, (hb.cell (p := ⟨bd, od + j * 9 + 6, none⟩) lbd).trans e6, (hb.cell (p := ⟨bd, od + j * 9 + 7, none⟩) lbd).trans e7, (hb.cell (p := ⟨bd, od + j * 9 + 8, none⟩) lbd).trans e8⟩))
                    clear hr5 ht5 hlm hm9 c9 HADD3 h3
                    have h3 : (d.kind == 3) = true := by rw [hk3]; rfl
                    clear hk3
                    go_upto_region 15 with fail
                    refine wp_region_until [(9, fun w' => w'.cell? ⟨w.heap.size, 2, none⟩ = some (.slice (some ⟨bd, od, none⟩) m.decls.length dc) ∧ w'.cell? ⟨bd, od + j * 9 + 2, none⟩ = some (.int .i64 d.ty.kind) ∧ w'.cell? ⟨bd, od + j * 9 + 3, none⟩ = some (.string d.ty.pkg) ∧ w'.cell? ⟨bd, od + j * 9 + 4, none⟩ = some (.int .i64 d.ty.major) ∧ w'.cell? ⟨bd, od + j * 9 + 5, none⟩ = some (.string d.ty.mod) ∧ w'.cell? ⟨bd, od + j * 9 + 6, none⟩ = some (.string d.ty.name) ∧ w'.cell? ⟨bd, od + j * 9 + 7, none⟩ = some (.slice nd d.ty.names.length ne) ∧ w'.cell? ⟨bd, od + j * 9 + 8, none⟩ = some (.slice sd d.ty.subs.length se))] (by kernel_rfl) (Until.cons (fun _ => ⟨x2, e2, e3, e4, e5, e6, e7, e8⟩) Until.nil) (fun hU => ?_)
                    refine AnyU.take (i := 1) (v := ?_) rfl (by kernel_rfl) (by kernel_rfl) (by kernel_rfl) (fun _ _ _ h => h) (by kernel_rfl) (by assumption) (by rfl) ?_ (fun hV => ?_)
                    rotate_left 1
                    · (intro wq; go_simp; try with_reducible rfl)
                    clear hU; have hU := hV; clear hV
                    try simp only [Act.put, aput]
                    refine AnyU.take (i := 3) (v := ?_) rfl (by kernel_rfl) (by kernel_rfl) (by kernel_rfl) (fun _ _ _ h => h) (by kernel_rfl) (by assumption) (by rfl) ?_ (fun hV => ?_)
                    rotate_left 1
                    · (intro wq; go_simp; try with_reducible rfl)
                    clear hU; have hU := hV; clear hV
                    try simp only [Act.put, aput]
                    refine AnyU.loadc (i := 4) (d := 9) [6, 7, 8, 9] (Si := fun w' => w'.cell? ⟨w.heap.size, 2, none⟩ = some (.slice (some ⟨bd, od, none⟩) m.decls.length dc) ∧ w'.cell? ⟨bd, od + j * 9 + 2, none⟩ = some (.int .i64 d.ty.kind) ∧ w'.cell? ⟨bd, od + j * 9 + 3, none⟩ = some (.string d.ty.pkg) ∧ w'.cell? ⟨bd, od + j * 9 + 4, none⟩ = some (.int .i64 d.ty.major) ∧ w'.cell? ⟨bd, od + j * 9 + 5, none⟩ = some (.string d.ty.mod) ∧ w'.cell? ⟨bd, od + j * 9 + 6, none⟩ = some (.string d.ty.name) ∧ w'.cell? ⟨bd, od + j * 9 + 7, none⟩ = some (.slice nd d.ty.names.length ne) ∧ w'.cell? ⟨bd, od + j * 9 + 8, none⟩ = some (.slice sd d.ty.subs.length se)) (v := ?_) rfl (by kernel_rfl) (by kernel_rfl) (by kernel_rfl) (fun _ _ _ h => h) (by kernel_rfl) (by assumption) (by kernel_rfl) rfl (by simp) (by rfl) ?_ (fun hV => ?_)
                    rotate_left 1
                    · (intro wq hq; obtain ⟨u, -⟩ := hq; go_simp; try with_reducible rfl)
                    clear hU; have hU := hV; clear hV
                    try simp only [Act.put, aput]
                    refine AnyU.take (i := 5) (v := ?_) rfl (by kernel_rfl) (by kernel_rfl) (by kernel_rfl) (fun _ _ _ h => h) (by kernel_rfl) (by assumption) (by rfl) ?_ (fun hV => ?_)
                    rotate_left 1
                    · (intro wq; go_simp; try with_reducible rfl)
                    clear hU; have hU := hV; clear hV
                    try simp only [Act.put, aput]
                    refine AnyU.take (i := 6) (v := ?_) rfl (by kernel_rfl) (by kernel_rfl) (by kernel_rfl) (fun _ _ _ h => h) (by kernel_rfl) (by assumption) (by rfl) ?_ (fun hV => ?_)
                    rotate_left 1
                    · (intro wq; go_simp; try with_reducible rfl)
                    clear hU; have hU := hV; clear hV
                    try simp only [Act.put, aput]
                    refine AnyU.take (i := 7) (v := ?_) rfl (by kernel_rfl) (by kernel_rfl) (by kernel_rfl) (fun _ _ _ h => h) (by kernel_rfl) (by assumption) (by rfl) ?_ (fun hV => ?_)
                    rotate_left 1
                    · (intro wq; go_simp; try with_reducible rfl)
                    clear hU; have hU := hV; clear hV
                    try simp only [Act.put, aput]
                    refine AnyU.loadc (i := 8) (d := 9) [9] (Si := fun w' => w'.cell? ⟨w.heap.size, 2, none⟩ = some (.slice (some ⟨bd, od, none⟩) m.decls.length dc) ∧ w'.cell? ⟨bd, od + j * 9 + 2, none⟩ = some (.int .i64 d.ty.kind) ∧ w'.cell? ⟨bd, od + j * 9 + 3, none⟩ = some (.string d.ty.pkg) ∧ w'.cell? ⟨bd, od + j * 9 + 4, none⟩ = some (.int .i64 d.ty.major) ∧ w'.cell? ⟨bd, od + j * 9 + 5, none⟩ = some (.string d.ty.mod) ∧ w'.cell? ⟨bd, od + j * 9 + 6, none⟩ = some (.string d.ty.name) ∧ w'.cell? ⟨bd, od + j * 9 + 7, none⟩ = some (.slice nd d.ty.names.length ne) ∧ w'.cell? ⟨bd, od + j * 9 + 8, none⟩ = some (.slice sd d.ty.subs.length se)) (v := ?_) rfl (by kernel_rfl) (by kernel_rfl) (by kernel_rfl) (fun _ _ _ h => h) (by kernel_rfl) (by assumption) (by kernel_rfl) rfl (by simp) (by rfl) ?_ (fun hV => ?_)
                    rotate_left 1
                    · (intro wq hq; obtain ⟨-, u2, u3, u4, u5, u6, u7, u8⟩ := hq; go_simp; try with_reducible rfl)
                    clear hU; have hU := hV; clear hV
                    try simp only [Act.put, aput]
                    clear x0 x1 x2 e0 e1 e2 e3 e4 e5 e6 e7 e8
                    refine AnyU.ready1 (i := 0) (by kernel_rfl) (AnyU.one rfl fun K hK => ?_)
                    go_simp
                    obtain ⟨hbk, hbX, hsX⟩ := laidD W5 #[] 29
                    have hoX : (W5.alloc (.cells #[] 29)).drew.ownsRow W5.heap.size 29 7 (.slice (some ⟨W5.heap.size, 0, none⟩) 0 0) 0 [] := World.ownsRow_lit (base := W5.heap.size) (e := 29) (size := 7) W5 #[] 0 (Nat.le_refl _) (by unfold maxLen; omega) rfl
                    generalize hX3 : (W5.alloc (.cells #[] 29)).drew = w5a0 at hbk hbX hsX hoX ⊢
                    clear hX3 hbk
                    have HX := Lib.hid hoX
                    have HBw5a0 := Lib.hid (show Below W5.heap.size W5 w5a0 from hbX)
                    have hX0 : W5.heap.size ≤ W5.heap.size := Nat.le_refl _
                    have hXlt : W5.heap.size < w5a0.heap.size := by omega
                    have HXS := Lib.hid (show (Value.slice (some ⟨W5.heap.size, 0, none⟩) 0 0).ownBlock = some W5.heap.size from rfl)
                    clear hbX hoX hsX
                    refine hK.out _ _ (Until.cons (fun _ => HS9.out _ HBw5a0.out) Until.nil) (fun hV => ?_)
                    clear hK K
                    clear hU; have hU := hV; clear hV
                    try simp only [Act.put, aput]
                    refine AnyU.ready1 (i := 2) (by kernel_rfl) (AnyU.one rfl fun K hK => ?_)
                    refine step_append_own2 rfl _ _ 27 rfl W5.heap.size 29 i0 (.agg #[.int .i64 0, .string { data := #[] }, .int .i64 0, .string { data := #[] }, .string { data := #[] }, .slice none 0 0, .slice none 0 0]) 7 112 Tryz.underlying27 hi hz0 hz1 hz2 rfl (by decide) _ 0 [] rfl HX.out ⟨b, o, none⟩ n2 c2 (flatK f5 n2) rfl HLN5.out (fun q u hq => (HBw5a0.out.cell (p := (⟨b, o, none⟩ : Addr).add q) (by rw [addN]; show b < W5.heap.size; omega)).trans (HSR5.out q u hq)) HON5.out (by unfold maxLen; omega) (by omega) (Nat.le_trans (Nat.le_refl _) HBw5a0.out.size) ?_
                    intro v1 w6c2 hown1 hg1 hfr1
                    simp only [Nat.zero_add, List.nil_append] at hown1
                    replace hg1 : w5a0.grownBy w6c2 (some W5.heap.size) := hg1
                    have HBw6c2 := Lib.hid (show Below W5.heap.size W5 w6c2 from HBw5a0.out.grown hg1 (Nat.le_trans (Nat.le_refl _) HBw5a0.out.size) (fun q hq => by injection hq with hq; omega))
                    have HO := Lib.hid hown1
                    obtain ⟨A1, c1, hv1⟩ : ∃ A c, v1 = .slice A n2 c := by obtain ⟨A, c, e, -⟩ := own_rows HO.out HSZ5.out; exact ⟨A, c, e⟩
                    subst hv1
                    clear hown1 hg1 hfr1 HX
                    refine hK.out _ _ (Until.cons (fun _ => HS9.out _ HBw6c2.out) Until.nil) (fun hV => ?_)
                    clear hK K
                    clear hU; have hU := hV; clear hV
                    try simp only [Act.put, aput]
                    refine AnyU.ready1 (i := 9) (by kernel_rfl) (AnyU.one rfl fun K hK => ?_)
                    go_simp
                    go_at_call 74
                    refine (C9.out w6c2 HBw6c2.out).mono ?_
                    rintro e w7b9 ⟨v9, rfl, hv9, hb9⟩
                    obtain ⟨A9, c9, f9, rfl, -, -, ho9⟩ := hv9.atN HM9.out
                    have HBw7b9 := Lib.hid (show Below W5.heap.size W5 w7b9 from HBw6c2.out.trans (hb9.mono (Nat.le_trans (Nat.le_refl _) HBw6c2.out.size)))
                    have HV := Lib.hid (hv9.base (Nat.le_trans (Nat.le_refl _) HBw6c2.out.size))
                    have HO := Lib.hid (owns_keep HO.out fun g hg => hb9.block g (owns_lt2 HO.out hg).2)
                    clear hv9 hb9 ho9
                    refine hK.out _ _ (Until.offT (by kernel_rfl)) (fun hV => ?_)
                    clear hK K
                    clear hU; have hU := hV; clear hV
                    try simp only [Act.put, aput]
                    refine AnyU.ready1 (i := 10) (by kernel_rfl) (AnyU.one rfl fun K hK => ?_)
                    obtain ⟨A9x, c9x, f9, e9, hr9, ht9, ho9⟩ := HV.out.atN HM9.out
                    injection e9 with e9a e9b e9c
                    subst e9a e9c
                    refine step_append_row rfl _ _ 27 rfl W5.heap.size 29 i0 (.agg #[.int .i64 0, .string { data := #[] }, .int .i64 0, .string { data := #[] }, .string { data := #[] }, .slice none 0 0, .slice none 0 0]) 7 112 Tryz.underlying27 hi hz0 hz1 hz2 rfl (by decide) _ n2 (flatK f5 n2) rfl HO.out A9 m9 c9 f9 rfl hr9 (fun i hi => (ht9 i (by rw [HM9.out]; exact hi)).size7) (fun i hi => (ht9 i (by rw [HM9.out]; exact hi)).one7) (by unfold maxLen; omega) (by omega) (Nat.le_trans (Nat.le_refl _) HBw7b9.out.size) ?_
                    intro v10 w8c10 hown10 hg10 hfr10
                    have hlo : ∀ q, (Value.slice A1 n2 c1).ownBlock = some q → W5.heap.size ≤ q := fun q hq => (owns_lt2 HO.out hq).1
                    have HBw8c10 := Lib.hid (show Below W5.heap.size W5 w8c10 from HBw7b9.out.grown hg10 (Nat.le_trans (Nat.le_refl _) HBw7b9.out.size) hlo)
                    have hBB : Below B _ w8c10 := (Below.refl B _).grown hg10 (Nat.le_trans hB5 (Nat.le_trans (Nat.le_refl _) HBw7b9.out.size)) (fun q hq => Nat.le_trans hB5 (hlo q hq))
                    have hL : TysV w8c10 W5.heap.size B v10 (l2 ++ localsT d.ty) := TysV.app HN2.out HM9.out hown10 (fun i hi => (HTY5.out i hi).under (HBw8c10.out.mono hB5)) (fun i hi => (ht9 i hi).under hBB)
                    obtain ⟨A10, c10, f10, rfl, -⟩ := hL.atN (show (l2 ++ localsT d.ty).length = n2 + m9 by rw [List.length_append, HN2.out, HM9.out])
                    have HLL := Lib.hid hL
                    clear hown10 hg10 hfr10 hlo hBB hL hr9 ht9 ho9 HO HV
                    refine hK.out _ _ (Until.offT (by kernel_rfl)) (fun hV => ?_)
                    clear hK K
                    clear hU; have hU := hV; clear hV
                    try simp only [Act.put, aput]
                    refine AnyU.take (i := 11) (v := ?_) rfl (by kernel_rfl) (by kernel_rfl) (by kernel_rfl) (fun _ _ _ h => h) (by kernel_rfl) (by assumption) (by rfl) ?_ (fun hV => ?_)
                    rotate_left 1
                    · (intro wq; go_simp; try with_reducible rfl)
                    clear hU; have hU := hV; clear hV
                    try simp only [Act.put, aput]
                    refine AnyU.done (by kernel_rfl) ?_
                    go_wp2_with fail
                    go_roundg (2000 * (out2.set j true).count false + ((n2 + m9) - (k + 1)))
                    case rel => exact ⟨l2 ++ localsT d.ty, out2.set j true, true, k + 1, rfl, by go_num, by rw [List.length_append, HN2.out]; omega, HFIN.out _ _ HBw8c10.out HLL.out, fun h => (by cases h), by have := HCH.out; have := HCT.out; revert this; cases bb <;> simp <;> omega, by rw [List.length_append, HN2.out, HM9.out]⟩
                    case measure => have := HCH.out; have := HN2.out; omega
                · have HHIT := Lib.hid (HNX.out (fun _ j' hj' => by rw [HFD.out] at hj'; injection hj' with hj'; subst hj'; exact hov))
                  clear hov p1
                  go_wp2_with fail
                  go_roundg (2000 * out2.count false + (n2 - (k + 1)))
                  case rel => exact ⟨l2, out2, bb, k + 1, rfl, by go_num, by rw [HN2.out]; omega, HS2.out, HHIT.out, HCT.out, by rw [HN2.out]⟩
                  case measure => have := HN2.out; omega
        · obtain rfl : k = n2 := by omega
          have hkI : ¬ (k : Int) < (k : Int) := by omega
          clear hlt
          go_wp2_with fail
          go_roundg (2 * out2.count false + (if bb then 1 else 0))
          case rel => exact ⟨l2, out2, bb, rfl, HS.out, fun hb x hx => by
            obtain ⟨j, hj, rfl⟩ := List.getElem_of_mem hx
            exact HDN.out hb j hj (by rw [← HN2.out]; exact hj), rfl⟩
          case measure =>
            have := HCT.out
            revert this
            cases bb <;> simp <;> omega
end Go.Proofs.YtjeldfipipkfiaaGreatDoor
