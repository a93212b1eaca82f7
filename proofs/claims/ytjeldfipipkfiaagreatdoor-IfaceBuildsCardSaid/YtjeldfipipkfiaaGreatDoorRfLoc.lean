/- The contracts of merlonref07.Find, Known and Locals. -/
import Derived.Test.YtjeldfipipkfiaaGreatDoorGMent
import Derived.Test.YtjeldfipipkfiaaGreatDoorRfSyn
import Derived.Test.YtjeldfipipkfiaaGreatDoorGIdx
import Derived.Test.YtjeldfipipkfiaaGreatDoorGBldS
namespace Go.Proofs.YtjeldfipipkfiaaGreatDoor
open Go.RowKit
set_option linter.unusedSimpArgs false
set_option linter.unusedVariables false
set_option maxRecDepth 100000 in
set_option maxHeartbeats 8000000 in
theorem rFindD_c (m : Mdl) (nm : ByteArray) (ia : Option Addr) (ic : Nat) (da : Option Addr) (dc B : Nat) (w : World) (hm : MdlC w B m ia ic da dc) (hB : B ≤ w.heap.size) (hl : m.decls.length ≤ 1000000) :
    Calls Tryz.prog 104 #[.agg (mdlCells m ia ic da dc), .string nm] w fun e w' => e = .returned (.int .i64 (idxP (isT nm) m.decls)) ∧ Below w.heap.size w w' := by
  obtain ⟨v, hv⟩ : ∃ v, idxP (isT nm) m.decls = v := ⟨_, rfl⟩
  rw [hv]
  have HV := Lib.hid hv
  have HM := Lib.hid hm
  clear hv hm
  simp only [mdlCells]
  go_enter Tryz.func104, Tryz.ntmps104
  go_upto_region 1 with fail
  obtain ⟨W1, hWq, b1, hb1, hz1⟩ := laidNX w #[.string m.name, .slice ia m.imps.length ic, .slice da m.decls.length dc] 25
  rewrite [← hWq]; clear hWq
  obtain ⟨x0, x1, x2⟩ := cellsT3 b1
  have lg0 := b1.lt
  have B1 := Lib.hid hb1
  have HD := Lib.hid (HM.out.decls.under (hb1.mono hB))
  have hB1 : B ≤ W1.heap.size := Nat.le_trans hB hb1.size
  clear b1 hb1 hz1
  go_wp2
  go_loop [5] (fun iv => ∃ k : Nat, k ≤ m.decls.length ∧ iv = .int .i64 k ∧ ∀ i (h : i < m.decls.length), i < k → isT nm m.decls[i] = false) (fun iv => m.decls.length - (intOf iv).toNat)
  case atStart => exact ⟨0, Nat.zero_le _, rfl, fun i _ hi => absurd hi (by omega)⟩
  case round =>
    obtain ⟨k, hk, rfl, hall⟩ := hrel
    have HA := Lib.hid hall
    clear hall
    by_cases hlt : k < m.decls.length
    · obtain ⟨d, hd⟩ : ∃ d, m.decls[k] = d := ⟨_, rfl⟩
      obtain ⟨hfd, bd, od, na, nc, sa, sc, hda, hbd, htd, e0, e1, -⟩ := HD.out.elem hlt hd
      obtain rfl := hda
      have hltI : (k : Int) < (m.decls.length : Int) := by omega
      have hk0 : (0 : Int) ≤ (k : Int) := by omega
      have lbd : bd < W1.heap.size := by omega
      have HDD := Lib.hid hd
      clear hd hfd htd
      have hnext : isT nm d = false → ∀ i (h : i < m.decls.length), i < k + 1 → isT nm m.decls[i] = false := fun hf i hi hik => by
        by_cases e : i = k
        · subst e; rw [HDD.out]; exact hf
        · exact HA.out i hi (by omega)
      have HN := Lib.hid hnext
      clear hnext
      cases h4 : (d.kind == 4)
      · have h4n : (d.kind != 4) = true := by rw [bne, h4]; rfl
        cases hn : (d.name.toList == nm.toList)
        · have HF := Lib.hid (HN.out (by rw [isT, hn]; simp))
          go_wp2_with fail
          exact ⟨⟨k + 1, by omega, by go_num, HF.out⟩, by simp [intOf]; omega⟩
        · have hr := HV.out.symm.trans (idxP_hit hlt HA.out (by rw [HDD.out, isT, h4n, hn]; rfl))
          subst hr
          go_wp2_with fail
          go_ret
          exact ⟨rfl, B1.out⟩
      · have h4n : (d.kind != 4) = false := by rw [bne, h4]; rfl
        have HF := Lib.hid (HN.out (by rw [isT, h4n]; rfl))
        go_wp2_with fail
        exact ⟨⟨k + 1, by omega, by go_num, HF.out⟩, by simp [intOf]; omega⟩
    · obtain rfl : k = m.decls.length := by omega
      have hltI : ¬ (m.decls.length : Int) < (m.decls.length : Int) := by omega
      have hr := HV.out.symm.trans (idxP_miss fun i hi => HA.out i hi hi)
      subst hr
      go_wp2_with fail
      go_ret
      exact ⟨rfl, B1.out⟩
set_option maxRecDepth 100000 in
set_option maxHeartbeats 8000000 in
theorem rKnown_c (m : Mdl) (ia : Option Addr) (ic : Nat) (da : Option Addr) (dc B : Nat) (t : Ty) (na : Option Addr) (nc : Nat) (sa : Option Addr) (sc : Nat) (w : World) (hm : MdlC w B m ia ic da dc) (hB : B ≤ w.heap.size) (hl : m.decls.length ≤ 1000000) :
    Calls Tryz.prog 75 #[.agg (mdlCells m ia ic da dc), .agg (tyCells t na nc sa sc)] w fun e w' => e = .returned (.bool (knownL m t)) ∧ Below w.heap.size w w' := by
  obtain ⟨v, hv⟩ : ∃ v, knownL m t = v := ⟨_, rfl⟩
  rw [hv]
  have HV := Lib.hid hv
  have HM := Lib.hid hm
  have hfi := fun W (hb : Below w.heap.size w W) => rFindD_c m t.name ia ic da dc B W (hm.under (hb.mono hB)) (Nat.le_trans hB hb.size) hl
  clear hv hm
  simp only [mdlCells, tyCells] at hfi ⊢
  have HFI := Lib.hid hfi
  clear hfi
  go_enter Tryz.func75, Tryz.ntmps75
  go_upto_region 1 with fail
  have z1 : (w.alloc (.cells #[.string m.name, .slice ia m.imps.length ic, .slice da m.decls.length dc] 25)).heap.size = w.heap.size + 1 := by simp
  obtain ⟨b1, hb1, hz3⟩ := laidN w #[.string m.name, .slice ia m.imps.length ic, .slice da m.decls.length dc] 25
  obtain ⟨b2, hb2, hz4⟩ := laidN (w.alloc (.cells #[.string m.name, .slice ia m.imps.length ic, .slice da m.decls.length dc] 25)) #[.int .i64 t.kind, .string t.pkg, .int .i64 t.major, .string t.mod, .string t.name, .slice na t.names.length nc, .slice sa t.subs.length sc] 29
  have b3 := b1.under hb2 b1.lt
  have hb3 := hb1.trans (hb2.mono hb1.size)
  rw [z1] at b2 hz4
  clear b1 hb1 hb2 hz3 z1
  generalize (w.alloc (.cells #[.string m.name, .slice ia m.imps.length ic, .slice da m.decls.length dc] 25)).alloc (.cells #[.int .i64 t.kind, .string t.pkg, .int .i64 t.major, .string t.mod, .string t.name, .slice na t.names.length nc, .slice sa t.subs.length sc] 29) = W at b3 b2 hb3 hz4 ⊢
  have B0 := Lib.hid hb3
  obtain ⟨x0, x1, x2⟩ := cellsT3 b3
  obtain ⟨y0, y1, y2, y3, y4, y5, y6⟩ := cellsT7 b2
  have l1 := b3.lt
  have l2 := b2.lt
  have P1 := Lib.hid b3
  have P2 := Lib.hid b2
  have HI := Lib.hid (HM.out.imps.under (hb3.mono hB))
  have hBW : B ≤ W.heap.size := Nat.le_trans hB hb3.size
  have hil := HM.out.nImps
  unfold maxLen at hil
  clear b3 b2 hb3 hz4
  cases hmod : t.mod.toList.isEmpty
  · have hk : (m.imps.any fun x => x.asN.toList == t.mod.toList) = v := by rw [← HV.out, knownL, if_neg (by rw [hmod]; decide)]
    have HK := Lib.hid hk
    clear hk
    go_upto_region 3 with fail
    clear x0 x1 x2 y0 y1 y2 y3 y4 y5 y6 l1 l2
    go_wp2
    go_loopw [5] (fun iv wz => ∃ k : Nat, k ≤ m.imps.length ∧ iv = .int .i64 k ∧ (∀ i (h : i < m.imps.length), i < k → (m.imps[i].asN.toList == t.mod.toList) = false) ∧ Below W.heap.size W wz) (fun iv _ => m.imps.length - (intOf iv).toNat)
    case atStart => exact ⟨0, Nat.zero_le _, rfl, fun i _ hi => absurd hi (by omega), Below.refl _ _⟩
    case round =>
      rename World => wr
      obtain ⟨k, hk, rfl, hall, hbr⟩ := hrel
      have HA := Lib.hid hall
      have BK := Lib.hid hbr
      have BW := Lib.hid (B0.out.trans (hbr.mono B0.out.size))
      have r1 := P1.out.under hbr P1.out.lt
      have r2 := P2.out.under hbr P2.out.lt
      have HI := Lib.hid (HM.out.imps.under (BW.out.mono hB))
      clear hall hbr
      obtain ⟨x0, x1, x2⟩ := cellsT3 r1
      obtain ⟨y0, y1, y2, y3, y4, y5, y6⟩ := cellsT7 r2
      have l1 := r1.lt
      have l2 := r2.lt
      clear r1 r2
      by_cases hlt : k < m.imps.length
      · obtain ⟨x, hx⟩ : ∃ x, m.imps[k] = x := ⟨_, rfl⟩
        obtain ⟨hfx, bi, oi, hia, hbi, c0, c1, c2, c3⟩ := HI.out.elem hlt hx
        obtain rfl := hia
        have hltI : (k : Int) < (m.imps.length : Int) := by omega
        have hk0 : (0 : Int) ≤ (k : Int) := by omega
        have hsz := BW.out.size
        have lbi : bi < wr.heap.size := by omega
        have HX := Lib.hid hx
        clear hx hfx hsz
        cases hn : (x.asN.toList == t.mod.toList)
        · have HF := Lib.hid (show ∀ i (h : i < m.imps.length), i < k + 1 → (m.imps[i].asN.toList == t.mod.toList) = false from fun i hi hik => by
            by_cases e : i = k
            · subst e; rw [HX.out]; exact hn
            · exact HA.out i hi (by omega))
          go_upto_region 6 with fail
          go_quiet (fail)
          go_wp2_with fail
          first
            | exact ⟨⟨k + 1, by omega, by go_num, HF.out, below_drewN BK.out _⟩, by simp [intOf]; omega⟩
            | (go_roundw
               case rel => exact ⟨k + 1, by omega, by go_num, HF.out, below_drewN BK.out _⟩
               case measure => simp [intOf]; omega)
        · have hr : v = true := by
            rw [← HK.out, List.any_eq_true]
            exact ⟨_, List.getElem_mem hlt, by rw [HX.out]; exact hn⟩
          subst hr
          go_upto_region 6 with fail
          go_quiet (fail)
          go_wp2_with fail
          go_ret
          exact ⟨rfl, below_drewN BW.out _⟩
      · obtain rfl : k = m.imps.length := by omega
        have hltI : ¬ (m.imps.length : Int) < (m.imps.length : Int) := by omega
        have hr : v = false := by
          rw [← HK.out, List.any_eq_false]
          intro x hx
          obtain ⟨i, hi, rfl⟩ := List.getElem_of_mem hx
          rw [HA.out i hi hi]; decide
        subst hr
        go_wp2_with fail
        go_ret
        exact ⟨rfl, BW.out⟩
  · have hk : hasD m.decls t.name = v := by rw [← HV.out, knownL, if_pos hmod]
    have hge : decide (idxP (isT t.name) m.decls ≥ 0) = v := by
      rw [← hk]
      cases hh : hasD m.decls t.name
      · rw [has_no (by rw [hh]; decide)]; rfl
      · have := has_idx hh; simpa using this
    obtain ⟨q, hq⟩ : ∃ q, idxP (isT t.name) m.decls = q := ⟨_, rfl⟩
    simp only [hq] at HFI
    rw [hq] at hge
    clear hk hq
    go_wp2_with (go_at_call 104; refine (HFI.out _ B0.out).mono ?_; rintro e w3 ⟨rfl, hb⟩; have B3 := Lib.hid (B0.out.trans (hb.mono B0.out.size)); clear hb)
    go_ret
    first
      | exact ⟨rfl, B3.out⟩
      | exact ⟨ret_b hge, B3.out⟩
/-! Locals -/
theorem localsL_len : ∀ {l : List Ty}, (∀ s ∈ l, ((localsT s).length : Int) ≤ manyT s) → ((localsL l).length : Int) ≤ manyL l
  | [], _ => by rw [localsL, manyL]; simp
  | s :: l, h => by
    rw [localsL, manyL, List.length_append]
    have h1 := h s (by simp)
    have h2 := localsL_len (l := l) fun x hx => h x (by simp [hx])
    omega
theorem locals_many (t : Ty) : ((localsT t).length : Int) ≤ manyT t := by
  induction t using Ty.ind with
  | h t ih =>
    rw [localsT_eq, manyT_eq, List.length_append]
    have := localsL_len ih
    split
    · simp; omega
    · simp; omega
theorem infoTy : ((Tryz.prog).info? 29).map (fun i => (i.zero, i.size, i.bytes)) = some (some (.agg #[.int .i64 0, .string { data := #[] }, .int .i64 0, .string { data := #[] }, .string { data := #[] }, .slice none 0 0, .slice none 0 0]), 7, 112) := by kernel_rfl
def TysV (w : World) (base B : Nat) (v : Value) (L : List Ty) : Prop := ∃ f, w.ownsRow base 29 7 v L.length (flatK f L.length) ∧ ∀ i (h : i < L.length), TyC w B L[i] (f i)
theorem TysV.nil (w : World) (base B : Nat) : TysV w base B (.slice none 0 0) [] := ⟨fun _ => #[], World.ownsRow_nil w _ _ _, fun i h => by simp at h⟩
theorem TyC.size7 {w : World} {B : Nat} {t : Ty} {cs : Array Value} (h : TyC w B t cs) : cs.size = 7 := by obtain ⟨_, _, _, _, _, rfl, -⟩ := h.inv; rfl
theorem TyC.one7 {w : World} {B : Nat} {t : Ty} {cs : Array Value} (h : TyC w B t cs) : ∀ u ∈ cs.toList, u.oneCell' = true := by obtain ⟨_, _, _, _, _, rfl, -⟩ := h.inv; simp [tyCells, Value.oneCell']
theorem TysV.keep {w w' : World} {base B : Nat} {v : Value} {L : List Ty} (h : TysV w base B v L) (hk : ∀ g, v.ownBlock = some g → w'.heap[g]? = w.heap[g]?) (hb : Below B w w') : TysV w' base B v L := by
  obtain ⟨f, h1, h2⟩ := h
  exact ⟨f, owns_keep h1 hk, fun i hi => (h2 i hi).under hb⟩
theorem TysV.under {w w' : World} {base B : Nat} {v : Value} {L : List Ty} (h : TysV w base B v L) (hb : Below w.heap.size w w') (hB : B ≤ w.heap.size) : TysV w' base B v L := by
  have hrow := h
  obtain ⟨f, h1, -⟩ := hrow
  exact h.keep (fun g hg => hb.block g (owns_lt h1 hg).2) (hb.mono hB)
theorem TysV.app {w : World} {base B n m : Nat} {v : Value} {L L' : List Ty} {f f' : Nat → Array Value} (e : L.length = n) (e' : L'.length = m) (h : w.ownsRow base 29 7 v (n + m) (flatK f n ++ flatK f' m)) (h1 : ∀ i (h : i < L.length), TyC w B L[i] (f i)) (h2 : ∀ i (h : i < L'.length), TyC w B L'[i] (f' i)) : TysV w base B v (L ++ L') := by
  subst e e'
  rw [flatK_app] at h
  refine ⟨_, by rw [List.length_append]; exact h, fun i hi => ?_⟩
  rw [List.length_append] at hi
  by_cases e : i < L.length
  · rw [List.getElem_append_left e]; simp only [if_pos e]; exact h1 i e
  · rw [List.getElem_append_right (by omega)]; simp only [if_neg e]; exact h2 (i - L.length) (by omega)
theorem TysV.at {w : World} {base B : Nat} {v : Value} {L : List Ty} (h : TysV w base B v L) : ∃ A c f, v = .slice A L.length c ∧ L.length ≤ c ∧ RowsK 7 w w.heap.size A L.length f ∧ (∀ i (h : i < L.length), TyC w B L[i] (f i)) ∧ w.ownsRow base 29 7 v L.length (flatK f L.length) := by
  obtain ⟨f, h1, h2⟩ := h
  obtain ⟨A, c, e1, e2, e3⟩ := own_rows h1 fun i hi => (h2 i hi).size7
  exact ⟨A, c, f, e1, e2, e3, h2, h1⟩
theorem wpList_append_row {P : Program} {w : World} {ops : Array Oper} {rest : List Oper} {o : Oper} {a : Act} {Q : Exit → Act → World → Prop} (hgd : o.guard = none) (s x : Operand) (t : TypeId)
    (ho : o.op = .call { callee := .builtin .append, args := #[s, x], argTypes := #[t, t] })
    (base : Nat) (e : TypeId) (i : TypeInfo) (z : Value) (size bytes : Nat) (ht : P.underlying t = some (.slice e)) (hi : P.info? e = some i) (hz : i.zero = some z)
    (hsize : i.size = size) (hby : i.bytes = bytes) (hzs : z.cells.size = size) (hsz : 0 < size)
    (v : Value) (n : Nat) (xs : List Value) (hs : a.eval s = v) (hown : w.ownsRow base e size v n xs)
    (ad : Option Addr) (m c : Nat) (f : Nat → Array Value) (hx : a.eval x = .slice ad m c) (hrows : RowsK size w w.heap.size ad m f) (hsf : ∀ i, i < m → (f i).size = size) (h1 : ∀ i, i < m → ∀ u ∈ (f i).toList, u.oneCell' = true)
    (h63 : n + m ≤ maxLen) (hbytes : (n + m) * bytes ≤ 140737488355328) (hbase : base ≤ w.heap.size)
    (h : ∀ v' w', w'.ownsRow base e size v' (n + m) (xs ++ flatK f m) → w.grownBy w' v.ownBlock → (v'.ownBlock = v.ownBlock ∨ ∀ g, v'.ownBlock = some g → w.heap.size ≤ g) → wpList P ops Q rest (a.put o.dst v') w') : wpList P ops Q (o :: rest) a w := by
  cases ad with
  | none =>
    have hm : m = 0 := by
      rcases hrows with h | ⟨b, o, h, -⟩
      · exact h
      · cases h
    subst hm
    exact wpList_append_noneC hgd s x t ho base e i size ht hi v n xs hs hown 0 c hx rfl (h v w (by simpa [flatK] using hown) ⟨rfl, rfl, rfl, Nat.le_refl _, fun _ _ _ => rfl⟩ (.inl rfl))
  | some a0 => exact wpList_append_own2 hgd s x t ho base e i z size bytes ht hi hz hsize hby hzs hsz v n xs hs hown a0 m c (flatK f m) hx (flatK_len hsf) (rows_src hsz hrows hsf) (flatK_one (K := size) h1) h63 hbytes hbase h
theorem own_base {w : World} {base base' e size n : Nat} {v : Value} {xs : List Value} (h : w.ownsRow base e size v n xs) (hb : base' ≤ base) : w.ownsRow base' e size v n xs := by
  refine ⟨h.1, ?_⟩
  rcases h.2 with h2 | ⟨g, cap, cur, h1, h2, h3⟩
  · exact .inl h2
  · exact .inr ⟨g, cap, cur, h1, by omega, h3⟩
theorem TysV.base {w : World} {base base' B : Nat} {v : Value} {L : List Ty} (h : TysV w base B v L) (hb : base' ≤ base) : TysV w base' B v L := by
  obtain ⟨f, h1, h2⟩ := h
  exact ⟨f, own_base h1 hb, h2⟩
theorem TysV.atN {w : World} {base B n : Nat} {v : Value} {L : List Ty} (h : TysV w base B v L) (e : L.length = n) : ∃ A c f, v = .slice A n c ∧ RowsK 7 w w.heap.size A n f ∧ (∀ i (h : i < L.length), TyC w B L[i] (f i)) ∧ w.ownsRow base 29 7 (.slice A n c) n (flatK f n) := by
  subst e
  obtain ⟨A, c, f, rfl, h2, h3, h4, h5⟩ := h.at
  exact ⟨A, c, f, rfl, h3, h4, h5⟩
theorem locals_part (t : Ty) {k : Nat} (h : k < t.subs.length) : ((if t.kind = 8 then [t] else []) ++ localsL (t.subs.take k)).length + (localsT t.subs[k]).length ≤ (localsT t).length := by
  have e : localsL t.subs = localsL (t.subs.take (k + 1)) ++ localsL (t.subs.drop (k + 1)) := by rw [← localsL_app, List.take_append_drop]
  rw [localsT_eq t, e, localsL_succ h]
  simp only [List.length_append]
  omega
set_option maxRecDepth 100000 in
set_option maxHeartbeats 8000000 in
theorem rLocals_c (t : Ty) : ∀ (cs : Array Value) (B : Nat) (w : World), TyC w B t cs → B ≤ w.heap.size → manyT t ≤ 1000000 →
    Calls Tryz.prog 74 #[.agg cs] w fun e w' => ∃ v, e = .returned v ∧ TysV w' w.heap.size B v (localsT t) ∧ Below w.heap.size w w' := by
  obtain ⟨i0, hi, hz0, hz1, hz2⟩ := info_parts infoTy
  induction t using Ty.ind with
  | h t ih =>
    intro cs B w ht hB hmt
    have hll := locals_many t
    have hln : (localsT t).length ≤ 1000000 := by omega
    have hpart : ∀ k (h : k < t.subs.length), ((if t.kind = 8 then [t] else []) ++ localsL (t.subs.take k)).length + (localsT t.subs[k]).length ≤ 1000000 := fun k h => Nat.le_trans (locals_part t h) hln
    have HPART := Lib.hid hpart
    have HMS := Lib.hid (fun k (h : k < t.subs.length) => (show manyT t.subs[k] ≤ 1000000 from by have e := manyL_mem (List.getElem_mem h); have e2 := manyT_eq t; omega))
    have IH := Lib.hid ih
    obtain ⟨na, nc, sa, sc, f, rfl, hf, hn, hs, hnc, hsc, hsub⟩ := ht.inv
    have HT := Lib.hid ht
    have HS := Lib.hid hs
    have HU := Lib.hid hsub
    have HL := Lib.hid (localsT_eq t)
    have hnm := hf.subs
    have HOT := Lib.hid ht.one7
    unfold maxLen at hnm
    clear hs hsub ih hn hf ht hpart hln hll hmt
    simp only [tyCells] at HOT ⊢
    go_enter Tryz.func74, Tryz.ntmps74
    go_upto_region 1 with fail
    obtain ⟨W, hWq, b1, hb1, hz3⟩ := laidNX w #[.int .i64 t.kind, .string t.pkg, .int .i64 t.major, .string t.mod, .string t.name, .slice na t.names.length nc, .slice sa t.subs.length sc] 29
    rewrite [← hWq]; clear hWq
    have P1 := Lib.hid b1
    have B0 := Lib.hid hb1
    have hBW : B ≤ W.heap.size := Nat.le_trans hB hb1.size
    obtain ⟨x0, x1, x2, x3, x4, x5, x6⟩ := cellsT7 b1
    have l1 := b1.lt
    clear b1 hb1 hz3
    go_upto_if 7 with fail
    go_cut [3, 8, 9, 10, 11] (fun v _ _ _ _ wx => TysV wx W.heap.size B v (if t.kind = 8 then [t] else []) ∧ Below W.heap.size W wx)
    case first =>
      by_cases h8 : t.kind = 8
      · have hc8 : (t.kind == 8) = true := by simp [h8]
        have H8 := Lib.hid h8
        clear h8
        go_wp2_with (at_builtin; refine wpList_append_own _ rfl _ _ 27 rfl W.heap.size 29 i0 (.agg #[.int .i64 0, .string { data := #[] }, .int .i64 0, .string { data := #[] }, .string { data := #[] }, .slice none 0 0, .slice none 0 0]) 7 112 Tryz.underlying27 hi hz0 hz1 hz2 rfl (by decide) _ 0 [] rfl (World.ownsRow_nil _ W.heap.size _ 7) ⟨W.heap.size, 0, none⟩ 1 1 (tyCells t na nc sa sc).toList rfl ?qc1 ?qc2 ?qc3 ?qc4 ?qc5 ?qc6 ?_)
        case qc1 => rfl
        case qc2 =>
          intro j u hj
          rw [addN, Nat.zero_add, World.cell?_alloc_new]
          simpa [tyCells] using hj
        case qc3 => exact HOT.out
        case qc4 => unfold maxLen; omega
        case qc5 => omega
        case qc6 => simp
        intro v' w7 hown7 hgrow hnil
        have hb7 : Below W.heap.size W w7 := ((Below.refl W.heap.size W).alloc (Nat.le_refl _) (.cells #[.int .i64 t.kind, .string t.pkg, .int .i64 t.major, .string t.mod, .string t.name, .slice na t.names.length nc, .slice sa t.subs.length sc] 29)).grown hgrow (by simp) (fun q hq => by simp [Value.ownBlock] at hq)
        have HB7 := Lib.hid hb7
        have HW7 := Lib.hid hown7
        clear hb7 hown7 hgrow hnil
        go_wp2_with fail
        go_meet
        refine ⟨?_, HB7.out⟩
        rw [if_pos H8.out]
        refine ⟨fun _ => tyCells t na nc sa sc, by have := HW7.out; simpa [flatK] using this, fun i hi => ?_⟩
        have hi0 : i = 0 := by simpa using hi
        subst hi0
        exact HT.out.under ((B0.out.mono hB).trans (HB7.out.mono hBW))
      · have hc8 : (t.kind == 8) = false := by simp [h8]
        have H8 := Lib.hid h8
        clear h8
        go_wp2_with fail
        go_meet
        refine ⟨?_, Below.refl _ _⟩
        rw [if_neg H8.out]
        exact TysV.nil _ _ _
    case rest =>
      rename World => wx
      obtain ⟨hv, hbx⟩ := hcut
      generalize (if t.kind = 8 then [t] else []) = X at hv HPART HL
      have HV := Lib.hid hv
      have HBX := Lib.hid hbx
      clear hv hbx x0 x1 x2 x3 x4 x5 x6 l1
      go_wp2
      go_loopw [3, 4] (fun v i wr => ∃ k : Nat, k ≤ t.subs.length ∧ i = .int .i64 k ∧ TysV wr W.heap.size B v (X ++ localsL (t.subs.take k)) ∧ Below W.heap.size W wr) (fun _ i _ => t.subs.length - (intOf i).toNat)
      case atStart => exact ⟨0, Nat.zero_le _, rfl, by simpa [localsL] using HV.out, HBX.out⟩
      case round =>
        obtain ⟨k, hk, rfl, hv, hbr⟩ := hrel
        have BR := Lib.hid hbr
        have hp1 := P1.out.under hbr P1.out.lt
        obtain ⟨x0, x1, x2, x3, x4, x5, x6⟩ := cellsT7 hp1
        have l1 := hp1.lt
        clear hbr hp1
        by_cases hlt : k < t.subs.length
        · have hbe : Below B w wr := (B0.out.mono hB).trans (BR.out.mono hBW)
          have hTk := (HU.out k hlt).under hbe
          obtain ⟨b, o, na', nc', sa', sc', rfl, hbb, hfk, c0, c1, c2, c3, c4, c5, c6⟩ := TyC.elem (HS.out.keep fun p hp => hbe.cell (p := p) hp) hlt hTk
          rw [hfk] at hTk
          have hBr : B ≤ wr.heap.size := Nat.le_trans hBW BR.out.size
          have HC := Lib.hid (IH.out t.subs[k] (List.getElem_mem hlt) _ B wr hTk hBr (HMS.out k hlt))
          have hltI : (k : Int) < (t.subs.length : Int) := by omega
          have hk0 : (0 : Int) ≤ (k : Int) := by omega
          have lb : b < wr.heap.size := by omega
          clear hTk hfk hbe
          have hsum := HPART.out k hlt
          obtain ⟨n, hn⟩ : ∃ n, (X ++ localsL (t.subs.take k)).length = n := ⟨_, rfl⟩
          obtain ⟨m, hm⟩ : ∃ m, (localsT t.subs[k]).length = m := ⟨_, rfl⟩
          rw [hn, hm] at hsum
          obtain ⟨A1, d1, f1, rfl, -, hty1, hown1⟩ := hv.atN hn
          have HO1 := Lib.hid hown1
          have HT1 := Lib.hid hty1
          have HN := Lib.hid hn
          have HM := Lib.hid hm
          clear hn hm hv hown1 hty1
          go_wp2_with (first | (at_builtin; refine wpList_append_row rfl _ _ 27 rfl W.heap.size 29 i0 (.agg #[.int .i64 0, .string { data := #[] }, .int .i64 0, .string { data := #[] }, .string { data := #[] }, .slice none 0 0, .slice none 0 0]) 7 112 Tryz.underlying27 hi hz0 hz1 hz2 rfl (by decide) _ n (flatK f1 n) rfl HO2.out A2 m c2' f2 rfl HRW.out (fun i hi => (HT2.out i (by rw [HM.out]; exact hi)).size7) (fun i hi => (HT2.out i (by rw [HM.out]; exact hi)).one7) (by unfold maxLen; omega) (by omega) hs2 ?_) | (go_at_call 74; refine HC.out.mono ?_; rintro e w2 ⟨v2, rfl, hv2, hb2⟩; obtain ⟨A2, c2', f2, rfl, hrows, htys, -⟩ := hv2.atN HM.out; have B2 := Lib.hid (BR.out.trans (hb2.mono BR.out.size)); have HO2 := Lib.hid (owns_keep HO1.out fun g hg => hb2.block g (owns_lt2 HO1.out hg).2); have HT1' := Lib.hid (fun i h => (HT1.out i h).under (hb2.mono hBr)); have HT2 := Lib.hid htys; have HRW := Lib.hid hrows; have hs2 := B2.out.size; clear hv2 hb2 htys hrows x0 x1 x2 x3 x4 x5 x6 c0 c1 c2 c3 c4 c5 c6))
          intro v3 w3 hown3 hg3 hfr3
          have hb3 : Below W.heap.size W w3 := B2.out.grown hg3 B2.out.size (fun q hq => (owns_lt2 HO2.out hq).1)
          have hbB : Below B w2 w3 := (Below.refl B w2).grown hg3 (Nat.le_trans hBW hs2) (fun q hq => Nat.le_trans hBW (owns_lt2 HO2.out hq).1)
          have HB3 := Lib.hid hb3
          have HBB := Lib.hid hbB
          have HO3 := Lib.hid hown3
          clear hb3 hbB hown3 hg3 hfr3
          go_wp2_with fail
          go_roundw
          case rel =>
            refine ⟨k + 1, by omega, by go_num, ?_, HB3.out⟩
            rw [localsL_succ hlt, ← List.append_assoc]
            exact TysV.app HN.out HM.out HO3.out (fun i hi => (HT1'.out i hi).under HBB.out) (fun i hi => (HT2.out i hi).under HBB.out)
          case measure => simp [intOf]; omega
        · obtain rfl : k = t.subs.length := by omega
          have hltI : ¬ (t.subs.length : Int) < (t.subs.length : Int) := by omega
          rw [List.take_length] at hv
          have HR := Lib.hid hv
          clear hv
          go_wp2_with fail
          go_ret
          refine ⟨_, rfl, ?_, B0.out.trans (BR.out.mono B0.out.size)⟩
          rw [HL.out]
          exact HR.out.base B0.out.size
end Go.Proofs.YtjeldfipipkfiaaGreatDoor
