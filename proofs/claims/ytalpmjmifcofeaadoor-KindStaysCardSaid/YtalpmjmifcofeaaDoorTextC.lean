/- The contract of kind.text: the text of an allowed type; the premise: strconv's table is as laid. -/
import Derived.Test.YtalpmjmifcofeaaDoorListC
import Derived.Test.YtalpmjmifcofeaaDoorRegM
import Derived.Deep.DeepCutAuto
namespace Go.Proofs.YtalpmjmifcofeaaDoor
open Go.RowKit
set_option linter.unusedSimpArgs false
set_option linter.unusedVariables false
theorem may_v {t : Ty} (h : mayT t = true) : V t ∧ manyT t ≤ 500 := by
  have h' := h
  rw [may_is, mayR, Bool.and_eq_true, Bool.and_eq_true, decide_eq_true_eq, decide_eq_true_eq] at h'
  exact ⟨view 32 t h'.2 h, h'.1.2⟩
theorem itoa_ba (n : Int) (h0 : -9223372036854775808 ≤ n) (h1 : n ≤ 9223372036854775807) (w : World) (htab : TabW w) :
    Calls Tryd.prog 30 #[.int .i64 n] w fun e w' => e = .returned (.string (ba (Lib.itoa n))) ∧ Below w.heap.size w w' := itoa_c n h0 h1 w htab
theorem ba_app (l l' : List UInt8) : ba (l ++ l') = ba l ++ ba l' := bl_inj (by rw [bl_add, bl_ba, bl_ba, bl_ba])
theorem wrap_eq (c d : UInt8) (l X : List UInt8) (h : X = c :: (l ++ [d])) : Value.string ({ data := #[c] } ++ ba l ++ { data := #[d] }) = .string (ba X) := by
  rw [h, show c :: (l ++ [d]) = [c] ++ l ++ [d] from by simp, ba_app, ba_app]
  rfl
theorem wrap_list (l X : List UInt8) (h : X = [76, 105, 115, 116] ++ ([40] ++ (l ++ [41]))) : Value.string ({ data := #[76, 105, 115, 116, 40] } ++ ba l ++ { data := #[41] }) = .string (ba X) := by
  rw [h, show [76, 105, 115, 116] ++ ([40] ++ (l ++ [41])) = [76, 105, 115, 116, 40] ++ l ++ [41] from by simp, ba_app, ba_app]
  rfl
theorem Until.off {cs : List (Nat × (World → Prop))} {l : Array Bool} {w : World} (h : (cs.all fun x => l.getD x.1 true) = true) : Until cs l w := fun x hx hl => by
  have := List.all_eq_true.1 h x hx
  rw [hl] at this
  cases this
theorem wrap_far (p m n : ByteArray) (i X : List UInt8) (h : X = 60 :: (bl p ++ ([32] ++ (i ++ ([32] ++ (bl m ++ ([32] ++ (bl n ++ [62])))))))) :
    Value.string ({ data := #[60] } ++ p ++ { data := #[32] } ++ ba i ++ { data := #[32] } ++ m ++ { data := #[32] } ++ n ++ { data := #[62] }) = .string (ba X) := by
  apply congrArg Value.string
  apply bl_inj
  rw [bl_ba, h]
  simp only [bl_add, bl_ba]
  show ([60] ++ bl p ++ [32] ++ i ++ [32] ++ bl m ++ [32] ++ bl n ++ [62] : List UInt8) = _
  simp
theorem wrap_fn (i z X : List UInt8) (h : X = 40 :: (i ++ ([41, 32, 45, 62, 32] ++ z))) : Value.string ({ data := #[40] } ++ ba i ++ { data := #[41, 32, 45, 62, 32] } ++ ba z) = .string (ba X) := by
  apply congrArg Value.string
  apply bl_inj
  rw [bl_ba, h]
  simp only [bl_add, bl_ba]
  show ([40] ++ i ++ [41, 32, 45, 62, 32] ++ z : List UInt8) = _
  simp
theorem tx_int : tx (.mk 1 e0 0 e0 e0 [] []) = [73, 110, 116] := by simp [tx]
theorem tx_text : tx (.mk 2 e0 0 e0 e0 [] []) = [84, 101, 120, 116] := by simp [tx]
theorem tx_bool : tx (.mk 3 e0 0 e0 e0 [] []) = [66, 111, 111, 108] := by simp [tx]
set_option maxRecDepth 100000 in
set_option maxHeartbeats 8000000 in
theorem text_c (t : Ty) : mayT t = true → TextAt t := by
  induction t using Ty.ind with
  | h t ih =>
    intro hm cs B w ht hB htab
    have hI : ∀ s ∈ t.subs, TextAt s := fun s hs => ih s hs (may_child hm hs)
    have hS : ∀ s ∈ t.subs, V s ∧ manyT s ≤ 500 := fun s hs => may_v (may_child hm hs)
    have h20 := may_small hm
    have hv := (may_v hm).1
    have hX := tx_len (may_v hm).1
    have hM := (may_v hm).2
    obtain ⟨na, nc, sa, sc, f, rfl, -, hn, hs, hnc, hsc, hU⟩ := ht.inv
    have HI := Lib.hid hI
    have HS := Lib.hid hS
    have HT := Lib.hid htab
    have HN := Lib.hid hn
    have HR := Lib.hid hs
    have HU := Lib.hid hU
    have HX := Lib.hid hX
    obtain ⟨X, hXe⟩ : ∃ X, tx t = X := ⟨_, rfl⟩
    rw [hXe]
    have HE := Lib.hid hXe
    clear ih hI hS hm ht htab hn hs hU hX hXe
    cases hv with
    | int =>
      simp only [tyCells, Ty.kind, Ty.pkg, Ty.major, Ty.mod, Ty.name, Ty.names, Ty.subs, e0]
      go_enter Tryd.func22, Tryd.ntmps22
      go_wp2
      go_ret
      exact ⟨by rw [HE.out.symm.trans tx_int]; rfl, (Below.refl _ _).alloc (Nat.le_refl _) _⟩
    | text =>
      simp only [tyCells, Ty.kind, Ty.pkg, Ty.major, Ty.mod, Ty.name, Ty.names, Ty.subs, e0]
      go_enter Tryd.func22, Tryd.ntmps22
      go_wp2
      go_ret
      exact ⟨by rw [HE.out.symm.trans tx_text]; rfl, (Below.refl _ _).alloc (Nat.le_refl _) _⟩
    | bool =>
      simp only [tyCells, Ty.kind, Ty.pkg, Ty.major, Ty.mod, Ty.name, Ty.names, Ty.subs, e0]
      go_enter Tryd.func22, Tryd.ntmps22
      go_wp2
      go_ret
      exact ⟨by rw [HE.out.symm.trans tx_bool]; rfl, (Below.refl _ _).alloc (Nat.le_refl _) _⟩
    | here n h =>
      simp only [tyCells, Ty.kind, Ty.pkg, Ty.major, Ty.mod, Ty.name, Ty.names, Ty.subs, e0]
      go_enter Tryd.func22, Tryd.ntmps22
      go_wp2
      go_ret
      exact ⟨by rw [HE.out.symm.trans (tx_here n), ba_bl]; rfl, (Below.refl _ _).alloc (Nat.le_refl _) _⟩
    | there m n hmm h =>
      have hne : m ≠ { data := #[] } := fun e => by subst e; exact (small_all hmm).2.2.1 rfl
      have hb : (m.toList == []) = false := by rw [ByteArray.toList_eq]; have := (small_all hmm).2.1; simpa [bl] using this
      have l1 := small_len hmm
      have l2 := great_len h
      rw [bl_len] at l1 l2
      have e2 := tx_there m n (small_all hmm).2.2.1
      simp only [tyCells, Ty.kind, Ty.pkg, Ty.major, Ty.mod, Ty.name, Ty.names, Ty.subs, e0]
      go_enter Tryd.func22, Tryd.ntmps22
      go_wp2
      go_ret
      exact ⟨by rw [HE.out.symm.trans e2, ← List.append_assoc, ba_app, ba_app, ba_bl, ba_bl]; rfl, (Below.refl _ _).alloc (Nat.le_refl _) _⟩
    | list s h =>
      have e1 := tx_list s
      have hU0 : TyC (w.alloc (.cells #[.int .i64 4, .string { data := #[] }, .int .i64 0, .string { data := #[] }, .string { data := #[] }, .slice na 0 nc, .slice sa 1 sc] 25)) B s (f 0) := (HU.out 0 (by simp [Ty.subs])).alloc hB (.cells #[.int .i64 4, .string { data := #[] }, .int .i64 0, .string { data := #[] }, .string { data := #[] }, .slice na 0 nc, .slice sa 1 sc] 25)
      have hR1 := HR.out.keep (w' := w.alloc (.cells #[.int .i64 4, .string { data := #[] }, .int .i64 0, .string { data := #[] }, .string { data := #[] }, .slice na 0 nc, .slice sa 1 sc] 25)) fun p hp => World.cell?_alloc_lt _ _ _ (by omega)
      obtain ⟨b2, o2, na2, nc2, sa2, sc2, e3, hbb2, hfk2, d0, d1, d2, d3, d4, d5, d6⟩ := TyC.elem hR1 (by simp [Ty.subs]) hU0
      rw [hfk2] at hU0
      simp only [Nat.zero_mul, Nat.add_zero] at d0 d1 d2 d3 d4 d5 d6
      have HU0 := Lib.hid hU0
      clear hU0 hfk2 hR1
      subst e3
      have l1 := tx_len (HS.out s (by simp [Ty.subs])).1
      have l2 := (HS.out s (by simp [Ty.subs])).2
      have hl : (tx s).length ≤ 100000 := by omega
      have hls : (ba (tx s)).size ≤ 100000 := by rw [ba_size]; exact hl
      clear l1 l2
      simp only [tyCells, Ty.kind, Ty.pkg, Ty.major, Ty.mod, Ty.name, Ty.names, Ty.subs, e0]
      go_enter Tryd.func22, Tryd.ntmps22
      go_wp2_with fail
      refine (HI.out s (by simp [Ty.subs]) _ B _ HU0.out (by simp; omega) (HT.out.below ((Below.refl _ _).alloc (Nat.le_refl _) _))).mono ?_
      rintro e w1 ⟨rfl, hb1⟩
      go_wp2
      go_ret
      exact ⟨congrArg Ending.returned (wrap_list _ _ (HE.out.symm.trans e1)), ((Below.refl _ _).alloc (Nat.le_refl _) _).trans (hb1.mono (by simp))⟩
    | rows ns ss hl hnn h =>
      have e1 := tx_rows ns ss hl
      have hx := HX.out
      rw [e1] at hx
      simp only [List.length_cons, List.length_append, List.length_nil] at hx
      rw [← rowN_zip _ _ hl] at e1 hx
      have hn20 : ∀ n ∈ ns, n.size ≤ 20 := fun n hn => by have := small_len (hnn n hn); rwa [bl_len] at this
      simp only [Ty.subs] at h20
      have hjl : (Lib.join (rowN ns (ss.map tx)) sepC).length ≤ 100000 := by omega
      have hjb : (ba (Lib.join (rowN ns (ss.map tx)) sepC)).size ≤ 100000 := by rw [ba_size]; exact hjl
      have hlc := list_c ss ns sa na sc nc B f (w.alloc (.cells #[.int .i64 5, .string { data := #[] }, .int .i64 0, .string { data := #[] }, .string { data := #[] }, .slice na ns.length nc, .slice sa ss.length sc] 25))
        (HN.out.alloc hB _) (HR.out.keep fun p hp => World.cell?_alloc_lt _ _ _ (by omega)) (fun i hi => (HU.out i hi).alloc hB _) (by simp; omega) (HT.out.below ((Below.refl _ _).alloc (Nat.le_refl _) _)) (.inr hl) h20 HS.out hn20 HI.out
      have HL := Lib.hid hlc
      clear hlc hn20 hjl hx hl hnn h
      simp only [tyCells, Ty.kind, Ty.pkg, Ty.major, Ty.mod, Ty.name, Ty.names, Ty.subs, e0]
      go_enter Tryd.func22, Tryd.ntmps22
      go_wp2_with fail
      refine HL.out.mono ?_
      rintro e w1 ⟨rfl, hb1⟩
      go_wp2
      go_ret
      exact ⟨congrArg Ending.returned (wrap_eq 123 125 _ _ (HE.out.symm.trans e1)), ((Below.refl _ _).alloc (Nat.le_refl _) _).trans (hb1.mono (by simp))⟩
    | vars ns ss hl hnn h =>
      have e1 := tx_vars ns ss hl
      have hx := HX.out
      rw [e1] at hx
      simp only [List.length_cons, List.length_append, List.length_nil] at hx
      rw [← rowN_zip _ _ hl] at e1 hx
      have hn20 : ∀ n ∈ ns, n.size ≤ 20 := fun n hn => by have := great_len (hnn n hn); rwa [bl_len] at this
      simp only [Ty.subs] at h20
      have hjl : (Lib.join (rowN ns (ss.map tx)) sepC).length ≤ 100000 := by omega
      have hjb : (ba (Lib.join (rowN ns (ss.map tx)) sepC)).size ≤ 100000 := by rw [ba_size]; exact hjl
      have hlc := list_c ss ns sa na sc nc B f (w.alloc (.cells #[.int .i64 6, .string { data := #[] }, .int .i64 0, .string { data := #[] }, .string { data := #[] }, .slice na ns.length nc, .slice sa ss.length sc] 25))
        (HN.out.alloc hB _) (HR.out.keep fun p hp => World.cell?_alloc_lt _ _ _ (by omega)) (fun i hi => (HU.out i hi).alloc hB _) (by simp; omega) (HT.out.below ((Below.refl _ _).alloc (Nat.le_refl _) _)) (.inr hl) h20 HS.out hn20 HI.out
      have HL := Lib.hid hlc
      clear hlc hn20 hjl hx hl hnn h
      simp only [tyCells, Ty.kind, Ty.pkg, Ty.major, Ty.mod, Ty.name, Ty.names, Ty.subs, e0]
      go_enter Tryd.func22, Tryd.ntmps22
      go_wp2_with fail
      refine HL.out.mono ?_
      rintro e w1 ⟨rfl, hb1⟩
      go_wp2
      go_ret
      exact ⟨congrArg Ending.returned (wrap_eq 91 93 _ _ (HE.out.symm.trans e1)), ((Below.refl _ _).alloc (Nat.le_refl _) _).trans (hb1.mono (by simp))⟩
    | fn ss l h hl =>
      have e1 := tx_fn ss l
      have hx := HX.out
      rw [e1] at hx
      simp only [List.length_cons, List.length_append, List.length_nil] at hx
      have hjl : (Lib.join (ss.map tx) sepC).length ≤ 100000 := by omega
      have hll : (tx l).length ≤ 100000 := by omega
      have hjb : (ba (Lib.join (ss.map tx) sepC)).size ≤ 100000 := by rw [ba_size]; exact hjl
      have hlb : (ba (tx l)).size ≤ 100000 := by rw [ba_size]; exact hll
      have hk20 : ss.length + 1 ≤ 20 := by simpa [Ty.subs] using h20
      have hsc' : ss.length + 1 ≤ sc := by simpa [Ty.subs] using hsc
      have hR1 : RowsAt w B sa (ss.length + 1) f := by have h := HR.out; simp only [Ty.subs, List.length_append, List.length_cons, List.length_nil] at h; exact h
      have hUl : TyC w B l (f ss.length) := by
        have h := HU.out ss.length (by simp [Ty.subs])
        simpa only [Ty.subs, List.getElem_concat_length] using h
      have hUs : ∀ i (h : i < ss.length), TyC w B ss[i] (f i) := fun i hi => by
        have h := HU.out i (by simp [Ty.subs]; omega)
        simp only [Ty.subs] at h
        rwa [List.getElem_append_left hi] at h
      obtain ⟨b2, o2, na2, nc2, sa2, sc2, rfl, hbb2, hfk2, d0, d1, d2, d3, d4, d5, d6⟩ := TyC.elem hR1 (Nat.lt_succ_self _) hUl
      rw [hfk2] at hUl
      have hRs : RowsAt w B (some ⟨b2, o2, none⟩) ss.length f := by
        rcases hR1 with h | ⟨b, o, hA, hb, hc⟩
        · omega
        · exact .inr ⟨b, o, hA, hb, fun i hi j hj => hc i (by omega) j hj⟩
      have x0 := Blk.new w #[.int .i64 7, .string { data := #[] }, .int .i64 0, .string { data := #[] }, .string { data := #[] }, .slice na 0 nc, .slice (some ⟨b2, o2, none⟩) (ss.length + 1) sc] 25
      have HX0 := Lib.hid x0
      have hw1 : Below w.heap.size w (w.alloc (.cells #[.int .i64 7, .string { data := #[] }, .int .i64 0, .string { data := #[] }, .string { data := #[] }, .slice na 0 nc, .slice (some ⟨b2, o2, none⟩) (ss.length + 1) sc] 25)) := (Below.refl _ w).alloc (Nat.le_refl _) _
      have HW1 := Lib.hid hw1
      have hsz1 := hw1.size
      have HSS := Lib.hid (show ∀ s ∈ ss, V s ∧ manyT s ≤ 500 from fun s hs => HS.out s (by simp [Ty.subs, hs]))
      have HIS := Lib.hid (show ∀ s ∈ ss, TextAt s from fun s hs => HI.out s (by simp [Ty.subs, hs]))
      have HLC := Lib.hid (fun (w' : World) (hb : Below w.heap.size w w') => (show Calls Tryd.prog 29 #[.slice (some ⟨b2, o2, none⟩) ss.length sc, .slice none 0 0] w' fun e w'' => e = .returned (.string (ba (Lib.join (ss.map tx) sepC))) ∧ Below w'.heap.size w' w'' from
        list_c ss [] (some ⟨b2, o2, none⟩) none sc 0 B f w' (.inl rfl) (hRs.keep fun p hp => hb.cell (Nat.lt_of_lt_of_le hp hB)) (fun i hi => (hUs i hi).under (hb.mono hB)) (Nat.le_trans hB hb.size) (HT.out.below hb) (.inl rfl) (by omega) HSS.out (by simp) HIS.out))
      have HTL := Lib.hid (fun (w' : World) (hb : Below w.heap.size w w') => (show Calls Tryd.prog 22 #[.agg (tyCells l na2 nc2 sa2 sc2)] w' fun e w'' => e = .returned (.string (ba (tx l))) ∧ Below w'.heap.size w' w'' from
        HI.out l (by simp [Ty.subs]) _ B w' (hUl.under (hb.mono hB)) (Nat.le_trans hB hb.size) (HT.out.below hb)))
      have HD := Lib.hid (fun (w' : World) (hb : Below w.heap.size w w') => (show w'.cell? ⟨b2, o2 + ss.length * 7, none⟩ = some (.int .i64 l.kind) ∧ w'.cell? ⟨b2, o2 + ss.length * 7 + 1, none⟩ = some (.string l.pkg) ∧ w'.cell? ⟨b2, o2 + ss.length * 7 + 2, none⟩ = some (.int .i64 l.major) ∧ w'.cell? ⟨b2, o2 + ss.length * 7 + 3, none⟩ = some (.string l.mod) ∧ w'.cell? ⟨b2, o2 + ss.length * 7 + 4, none⟩ = some (.string l.name) ∧ w'.cell? ⟨b2, o2 + ss.length * 7 + 5, none⟩ = some (.slice na2 l.names.length nc2) ∧ w'.cell? ⟨b2, o2 + ss.length * 7 + 6, none⟩ = some (.slice sa2 l.subs.length sc2) from
        ⟨(hb.cell (p := ⟨b2, _, none⟩) (by show b2 < _; omega)).trans d0, (hb.cell (p := ⟨b2, _, none⟩) (by show b2 < _; omega)).trans d1, (hb.cell (p := ⟨b2, _, none⟩) (by show b2 < _; omega)).trans d2, (hb.cell (p := ⟨b2, _, none⟩) (by show b2 < _; omega)).trans d3, (hb.cell (p := ⟨b2, _, none⟩) (by show b2 < _; omega)).trans d4, (hb.cell (p := ⟨b2, _, none⟩) (by show b2 < _; omega)).trans d5, (hb.cell (p := ⟨b2, _, none⟩) (by show b2 < _; omega)).trans d6⟩))
      clear hx hjl hll hR1 hUl hUs hfk2 d0 d1 d2 d3 d4 d5 d6 hRs x0 hw1 h20 hsc hnc
      simp only [tyCells, Ty.kind, Ty.pkg, Ty.major, Ty.mod, Ty.name, Ty.names, Ty.subs, e0]
      simp only [List.length_append, List.length_cons, List.length_nil, Nat.zero_add]
      have hkI : (ss.length : Int) < (ss.length : Int) + 1 := by omega
      have hk0 : (0 : Int) ≤ (ss.length : Int) := by omega
      have hkc : (ss.length : Int) ≤ (sc : Int) := by omega
      go_enter Tryd.func22, Tryd.ntmps22
      go_upto_region 16 with fail
      refine wp_region_until [(4, fun w' => w'.cell? ⟨w.heap.size, 6, none⟩ = some (.slice (some ⟨b2, o2, none⟩) (ss.length + 1) sc)), (12, fun w' => w'.cell? ⟨w.heap.size, 6, none⟩ = some (.slice (some ⟨b2, o2, none⟩) (ss.length + 1) sc)), (12, fun w' => w'.cell? ⟨b2, o2 + ss.length * 7, none⟩ = some (.int .i64 l.kind) ∧ w'.cell? ⟨b2, o2 + ss.length * 7 + 1, none⟩ = some (.string l.pkg) ∧ w'.cell? ⟨b2, o2 + ss.length * 7 + 2, none⟩ = some (.int .i64 l.major) ∧ w'.cell? ⟨b2, o2 + ss.length * 7 + 3, none⟩ = some (.string l.mod) ∧ w'.cell? ⟨b2, o2 + ss.length * 7 + 4, none⟩ = some (.string l.name) ∧ w'.cell? ⟨b2, o2 + ss.length * 7 + 5, none⟩ = some (.slice na2 l.names.length nc2) ∧ w'.cell? ⟨b2, o2 + ss.length * 7 + 6, none⟩ = some (.slice sa2 l.subs.length sc2))] (by kernel_rfl) (Until.cons (fun _ => HX0.out.drew.cell 6) (Until.cons (fun _ => HX0.out.drew.cell 6) (Until.cons (fun _ => HD.out _ HW1.out.drew) Until.nil))) (fun hU => ?_)
      refine AnyU.take (i := 0) (v := ?_) rfl (by kernel_rfl) (by kernel_rfl) (by kernel_rfl) (fun _ _ _ h => h) (by kernel_rfl) (by assumption) (by rfl) ?_ (fun hU => ?_)
      rotate_left 1
      · (intro wq; go_simp; try with_reducible rfl)
      simp only [Act.put, List.getElem_toArray, List.getElem_cons_zero, List.getElem_cons_succ, List.setIfInBounds_toArray, List.set_cons_zero, List.set_cons_succ]
      refine AnyU.loadc (i := 1) (d := 4) [3, 4] (Si := fun w' => w'.cell? ⟨w.heap.size, 6, none⟩ = some (.slice (some ⟨b2, o2, none⟩) (ss.length + 1) sc)) (v := ?_) rfl (by kernel_rfl) (by kernel_rfl) (by kernel_rfl) (fun _ _ _ h => h) (by kernel_rfl) (by assumption) (by kernel_rfl) rfl (by simp) (by rfl) ?_ (fun hU => ?_)
      rotate_left 1
      · (intro wq hq; go_simp; try with_reducible rfl)
      simp only [Act.put, List.getElem_toArray, List.getElem_cons_zero, List.getElem_cons_succ, List.setIfInBounds_toArray, List.set_cons_zero, List.set_cons_succ]
      refine AnyU.take (i := 2) (v := ?_) rfl (by kernel_rfl) (by kernel_rfl) (by kernel_rfl) (fun _ _ _ h => h) (by kernel_rfl) (by assumption) (by rfl) ?_ (fun hU => ?_)
      rotate_left 1
      · (intro wq; go_simp; try with_reducible rfl)
      simp only [Act.put, List.getElem_toArray, List.getElem_cons_zero, List.getElem_cons_succ, List.setIfInBounds_toArray, List.set_cons_zero, List.set_cons_succ]
      refine AnyU.take (i := 3) (v := ?_) rfl (by kernel_rfl) (by kernel_rfl) (by kernel_rfl) (fun _ _ _ h => h) (by kernel_rfl) (by assumption) (by rfl) ?_ (fun hU => ?_)
      rotate_left 1
      · (intro wq; go_simp; try with_reducible rfl)
      simp only [Act.put, List.getElem_toArray, List.getElem_cons_zero, List.getElem_cons_succ, List.setIfInBounds_toArray, List.set_cons_zero, List.set_cons_succ]
      refine AnyU.take (i := 7) (v := ?_) rfl (by kernel_rfl) (by kernel_rfl) (by kernel_rfl) (fun _ _ _ h => h) (by kernel_rfl) (by assumption) (by rfl) ?_ (fun hU => ?_)
      rotate_left 1
      · (intro wq; go_simp; try with_reducible rfl)
      simp only [Act.put, List.getElem_toArray, List.getElem_cons_zero, List.getElem_cons_succ, List.setIfInBounds_toArray, List.set_cons_zero, List.set_cons_succ]
      refine AnyU.loadc (i := 8) (d := 12) [10, 11, 12] (Si := fun w' => w'.cell? ⟨w.heap.size, 6, none⟩ = some (.slice (some ⟨b2, o2, none⟩) (ss.length + 1) sc)) (v := ?_) rfl (by kernel_rfl) (by kernel_rfl) (by kernel_rfl) (fun _ _ _ h => h) (by kernel_rfl) (by assumption) (by kernel_rfl) rfl (by simp) (by rfl) ?_ (fun hU => ?_)
      rotate_left 1
      · (intro wq hq; go_simp; try with_reducible rfl)
      simp only [Act.put, List.getElem_toArray, List.getElem_cons_zero, List.getElem_cons_succ, List.setIfInBounds_toArray, List.set_cons_zero, List.set_cons_succ]
      refine AnyU.take (i := 9) (v := ?_) rfl (by kernel_rfl) (by kernel_rfl) (by kernel_rfl) (fun _ _ _ h => h) (by kernel_rfl) (by assumption) (by rfl) ?_ (fun hU => ?_)
      rotate_left 1
      · (intro wq; go_simp; try with_reducible rfl)
      simp only [Act.put, List.getElem_toArray, List.getElem_cons_zero, List.getElem_cons_succ, List.setIfInBounds_toArray, List.set_cons_zero, List.set_cons_succ]
      refine AnyU.take (i := 10) (v := ?_) rfl (by kernel_rfl) (by kernel_rfl) (by kernel_rfl) (fun _ _ _ h => h) (by kernel_rfl) (by assumption) (by rfl) ?_ (fun hU => ?_)
      rotate_left 1
      · (intro wq; go_simp; try with_reducible rfl)
      simp only [Act.put, List.getElem_toArray, List.getElem_cons_zero, List.getElem_cons_succ, List.setIfInBounds_toArray, List.set_cons_zero, List.set_cons_succ]
      refine AnyU.loadc (i := 11) (d := 12) [12] (Si := fun w' => w'.cell? ⟨b2, o2 + ss.length * 7, none⟩ = some (.int .i64 l.kind) ∧ w'.cell? ⟨b2, o2 + ss.length * 7 + 1, none⟩ = some (.string l.pkg) ∧ w'.cell? ⟨b2, o2 + ss.length * 7 + 2, none⟩ = some (.int .i64 l.major) ∧ w'.cell? ⟨b2, o2 + ss.length * 7 + 3, none⟩ = some (.string l.mod) ∧ w'.cell? ⟨b2, o2 + ss.length * 7 + 4, none⟩ = some (.string l.name) ∧ w'.cell? ⟨b2, o2 + ss.length * 7 + 5, none⟩ = some (.slice na2 l.names.length nc2) ∧ w'.cell? ⟨b2, o2 + ss.length * 7 + 6, none⟩ = some (.slice sa2 l.subs.length sc2)) (v := ?_) rfl (by kernel_rfl) (by kernel_rfl) (by kernel_rfl) (fun _ _ _ h => h) (by kernel_rfl) (by assumption) (by kernel_rfl) rfl (by simp) (by rfl) ?_ (fun hU => ?_)
      rotate_left 1
      · (intro wq hq; obtain ⟨u0, u1, u2, u3, u4, u5, u6⟩ := hq; go_simp; try with_reducible rfl)
      simp only [Act.put, List.getElem_toArray, List.getElem_cons_zero, List.getElem_cons_succ, List.setIfInBounds_toArray, List.set_cons_zero, List.set_cons_succ]
      refine AnyU.ready1 (i := 4) (by kernel_rfl) (AnyU.one rfl fun K hK => ?_)
      go_simp
      go_at_call 29
      refine (HLC.out _ HW1.out.drew).mono ?_
      rintro e wl ⟨rfl, hbl⟩
      have HB1 := Lib.hid (HW1.out.drew.trans (hbl.mono HW1.out.drew.size))
      have HXL := Lib.hid (HX0.out.drew.under hbl HX0.out.lt)
      clear hbl
      refine hK.out _ _ (Until.cons (fun h => absurd h (by decide)) (Until.cons (fun _ => HXL.out.cell 6) (Until.cons (fun _ => HD.out _ HB1.out) Until.nil))) (fun hU => ?_)
      clear hK K
      try simp only [Act.put, List.getElem_toArray, List.getElem_cons_zero, List.getElem_cons_succ, List.setIfInBounds_toArray, List.set_cons_zero, List.set_cons_succ]
      refine AnyU.take (i := 5) (v := ?_) rfl (by kernel_rfl) (by kernel_rfl) (by kernel_rfl) (fun _ _ _ h => h) (by kernel_rfl) (by assumption) (by rfl) ?_ (fun hU => ?_)
      rotate_left 1
      · (intro wq; go_simp; try rw [if_neg (by omega)]; try with_reducible rfl)
      simp only [Act.put, List.getElem_toArray, List.getElem_cons_zero, List.getElem_cons_succ, List.setIfInBounds_toArray, List.set_cons_zero, List.set_cons_succ]
      refine AnyU.take (i := 6) (v := ?_) rfl (by kernel_rfl) (by kernel_rfl) (by kernel_rfl) (fun _ _ _ h => h) (by kernel_rfl) (by assumption) (by rfl) ?_ (fun hU => ?_)
      rotate_left 1
      · (intro wq; go_simp; try rw [if_neg (by omega)]; try with_reducible rfl)
      simp only [Act.put, List.getElem_toArray, List.getElem_cons_zero, List.getElem_cons_succ, List.setIfInBounds_toArray, List.set_cons_zero, List.set_cons_succ]
      refine AnyU.ready1 (i := 12) (by kernel_rfl) (AnyU.one rfl fun K hK => ?_)
      go_simp
      go_at_call 22
      refine (HTL.out _ HB1.out).mono ?_
      rintro e wt ⟨rfl, hbt⟩
      refine hK.out _ _ (Until.off (by kernel_rfl)) (fun hU => ?_)
      clear hK K
      try simp only [Act.put, List.getElem_toArray, List.getElem_cons_zero, List.getElem_cons_succ, List.setIfInBounds_toArray, List.set_cons_zero, List.set_cons_succ]
      refine AnyU.take (i := 13) (v := ?_) rfl (by kernel_rfl) (by kernel_rfl) (by kernel_rfl) (fun _ _ _ h => h) (by kernel_rfl) (by assumption) (by rfl) ?_ (fun hU => ?_)
      rotate_left 1
      · (intro wq; go_simp; try rw [if_neg (by omega)]; try with_reducible rfl)
      simp only [Act.put, List.getElem_toArray, List.getElem_cons_zero, List.getElem_cons_succ, List.setIfInBounds_toArray, List.set_cons_zero, List.set_cons_succ]
      refine AnyU.take (i := 14) (v := ?_) rfl (by kernel_rfl) (by kernel_rfl) (by kernel_rfl) (fun _ _ _ h => h) (by kernel_rfl) (by assumption) (by rfl) ?_ (fun hU => ?_)
      rotate_left 1
      · (intro wq; go_simp; try with_reducible rfl)
      simp only [Act.put, List.getElem_toArray, List.getElem_cons_zero, List.getElem_cons_succ, List.setIfInBounds_toArray, List.set_cons_zero, List.set_cons_succ]
      refine AnyU.done (by kernel_rfl) ?_
      go_wp2
      go_ret
      exact ⟨congrArg Ending.returned (wrap_fn _ _ _ (HE.out.symm.trans e1)), HB1.out.trans (hbt.mono HB1.out.size)⟩
    | far p j m n hp hmm h hj hj' =>
      have e1 := tx_far p j m n
      have lp := small_len hp
      have lm := small_len hmm
      have ln := great_len h
      rw [bl_len] at lp lm ln
      have lj := dec_len 8 j.toNat (by omega)
      rw [← itoa_pos hj] at lj
      have ljb : (ba (Lib.itoa j)).size ≤ 9 := by rw [ba_size]; exact lj
      have x0 := Blk.new w #[.int .i64 9, .string p, .int .i64 j, .string m, .string n, .slice na 0 nc, .slice sa 0 sc] 25
      have HX0 := Lib.hid x0
      have hta := HT.out.below ((Below.refl _ w).alloc (Nat.le_refl _) (.cells #[.int .i64 9, .string p, .int .i64 j, .string m, .string n, .slice na 0 nc, .slice sa 0 sc] 25))
      have HTA := Lib.hid hta
      clear hta lj x0
      simp only [tyCells, Ty.kind, Ty.pkg, Ty.major, Ty.mod, Ty.name, Ty.names, Ty.subs, e0]
      go_enter Tryd.func22, Tryd.ntmps22
      go_upto_region 18 with fail
      refine wp_region_until [(7, fun w' => w'.cell? ⟨w.heap.size, 1, none⟩ = some (.string p)), (6, fun w' => w'.cell? ⟨w.heap.size, 2, none⟩ = some (.int .i64 j)), (11, fun w' => w'.cell? ⟨w.heap.size, 3, none⟩ = some (.string m)), (15, fun w' => w'.cell? ⟨w.heap.size, 4, none⟩ = some (.string n))] (by kernel_rfl) (Until.cons (fun _ => HX0.out.drew.cell 1) (Until.cons (fun _ => HX0.out.drew.cell 2) (Until.cons (fun _ => HX0.out.drew.cell 3) (Until.cons (fun _ => HX0.out.drew.cell 4) Until.nil)))) (fun hU => ?_)
      refine AnyU.take (i := 0) (v := ?_) rfl (by kernel_rfl) (by kernel_rfl) (by kernel_rfl) (fun _ _ _ h => h) (by kernel_rfl) (by assumption) (by rfl) ?_ (fun hU => ?_)
      rotate_left 1
      · (intro wq; go_simp; try with_reducible rfl)
      simp only [Act.put, List.getElem_toArray, List.getElem_cons_zero, List.getElem_cons_succ, List.setIfInBounds_toArray, List.set_cons_zero, List.set_cons_succ]
      refine AnyU.loadc (i := 1) (d := 7) [2, 3, 7] (Si := fun w' => w'.cell? ⟨w.heap.size, 1, none⟩ = some (.string p)) (v := ?_) rfl (by kernel_rfl) (by kernel_rfl) (by kernel_rfl) (fun _ _ _ h => h) (by kernel_rfl) (by assumption) (by kernel_rfl) rfl (by simp) (by rfl) ?_ (fun hU => ?_)
      rotate_left 1
      · (intro wq hq; go_simp; try with_reducible rfl)
      simp only [Act.put, List.getElem_toArray, List.getElem_cons_zero, List.getElem_cons_succ, List.setIfInBounds_toArray, List.set_cons_zero, List.set_cons_succ]
      refine AnyU.take (i := 2) (v := ?_) rfl (by kernel_rfl) (by kernel_rfl) (by kernel_rfl) (fun _ _ _ h => h) (by kernel_rfl) (by assumption) (by rfl) ?_ (fun hU => ?_)
      rotate_left 1
      · (intro wq; go_simp; try rw [if_neg (by omega)]; try with_reducible rfl)
      simp only [Act.put, List.getElem_toArray, List.getElem_cons_zero, List.getElem_cons_succ, List.setIfInBounds_toArray, List.set_cons_zero, List.set_cons_succ]
      refine AnyU.take (i := 3) (v := ?_) rfl (by kernel_rfl) (by kernel_rfl) (by kernel_rfl) (fun _ _ _ h => h) (by kernel_rfl) (by assumption) (by rfl) ?_ (fun hU => ?_)
      rotate_left 1
      · (intro wq; go_simp; try rw [if_neg (by omega)]; try with_reducible rfl)
      simp only [Act.put, List.getElem_toArray, List.getElem_cons_zero, List.getElem_cons_succ, List.setIfInBounds_toArray, List.set_cons_zero, List.set_cons_succ]
      refine AnyU.take (i := 4) (v := ?_) rfl (by kernel_rfl) (by kernel_rfl) (by kernel_rfl) (fun _ _ _ h => h) (by kernel_rfl) (by assumption) (by rfl) ?_ (fun hU => ?_)
      rotate_left 1
      · (intro wq; go_simp; try with_reducible rfl)
      simp only [Act.put, List.getElem_toArray, List.getElem_cons_zero, List.getElem_cons_succ, List.setIfInBounds_toArray, List.set_cons_zero, List.set_cons_succ]
      refine AnyU.loadc (i := 5) (d := 6) [6] (Si := fun w' => w'.cell? ⟨w.heap.size, 2, none⟩ = some (.int .i64 j)) (v := ?_) rfl (by kernel_rfl) (by kernel_rfl) (by kernel_rfl) (fun _ _ _ h => h) (by kernel_rfl) (by assumption) (by kernel_rfl) rfl (by simp) (by rfl) ?_ (fun hU => ?_)
      rotate_left 1
      · (intro wq hq; go_simp; try with_reducible rfl)
      simp only [Act.put, List.getElem_toArray, List.getElem_cons_zero, List.getElem_cons_succ, List.setIfInBounds_toArray, List.set_cons_zero, List.set_cons_succ]
      refine AnyU.take (i := 9) (v := ?_) rfl (by kernel_rfl) (by kernel_rfl) (by kernel_rfl) (fun _ _ _ h => h) (by kernel_rfl) (by assumption) (by rfl) ?_ (fun hU => ?_)
      rotate_left 1
      · (intro wq; go_simp; try with_reducible rfl)
      simp only [Act.put, List.getElem_toArray, List.getElem_cons_zero, List.getElem_cons_succ, List.setIfInBounds_toArray, List.set_cons_zero, List.set_cons_succ]
      refine AnyU.loadc (i := 10) (d := 11) [11] (Si := fun w' => w'.cell? ⟨w.heap.size, 3, none⟩ = some (.string m)) (v := ?_) rfl (by kernel_rfl) (by kernel_rfl) (by kernel_rfl) (fun _ _ _ h => h) (by kernel_rfl) (by assumption) (by kernel_rfl) rfl (by simp) (by rfl) ?_ (fun hU => ?_)
      rotate_left 1
      · (intro wq hq; go_simp; try with_reducible rfl)
      simp only [Act.put, List.getElem_toArray, List.getElem_cons_zero, List.getElem_cons_succ, List.setIfInBounds_toArray, List.set_cons_zero, List.set_cons_succ]
      refine AnyU.take (i := 13) (v := ?_) rfl (by kernel_rfl) (by kernel_rfl) (by kernel_rfl) (fun _ _ _ h => h) (by kernel_rfl) (by assumption) (by rfl) ?_ (fun hU => ?_)
      rotate_left 1
      · (intro wq; go_simp; try with_reducible rfl)
      simp only [Act.put, List.getElem_toArray, List.getElem_cons_zero, List.getElem_cons_succ, List.setIfInBounds_toArray, List.set_cons_zero, List.set_cons_succ]
      refine AnyU.loadc (i := 14) (d := 15) [15] (Si := fun w' => w'.cell? ⟨w.heap.size, 4, none⟩ = some (.string n)) (v := ?_) rfl (by kernel_rfl) (by kernel_rfl) (by kernel_rfl) (fun _ _ _ h => h) (by kernel_rfl) (by assumption) (by kernel_rfl) rfl (by simp) (by rfl) ?_ (fun hU => ?_)
      rotate_left 1
      · (intro wq hq; go_simp; try with_reducible rfl)
      simp only [Act.put, List.getElem_toArray, List.getElem_cons_zero, List.getElem_cons_succ, List.setIfInBounds_toArray, List.set_cons_zero, List.set_cons_succ]
      refine AnyU.ready1 (i := 6) (by kernel_rfl) (AnyU.one rfl fun K hK => ?_)
      go_simp
      go_at_call 30
      refine (itoa_ba j (by omega) (by omega) _ (HTA.out.below (Below.refl _ _).drew)).mono ?_
      rintro e wn ⟨rfl, hb⟩
      have hb' : Below (w.alloc (.cells #[.int .i64 9, .string p, .int .i64 j, .string m, .string n, .slice na 0 nc, .slice sa 0 sc] 25)).heap.size (w.alloc (.cells #[.int .i64 9, .string p, .int .i64 j, .string m, .string n, .slice na 0 nc, .slice sa 0 sc] 25)) wn := (Below.refl _ _).drew.trans hb
      have HBN := Lib.hid hb'
      have HXN := Lib.hid (HX0.out.under hb' HX0.out.lt)
      clear hb hb'
      refine hK.out _ _ (Until.cons (fun _ => HXN.out.cell 1) (Until.cons (fun h => absurd h (by decide)) (Until.cons (fun _ => HXN.out.cell 3) (Until.cons (fun _ => HXN.out.cell 4) Until.nil)))) (fun hU => ?_)
      clear hK K
      try simp only [Act.put, List.getElem_toArray, List.getElem_cons_zero, List.getElem_cons_succ, List.setIfInBounds_toArray, List.set_cons_zero, List.set_cons_succ]
      have z07 : ¬ 9223372036854775807 < 1 + p.size + 1 + (ba (Lib.itoa j)).size := by omega
      have z01 : ¬ 9223372036854775807 < 1 + p.size + 1 + (ba (Lib.itoa j)).size + 1 := by omega
      have z17 : ¬ 9223372036854775807 < 1 + p.size + 1 + (ba (Lib.itoa j)).size + 1 + m.size := by omega
      have z11 : ¬ 9223372036854775807 < 1 + p.size + 1 + (ba (Lib.itoa j)).size + 1 + m.size + 1 := by omega
      have z27 : ¬ 9223372036854775807 < 1 + p.size + 1 + (ba (Lib.itoa j)).size + 1 + m.size + 1 + n.size := by omega
      have z21 : ¬ 9223372036854775807 < 1 + p.size + 1 + (ba (Lib.itoa j)).size + 1 + m.size + 1 + n.size + 1 := by omega
      refine AnyU.ready1 (i := 7) (by kernel_rfl) (AnyU.one rfl fun K hK => ?_)
      go_simp
      refine hK.out _ _ (Until.cons (fun h => absurd h (by decide)) (Until.cons (fun h => absurd h (by decide)) (Until.cons (fun _ => HXN.out.cell 3) (Until.cons (fun _ => HXN.out.cell 4) Until.nil)))) (fun hU => ?_)
      clear hK K
      try simp only [Act.put, List.getElem_toArray, List.getElem_cons_zero, List.getElem_cons_succ, List.setIfInBounds_toArray, List.set_cons_zero, List.set_cons_succ]
      refine AnyU.ready1 (i := 8) (by kernel_rfl) (AnyU.one rfl fun K hK => ?_)
      go_simp
      refine hK.out _ _ (Until.cons (fun h => absurd h (by decide)) (Until.cons (fun h => absurd h (by decide)) (Until.cons (fun _ => HXN.out.cell 3) (Until.cons (fun _ => HXN.out.cell 4) Until.nil)))) (fun hU => ?_)
      clear hK K
      try simp only [Act.put, List.getElem_toArray, List.getElem_cons_zero, List.getElem_cons_succ, List.setIfInBounds_toArray, List.set_cons_zero, List.set_cons_succ]
      refine AnyU.ready1 (i := 11) (by kernel_rfl) (AnyU.one rfl fun K hK => ?_)
      go_simp
      refine hK.out _ _ (Until.cons (fun h => absurd h (by decide)) (Until.cons (fun h => absurd h (by decide)) (Until.cons (fun h => absurd h (by decide)) (Until.cons (fun _ => HXN.out.cell 4) Until.nil)))) (fun hU => ?_)
      clear hK K
      try simp only [Act.put, List.getElem_toArray, List.getElem_cons_zero, List.getElem_cons_succ, List.setIfInBounds_toArray, List.set_cons_zero, List.set_cons_succ]
      refine AnyU.ready1 (i := 12) (by kernel_rfl) (AnyU.one rfl fun K hK => ?_)
      go_simp
      refine hK.out _ _ (Until.cons (fun h => absurd h (by decide)) (Until.cons (fun h => absurd h (by decide)) (Until.cons (fun h => absurd h (by decide)) (Until.cons (fun _ => HXN.out.cell 4) Until.nil)))) (fun hU => ?_)
      clear hK K
      try simp only [Act.put, List.getElem_toArray, List.getElem_cons_zero, List.getElem_cons_succ, List.setIfInBounds_toArray, List.set_cons_zero, List.set_cons_succ]
      refine AnyU.ready1 (i := 15) (by kernel_rfl) (AnyU.one rfl fun K hK => ?_)
      go_simp
      refine hK.out _ _ (Until.off (by kernel_rfl)) (fun hU => ?_)
      clear hK K
      try simp only [Act.put, List.getElem_toArray, List.getElem_cons_zero, List.getElem_cons_succ, List.setIfInBounds_toArray, List.set_cons_zero, List.set_cons_succ]
      refine AnyU.ready1 (i := 16) (by kernel_rfl) (AnyU.one rfl fun K hK => ?_)
      go_simp
      refine hK.out _ _ (Until.off (by kernel_rfl)) (fun hU => ?_)
      clear hK K
      try simp only [Act.put, List.getElem_toArray, List.getElem_cons_zero, List.getElem_cons_succ, List.setIfInBounds_toArray, List.set_cons_zero, List.set_cons_succ]
      refine AnyU.ready1 (i := 17) (by kernel_rfl) (AnyU.one rfl fun K hK => ?_)
      go_simp
      refine hK.out _ _ (Until.off (by kernel_rfl)) (fun hU => ?_)
      clear hK K
      try simp only [Act.put, List.getElem_toArray, List.getElem_cons_zero, List.getElem_cons_succ, List.setIfInBounds_toArray, List.set_cons_zero, List.set_cons_succ]
      refine AnyU.done (by kernel_rfl) ?_
      go_wp2
      go_ret
      exact ⟨congrArg Ending.returned (wrap_far _ _ _ _ _ (HE.out.symm.trans e1)), ((Below.refl _ w).alloc (Nat.le_refl _) _).trans (HBN.out.mono (by simp))⟩
end Go.Proofs.YtalpmjmifcofeaaDoor
