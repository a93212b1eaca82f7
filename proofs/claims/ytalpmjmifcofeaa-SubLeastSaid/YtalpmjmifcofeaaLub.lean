/- The bounds of types: above both; below all that is; in both orders the same; of two, one of which stands for the other, that one. Plain Lean; no program in sight. -/
import Derived.Test.YtalpmjmifcofeaaLubLaw
namespace Go.Proofs.Ytalpmjmifcofeaa
set_option linter.unusedSimpArgs false
set_option linter.unusedVariables false
def Oks (n : Nat) (t : Ty) : Prop := mayT t = true ∧ deepT t ≤ n
theorem Oks.child {n : Nat} {t s : Ty} (h : Oks (n + 1) t) (hs : s ∈ t.subs) : Oks n s := ⟨may_child h.1 hs, deep_le h.2 hs⟩
theorem kinds (k : Int) (up : Bool) : (k = 4 ∨ k = 7) ∨ isE k up ∨ isB k up ∨ (¬ k = 4 ∧ ¬ k = 5 ∧ ¬ k = 6 ∧ ¬ k = 7) := by
  unfold isE isB
  by_cases h4 : k = 4
  · simp [h4]
  by_cases h7 : k = 7
  · simp [h7]
  by_cases h5 : k = 5
  · cases up <;> simp [h5]
  by_cases h6 : k = 6
  · cases up <;> simp [h6]
  simp [h4, h5, h6, h7]
theorem isE_kind {k : Int} {up : Bool} (h : isE k up) : k = 5 ∨ k = 6 := by
  rcases h with ⟨h, -⟩ | ⟨h, -⟩
  · exact .inr h
  · exact .inl h
theorem isB_kind {k : Int} {up : Bool} (h : isB k up) : k = 5 ∨ k = 6 := by
  rcases h with ⟨h, -⟩ | ⟨h, -⟩
  · exact .inl h
  · exact .inr h
theorem bnd_kind {n : Nat} {up : Bool} {a b x : Ty} (h : bndF (n + 1) up a b = some x) : a.kind = b.kind := by
  by_cases hk : a.kind = b.kind
  · exact hk
  · rw [bndF, if_neg hk] at h; cases h
theorem bnd_parts {n : Nat} {up : Bool} {a b : Ty} (hk : a.kind = b.kind) (h : a.kind = 4 ∨ a.kind = 7) : bndF (n + 1) up a b = partsR (bndF n) up a b := by
  rw [bndF, if_pos hk, if_pos h]
theorem bnd_eith {n : Nat} {up : Bool} {a b : Ty} (hk : a.kind = b.kind) (h : isE a.kind up) : bndF (n + 1) up a b = eitherR (bndF n up) a b := by
  rcases h with ⟨h6, rfl⟩ | ⟨h5, rfl⟩
  · rw [bndF, if_pos hk, if_neg (by omega), if_neg (by omega), if_pos h6, if_pos rfl]
  · rw [bndF, if_pos hk, if_neg (by omega), if_pos h5, if_neg (by decide)]
theorem bnd_both {n : Nat} {up : Bool} {a b : Ty} (hk : a.kind = b.kind) (h : isB a.kind up) : bndF (n + 1) up a b = if a.kind = 6 ∧ (joinR (bndF n up) a b).names.length = 0 then none else some (joinR (bndF n up) a b) := by
  rcases h with ⟨h5, rfl⟩ | ⟨h6, rfl⟩
  · rw [bndF, if_pos hk, if_neg (by omega), if_pos h5, if_pos rfl, if_neg (by omega)]
  · rw [bndF, if_pos hk, if_neg (by omega), if_neg (by omega), if_pos h6, if_neg (by decide)]
    simp [h6]
theorem bnd_leaf {n : Nat} {up : Bool} {a b : Ty} (hk : a.kind = b.kind) (h : ¬ a.kind = 4 ∧ ¬ a.kind = 5 ∧ ¬ a.kind = 6 ∧ ¬ a.kind = 7) : bndF (n + 1) up a b = leafR a b := by
  rw [bndF, if_pos hk, if_neg (by omega), if_neg (by omega), if_neg (by omega)]
theorem le_refl {n : Nat} {up : Bool} {a : Ty} (h : Oks n a) : leF n up a a = true := by
  have := sub_refl n a h.1 h.2
  cases up <;> simpa [leF] using this
theorem le_leaf {n : Nat} {up : Bool} {a c : Ty} (hk : a.kind = c.kind) (h : ¬ a.kind = 4 ∧ ¬ a.kind = 5 ∧ ¬ a.kind = 6 ∧ ¬ a.kind = 7) (hl : leF (n + 1) up a c = true) : a = c := by
  cases up
  · rw [leF, if_neg (by decide), subF, if_pos hk.symm, if_neg (by omega), if_neg (by omega), if_neg (by omega), if_neg (by omega)] at hl
    exact ((alike_iff _ _).1 hl).symm
  · rw [leF, if_pos rfl, subF, if_pos hk, if_neg (by omega), if_neg (by omega), if_neg (by omega), if_neg (by omega)] at hl
    exact (alike_iff _ _).1 hl
theorem le_len {n : Nat} {up : Bool} {a c : Ty} (h47 : a.kind = 4 ∨ a.kind = 7) (ma : mayT a = true) (mc : mayT c = true) (hl : leF (n + 1) up a c = true) : a.subs.length = c.subs.length := by
  have hk := le_kind hl
  rcases h47 with h4 | h7
  · rw [may_list ma h4, may_list mc (hk ▸ h4)]
  · cases up
    · rw [leF, if_neg (by decide), subF, if_pos hk.symm, if_neg (by omega), if_neg (by omega), if_neg (by omega), if_pos (hk ▸ h7), func_iff] at hl
      exact hl.1.symm
    · rw [leF, if_pos rfl, subF, if_pos hk, if_neg (by omega), if_neg (by omega), if_neg (by omega), if_pos h7, func_iff] at hl
      exact hl.1
theorem m_of {a : Ty} (ma : mayT a = true) (h : a.kind = 4 ∨ a.kind = 7) : a.kind = 4 ∧ a.subs.length = 1 ∨ a.kind = 7 ∧ 1 ≤ a.subs.length := by
  rcases h with h | h
  · exact .inl ⟨h, may_list ma h⟩
  · exact .inr ⟨h, may_func ma h⟩
theorem way_eq {up : Bool} {a b : Ty} (hk : a.kind = b.kind) (hl : a.subs.length = b.subs.length) (i : Nat) : wayOf up a i = wayOf up b i := by
  unfold wayOf
  rw [hk, hl]
theorem leaf_refl {c : Ty} (h : mayT c = true) : leafR c c = some c := by
  unfold leafR
  rw [h, (alike_iff c c).2 rfl]
  rfl
theorem leaf_some {a b x : Ty} (h : leafR a b = some x) : a = x ∧ b = x := by
  unfold leafR at h
  split at h
  · rename_i hm
    rw [Bool.and_eq_true] at hm
    have := (alike_iff _ _).1 hm.2
    cases h
    exact ⟨rfl, this.symm⟩
  · cases h
theorem memB_of {s : ByteArray} {l : List ByteArray} (h : s ∈ l) : memB s l = true := (memB_iff _ _).2 h
theorem memB_not {s : ByteArray} {l : List ByteArray} (h : ¬ s ∈ l) : memB s l = false := by
  cases hm : memB s l
  · rfl
  · exact absurd ((memB_iff _ _).1 hm) h
theorem sub_mem {a : Ty} {s : ByteArray} (hl : a.names.length ≤ a.subs.length) (h : s ∈ a.names) : ofT a s ∈ a.subs := ofT_mem (memB_of h) hl
theorem bnd_le : ∀ (n : Nat) (up : Bool) (a b x : Ty), Oks n a → Oks n b → bndF n up a b = some x → leF n up a x = true ∧ leF n up b x = true
  | 0, _, _, _, _, _, _, h => by simp [bndF] at h
  | n + 1, up, a, b, x, oa, ob, h => by
    have IH : ∀ v y z t, y ∈ a.subs → z ∈ b.subs → bndF n v y z = some t → leF n v y t = true ∧ leF n v z t = true := fun v y z t hy hz =>
      bnd_le n v y z t (oa.child hy) (ob.child hz)
    have hk := bnd_kind h
    rcases kinds a.kind up with h47 | hE | hB | h0
    · rw [bnd_parts hk h47] at h
      obtain ⟨hl, L, rfl, hL, hG⟩ := parts_some h
      have key : ∀ i, i < a.subs.length → leF n (wayOf up a i) (a.subs.getD i zeroTy) (L.getD i zeroTy) = true ∧ leF n (wayOf up a i) (b.subs.getD i zeroTy) (L.getD i zeroTy) = true := fun i hi => by
        have := hG i (by omega)
        rw [partG] at this
        have e : L.getD i zeroTy = L[i]'(by omega) := getD_at _
        rw [e]
        exact IH _ _ _ _ (getD_mem hi) (getD_mem (by omega)) this
      refine ⟨?_, ?_⟩
      · exact (le_parts (a := a) (n := n) (m := a.subs.length) (c := .mk a.kind _ 0 _ _ [] L) rfl (m_of oa.1 h47) rfl hL).2 fun i hi => (key i hi).1
      · refine (le_parts (n := n) (m := a.subs.length) (c := .mk a.kind _ 0 _ _ [] L) hk.symm (by rw [← hk]; exact m_of oa.1 h47) hl.symm hL).2 fun i hi => ?_
        rw [← way_eq hk hl]
        exact (key i hi).2
    · rw [bnd_eith hk hE] at h
      obtain ⟨hd, hall⟩ := eith_desc h
      obtain ⟨L, hx, -⟩ := eith_some h
      have hkx : x.kind = a.kind := by rw [hx]; rfl
      have ra := may_rows oa.1 (isE_kind hE)
      have rb := may_rows ob.1 (isE_kind (hk ▸ hE))
      refine ⟨(le_eith hkx.symm hE ra.rise (may_same oa.1 (isE_kind hE)).symm).2 fun s hs => ⟨hall s (.inl hs), ?_⟩, (le_eith (hk.symm.trans hkx.symm) (hk ▸ hE) rb.rise (may_same ob.1 (isE_kind (hk ▸ hE))).symm).2 fun s hs => ⟨hall s (.inr hs), ?_⟩⟩
      · have hv := hd.val s (hall s (.inl hs))
        rw [eithH, memB_of hs, Bool.true_or, if_pos rfl, eithE, memB_of hs] at hv
        by_cases hb : s ∈ b.names
        · rw [memB_of hb, if_pos rfl, if_pos rfl] at hv
          exact (IH _ _ _ _ (sub_mem ra.len hs) (sub_mem rb.len hb) hv).1
        · rw [memB_not hb, if_neg (by decide)] at hv
          rw [← Option.some.inj hv]
          exact le_refl (oa.child (sub_mem ra.len hs))
      · have hv := hd.val s (hall s (.inr hs))
        rw [eithH, memB_of hs, Bool.or_true, if_pos rfl, eithE, memB_of hs, if_pos rfl] at hv
        by_cases ha : s ∈ a.names
        · rw [memB_of ha, if_pos rfl] at hv
          exact (IH _ _ _ _ (sub_mem ra.len ha) (sub_mem rb.len hs) hv).2
        · rw [memB_not ha, if_neg (by decide)] at hv
          rw [← Option.some.inj hv]
          exact le_refl (ob.child (sub_mem rb.len hs))
    · rw [bnd_both hk hB] at h
      split at h
      · cases h
      obtain rfl := Option.some.inj h
      have ra := may_rows oa.1 (isB_kind hB)
      have rb := may_rows ob.1 (isB_kind (hk ▸ hB))
      have hd := join_desc (r := bndF n up) (b := b) ra.rise ra.len
      have key : ∀ s, s ∈ (joinR (bndF n up) a b).names → s ∈ a.names ∧ s ∈ b.names ∧ bndF n up (ofT a s) (ofT b s) = some (ofT (joinR (bndF n up) a b) s) := fun s hs => by
        have hv := hd.val s hs
        unfold bothG at hv
        split at hv
        · rename_i hm
          rw [Bool.and_eq_true] at hm
          exact ⟨(memB_iff _ _).1 hm.1, (memB_iff _ _).1 hm.2, hv⟩
        · cases hv
      refine ⟨(le_both (a := a) (c := joinR (bndF n up) a b) rfl hB hd.rise hd.len).2 fun s hs => ?_, (le_both (c := joinR (bndF n up) a b) hk.symm (hk ▸ hB) hd.rise hd.len).2 fun s hs => ?_⟩
      · obtain ⟨h1, h2, h3⟩ := key s hs
        exact ⟨h1, (IH _ _ _ _ (sub_mem ra.len h1) (sub_mem rb.len h2) h3).1⟩
      · obtain ⟨h1, h2, h3⟩ := key s hs
        exact ⟨h2, (IH _ _ _ _ (sub_mem ra.len h1) (sub_mem rb.len h2) h3).2⟩
    · rw [bnd_leaf hk h0] at h
      obtain ⟨rfl, rfl⟩ := leaf_some h
      exact ⟨le_refl oa, le_refl oa⟩
theorem bnd_least : ∀ (n : Nat) (up : Bool) (a b c : Ty), Oks n a → Oks n b → Oks n c → leF n up a c = true → leF n up b c = true → ∃ x, bndF n up a b = some x ∧ leF n up x c = true
  | 0, _, a, _, _, oa, _, _, _, _ => by have := deep_bound a; have := oa.2; omega
  | n + 1, up, a, b, c, oa, ob, oc, hac, hbc => by
    have IH : ∀ v y z t, y ∈ a.subs → z ∈ b.subs → t ∈ c.subs → leF n v y t = true → leF n v z t = true → ∃ x, bndF n v y z = some x ∧ leF n v x t = true := fun v y z t hy hz ht =>
      bnd_least n v y z t (oa.child hy) (ob.child hz) (oc.child ht)
    have k1 := le_kind hac
    have k2 := le_kind hbc
    have hk : a.kind = b.kind := k1.trans k2.symm
    rcases kinds a.kind up with h47 | hE | hB | h0
    · rw [bnd_parts hk h47]
      have l1 := le_len h47 oa.1 oc.1 hac
      have l2 := le_len (hk ▸ h47) ob.1 oc.1 hbc
      have p1 := (le_parts (m := a.subs.length) k1 (m_of oa.1 h47) rfl l1.symm).1 hac
      have p2 := (le_parts (m := a.subs.length) k2 (by rw [← hk]; exact m_of oa.1 h47) (by omega) l1.symm).1 hbc
      have key : ∀ i, i < a.subs.length → ∃ x, partG (bndF n) up a b i = some x ∧ leF n (wayOf up a i) x (c.subs.getD i zeroTy) = true := fun i hi => by
        have q2 := p2 i hi
        rw [← way_eq hk (by omega)] at q2
        exact IH _ _ _ _ (getD_mem hi) (getD_mem (by omega)) (getD_mem (by omega)) (p1 i hi) q2
      obtain ⟨x, hx⟩ := parts_ex (r := bndF n) (up := up) (a := a) (b := b) (by omega) fun i hi => by
        obtain ⟨x, hx, -⟩ := key i hi
        rw [hx]; rfl
      refine ⟨x, hx, ?_⟩
      obtain ⟨-, L, rfl, hL, hG⟩ := parts_some hx
      refine (le_parts (a := .mk a.kind _ 0 _ _ [] L) (m := a.subs.length) k1 (m_of oa.1 h47) hL l1.symm).2 fun i hi => ?_
      obtain ⟨y, hy, hly⟩ := key i hi
      rw [hG i (by omega)] at hy
      have e : (Ty.mk a.kind { data := #[] } 0 { data := #[] } { data := #[] } [] L).subs.getD i zeroTy = y := by
        show L.getD i zeroTy = y
        rw [getD_at (by omega)]
        exact Option.some.inj hy
      rw [e, ← way_eq (a := a) (b := .mk a.kind _ 0 _ _ [] L) rfl hL.symm]
      exact hly
    · rw [bnd_eith hk hE]
      have ra := may_rows oa.1 (isE_kind hE)
      have rb := may_rows ob.1 (isE_kind (hk ▸ hE))
      have rc := may_rows oc.1 (isE_kind (k1 ▸ hE))
      have p1 := (le_eith k1 hE ra.rise (may_same oa.1 (isE_kind hE)).symm).1 hac
      have p2 := (le_eith k2 (hk ▸ hE) rb.rise (may_same ob.1 (isE_kind (hk ▸ hE))).symm).1 hbc
      have key : ∀ s, s ∈ a.names ∨ s ∈ b.names → s ∈ c.names ∧ ∃ x, eithE (bndF n up) a b s = some x ∧ leF n up x (ofT c s) = true := fun s hs => by
        unfold eithE
        by_cases hb : s ∈ b.names
        · by_cases ha : s ∈ a.names
          · rw [memB_of hb, memB_of ha, if_pos rfl, if_pos rfl]
            exact ⟨(p1 s ha).1, IH _ _ _ _ (sub_mem ra.len ha) (sub_mem rb.len hb) (sub_mem rc.len (p1 s ha).1) (p1 s ha).2 (p2 s hb).2⟩
          · rw [memB_of hb, memB_not ha, if_pos rfl, if_neg (by decide)]
            exact ⟨(p2 s hb).1, _, rfl, (p2 s hb).2⟩
        · have ha : s ∈ a.names := hs.resolve_right hb
          rw [memB_not hb, if_neg (by decide)]
          exact ⟨(p1 s ha).1, _, rfl, (p1 s ha).2⟩
      obtain ⟨x, hx⟩ := eith_all (r := bndF n up) (a := a) (b := b) fun s hs => by
        obtain ⟨-, x, hx, -⟩ := key s hs
        rw [hx]; rfl
      refine ⟨x, hx, ?_⟩
      obtain ⟨hd, -⟩ := eith_desc hx
      obtain ⟨L, hxL, -⟩ := eith_some hx
      have hkx : x.kind = a.kind := by rw [hxL]; rfl
      refine (le_eith (hkx.trans k1) (by rw [hkx]; exact hE) hd.rise hd.len).2 fun s hs => ?_
      have hv := hd.val s hs
      unfold eithH at hv
      split at hv
      · rename_i hm
        have hm' : s ∈ a.names ∨ s ∈ b.names := by simpa [memB_iff] using hm
        obtain ⟨h1, y, hy, hly⟩ := key s hm'
        rw [hv] at hy
        rw [Option.some.inj hy]
        exact ⟨h1, hly⟩
      · cases hv
    · rw [bnd_both hk hB]
      have ra := may_rows oa.1 (isB_kind hB)
      have rb := may_rows ob.1 (isB_kind (hk ▸ hB))
      have rc := may_rows oc.1 (isB_kind (k1 ▸ hB))
      have lc := may_same oc.1 (isB_kind (k1 ▸ hB))
      have p1 := (le_both k1 hB rc.rise lc.symm).1 hac
      have p2 := (le_both k2 (hk ▸ hB) rc.rise lc.symm).1 hbc
      have hd := join_desc (r := bndF n up) (b := b) ra.rise ra.len
      have key : ∀ s, s ∈ c.names → ∃ x, bothG (bndF n up) a b s = some x ∧ leF n up x (ofT c s) = true := fun s hs => by
        obtain ⟨x, hx, hl⟩ := IH _ _ _ _ (sub_mem ra.len (p1 s hs).1) (sub_mem rb.len (p2 s hs).1) (sub_mem rc.len hs) (p1 s hs).2 (p2 s hs).2
        exact ⟨x, by rw [bothG, memB_of (p1 s hs).1, memB_of (p2 s hs).1]; exact hx, hl⟩
      rw [if_neg ?_]
      · refine ⟨_, rfl, (le_both (a := joinR (bndF n up) a b) k1 hB rc.rise lc.symm).2 fun s hs => ?_⟩
        obtain ⟨x, hx, hl⟩ := key s hs
        have hm := hd.has s x hx
        have hv := hd.val s hm
        rw [hx] at hv
        rw [← Option.some.inj hv]
        exact ⟨hm, hl⟩
      · rintro ⟨h6, h0⟩
        have hn : 0 < c.names.length := by
          have := may_kind oc.1
          simp [kindB, k1 ▸ h6] at this
          omega
        obtain ⟨x, hx, -⟩ := key _ (List.getElem_mem hn)
        have := hd.has _ _ hx
        rw [List.eq_nil_of_length_eq_zero h0] at this
        cases this
    · rw [bnd_leaf hk h0]
      have e2 := le_leaf k2 (by rw [← hk]; exact h0) hbc
      have e1 := le_leaf k1 h0 hac
      subst e1
      subst e2
      exact ⟨_, leaf_refl oa.1, hac⟩
end Go.Proofs.Ytalpmjmifcofeaa
