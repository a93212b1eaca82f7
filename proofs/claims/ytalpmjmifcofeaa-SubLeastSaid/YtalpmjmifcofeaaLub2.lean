/- The bounds of types, further laws: in both orders the same; of two, one of which stands for the other, that one; of plain ones plain. Plain Lean; no program in sight. -/
import Derived.Test.YtalpmjmifcofeaaLub
namespace Go.Proofs.Ytalpmjmifcofeaa
set_option linter.unusedSimpArgs false
set_option linter.unusedVariables false
theorem unionN_comm (l l' : List ByteArray) : unionN l l' = unionN l' l :=
  rise_eq (unionN_rise _ _) (unionN_rise _ _) fun s => by rw [unionN_mem, unionN_mem, or_comm]
theorem ty_eq {k : Int} {x y : Ty} (hx : ∃ L, x = tyOf k L) (hy : ∃ L, y = tyOf k L) (hn : x.names = y.names) (hs : x.subs = y.subs) : x = y := by
  obtain ⟨L, rfl⟩ := hx
  obtain ⟨L', rfl⟩ := hy
  have hn' : L.map (·.1) = L'.map (·.1) := hn
  have hs' : L.map (·.2) = L'.map (·.2) := hs
  unfold tyOf
  rw [hn', hs']
theorem may_bare {b : Ty} (mb : mayT b = true) (h : ¬ b.kind = 8) (h9 : ¬ b.kind = 9) : b = .mk b.kind { data := #[] } 0 { data := #[] } { data := #[] } b.names b.subs := by
  have sb := may_shape mb
  rw [shapeB, Bool.and_eq_true, Bool.and_eq_true, bareT, if_neg h, if_neg h9] at sb
  have eb := sb.1.1
  simp only [emptyB, Bool.and_eq_true, beq_iff_eq] at eb
  conv => lhs; rw [b.eta]
  rw [empty_of eb.1.1.1, eb.1.1.2, empty_of eb.1.2, empty_of eb.2]
theorem bnd_comm : ∀ (n : Nat) (up : Bool) (a b : Ty), Oks n a → Oks n b → bndF n up a b = bndF n up b a
  | 0, _, _, _, _, _ => rfl
  | n + 1, up, a, b, oa, ob => by
    have IH : ∀ v y z, y ∈ a.subs → z ∈ b.subs → bndF n v y z = bndF n v z y := fun v y z hy hz => bnd_comm n v y z (oa.child hy) (ob.child hz)
    by_cases hk : a.kind = b.kind
    · rcases kinds a.kind up with h47 | hE | hB | h0
      · rw [bnd_parts hk h47, bnd_parts hk.symm (hk ▸ h47)]
        unfold partsR
        by_cases hl : a.subs.length = b.subs.length
        · rw [if_pos hl, if_pos hl.symm, ← hl, ← hk]
          congr 2
          refine List.map_congr_left fun i hi => ?_
          have hi := List.mem_range.1 hi
          rw [partG, partG, way_eq hk hl]
          exact IH _ _ _ (getD_mem hi) (getD_mem (by omega))
        · rw [if_neg hl, if_neg (fun e => hl e.symm)]
      · rw [bnd_eith hk hE, bnd_eith hk.symm (hk ▸ hE)]
        have ra := may_rows oa.1 (isE_kind hE)
        have rb := may_rows ob.1 (isE_kind (hk ▸ hE))
        unfold eitherR
        rw [unionN_comm b.names a.names, ← hk]
        congr 2
        refine List.map_congr_left fun s hs => ?_
        have hs := (unionN_mem _ _ _).1 hs
        rw [eithG, eithG]
        congr 1
        unfold eithE
        by_cases hb : s ∈ b.names
        · by_cases ha : s ∈ a.names
          · rw [memB_of hb, memB_of ha, if_pos rfl, if_pos rfl, if_pos rfl, if_pos rfl]
            exact IH _ _ _ (sub_mem ra.len ha) (sub_mem rb.len hb)
          · rw [memB_of hb, memB_not ha, if_pos rfl, if_neg (by decide), if_neg (by decide)]
        · have ha : s ∈ a.names := hs.resolve_right hb
          rw [memB_not hb, memB_of ha, if_neg (by decide), if_pos rfl, if_neg (by decide)]
      · rw [bnd_both hk hB, bnd_both hk.symm (hk ▸ hB)]
        have ra := may_rows oa.1 (isB_kind hB)
        have rb := may_rows ob.1 (isB_kind (hk ▸ hB))
        have e : joinR (bndF n up) a b = joinR (bndF n up) b a := by
          have d1 := join_desc (r := bndF n up) (b := b) ra.rise ra.len
          have d2 := (join_desc (r := bndF n up) (b := a) rb.rise rb.len).congr (g' := bothG (bndF n up) a b) fun s => by
            unfold bothG
            by_cases hb : s ∈ b.names
            · by_cases ha : s ∈ a.names
              · rw [memB_of hb, memB_of ha]
                exact (IH _ _ _ (sub_mem ra.len ha) (sub_mem rb.len hb)).symm
              · rw [memB_of hb, memB_not ha]; rfl
            · rw [memB_not hb, Bool.and_false, Bool.false_and]
              rfl
          obtain ⟨h1, h2⟩ := d1.uniq d2
          exact ty_eq (k := a.kind) ⟨_, rfl⟩ ⟨bothL (bndF n up) a b.names b.subs, by rw [hk]; rfl⟩ h1 h2
        rw [e, hk]
      · rw [bnd_leaf hk h0, bnd_leaf hk.symm (hk ▸ h0)]
        unfold leafR
        by_cases e : a = b
        · subst e; rfl
        · have h1 : alikeT a b = false := by
            cases h : alikeT a b
            · rfl
            · exact absurd ((alike_iff _ _).1 h) e
          have h2 : alikeT b a = false := by
            cases h : alikeT b a
            · rfl
            · exact absurd ((alike_iff _ _).1 h).symm e
          rw [h1, h2]
          simp
    · rw [bndF, if_neg hk, bndF, if_neg (fun e => hk e.symm)]
theorem bnd_of_le : ∀ (n : Nat) (up : Bool) (a b : Ty), Oks n a → Oks n b → leF n up a b = true → bndF n up a b = some b
  | 0, _, a, _, oa, _, _ => by have := deep_bound a; have := oa.2; omega
  | n + 1, up, a, b, oa, ob, h => by
    have IH : ∀ v y z, y ∈ a.subs → z ∈ b.subs → leF n v y z = true → bndF n v y z = some z := fun v y z hy hz => bnd_of_le n v y z (oa.child hy) (ob.child hz)
    have hk := le_kind h
    rcases kinds a.kind up with h47 | hE | hB | h0
    · have hl := le_len h47 oa.1 ob.1 h
      have p := (le_parts (m := a.subs.length) hk (m_of oa.1 h47) rfl hl.symm).1 h
      rw [bnd_parts hk h47, parts_all b.subs hl hl.symm fun i hi => ?_]
      · have hb := may_bare ob.1 (by omega) (by omega)
        rw [may_nonames ob.1 (hk ▸ h47)] at hb
        rw [hk]
        exact congrArg some hb.symm
      · rw [partG, IH _ _ _ (getD_mem (by omega)) (getD_mem (by omega)) (p i (by omega)), getD_at hi]
    · have ra := may_rows oa.1 (isE_kind hE)
      have rb := may_rows ob.1 (isE_kind (hk ▸ hE))
      have p := (le_eith hk hE ra.rise (may_same oa.1 (isE_kind hE)).symm).1 h
      rw [bnd_eith hk hE]
      have key : ∀ s, s ∈ a.names ∨ s ∈ b.names → s ∈ b.names ∧ eithE (bndF n up) a b s = some (ofT b s) := fun s hs => by
        unfold eithE
        by_cases ha : s ∈ a.names
        · have hb := (p s ha).1
          rw [memB_of hb, memB_of ha, if_pos rfl, if_pos rfl]
          exact ⟨hb, IH _ _ _ (sub_mem ra.len ha) (sub_mem rb.len hb) (p s ha).2⟩
        · have hb := hs.resolve_left ha
          rw [memB_of hb, memB_not ha, if_pos rfl, if_neg (by decide)]
          exact ⟨hb, rfl⟩
      obtain ⟨x, hx⟩ := eith_all (r := bndF n up) (a := a) (b := b) fun s hs => by rw [(key s hs).2]; rfl
      rw [hx]
      obtain ⟨hd, -⟩ := eith_desc hx
      obtain ⟨L, hxL, -⟩ := eith_some hx
      have d2 := (may_desc ob.1 (isE_kind (hk ▸ hE))).congr (g' := eithH (bndF n up) a b) fun s => by
        unfold eithH
        by_cases hb : s ∈ b.names
        · rw [memB_of hb, if_pos rfl, Bool.or_true, if_pos rfl, (key s (.inr hb)).2]
        · have ha : ¬ s ∈ a.names := fun ha => hb (p s ha).1
          rw [memB_not hb, memB_not ha]
          rfl
      obtain ⟨h1, h2⟩ := hd.uniq d2
      have hb := may_bare ob.1 (by have := isE_kind hE; omega) (by have := isE_kind hE; omega)
      rw [hb, ← h1, ← h2, hxL, ← hk]
      rfl
    · have ra := may_rows oa.1 (isB_kind hB)
      have rb := may_rows ob.1 (isB_kind (hk ▸ hB))
      have lb := may_same ob.1 (isB_kind (hk ▸ hB))
      have p := (le_both hk hB rb.rise lb.symm).1 h
      rw [bnd_both hk hB]
      have hd := join_desc (r := bndF n up) (b := b) ra.rise ra.len
      have d2 := (may_desc ob.1 (isB_kind (hk ▸ hB))).congr (g' := bothG (bndF n up) a b) fun s => by
        unfold bothG
        by_cases hb : s ∈ b.names
        · have ha := (p s hb).1
          rw [memB_of hb, memB_of ha, if_pos rfl]
          exact (IH _ _ _ (sub_mem ra.len ha) (sub_mem rb.len hb) (p s hb).2).symm
        · rw [memB_not hb, Bool.and_false]
          rfl
      obtain ⟨h1, h2⟩ := hd.uniq d2
      have e : joinR (bndF n up) a b = b := by
        have hb := may_bare ob.1 (by have := isB_kind hB; omega) (by have := isB_kind hB; omega)
        refine Eq.trans ?_ hb.symm
        rw [← h1, ← h2, ← hk]
        rfl
      rw [e, if_neg]
      rintro ⟨h6, h0⟩
      have := may_kind ob.1
      simp [kindB, hk ▸ h6] at this
      omega
    · obtain rfl := le_leaf hk h0 h
      rw [bnd_leaf hk h0, leaf_refl oa.1]
theorem plain_child {t s : Ty} (h : plainT t = true) (hs : s ∈ t.subs) : plainT s = true := by
  rw [plainT_eq, Bool.and_eq_true] at h
  have h2 := h.2
  rw [← plainL_any] at h2
  simp only [Bool.not_eq_true', List.any_eq_false] at h2
  have := h2 s hs
  simpa using this
theorem plain_mk {t : Ty} (hk : ¬ t.kind = 8) (hs : ∀ s, s ∈ t.subs → plainT s = true) : plainT t = true := by
  rw [plainT_eq, Bool.and_eq_true, ← plainL_any]
  refine ⟨by simpa using hk, ?_⟩
  simp only [Bool.not_eq_true', List.any_eq_false]
  intro s h
  simp [hs s h]
theorem plain_kind {t : Ty} (h : plainT t = true) : ¬ t.kind = 8 := by
  rw [plainT_eq, Bool.and_eq_true] at h
  simpa using h.1
theorem bnd_plain : ∀ (n : Nat) (up : Bool) (a b x : Ty), Oks n a → Oks n b → plainT a = true → plainT b = true → bndF n up a b = some x → plainT x = true
  | 0, _, _, _, _, _, _, _, _, h => by simp [bndF] at h
  | n + 1, up, a, b, x, oa, ob, pa, pb, h => by
    have IH : ∀ v y z t, y ∈ a.subs → z ∈ b.subs → bndF n v y z = some t → plainT t = true := fun v y z t hy hz =>
      bnd_plain n v y z t (oa.child hy) (ob.child hz) (plain_child pa hy) (plain_child pb hz)
    have hk := bnd_kind h
    have desc : ∀ (x : Ty) (g : ByteArray → Option Ty), x.kind = a.kind → Desc x g → (∀ s t, g s = some t → plainT t = true) → plainT x = true := fun x g hkx hd hg => by
      refine plain_mk (by rw [hkx]; exact plain_kind pa) fun s hs => ?_
      obtain ⟨i, hi, rfl⟩ := List.getElem_of_mem hs
      have hi' : i < x.names.length := by rw [hd.len]; exact hi
      have := hd.val _ (List.getElem_mem hi')
      rw [ofT_get hd.rise (Nat.le_of_eq hd.len) hi'] at this
      exact hg _ _ this
    rcases kinds a.kind up with h47 | hE | hB | h0
    · rw [bnd_parts hk h47] at h
      obtain ⟨hl, L, rfl, hL, hG⟩ := parts_some h
      refine plain_mk (show ¬ a.kind = 8 from plain_kind pa) fun s hs => ?_
      have hs' : s ∈ L := hs
      obtain ⟨i, hi, rfl⟩ := List.getElem_of_mem hs'
      exact IH _ _ _ _ (getD_mem (by omega)) (getD_mem (by omega)) (hG i hi)
    · rw [bnd_eith hk hE] at h
      obtain ⟨hd, -⟩ := eith_desc h
      obtain ⟨L, hx, -⟩ := eith_some h
      have ra := may_rows oa.1 (isE_kind hE)
      have rb := may_rows ob.1 (isE_kind (hk ▸ hE))
      refine desc x _ (by rw [hx]; rfl) hd fun s t ht => ?_
      unfold eithH at ht
      split at ht
      · rename_i hm
        have hm : s ∈ a.names ∨ s ∈ b.names := by simpa [memB_iff] using hm
        unfold eithE at ht
        by_cases hb : s ∈ b.names
        · by_cases ha : s ∈ a.names
          · rw [memB_of hb, memB_of ha, if_pos rfl, if_pos rfl] at ht
            exact IH _ _ _ _ (sub_mem ra.len ha) (sub_mem rb.len hb) ht
          · rw [memB_of hb, memB_not ha, if_pos rfl, if_neg (by decide)] at ht
            rw [← Option.some.inj ht]
            exact plain_child pb (sub_mem rb.len hb)
        · rw [memB_not hb, if_neg (by decide)] at ht
          rw [← Option.some.inj ht]
          exact plain_child pa (sub_mem ra.len (hm.resolve_right hb))
      · cases ht
    · rw [bnd_both hk hB] at h
      split at h
      · cases h
      obtain rfl := Option.some.inj h
      have ra := may_rows oa.1 (isB_kind hB)
      have rb := may_rows ob.1 (isB_kind (hk ▸ hB))
      refine desc _ _ rfl (join_desc (r := bndF n up) (b := b) ra.rise ra.len) fun s t ht => ?_
      unfold bothG at ht
      split at ht
      · rename_i hm
        rw [Bool.and_eq_true] at hm
        exact IH _ _ _ _ (sub_mem ra.len ((memB_iff _ _).1 hm.1)) (sub_mem rb.len ((memB_iff _ _).1 hm.2)) ht
      · cases ht
    · rw [bnd_leaf hk h0] at h
      obtain ⟨rfl, rfl⟩ := leaf_some h
      exact pa
end Go.Proofs.Ytalpmjmifcofeaa
