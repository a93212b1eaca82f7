/- One case of the contract of merlonref09.Sub. -/
import Derived.Test.YtbffijiecbfpnaaGreatDoorRefSubB
namespace Go.Proofs.YtbffijiecbfpnaaGreatDoor
open Go.RowKit
set_option linter.unusedSimpArgs false
set_option linter.unusedVariables false
set_option maxRecDepth 100000 in
set_option maxHeartbeats 4000000 in
theorem refSub_0 (n : Nat) (HI : Hid (RefSubC n)) (a b : Ty) (cs cs' : Array Value) (B : Nat) (w : World) (ha : TyC w B a cs) (hb : TyC w B b cs') (hB : B ≤ w.heap.size)
    (ma : mayT a = true) (mb : mayT b = true) (da : deepT a ≤ n + 1) (db : deepT b ≤ n + 1) (hk : a.kind = b.kind) (h4 : ¬ a.kind = 4) (h5 : ¬ a.kind = 5) (h6 : ¬ a.kind = 6) (h7 : ¬ a.kind = 7) :
    Calls Tryz.prog 60 #[.agg cs, .agg cs'] w fun e w' => e = .returned (.bool (subF (n + 1) a b)) ∧ Below w.heap.size w w' := by
  obtain ⟨na, nc, sa, sc, f, rfl, -, hn, hs, -, -, hsub⟩ := ha.inv
  obtain ⟨na', nc', sa', sc', f', rfl, -, hn', hs', -, -, hsub'⟩ := hb.inv
  have HA := Lib.hid ha
  have HB := Lib.hid hb
  have HN := Lib.hid hn
  have HN' := Lib.hid hn'
  have HS := Lib.hid hs
  have HS' := Lib.hid hs'
  have HU := Lib.hid hsub
  have HU' := Lib.hid hsub'
  have MA := Lib.hid ma
  have MB := Lib.hid mb
  have hl1 := may_small ma
  have hl2 := may_small mb
  clear ha hb hn hn' hs hs' hsub hsub' ma mb
  go_enter Tryz.func60, Tryz.ntmps60
  have hacc : Below w.heap.size w ((w.alloc (.cells (tyCells a na nc sa sc) 41)).alloc (.cells (tyCells b na' nc' sa' sc') 41)) := ((Below.refl _ _).alloc (Nat.le_refl _) _).alloc (by simp) _
  have hbx := (boxes w (tyCells a na nc sa sc) (tyCells b na' nc' sa' sc') 41).1
  have hby := (boxes w (tyCells a na nc sa sc) (tyCells b na' nc' sa' sc') 41).2
  simp only [tyCells] at hacc hbx hby ⊢
  have HK := Lib.hid hk
  rw [← hk] at hacc hbx hby ⊢
  clear hk
  have hq := Lib.hid (show subF (n + 1) a b = alikeT a b by rw [subF, if_pos HK.out, if_neg h4, if_neg h5, if_neg h6, if_neg h7])
  have e4 : (a.kind == 4) = false := by simp [h4]
  have e5 : (a.kind == 5) = false := by simp [h5]
  have e6 : (a.kind == 6) = false := by simp [h6]
  have e7 : (a.kind == 7) = false := by simp [h7]
  clear h4 h5 h6 h7 hbx hby
  go_wp2_with fail
  generalize ((w.alloc (.cells #[.int .i64 a.kind, .string a.pkg, .int .i64 a.major, .string a.mod, .string a.name, .slice na a.names.length nc, .slice sa a.subs.length sc] 41)).alloc (.cells #[.int .i64 a.kind, .string b.pkg, .int .i64 b.major, .string b.mod, .string b.name, .slice na' b.names.length nc', .slice sa' b.subs.length sc'] 41)) = W at hacc ⊢
  have hA := HA.out.under (hacc.mono hB)
  have hB' := HB.out.under (hacc.mono hB)
  simp only [tyCells] at hA hB'
  rw [← HK.out] at hB'
  refine (rSame_c a b _ _ B _ hA hB' (Nat.le_trans hB hacc.size)).mono ?_
  rintro e w1 ⟨rfl, hb1⟩
  go_wp2
  go_ret
  exact ⟨ret_b (by rw [hq.out]), acc0 hacc hacc.size hb1⟩
set_option maxRecDepth 100000 in
set_option maxHeartbeats 4000000 in
theorem refSub_n (n : Nat) (HI : Hid (RefSubC n)) (a b : Ty) (cs cs' : Array Value) (B : Nat) (w : World) (ha : TyC w B a cs) (hb : TyC w B b cs') (hB : B ≤ w.heap.size)
    (ma : mayT a = true) (mb : mayT b = true) (da : deepT a ≤ n + 1) (db : deepT b ≤ n + 1) (hk : ¬ a.kind = b.kind) :
    Calls Tryz.prog 60 #[.agg cs, .agg cs'] w fun e w' => e = .returned (.bool (subF (n + 1) a b)) ∧ Below w.heap.size w w' := by
  obtain ⟨na, nc, sa, sc, f, rfl, -, hn, hs, -, -, hsub⟩ := ha.inv
  obtain ⟨na', nc', sa', sc', f', rfl, -, hn', hs', -, -, hsub'⟩ := hb.inv
  have HA := Lib.hid ha
  have HB := Lib.hid hb
  have HN := Lib.hid hn
  have HN' := Lib.hid hn'
  have HS := Lib.hid hs
  have HS' := Lib.hid hs'
  have HU := Lib.hid hsub
  have HU' := Lib.hid hsub'
  have MA := Lib.hid ma
  have MB := Lib.hid mb
  have hl1 := may_small ma
  have hl2 := may_small mb
  clear ha hb hn hn' hs hs' hsub hsub' ma mb
  go_enter Tryz.func60, Tryz.ntmps60
  have hacc : Below w.heap.size w ((w.alloc (.cells (tyCells a na nc sa sc) 41)).alloc (.cells (tyCells b na' nc' sa' sc') 41)) := ((Below.refl _ _).alloc (Nat.le_refl _) _).alloc (by simp) _
  have hbx := (boxes w (tyCells a na nc sa sc) (tyCells b na' nc' sa' sc') 41).1
  have hby := (boxes w (tyCells a na nc sa sc) (tyCells b na' nc' sa' sc') 41).2
  simp only [tyCells] at hacc hbx hby ⊢
  have hq := Lib.hid (show subF (n + 1) a b = false by rw [subF, if_neg hk])
  have hne : (a.kind != b.kind) = true := by simp [hk]
  go_wp2
  go_ret
  exact ⟨ret_b hq.out.symm, hacc⟩
end Go.Proofs.YtbffijiecbfpnaaGreatDoor
