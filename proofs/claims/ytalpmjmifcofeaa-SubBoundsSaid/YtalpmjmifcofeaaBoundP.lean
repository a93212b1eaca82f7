/- The contract of sub.bound where it hands on to parts and to either. -/
import Derived.Test.YtalpmjmifcofeaaPart
import Derived.Test.YtalpmjmifcofeaaEith
import Derived.Test.YtalpmjmifcofeaaBoundR
namespace Go.Proofs.Ytalpmjmifcofeaa
open Go.RowKit
set_option linter.unusedSimpArgs false
set_option linter.unusedVariables false
set_option maxRecDepth 100000 in
set_option maxHeartbeats 4000000 in
theorem bound_parts4 (r : Bool → Ty → Ty → Option Ty) (a b : Ty) (up : Bool) (hk : a.kind = 4) (hk' : b.kind = 4) (hla : a.subs.length ≤ 20) (hbd : ∀ x y v, x ∈ a.subs → y ∈ b.subs → BoundAt x y v (r v x y)) :
    BoundAt a b up (partsR r up a b) := by
  intro cs cs' B w ha hb hB
  obtain ⟨na, nc, sa, sc, f, rfl, -⟩ := ha.inv
  obtain ⟨na', nc', sa', sc', f', rfl, -⟩ := hb.inv
  have HA := Lib.hid ha
  have HB := Lib.hid hb
  have HK := Lib.hid hk
  have HK' := Lib.hid hk'
  generalize hR : partsR r up a b = R
  have HR := Lib.hid hR
  have HBD := Lib.hid hbd
  clear ha hb hR hbd
  go_enter Try.func39, Try.ntmps39
  simp only [tyCells]
  rw [hk, hk']
  clear hk hk'
  go_wp2_with fail
  have h3 := boxes3 w #[.int .i64 4, .string a.pkg, .int .i64 a.major, .string a.mod, .string a.name, .slice na a.names.length nc, .slice sa a.subs.length sc] #[.int .i64 4, .string b.pkg, .int .i64 b.major, .string b.mod, .string b.name, .slice na' b.names.length nc', .slice sa' b.subs.length sc'] #[.int .i64 0, .string { data := #[] }, .int .i64 0, .string { data := #[] }, .string { data := #[] }, .slice none 0 0, .slice none 0 0] 25
  generalize (((w.alloc (.cells #[.int .i64 4, .string a.pkg, .int .i64 a.major, .string a.mod, .string a.name, .slice na a.names.length nc, .slice sa a.subs.length sc] 25)).alloc (.cells #[.int .i64 4, .string b.pkg, .int .i64 b.major, .string b.mod, .string b.name, .slice na' b.names.length nc', .slice sa' b.subs.length sc'] 25)).alloc (.cells #[.int .i64 0, .string { data := #[] }, .int .i64 0, .string { data := #[] }, .string { data := #[] }, .slice none 0 0, .slice none 0 0] 25)) = W at h3 ⊢
  obtain ⟨x0, x1, x2, xs, xb⟩ := h3
  have X2 := Lib.hid x2
  have XB := Lib.hid xb
  have hsz := xb.size
  have hA := HA.out.under (xb.mono hB)
  have hB' := HB.out.under (xb.mono hB)
  simp only [tyCells] at hA hB'
  rw [HK.out] at hA
  rw [HK'.out] at hB'
  clear x0 x1 x2
  refine (parts_c r a b up _ _ B W hA hB' (Nat.le_trans hB hsz) hla HBD.out).mono ?_
  rw [HR.out]
  rintro e w1 ⟨⟨t, cs2, rfl, hrt, htm⟩, hb1⟩
  obtain ⟨na2, nc2, sa2, sc2, f2, rfl, -⟩ := htm.inv
  have HT := Lib.hid htm
  have HRT := Lib.hid hrt
  simp only [tyCells]
  have zb := X2.out.under hb1 X2.out.lt
  have z0 := zb.cell 0
  have f0 := zb.free 0
  have z1 := zb.cell 1
  have f1 := zb.free 1
  have z2 := zb.cell 2
  have f2 := zb.free 2
  have z3 := zb.cell 3
  have f3 := zb.free 3
  have z4 := zb.cell 4
  have f4 := zb.free 4
  have z5 := zb.cell 5
  have f5 := zb.free 5
  have z6 := zb.cell 6
  have f6 := zb.free 6
  simp at z0 z1 z2 z3 z4 z5 z6
  have zl := zb.lt
  have ZB := Lib.hid zb
  have HB1 := Lib.hid hb1
  clear zb hb1 htm hrt hA hB'
  go_wp2_with fail
  have hfin := put7_bel (.int .i64 t.kind) (.string t.pkg) (.int .i64 t.major) (.string t.mod) (.string t.name) (.slice na2 t.names.length nc2) (.slice sa2 t.subs.length sc2) (acc0 XB.out XB.out.size HB1.out) (show w.heap.size ≤ w.heap.size + 1 + 1 by omega)
  have hblk := put7_full (.int .i64 t.kind) (.string t.pkg) (.int .i64 t.major) (.string t.mod) (.string t.name) (.slice na2 t.names.length nc2) (.slice sa2 t.subs.length sc2) ZB.out
  have hty := ty_put7 (g := w.heap.size + 1 + 1) (.int .i64 t.kind) (.string t.pkg) (.int .i64 t.major) (.string t.mod) (.string t.name) (.slice na2 t.names.length nc2) (.slice sa2 t.subs.length sc2) HT.out (by omega) (by omega)
  generalize ((((((w1.setCell ⟨w.heap.size + 1 + 1, 0, none⟩ (.int .i64 t.kind)).setCell ⟨w.heap.size + 1 + 1, 1, none⟩ (.string t.pkg)).setCell ⟨w.heap.size + 1 + 1, 2, none⟩ (.int .i64 t.major)).setCell ⟨w.heap.size + 1 + 1, 3, none⟩ (.string t.mod)).setCell ⟨w.heap.size + 1 + 1, 4, none⟩ (.string t.name)).setCell ⟨w.heap.size + 1 + 1, 5, none⟩ (.slice na2 t.names.length nc2)).setCell ⟨w.heap.size + 1 + 1, 6, none⟩ (.slice sa2 t.subs.length sc2) = Wz at hfin hblk hty ⊢
  have q0 := hblk.cell 0
  have q1 := hblk.cell 1
  have q2 := hblk.cell 2
  have q3 := hblk.cell 3
  have q4 := hblk.cell 4
  have q5 := hblk.cell 5
  have q6 := hblk.cell 6
  simp at q0 q1 q2 q3 q4 q5 q6
  refine bodyPost_ret (by simp [results, Try.results39, go_sem, q0, q1, q2, q3, q4, q5, q6]; try rfl) rfl ?_
  exact ⟨⟨t, _, rfl, HRT.out, hty.mono fun b hb => hb.imp id fun h => ⟨Nat.le_trans (by omega) h.1, h.2⟩⟩, hfin⟩
set_option maxRecDepth 100000 in
set_option maxHeartbeats 4000000 in
theorem bound_parts7 (r : Bool → Ty → Ty → Option Ty) (a b : Ty) (up : Bool) (hk : a.kind = 7) (hk' : b.kind = 7) (hla : a.subs.length ≤ 20) (hbd : ∀ x y v, x ∈ a.subs → y ∈ b.subs → BoundAt x y v (r v x y)) :
    BoundAt a b up (partsR r up a b) := by
  intro cs cs' B w ha hb hB
  obtain ⟨na, nc, sa, sc, f, rfl, -⟩ := ha.inv
  obtain ⟨na', nc', sa', sc', f', rfl, -⟩ := hb.inv
  have HA := Lib.hid ha
  have HB := Lib.hid hb
  have HK := Lib.hid hk
  have HK' := Lib.hid hk'
  generalize hR : partsR r up a b = R
  have HR := Lib.hid hR
  have HBD := Lib.hid hbd
  clear ha hb hR hbd
  go_enter Try.func39, Try.ntmps39
  simp only [tyCells]
  rw [hk, hk']
  clear hk hk'
  go_wp2_with fail
  have h3 := boxes3 w #[.int .i64 7, .string a.pkg, .int .i64 a.major, .string a.mod, .string a.name, .slice na a.names.length nc, .slice sa a.subs.length sc] #[.int .i64 7, .string b.pkg, .int .i64 b.major, .string b.mod, .string b.name, .slice na' b.names.length nc', .slice sa' b.subs.length sc'] #[.int .i64 0, .string { data := #[] }, .int .i64 0, .string { data := #[] }, .string { data := #[] }, .slice none 0 0, .slice none 0 0] 25
  generalize (((w.alloc (.cells #[.int .i64 7, .string a.pkg, .int .i64 a.major, .string a.mod, .string a.name, .slice na a.names.length nc, .slice sa a.subs.length sc] 25)).alloc (.cells #[.int .i64 7, .string b.pkg, .int .i64 b.major, .string b.mod, .string b.name, .slice na' b.names.length nc', .slice sa' b.subs.length sc'] 25)).alloc (.cells #[.int .i64 0, .string { data := #[] }, .int .i64 0, .string { data := #[] }, .string { data := #[] }, .slice none 0 0, .slice none 0 0] 25)) = W at h3 ⊢
  obtain ⟨x0, x1, x2, xs, xb⟩ := h3
  have X2 := Lib.hid x2
  have XB := Lib.hid xb
  have hsz := xb.size
  have hA := HA.out.under (xb.mono hB)
  have hB' := HB.out.under (xb.mono hB)
  simp only [tyCells] at hA hB'
  rw [HK.out] at hA
  rw [HK'.out] at hB'
  clear x0 x1 x2
  refine (parts_c r a b up _ _ B W hA hB' (Nat.le_trans hB hsz) hla HBD.out).mono ?_
  rw [HR.out]
  rintro e w1 ⟨⟨t, cs2, rfl, hrt, htm⟩, hb1⟩
  obtain ⟨na2, nc2, sa2, sc2, f2, rfl, -⟩ := htm.inv
  have HT := Lib.hid htm
  have HRT := Lib.hid hrt
  simp only [tyCells]
  have zb := X2.out.under hb1 X2.out.lt
  have z0 := zb.cell 0
  have f0 := zb.free 0
  have z1 := zb.cell 1
  have f1 := zb.free 1
  have z2 := zb.cell 2
  have f2 := zb.free 2
  have z3 := zb.cell 3
  have f3 := zb.free 3
  have z4 := zb.cell 4
  have f4 := zb.free 4
  have z5 := zb.cell 5
  have f5 := zb.free 5
  have z6 := zb.cell 6
  have f6 := zb.free 6
  simp at z0 z1 z2 z3 z4 z5 z6
  have zl := zb.lt
  have ZB := Lib.hid zb
  have HB1 := Lib.hid hb1
  clear zb hb1 htm hrt hA hB'
  go_wp2_with fail
  have hfin := put7_bel (.int .i64 t.kind) (.string t.pkg) (.int .i64 t.major) (.string t.mod) (.string t.name) (.slice na2 t.names.length nc2) (.slice sa2 t.subs.length sc2) (acc0 XB.out XB.out.size HB1.out) (show w.heap.size ≤ w.heap.size + 1 + 1 by omega)
  have hblk := put7_full (.int .i64 t.kind) (.string t.pkg) (.int .i64 t.major) (.string t.mod) (.string t.name) (.slice na2 t.names.length nc2) (.slice sa2 t.subs.length sc2) ZB.out
  have hty := ty_put7 (g := w.heap.size + 1 + 1) (.int .i64 t.kind) (.string t.pkg) (.int .i64 t.major) (.string t.mod) (.string t.name) (.slice na2 t.names.length nc2) (.slice sa2 t.subs.length sc2) HT.out (by omega) (by omega)
  generalize ((((((w1.setCell ⟨w.heap.size + 1 + 1, 0, none⟩ (.int .i64 t.kind)).setCell ⟨w.heap.size + 1 + 1, 1, none⟩ (.string t.pkg)).setCell ⟨w.heap.size + 1 + 1, 2, none⟩ (.int .i64 t.major)).setCell ⟨w.heap.size + 1 + 1, 3, none⟩ (.string t.mod)).setCell ⟨w.heap.size + 1 + 1, 4, none⟩ (.string t.name)).setCell ⟨w.heap.size + 1 + 1, 5, none⟩ (.slice na2 t.names.length nc2)).setCell ⟨w.heap.size + 1 + 1, 6, none⟩ (.slice sa2 t.subs.length sc2) = Wz at hfin hblk hty ⊢
  have q0 := hblk.cell 0
  have q1 := hblk.cell 1
  have q2 := hblk.cell 2
  have q3 := hblk.cell 3
  have q4 := hblk.cell 4
  have q5 := hblk.cell 5
  have q6 := hblk.cell 6
  simp at q0 q1 q2 q3 q4 q5 q6
  refine bodyPost_ret (by simp [results, Try.results39, go_sem, q0, q1, q2, q3, q4, q5, q6]; try rfl) rfl ?_
  exact ⟨⟨t, _, rfl, HRT.out, hty.mono fun b hb => hb.imp id fun h => ⟨Nat.le_trans (by omega) h.1, h.2⟩⟩, hfin⟩
set_option maxRecDepth 100000 in
set_option maxHeartbeats 4000000 in
theorem bound_eith5 (r : Ty → Ty → Option Ty) (a b : Ty) (hk : a.kind = 5) (hk' : b.kind = 5) (hra : RowsOk a) (hrb : RowsOk b) (hla : a.subs.length ≤ 20) (hlb : b.subs.length ≤ 20) (hbd : ∀ x y, x ∈ a.subs → y ∈ b.subs → BoundAt x y false (r x y)) :
    BoundAt a b false (eitherR r a b) := by
  intro cs cs' B w ha hb hB
  obtain ⟨na, nc, sa, sc, f, rfl, -⟩ := ha.inv
  obtain ⟨na', nc', sa', sc', f', rfl, -⟩ := hb.inv
  have HA := Lib.hid ha
  have HB := Lib.hid hb
  have HK := Lib.hid hk
  have HK' := Lib.hid hk'
  generalize hR : eitherR r a b = R
  have HR := Lib.hid hR
  have HBD := Lib.hid hbd
  clear ha hb hR hbd
  go_enter Try.func39, Try.ntmps39
  simp only [tyCells]
  rw [hk, hk']
  clear hk hk'
  go_wp2_with fail
  have h3 := boxes3 w #[.int .i64 5, .string a.pkg, .int .i64 a.major, .string a.mod, .string a.name, .slice na a.names.length nc, .slice sa a.subs.length sc] #[.int .i64 5, .string b.pkg, .int .i64 b.major, .string b.mod, .string b.name, .slice na' b.names.length nc', .slice sa' b.subs.length sc'] #[.int .i64 0, .string { data := #[] }, .int .i64 0, .string { data := #[] }, .string { data := #[] }, .slice none 0 0, .slice none 0 0] 25
  generalize (((w.alloc (.cells #[.int .i64 5, .string a.pkg, .int .i64 a.major, .string a.mod, .string a.name, .slice na a.names.length nc, .slice sa a.subs.length sc] 25)).alloc (.cells #[.int .i64 5, .string b.pkg, .int .i64 b.major, .string b.mod, .string b.name, .slice na' b.names.length nc', .slice sa' b.subs.length sc'] 25)).alloc (.cells #[.int .i64 0, .string { data := #[] }, .int .i64 0, .string { data := #[] }, .string { data := #[] }, .slice none 0 0, .slice none 0 0] 25)) = W at h3 ⊢
  obtain ⟨x0, x1, x2, xs, xb⟩ := h3
  have X2 := Lib.hid x2
  have XB := Lib.hid xb
  have hsz := xb.size
  have hA := HA.out.under (xb.mono hB)
  have hB' := HB.out.under (xb.mono hB)
  simp only [tyCells] at hA hB'
  rw [HK.out] at hA
  rw [HK'.out] at hB'
  clear x0 x1 x2
  refine (either_c r a b false _ _ B W hA hB' (Nat.le_trans hB hsz) hra hrb hla hlb HBD.out).mono ?_
  rw [HR.out]
  rintro e w1 ⟨⟨t, cs2, rfl, hrt, htm⟩, hb1⟩
  obtain ⟨na2, nc2, sa2, sc2, f2, rfl, -⟩ := htm.inv
  have HT := Lib.hid htm
  have HRT := Lib.hid hrt
  simp only [tyCells]
  have zb := X2.out.under hb1 X2.out.lt
  have z0 := zb.cell 0
  have f0 := zb.free 0
  have z1 := zb.cell 1
  have f1 := zb.free 1
  have z2 := zb.cell 2
  have f2 := zb.free 2
  have z3 := zb.cell 3
  have f3 := zb.free 3
  have z4 := zb.cell 4
  have f4 := zb.free 4
  have z5 := zb.cell 5
  have f5 := zb.free 5
  have z6 := zb.cell 6
  have f6 := zb.free 6
  simp at z0 z1 z2 z3 z4 z5 z6
  have zl := zb.lt
  have ZB := Lib.hid zb
  have HB1 := Lib.hid hb1
  clear zb hb1 htm hrt hA hB'
  go_wp2_with fail
  have hfin := put7_bel (.int .i64 t.kind) (.string t.pkg) (.int .i64 t.major) (.string t.mod) (.string t.name) (.slice na2 t.names.length nc2) (.slice sa2 t.subs.length sc2) (acc0 XB.out XB.out.size HB1.out) (show w.heap.size ≤ w.heap.size + 1 + 1 by omega)
  have hblk := put7_full (.int .i64 t.kind) (.string t.pkg) (.int .i64 t.major) (.string t.mod) (.string t.name) (.slice na2 t.names.length nc2) (.slice sa2 t.subs.length sc2) ZB.out
  have hty := ty_put7 (g := w.heap.size + 1 + 1) (.int .i64 t.kind) (.string t.pkg) (.int .i64 t.major) (.string t.mod) (.string t.name) (.slice na2 t.names.length nc2) (.slice sa2 t.subs.length sc2) HT.out (by omega) (by omega)
  generalize ((((((w1.setCell ⟨w.heap.size + 1 + 1, 0, none⟩ (.int .i64 t.kind)).setCell ⟨w.heap.size + 1 + 1, 1, none⟩ (.string t.pkg)).setCell ⟨w.heap.size + 1 + 1, 2, none⟩ (.int .i64 t.major)).setCell ⟨w.heap.size + 1 + 1, 3, none⟩ (.string t.mod)).setCell ⟨w.heap.size + 1 + 1, 4, none⟩ (.string t.name)).setCell ⟨w.heap.size + 1 + 1, 5, none⟩ (.slice na2 t.names.length nc2)).setCell ⟨w.heap.size + 1 + 1, 6, none⟩ (.slice sa2 t.subs.length sc2) = Wz at hfin hblk hty ⊢
  have q0 := hblk.cell 0
  have q1 := hblk.cell 1
  have q2 := hblk.cell 2
  have q3 := hblk.cell 3
  have q4 := hblk.cell 4
  have q5 := hblk.cell 5
  have q6 := hblk.cell 6
  simp at q0 q1 q2 q3 q4 q5 q6
  refine bodyPost_ret (by simp [results, Try.results39, go_sem, q0, q1, q2, q3, q4, q5, q6]; try rfl) rfl ?_
  exact ⟨⟨t, _, rfl, HRT.out, hty.mono fun b hb => hb.imp id fun h => ⟨Nat.le_trans (by omega) h.1, h.2⟩⟩, hfin⟩
set_option maxRecDepth 100000 in
set_option maxHeartbeats 4000000 in
theorem bound_eith6 (r : Ty → Ty → Option Ty) (a b : Ty) (hk : a.kind = 6) (hk' : b.kind = 6) (hra : RowsOk a) (hrb : RowsOk b) (hla : a.subs.length ≤ 20) (hlb : b.subs.length ≤ 20) (hbd : ∀ x y, x ∈ a.subs → y ∈ b.subs → BoundAt x y true (r x y)) :
    BoundAt a b true (eitherR r a b) := by
  intro cs cs' B w ha hb hB
  obtain ⟨na, nc, sa, sc, f, rfl, -⟩ := ha.inv
  obtain ⟨na', nc', sa', sc', f', rfl, -⟩ := hb.inv
  have HA := Lib.hid ha
  have HB := Lib.hid hb
  have HK := Lib.hid hk
  have HK' := Lib.hid hk'
  generalize hR : eitherR r a b = R
  have HR := Lib.hid hR
  have HBD := Lib.hid hbd
  clear ha hb hR hbd
  go_enter Try.func39, Try.ntmps39
  simp only [tyCells]
  rw [hk, hk']
  clear hk hk'
  go_wp2_with fail
  have h3 := boxes3 w #[.int .i64 6, .string a.pkg, .int .i64 a.major, .string a.mod, .string a.name, .slice na a.names.length nc, .slice sa a.subs.length sc] #[.int .i64 6, .string b.pkg, .int .i64 b.major, .string b.mod, .string b.name, .slice na' b.names.length nc', .slice sa' b.subs.length sc'] #[.int .i64 0, .string { data := #[] }, .int .i64 0, .string { data := #[] }, .string { data := #[] }, .slice none 0 0, .slice none 0 0] 25
  generalize (((w.alloc (.cells #[.int .i64 6, .string a.pkg, .int .i64 a.major, .string a.mod, .string a.name, .slice na a.names.length nc, .slice sa a.subs.length sc] 25)).alloc (.cells #[.int .i64 6, .string b.pkg, .int .i64 b.major, .string b.mod, .string b.name, .slice na' b.names.length nc', .slice sa' b.subs.length sc'] 25)).alloc (.cells #[.int .i64 0, .string { data := #[] }, .int .i64 0, .string { data := #[] }, .string { data := #[] }, .slice none 0 0, .slice none 0 0] 25)) = W at h3 ⊢
  obtain ⟨x0, x1, x2, xs, xb⟩ := h3
  have X2 := Lib.hid x2
  have XB := Lib.hid xb
  have hsz := xb.size
  have hA := HA.out.under (xb.mono hB)
  have hB' := HB.out.under (xb.mono hB)
  simp only [tyCells] at hA hB'
  rw [HK.out] at hA
  rw [HK'.out] at hB'
  clear x0 x1 x2
  refine (either_c r a b true _ _ B W hA hB' (Nat.le_trans hB hsz) hra hrb hla hlb HBD.out).mono ?_
  rw [HR.out]
  rintro e w1 ⟨⟨t, cs2, rfl, hrt, htm⟩, hb1⟩
  obtain ⟨na2, nc2, sa2, sc2, f2, rfl, -⟩ := htm.inv
  have HT := Lib.hid htm
  have HRT := Lib.hid hrt
  simp only [tyCells]
  have zb := X2.out.under hb1 X2.out.lt
  have z0 := zb.cell 0
  have f0 := zb.free 0
  have z1 := zb.cell 1
  have f1 := zb.free 1
  have z2 := zb.cell 2
  have f2 := zb.free 2
  have z3 := zb.cell 3
  have f3 := zb.free 3
  have z4 := zb.cell 4
  have f4 := zb.free 4
  have z5 := zb.cell 5
  have f5 := zb.free 5
  have z6 := zb.cell 6
  have f6 := zb.free 6
  simp at z0 z1 z2 z3 z4 z5 z6
  have zl := zb.lt
  have ZB := Lib.hid zb
  have HB1 := Lib.hid hb1
  clear zb hb1 htm hrt hA hB'
  go_wp2_with fail
  have hfin := put7_bel (.int .i64 t.kind) (.string t.pkg) (.int .i64 t.major) (.string t.mod) (.string t.name) (.slice na2 t.names.length nc2) (.slice sa2 t.subs.length sc2) (acc0 XB.out XB.out.size HB1.out) (show w.heap.size ≤ w.heap.size + 1 + 1 by omega)
  have hblk := put7_full (.int .i64 t.kind) (.string t.pkg) (.int .i64 t.major) (.string t.mod) (.string t.name) (.slice na2 t.names.length nc2) (.slice sa2 t.subs.length sc2) ZB.out
  have hty := ty_put7 (g := w.heap.size + 1 + 1) (.int .i64 t.kind) (.string t.pkg) (.int .i64 t.major) (.string t.mod) (.string t.name) (.slice na2 t.names.length nc2) (.slice sa2 t.subs.length sc2) HT.out (by omega) (by omega)
  generalize ((((((w1.setCell ⟨w.heap.size + 1 + 1, 0, none⟩ (.int .i64 t.kind)).setCell ⟨w.heap.size + 1 + 1, 1, none⟩ (.string t.pkg)).setCell ⟨w.heap.size + 1 + 1, 2, none⟩ (.int .i64 t.major)).setCell ⟨w.heap.size + 1 + 1, 3, none⟩ (.string t.mod)).setCell ⟨w.heap.size + 1 + 1, 4, none⟩ (.string t.name)).setCell ⟨w.heap.size + 1 + 1, 5, none⟩ (.slice na2 t.names.length nc2)).setCell ⟨w.heap.size + 1 + 1, 6, none⟩ (.slice sa2 t.subs.length sc2) = Wz at hfin hblk hty ⊢
  have q0 := hblk.cell 0
  have q1 := hblk.cell 1
  have q2 := hblk.cell 2
  have q3 := hblk.cell 3
  have q4 := hblk.cell 4
  have q5 := hblk.cell 5
  have q6 := hblk.cell 6
  simp at q0 q1 q2 q3 q4 q5 q6
  refine bodyPost_ret (by simp [results, Try.results39, go_sem, q0, q1, q2, q3, q4, q5, q6]; try rfl) rfl ?_
  exact ⟨⟨t, _, rfl, HRT.out, hty.mono fun b hb => hb.imp id fun h => ⟨Nat.le_trans (by omega) h.1, h.2⟩⟩, hfin⟩
end Go.Proofs.Ytalpmjmifcofeaa
