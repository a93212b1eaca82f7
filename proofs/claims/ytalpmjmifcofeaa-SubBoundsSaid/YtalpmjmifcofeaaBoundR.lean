/- The contract of sub.bound at records (up). -/
import Derived.Test.YtalpmjmifcofeaaBoundL
import Derived.Test.YtalpmjmifcofeaaBothR
namespace Go.Proofs.Ytalpmjmifcofeaa
open Go.RowKit
set_option linter.unusedSimpArgs false
set_option linter.unusedVariables false
def joinR (r : Ty → Ty → Option Ty) (a b : Ty) : Ty := .mk a.kind { data := #[] } 0 { data := #[] } { data := #[] } ((bothL r b a.names a.subs).map (·.1)) ((bothL r b a.names a.subs).map (·.2))
set_option maxRecDepth 100000 in
set_option maxHeartbeats 4000000 in
theorem bound_rec (r : Ty → Ty → Option Ty) (a b : Ty) (hk : a.kind = 5) (hk' : b.kind = 5) (hra : RowsOk a) (hrb : RowsOk b) (hla : a.subs.length ≤ 20) (hbd : ∀ x y, x ∈ a.subs → y ∈ b.subs → BoundAt x y true (r x y)) :
    BoundAt a b true (some (joinR r a b)) := by
  intro cs cs' B w ha hb hB
  obtain ⟨na, nc, sa, sc, f, rfl, -⟩ := ha.inv
  obtain ⟨na', nc', sa', sc', f', rfl, -⟩ := hb.inv
  have HA := Lib.hid ha
  have HB := Lib.hid hb
  have HK := Lib.hid hk
  have HK' := Lib.hid hk'
  have HRA := Lib.hid hra
  have HRB := Lib.hid hrb
  have HBD := Lib.hid hbd
  clear ha hb hra hrb hbd
  go_enter Try.func39, Try.ntmps39
  simp only [tyCells]
  rw [hk, hk']
  clear hk hk'
  go_wp2_with fail
  have h3 := boxes3 w #[.int .i64 5, .string a.pkg, .int .i64 a.major, .string a.mod, .string a.name, .slice na a.names.length nc, .slice sa a.subs.length sc] #[.int .i64 5, .string b.pkg, .int .i64 b.major, .string b.mod, .string b.name, .slice na' b.names.length nc', .slice sa' b.subs.length sc'] #[.int .i64 0, .string { data := #[] }, .int .i64 0, .string { data := #[] }, .string { data := #[] }, .slice none 0 0, .slice none 0 0] 25
  generalize (((w.alloc (.cells #[.int .i64 5, .string a.pkg, .int .i64 a.major, .string a.mod, .string a.name, .slice na a.names.length nc, .slice sa a.subs.length sc] 25)).alloc (.cells #[.int .i64 5, .string b.pkg, .int .i64 b.major, .string b.mod, .string b.name, .slice na' b.names.length nc', .slice sa' b.subs.length sc'] 25)).alloc (.cells #[.int .i64 0, .string { data := #[] }, .int .i64 0, .string { data := #[] }, .string { data := #[] }, .slice none 0 0, .slice none 0 0] 25)) = W at h3 ⊢
  obtain ⟨x0, x1, x2, xs, xb⟩ := h3
  have X2 := Lib.hid x2
  have XB := Lib.hid xb
  have hsz := xb.size
  have hA := HA.out.under (xb.mono hB)
  have hB' := HB.out.under (xb.mono hB)
  simp only [tyCells] at hA hB'
  rw [HK.out] at hA
  rw [HK'.out] at hB'
  clear x0 x1 x2
  refine (both_c r a b true _ _ B W hA hB' (Nat.le_trans hB hsz) HRA.out HRB.out hla HBD.out).mono ?_
  rintro e w1 ⟨⟨cs2, rfl, htm⟩, hb1⟩
  have HT0 := Lib.hid (show TyM w1 (fun b => b < B ∨ Fresh W w1 b) (joinR r a b) cs2 from htm)
  have hJ : (joinR r a b).kind = 5 := HK.out
  generalize hJJ : joinR r a b = J at HT0 hJ ⊢
  have HJJ := Lib.hid hJJ
  clear hJJ
  obtain ⟨na2, nc2, sa2, sc2, f2, rfl, -⟩ := HT0.out.inv
  simp only [tyCells]
  have HJ := Lib.hid hJ
  rw [hJ]
  clear hJ htm
  have zb := X2.out.under hb1 X2.out.lt
  have z := zb.cell
  have zf := zb.free
  have z0 := z 0
  have z1 := z 1
  have z2 := z 2
  have z3 := z 3
  have z4 := z 4
  have z5 := z 5
  have z6 := z 6
  have f0 := zf 0
  have f1 := zf 1
  have f2 := zf 2
  have f3 := zf 3
  have f4 := zf 4
  have f5 := zf 5
  have f6 := zf 6
  simp at z0 z1 z2 z3 z4 z5 z6
  have zl := zb.lt
  have ZB := Lib.hid zb
  have HB1 := Lib.hid hb1
  clear z zf zb hb1
  go_wp2
  go_region
  have hfin : Below w.heap.size w (((((((((((((w1.setCell ⟨w.heap.size + 1 + 1, 0, none⟩ (.int .i64 5))).setCell ⟨w.heap.size + 1 + 1, 1, none⟩ (.string J.pkg))).setCell ⟨w.heap.size + 1 + 1, 2, none⟩ (.int .i64 J.major))).setCell ⟨w.heap.size + 1 + 1, 3, none⟩ (.string J.mod))).setCell ⟨w.heap.size + 1 + 1, 4, none⟩ (.string J.name))).setCell ⟨w.heap.size + 1 + 1, 5, none⟩ (.slice na2 J.names.length nc2))).setCell ⟨w.heap.size + 1 + 1, 6, none⟩ (.slice sa2 J.subs.length sc2)) := put7_bel (.int .i64 5) (.string J.pkg) (.int .i64 J.major) (.string J.mod) (.string J.name) (.slice na2 J.names.length nc2) (.slice sa2 J.subs.length sc2) (acc0 XB.out XB.out.size HB1.out) (by omega)
  have hblk := put7_full (.int .i64 5) (.string J.pkg) (.int .i64 J.major) (.string J.mod) (.string J.name) (.slice na2 J.names.length nc2) (.slice sa2 J.subs.length sc2) ZB.out
  have hty := ty_put7 (g := w.heap.size + 1 + 1) (.int .i64 5) (.string J.pkg) (.int .i64 J.major) (.string J.mod) (.string J.name) (.slice na2 J.names.length nc2) (.slice sa2 J.subs.length sc2) HT0.out (by omega) (by omega)
  generalize (((((((((((((w1.setCell ⟨w.heap.size + 1 + 1, 0, none⟩ (.int .i64 5))).setCell ⟨w.heap.size + 1 + 1, 1, none⟩ (.string J.pkg))).setCell ⟨w.heap.size + 1 + 1, 2, none⟩ (.int .i64 J.major))).setCell ⟨w.heap.size + 1 + 1, 3, none⟩ (.string J.mod))).setCell ⟨w.heap.size + 1 + 1, 4, none⟩ (.string J.name))).setCell ⟨w.heap.size + 1 + 1, 5, none⟩ (.slice na2 J.names.length nc2))).setCell ⟨w.heap.size + 1 + 1, 6, none⟩ (.slice sa2 J.subs.length sc2)) = Wz at hfin hblk hty ⊢
  have hfin2 : Below w.heap.size w (Wz.alloc (.cells #[.int .i64 5, .string J.pkg, .int .i64 J.major, .string J.mod, .string J.name, .slice na2 J.names.length nc2, .slice sa2 J.subs.length sc2] 25)).drew := (hfin.alloc hfin.size _).drew
  have hblk2 := (hblk.alloc (.cells #[.int .i64 5, .string J.pkg, .int .i64 J.major, .string J.mod, .string J.name, .slice na2 J.names.length nc2, .slice sa2 J.subs.length sc2] 25)).drew
  have hty2 := ty_box (w := w) (o := (.cells #[.int .i64 5, .string J.pkg, .int .i64 J.major, .string J.mod, .string J.name, .slice na2 J.names.length nc2, .slice sa2 J.subs.length sc2] 25)) hty hsz (by have := hfin.size; omega)
  generalize (Wz.alloc (.cells #[.int .i64 5, .string J.pkg, .int .i64 J.major, .string J.mod, .string J.name, .slice na2 J.names.length nc2, .slice sa2 J.subs.length sc2] 25)).drew = V at hfin2 hblk2 hty2 ⊢
  have w0 := hblk2.cell 0
  have w1 := hblk2.cell 1
  have w2 := hblk2.cell 2
  have w3 := hblk2.cell 3
  have w4 := hblk2.cell 4
  have w5 := hblk2.cell 5
  have w6 := hblk2.cell 6
  simp at w0 w1 w2 w3 w4 w5 w6
  go_wp2
  refine bodyPost_ret (by simp [results, Try.results39, go_sem, w0, w1, w2, w3, w4, w5, w6]; try rfl) rfl ?_
  simp only [tyCells] at hty2
  rw [HJ.out] at hty2
  exact ⟨⟨J, _, rfl, fun x hx => by rw [HJJ.out] at hx; exact Option.some.inj hx, hty2⟩, hfin2⟩
end Go.Proofs.Ytalpmjmifcofeaa
