/- The contract of scope.find: the place of the first declaration of a type of that name. -/
import Derived.Test.YtjeldfipipkfiaaGreatDoorIdxS
import Derived.Deep.DeepCutAuto
import Derived.Deep.Cut
import Derived.Test.YtjeldfipipkfiaaGreatDoorMemM
namespace Go.Proofs.YtjeldfipipkfiaaGreatDoor
open Go.RowKit
set_option linter.unusedSimpArgs false
set_option linter.unusedVariables false
set_option maxRecDepth 100000 in
set_option maxHeartbeats 4000000 in
theorem find1_c (x : Dcl) (nm : ByteArray) (nb : Nat) (na : Option Addr) (nc : Nat) (sa : Option Addr) (sc : Nat) (w : World) (hn : w.cell? ⟨nb, 0, none⟩ = some (.string nm)) (hlt : nb < w.heap.size) :
    Calls Tryz.prog 170 #[.agg (dclCells x na nc sa sc), .pointer (some ⟨nb, 0, none⟩)] w fun e w' => e = .returned (.bool (isT nm x)) ∧ Below w.heap.size w w' := by
  obtain ⟨v, hv⟩ : ∃ v, isT nm x = v := ⟨_, rfl⟩
  rw [hv]
  have HV := Lib.hid hv
  clear hv
  unfold dclCells
  go_enter Tryz.func170, Tryz.ntmps170
  go_upto_region 1 with fail
  have hb := (Below.refl w.heap.size w).alloc (Nat.le_refl _) (.cells #[.int .i64 x.kind, .string x.name, .int .i64 x.ty.kind, .string x.ty.pkg, .int .i64 x.ty.major, .string x.ty.mod, .string x.ty.name, .slice na x.ty.names.length nc, .slice sa x.ty.subs.length sc] 45)
  have d0 := Blk.new w #[.int .i64 x.kind, .string x.name, .int .i64 x.ty.kind, .string x.ty.pkg, .int .i64 x.ty.major, .string x.ty.mod, .string x.ty.name, .slice na x.ty.names.length nc, .slice sa x.ty.subs.length sc] 45
  generalize w.alloc (.cells #[.int .i64 x.kind, .string x.name, .int .i64 x.ty.kind, .string x.ty.pkg, .int .i64 x.ty.major, .string x.ty.mod, .string x.ty.name, .slice na x.ty.names.length nc, .slice sa x.ty.subs.length sc] 45) = W at hb d0 ⊢
  have k0 := d0.cell 0
  have k1 := d0.cell 1
  simp at k0 k1
  have kn := (hb.cell (p := ⟨nb, 0, none⟩) hlt).trans hn
  have HB := Lib.hid hb
  have kl := d0.lt
  clear hb d0 hn
  go_wp2_with fail
  · rename x.kind = 4 => h4
    go_ret
    exact ⟨ret_b ((show isT nm x = false by simp [isT, h4]).symm.trans HV.out), HB.out⟩
  · go_ret
    exact ⟨ret_b HV.out, HB.out⟩
theorem findF_idx (m : Mdl) (nm : ByteArray) : idxP (isT nm) m.decls = match findD m.decls nm with | some i => ((i : Nat) : Int) | none => -1 := rfl
set_option maxRecDepth 100000 in
set_option maxHeartbeats 4000000 in
theorem find_c (m : Mdl) (nm : ByteArray) (ia : Option Addr) (ic : Nat) (da : Option Addr) (dc B : Nat) (w : World) (hm : MdlC w B m ia ic da dc) (hB : B ≤ w.heap.size) (hl : m.decls.length ≤ 1000000) :
    Calls Tryz.prog 107 #[.agg (mdlCells m ia ic da dc), .string nm] w fun e w' => e = .returned (.int .i64 (idxP (isT nm) m.decls)) ∧ Below w.heap.size w w' := by
  have HM := Lib.hid hm
  clear hm
  unfold mdlCells
  go_enter Tryz.func107, Tryz.ntmps107
  go_upto_region 1 with fail
  have e1 : (w.alloc (.cells #[.string m.name, .slice ia m.imps.length ic, .slice da m.decls.length dc] 25)).heap.size = w.heap.size + 1 := by simp
  have hb := ((Below.refl w.heap.size w).alloc (Nat.le_refl _) (.cells #[.string m.name, .slice ia m.imps.length ic, .slice da m.decls.length dc] 25)).alloc (by simp) (.cells #[.string nm] 9)
  have d0 := (Blk.new w #[.string m.name, .slice ia m.imps.length ic, .slice da m.decls.length dc] 25).alloc (.cells #[.string nm] 9)
  have d1 := Blk.new (w.alloc (.cells #[.string m.name, .slice ia m.imps.length ic, .slice da m.decls.length dc] 25)) #[.string nm] 9
  rw [e1] at d1
  generalize (w.alloc (.cells #[.string m.name, .slice ia m.imps.length ic, .slice da m.decls.length dc] 25)).alloc (.cells #[.string nm] 9) = W at hb d0 d1 ⊢
  have k2 := d0.cell 2
  simp at k2
  have kn := d1.cell 0
  simp at kn
  have kl := d1.lt
  have KN := Lib.hid kn
  have KL := Lib.hid kl
  have HB := Lib.hid hb
  clear hb d0 d1
  go_wp2_with (go_at_call 169; refine (idxDcl_c 170 _ (isT nm) da dc B m.decls _ (HM.out.decls.under (HB.out.mono hB)) (Nat.le_trans hB HB.out.size) hl (by intro a w; rfl) (fun w' hb' x hx na nc sa sc _ _ => find1_c x nm (w.heap.size + 1) na nc sa sc w' ((hb'.cell (p := ⟨w.heap.size + 1, 0, none⟩) KL.out).trans KN.out) (Nat.lt_of_lt_of_le KL.out hb'.size))).mono ?_; rintro e w1 ⟨rfl, hb1⟩; have HB1 := Lib.hid hb1; clear hb1)
  go_ret
  exact ⟨rfl, HB.out.trans (HB1.out.mono HB.out.size)⟩
end Go.Proofs.YtjeldfipipkfiaaGreatDoor
