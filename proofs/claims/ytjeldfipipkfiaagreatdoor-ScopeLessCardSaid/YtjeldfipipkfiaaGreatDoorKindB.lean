/- The contract of kind.shape; no condition but those of Go's own values. -/
import Derived.Test.YtjeldfipipkfiaaGreatDoorKind
namespace Go.Proofs.YtjeldfipipkfiaaGreatDoor
open Go.RowKit
def emptyB (t : Ty) : Bool := t.pkg.toList.isEmpty && t.major == 0 && t.mod.toList.isEmpty && t.name.toList.isEmpty
def kindB (t : Ty) : Bool :=
  if t.kind = 1 ∨ t.kind = 2 ∨ t.kind = 3 then ((t.subs.length : Int) == 0) && ((t.names.length : Int) == 0)
  else if t.kind = 4 then ((t.subs.length : Int) == 1) && ((t.names.length : Int) == 0)
  else if t.kind = 5 then ((t.subs.length : Int) == (t.names.length : Int)) && namesB smallB t.names
  else if t.kind = 6 then decide ((1 : Int) ≤ t.subs.length) && ((t.subs.length : Int) == (t.names.length : Int)) && namesB greatB t.names
  else if t.kind = 7 then decide ((1 : Int) ≤ t.subs.length) && ((t.names.length : Int) == 0)
  else if t.kind = 8 then ((t.subs.length : Int) == 0) && ((t.names.length : Int) == 0) && greatB t.name && (t.mod.toList.isEmpty || smallB t.mod)
  else if t.kind = 9 then ((t.subs.length : Int) == 0) && ((t.names.length : Int) == 0) && smallB t.pkg && smallB t.mod && greatB t.name && decide (1 ≤ t.major) && decide (t.major ≤ 999999999)
  else false
def shapeB (t : Ty) : Bool := emptyB (bareT t) && decide ((t.subs.length : Int) ≤ 20) && kindB t
theorem great_b (s : ByteArray) (w : World) (hs : s.size ≤ maxLen) : Calls Tryz.prog 136 #[.string s] w fun e w' => e = .returned (.bool (greatB s)) ∧ Below w.heap.size w w' :=
  (Great_c s w hs).mono fun _ _ ⟨he, hw⟩ => ⟨he, hw ▸ Below.refl _ _⟩
theorem enter_small (a : Array Value) (w : World) : (callFunc 69 a).run Tryz.prog w = .ok (.enter 69 a) w := by kernel_rfl
theorem enter_great (a : Array Value) (w : World) : (callFunc 136 a).run Tryz.prog w = .ok (.enter 136 a) w := by kernel_rfl
set_option maxRecDepth 100000 in
set_option maxHeartbeats 1000000 in
theorem shape_c (t : Ty) (na : Option Addr) (nc : Nat) (sa : Option Addr) (sc : Nat) (B : Nat) (w : World) (hB : B ≤ w.heap.size) (hf : Fits t) (hn : StrsAt w B na t.names) :
    Calls Tryz.prog 212 #[.agg (tyCells t na nc sa sc)] w fun e w' => e = .returned (.bool (shapeB t)) ∧ Below w.heap.size w w' := by
  have HF := Lib.hid hf
  have HN := Lib.hid hn
  clear hn hf
  unfold tyCells
  go_enter Tryz.func212, Tryz.ntmps212
  go_wp2_with (first
    | (go_at_call 230; refine (bare_c t na nc sa sc _).mono ?_; rintro e w1 ⟨rfl, hb⟩; obtain ⟨hcell, hlt, hacc⟩ := box_keep hb; have hbx := (BoxAt.new _ _ _).under hb; unfold tyCells)
    | (go_at_call 231; (first | (with_reducible refine (names_any na nc B t.names 69 smallB _ HF.out.names HF.out.each ((HN.out.under (hacc.mono hB)).alloc (Nat.le_trans hB hacc.size) _) (by have := hacc.size; simp; omega) enter_small Small_c).mono ?_) | (with_reducible refine (names_any na nc B t.names 136 greatB _ HF.out.names HF.out.each ((HN.out.under (hacc.mono hB)).alloc (Nat.le_trans hB hacc.size) _) (by have := hacc.size; simp; omega) enter_great great_b).mono ?_)); rintro e w2 ⟨rfl, hb⟩; (first | have hacc := acc0 hacc hacc.size hb | have hacc := acc1 hacc hacc.size hb); (first | have hbx := hbx.under hb | have hbx := (hbx.alloc _).under hb); have hcell := hbx.2; have hlt := hbx.1)
    | (go_at_call 69; refine (Small_c _ _ (by first | exact HF.out.pkg | exact HF.out.mod | exact HF.out.name)).mono ?_; rintro e w2 ⟨rfl, hb⟩; (first | have hacc := acc0 hacc hacc.size hb | have hacc := acc1 hacc hacc.size hb); (first | have hbx := hbx.under hb | have hbx := (hbx.alloc _).under hb); have hcell := hbx.2; have hlt := hbx.1)
    | (go_at_call 136; refine (great_b _ _ (by first | exact HF.out.pkg | exact HF.out.mod | exact HF.out.name)).mono ?_; rintro e w2 ⟨rfl, hb⟩; (first | have hacc := acc0 hacc hacc.size hb | have hacc := acc1 hacc hacc.size hb); (first | have hbx := hbx.under hb | have hbx := (hbx.alloc _).under hb); have hcell := hbx.2; have hlt := hbx.1))
  all_goals
    go_ret
    refine ⟨ret_b ?_, by first | exact hacc | exact hacc.alloc hacc.size _⟩
    clear hbx HF HN hb hacc hlt
    go_tidy
    first
      | (simp_all [shapeB, emptyB, kindB]; done)
      | (simp_all [shapeB, emptyB, kindB]; omega)
      | go_show
end Go.Proofs.YtjeldfipipkfiaaGreatDoor
