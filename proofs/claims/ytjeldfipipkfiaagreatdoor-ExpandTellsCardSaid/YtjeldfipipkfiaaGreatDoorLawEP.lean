/- The statement ExpandPlain: the law's walk. -/
import Derived.Test.YtjeldfipipkfiaaGreatDoorUp8
import Derived.Test.YtjeldfipipkfiaaGreatDoorExC
import Derived.Test.YtjeldfipipkfiaaGreatDoorCpM
import Derived.Test.YtjeldfipipkfiaaGreatDoorGModS
import Derived.Test.YtjeldfipipkfiaaGreatDoorFewC
namespace Go.Proofs.YtjeldfipipkfiaaGreatDoor
open Go.RowKit
set_option linter.unusedSimpArgs false
set_option linter.unusedVariables false
theorem same_yes {a b : Ty} (h : a = b) {cs cs' : Array Value} {B : Nat} {w : World} (h1 : TyC w B a cs) (h2 : TyC w B b cs') (hB : B ≤ w.heap.size) :
    Calls Tryz.prog 31 #[.agg cs, .agg cs'] w fun e w' => e = .returned (.bool true) ∧ Below w.heap.size w w' := by
  have := rSame_c a b cs cs' B w h1 h2 hB
  rwa [(alike_iff a b).2 h] at this
theorem fewI_len {l : List If} (h : FewI l = true) : l.length ≤ 200 ∧ ∀ x ∈ l, x.types.length ≤ 200 ∧ x.vals.length ≤ 200 := by
  rw [FewI, Bool.and_eq_true, decide_eq_true_eq, List.all_eq_true] at h
  refine ⟨h.1, fun x hx => ?_⟩
  have := h.2 x hx
  rw [fewX, Bool.and_eq_true, Bool.and_eq_true, decide_eq_true_eq, decide_eq_true_eq] at this
  exact ⟨this.1, this.2.1⟩
theorem env_of {w : World} {B : Nat} {m : Mdl} {pkg : ByteArray} {j : Int} {env : List If} {ia : Option Addr} {ic : Nat} {da : Option Addr} {dc : Nat} {ea : Option Addr} {ec : Nat} (hm : MdlC w B m ia ic da dc) (he : IfsAt w B ea env) (hf : fewM m = true) (hi : FewI env = true) (hp : pkg.size ≤ maxLen) (hc : env.length ≤ ec)
    (hj : -9223372036854775808 ≤ j ∧ j ≤ 9223372036854775807) : EnvC w B ⟨m, pkg, j, env⟩ ia ic da dc ea ec := by
  simp only [fewM, Bool.and_eq_true, decide_eq_true_eq] at hf
  obtain ⟨-, h1, h2, -⟩ := hf
  obtain ⟨h3, h4⟩ := fewI_len hi
  exact ⟨hm, he, by show m.decls.length ≤ _; omega, by show m.imps.length ≤ _; omega, by show env.length ≤ _; omega, fun x hx => by have := (h4 x hx).1; omega, hp, hc, hj⟩
end Go.Proofs.YtjeldfipipkfiaaGreatDoor
