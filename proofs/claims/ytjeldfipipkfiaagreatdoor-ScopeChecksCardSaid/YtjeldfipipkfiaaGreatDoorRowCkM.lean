/- The statement ScopeChecks: for any module and any type the law returns true and leaves its arguments as they were; the premise: errors.errorType is as the program lays it (the card ties this). -/
import Derived.Test.YtjeldfipipkfiaaGreatDoorRfChk
import Derived.Test.YtjeldfipipkfiaaGreatDoorGErr
import Derived.Test.YtjeldfipipkfiaaGreatDoorUp7
import Derived.Test.YtjeldfipipkfiaaGreatDoorGModS
import Derived.Test.YtjeldfipipkfiaaGreatDoorMenM
import Derived.Test.YtjeldfipipkfiaaGreatDoorRows
import Derived.Test.YtjeldfipipkfiaaGreatDoorCards
import Derived.Test.YtjeldfipipkfiaaGreatDoorTie
import Derived.Test.YtjeldfipipkfiaaGreatDoorOpenAll
import Derived.ProofKit
import Derived.OpenShut
import Derived.ShutString
import Derived.ChangeOld
import Derived.Below
import Derived.Deep.Slices
import Derived.Deep.Fields
import Derived.ChangeSame
import Derived.ChangeVars
import Derived.ChangeMaps
import Derived.JoinedOf
import Derived.LaidLaws
import Derived.LaidHandle
import Derived.HandedShaped
import Derived.Lib.LaidTab
import Derived.Stop.LaidErr
import Derived.Stop.Joined
import Derived.Deep.DeepLaidRun
import Derived.Deep.DeepHandedRow
import Derived.SevenTiedAt
namespace Go.Proofs.YtjeldfipipkfiaaGreatDoor
open Go.RowKit
set_option linter.unusedSimpArgs false
set_option linter.unusedVariables false
set_option linter.unnecessarySimpa false
theorem checkF_range (m : Mdl) : ∀ c p, checkF m = some (c, p) → 1 ≤ c ∧ c ≤ 12 := by
  intro c p h
  rw [checkF] at h
  split at h
  · rw [Option.map_eq_some_iff] at h
    obtain ⟨⟨c', i⟩, h1, h2⟩ := h
    injection h2 with h3 h4
    subst h3
    rw [amissF] at h1
    split at h1
    · injection h1 with h1; injection h1 with h1 h2; rw [← h1]; constructor <;> simp
    · obtain ⟨c, hc, hm⟩ := List.exists_of_findSome?_eq_some h1
      rw [Option.map_eq_some_iff] at hm
      obtain ⟨k, _, he⟩ := hm
      injection he with h1 h2
      subst h1
      simp [codes4] at hc
      rcases hc with rfl | rfl | rfl | rfl <;> constructor <;> simp
  · injection h with h; injection h with h1 h2; rw [← h1]; decide
theorem ErrAt.under {w w' : World} {v : Value} {r : Option (Int × Option Nat)} (h : ErrAt w v r) (hb : Below w.heap.size w w') : ErrAt w' v r := by
  match r, h with
  | none, h => exact h
  | some (c, none), h => exact h
  | some (c, some i), h =>
    obtain ⟨g, h1, h2⟩ := h
    exact ⟨g, h1, h2.under hb h2.lt⟩
set_option maxRecDepth 100000 in
set_option maxHeartbeats 40000000 in
theorem scopeChecks_c (m : Mdl) (ia : Option Addr) (ic : Nat) (da : Option Addr) (dc : Nat) (t : Ty) (cs : Array Value) (w : World) (hm : MdlC w w.heap.size m ia ic da dc) (ht : TyC w w.heap.size t cs) (hg : HandleE w) :
    Calls Tryz.prog 3 #[.agg (mdlCells m ia ic da dc), .agg cs] w fun e w' => e = .returned (.bool true) ∧ Below w.heap.size w w' := by
  obtain ⟨na, nc, sa, sc, f, rfl, -⟩ := ht.inv
  have HM := Lib.hid hm
  have HT := Lib.hid ht
  have HG := Lib.hid hg
  obtain ⟨r, hr⟩ : ∃ r, checkF m = r := ⟨_, rfl⟩
  obtain ⟨R, hR⟩ : ∃ R, mentM m t = R := ⟨_, rfl⟩
  obtain ⟨n, hn⟩ : ∃ n, R.length = n := ⟨_, rfl⟩
  have hup := fun W (hb : Below w.heap.size w W) => up7_c W (hg.under hb)
  have hfe := fun W (hb : Below w.heap.size w W) => fewM_c m ia ic da dc w.heap.size W (hm.under hb) hb.size
  have hft := fun W (hb : Below w.heap.size w W) => Few_c t _ w.heap.size W (ht.under hb) hb.size
  have hck := fun W (hb : Below w.heap.size w W) => check_c m ia ic da dc w.heap.size W (hm.under hb) hb.size
  have hrc := fun W (hb : Below w.heap.size w W) h => rCheck_c m ia ic da dc w.heap.size W (hm.under hb) hb.size h
  have hme := fun W (hb : Below w.heap.size w W) => mentM_c m ia ic da dc w.heap.size t _ W (hm.under hb) (ht.under hb) hb.size
  have hmm := fun W (hb : Below w.heap.size w W) h => rMayM_c m ia ic da dc w.heap.size W (hm.under hb) hb.size h
  have hmt := fun W (hb : Below w.heap.size w W) h => rMay_c t _ w.heap.size W (ht.under hb) hb.size h
  have hrm := fun W (hb : Below w.heap.size w W) h1 h2 h3 => rMentions_c m ia ic da dc w.heap.size t _ W (hm.under hb) (ht.under hb) hb.size h1 h2 h3
  rw [hr] at hrc
  simp only [hr, hR, hn, mdlCells, tyCells] at hfe hft hck hrc hme hmm hmt hrm ⊢
  have HRG := Lib.hid (hr ▸ checkF_range m)
  have HR := Lib.hid hR
  have HN := Lib.hid hn
  have HUP := Lib.hid hup
  have HFE := Lib.hid hfe
  have HFT := Lib.hid hft
  have HCK := Lib.hid hck
  have HRC := Lib.hid hrc
  have HME := Lib.hid hme
  have HMM := Lib.hid hmm
  have HMT := Lib.hid hmt
  have HRM := Lib.hid hrm
  clear hup hfe hft hck hrc hme hmm hmt hrm hm ht hg hr hR hn
  go_enter Tryz.func3, Tryz.ntmps3
  go_upto_region 1 with fail
  have z1 : (w.alloc (.cells #[.string m.name, .slice ia m.imps.length ic, .slice da m.decls.length dc] 25)).heap.size = w.heap.size + 1 := by simp
  obtain ⟨b1, hb1, hz3⟩ := laidN w #[.string m.name, .slice ia m.imps.length ic, .slice da m.decls.length dc] 25
  obtain ⟨b2, hb2, hz4⟩ := laidN (w.alloc (.cells #[.string m.name, .slice ia m.imps.length ic, .slice da m.decls.length dc] 25)) #[.int .i64 t.kind, .string t.pkg, .int .i64 t.major, .string t.mod, .string t.name, .slice na t.names.length nc, .slice sa t.subs.length sc] 29
  have b3 := b1.under hb2 b1.lt
  have hb3 := hb1.trans (hb2.mono hb1.size)
  rw [z1] at b2 hz4
  clear b1 hb1 hb2 hz3 z1
  generalize (w.alloc (.cells #[.string m.name, .slice ia m.imps.length ic, .slice da m.decls.length dc] 25)).alloc (.cells #[.int .i64 t.kind, .string t.pkg, .int .i64 t.major, .string t.mod, .string t.name, .slice na t.names.length nc, .slice sa t.subs.length sc] 29) = W at b3 b2 hb3 hz4 ⊢
  have BC := Lib.hid hb3
  have D := Lib.hid b3
  have E := Lib.hid b2
  clear b3 b2 hb3 hz4
  obtain ⟨x0, x1, x2⟩ := cellsT3 D.out
  obtain ⟨y0, y1, y2, y3, y4, y5, y6⟩ := cellsT7 E.out
  have lx := D.out.lt
  have ly := E.out.lt
  obtain ⟨q, hq⟩ : ∃ q, fewM m = q := ⟨_, rfl⟩
  obtain ⟨q2, hq2⟩ : ∃ q, FewB t = q := ⟨_, rfl⟩
  simp only [hq] at HFE
  simp only [hq2] at HFT
  have HQ := Lib.hid hq
  have HQ2 := Lib.hid hq2
  clear hq hq2
  go_upto_region 4 with (first
    | (go_at_call 12; refine (HUP.out _ BC.out).mono ?_; rintro e W9 ⟨rfl, hb⟩; have BC := Lib.hid (BC.out.trans (hb.mono BC.out.size)); have D := Lib.hid (D.out.under hb D.out.lt); have E := Lib.hid (E.out.under hb E.out.lt); clear hb x0 x1 x2 y0 y1 y2 y3 y4 y5 y6 lx ly; obtain ⟨x0, x1, x2⟩ := cellsT3 D.out; obtain ⟨y0, y1, y2, y3, y4, y5, y6⟩ := cellsT7 E.out; have lx := D.out.lt; have ly := E.out.lt)
    | (go_at_call 13; refine (HFE.out _ BC.out).mono ?_; rintro e W9 ⟨rfl, hb⟩; have BC := Lib.hid (BC.out.trans (hb.mono BC.out.size)); have D := Lib.hid (D.out.under hb D.out.lt); have E := Lib.hid (E.out.under hb E.out.lt); clear hb x0 x1 x2 y0 y1 y2 y3 y4 y5 y6 lx ly; obtain ⟨x0, x1, x2⟩ := cellsT3 D.out; obtain ⟨y0, y1, y2, y3, y4, y5, y6⟩ := cellsT7 E.out; have lx := D.out.lt; have ly := E.out.lt)
    | (go_at_call 14; refine (HFT.out _ BC.out).mono ?_; rintro e W9 ⟨rfl, hb⟩; have BC := Lib.hid (BC.out.trans (hb.mono BC.out.size)); have D := Lib.hid (D.out.under hb D.out.lt); have E := Lib.hid (E.out.under hb E.out.lt); clear hb x0 x1 x2 y0 y1 y2 y3 y4 y5 y6 lx ly; obtain ⟨x0, x1, x2⟩ := cellsT3 D.out; obtain ⟨y0, y1, y2, y3, y4, y5, y6⟩ := cellsT7 E.out; have lx := D.out.lt; have ly := E.out.lt))
  cases q
  · go_wp2_with fail
    go_ret
    exact ⟨rfl, BC.out⟩
  cases q2
  · go_wp2_with fail
    go_ret
    exact ⟨rfl, BC.out⟩
  have hmd : ∀ d ∈ m.decls, manyT d.ty ≤ 1000000000 := fun d hd => by
    have h := HQ.out
    simp only [fewM, Bool.and_eq_true, decide_eq_true_eq, List.all_eq_true] at h
    have h2 := h.2.2.2 d hd
    simp only [fewD, Bool.and_eq_true, decide_eq_true_eq] at h2
    have h3 := few_many d.ty (by simp only [h2])
    omega
  have hmt : manyT t ≤ 1000000000 := by have := few_many t HQ2.out; omega
  have HMD := Lib.hid hmd
  have HMT2 := Lib.hid hmt
  clear hmd hmt
  go_upto_region 11 with (first
    | (go_at_call 15; refine (HCK.out _ BC.out).mono ?_; rintro e W9 ⟨v5, rfl, he5, hb⟩; have BC := Lib.hid (BC.out.trans (hb.mono BC.out.size)); have D := Lib.hid (D.out.under hb D.out.lt); have E := Lib.hid (E.out.under hb E.out.lt); have HE5 := Lib.hid he5; clear he5; clear hb x0 x1 x2 y0 y1 y2 y3 y4 y5 y6 lx ly; obtain ⟨x0, x1, x2⟩ := cellsT3 D.out; obtain ⟨y0, y1, y2, y3, y4, y5, y6⟩ := cellsT7 E.out; have lx := D.out.lt; have ly := E.out.lt)
    | (go_at_call 16; refine (HRC.out _ BC.out HMD.out).mono ?_; rintro e W9 ⟨rfl, hb⟩; have BC := Lib.hid (BC.out.trans (hb.mono BC.out.size)); have D := Lib.hid (D.out.under hb D.out.lt); have E := Lib.hid (E.out.under hb E.out.lt); have HE5 := Lib.hid (HE5.out.under hb); clear hb x0 x1 x2 y0 y1 y2 y3 y4 y5 y6 lx ly; obtain ⟨x0, x1, x2⟩ := cellsT3 D.out; obtain ⟨y0, y1, y2, y3, y4, y5, y6⟩ := cellsT7 E.out; have lx := D.out.lt; have ly := E.out.lt)
    | (go_at_call 17; refine (told_c v5 r _ (HG.out.under BC.out) HE5.out HRG.out).mono ?_; rintro e W9 ⟨rfl, hb⟩; have BC := Lib.hid (BC.out.trans (hb.mono BC.out.size)); have D := Lib.hid (D.out.under hb D.out.lt); have E := Lib.hid (E.out.under hb E.out.lt); clear hb x0 x1 x2 y0 y1 y2 y3 y4 y5 y6 lx ly; obtain ⟨x0, x1, x2⟩ := cellsT3 D.out; obtain ⟨y0, y1, y2, y3, y4, y5, y6⟩ := cellsT7 E.out; have lx := D.out.lt; have ly := E.out.lt)
    | (go_at_call 18; refine (HME.out _ BC.out).mono ?_; rintro e W9 ⟨A1, c1, rfl, hs1, hc1, hb⟩; have BC := Lib.hid (BC.out.trans (hb.mono BC.out.size)); have D := Lib.hid (D.out.under hb D.out.lt); have E := Lib.hid (E.out.under hb E.out.lt); have HS1 := Lib.hid hs1; clear hs1 hc1; clear hb x0 x1 x2 y0 y1 y2 y3 y4 y5 y6 lx ly; obtain ⟨x0, x1, x2⟩ := cellsT3 D.out; obtain ⟨y0, y1, y2, y3, y4, y5, y6⟩ := cellsT7 E.out; have lx := D.out.lt; have ly := E.out.lt))
  obtain ⟨s1, h1⟩ : ∃ s, mayM m = s := ⟨_, rfl⟩
  obtain ⟨s2, h2⟩ : ∃ s, mayT t = s := ⟨_, rfl⟩
  simp only [h1] at HMM
  simp only [h2] at HMT
  have H1 := Lib.hid h1
  have H2 := Lib.hid h2
  clear h1 h2
  cases s1
  · have hr0 : R = [] := by rw [← HR.out, mentM, H1.out]; rfl
    subst hr0
    have hn0 : n = 0 := HN.out.symm
    subst hn0
    go_upto_region 14 with (first
      | (go_at_call 19; refine (HMM.out _ BC.out HMD.out).mono ?_; rintro e W9 ⟨rfl, hb⟩; have BC := Lib.hid (BC.out.trans (hb.mono BC.out.size)); have D := Lib.hid (D.out.under hb D.out.lt); have E := Lib.hid (E.out.under hb E.out.lt); have HS1 := Lib.hid ((HS1.out.under hb).mono hb.size); clear hb x0 x1 x2 y0 y1 y2 y3 y4 y5 y6 lx ly; obtain ⟨x0, x1, x2⟩ := cellsT3 D.out; obtain ⟨y0, y1, y2, y3, y4, y5, y6⟩ := cellsT7 E.out; have lx := D.out.lt; have ly := E.out.lt)
      | (go_at_call 20; refine (HMT.out _ BC.out HMT2.out).mono ?_; rintro e W9 ⟨rfl, hb⟩; have BC := Lib.hid (BC.out.trans (hb.mono BC.out.size)); have D := Lib.hid (D.out.under hb D.out.lt); have E := Lib.hid (E.out.under hb E.out.lt); have HS1 := Lib.hid ((HS1.out.under hb).mono hb.size); clear hb x0 x1 x2 y0 y1 y2 y3 y4 y5 y6 lx ly; obtain ⟨x0, x1, x2⟩ := cellsT3 D.out; obtain ⟨y0, y1, y2, y3, y4, y5, y6⟩ := cellsT7 E.out; have lx := D.out.lt; have ly := E.out.lt))
    clear x0 x1 x2 y0 y1 y2 y3 y4 y5 y6 lx ly
    go_wp2_with fail
    go_loop [13] (fun iv => iv = .int .i64 0) (fun _ => 0)
    case atStart => rfl
    case round =>
      obtain rfl := hrel
      go_wp2_with fail
      go_ret
      exact ⟨rfl, BC.out⟩
  cases s2
  · have hr0 : R = [] := by rw [← HR.out, mentM, H1.out, H2.out]; rfl
    subst hr0
    have hn0 : n = 0 := HN.out.symm
    subst hn0
    go_upto_region 14 with (first
      | (go_at_call 19; refine (HMM.out _ BC.out HMD.out).mono ?_; rintro e W9 ⟨rfl, hb⟩; have BC := Lib.hid (BC.out.trans (hb.mono BC.out.size)); have D := Lib.hid (D.out.under hb D.out.lt); have E := Lib.hid (E.out.under hb E.out.lt); have HS1 := Lib.hid ((HS1.out.under hb).mono hb.size); clear hb x0 x1 x2 y0 y1 y2 y3 y4 y5 y6 lx ly; obtain ⟨x0, x1, x2⟩ := cellsT3 D.out; obtain ⟨y0, y1, y2, y3, y4, y5, y6⟩ := cellsT7 E.out; have lx := D.out.lt; have ly := E.out.lt)
      | (go_at_call 20; refine (HMT.out _ BC.out HMT2.out).mono ?_; rintro e W9 ⟨rfl, hb⟩; have BC := Lib.hid (BC.out.trans (hb.mono BC.out.size)); have D := Lib.hid (D.out.under hb D.out.lt); have E := Lib.hid (E.out.under hb E.out.lt); have HS1 := Lib.hid ((HS1.out.under hb).mono hb.size); clear hb x0 x1 x2 y0 y1 y2 y3 y4 y5 y6 lx ly; obtain ⟨x0, x1, x2⟩ := cellsT3 D.out; obtain ⟨y0, y1, y2, y3, y4, y5, y6⟩ := cellsT7 E.out; have lx := D.out.lt; have ly := E.out.lt))
    clear x0 x1 x2 y0 y1 y2 y3 y4 y5 y6 lx ly
    go_wp2_with fail
    go_loop [13] (fun iv => iv = .int .i64 0) (fun _ => 0)
    case atStart => rfl
    case round =>
      obtain rfl := hrel
      go_wp2_with fail
      go_ret
      exact ⟨rfl, BC.out⟩
  have hrs : sortN (mentF m.decls t) = R := by rw [← HR.out, mentM, H1.out, H2.out]; rfl
  have hdl : m.decls.length ≤ 60 := (mayM_iff.1 H1.out).2.2.1
  have hnb : n ≤ 60 := by
    have := ment_len m.decls t
    rw [← HN.out, ← hrs, sortN_len]
    omega
  have hrm := fun W hb => HRM.out W hb hdl (by have := (may_all7 H2.out).2.1; omega) (fun d hd => dclOk_many ((mayM_iff.1 H1.out).2.2.2.2 d hd))
  rw [hrs] at hrm
  have HRM2 := Lib.hid hrm
  clear hrm hrs HRM
  go_upto_region 14 with (first
    | (go_at_call 19; refine (HMM.out _ BC.out HMD.out).mono ?_; rintro e W9 ⟨rfl, hb⟩; have BC := Lib.hid (BC.out.trans (hb.mono BC.out.size)); have D := Lib.hid (D.out.under hb D.out.lt); have E := Lib.hid (E.out.under hb E.out.lt); have HS1 := Lib.hid ((HS1.out.under hb).mono hb.size); clear hb x0 x1 x2 y0 y1 y2 y3 y4 y5 y6 lx ly; obtain ⟨x0, x1, x2⟩ := cellsT3 D.out; obtain ⟨y0, y1, y2, y3, y4, y5, y6⟩ := cellsT7 E.out; have lx := D.out.lt; have ly := E.out.lt)
    | (go_at_call 20; refine (HMT.out _ BC.out HMT2.out).mono ?_; rintro e W9 ⟨rfl, hb⟩; have BC := Lib.hid (BC.out.trans (hb.mono BC.out.size)); have D := Lib.hid (D.out.under hb D.out.lt); have E := Lib.hid (E.out.under hb E.out.lt); have HS1 := Lib.hid ((HS1.out.under hb).mono hb.size); clear hb x0 x1 x2 y0 y1 y2 y3 y4 y5 y6 lx ly; obtain ⟨x0, x1, x2⟩ := cellsT3 D.out; obtain ⟨y0, y1, y2, y3, y4, y5, y6⟩ := cellsT7 E.out; have lx := D.out.lt; have ly := E.out.lt)
    | (go_at_call 21; refine (HRM2.out _ BC.out).mono ?_; rintro e W9 ⟨v6, rfl, ho6, hb⟩; have BC := Lib.hid (BC.out.trans (hb.mono BC.out.size)); have D := Lib.hid (D.out.under hb D.out.lt); have E := Lib.hid (E.out.under hb E.out.lt); have HS1 := Lib.hid ((HS1.out.under hb).mono hb.size); obtain ⟨A2, c2, rfl, hs2, hc2⟩ := own_strs ho6 rfl; rw [HN.out]; have HS2 := Lib.hid (And.intro hc2 hs2); clear ho6 hs2 hc2; clear hb x0 x1 x2 y0 y1 y2 y3 y4 y5 y6 lx ly; obtain ⟨x0, x1, x2⟩ := cellsT3 D.out; obtain ⟨y0, y1, y2, y3, y4, y5, y6⟩ := cellsT7 E.out; have lx := D.out.lt; have ly := E.out.lt))
  have HS2 := Lib.hid HS2.out.2
  clear x0 x1 x2 y0 y1 y2 y3 y4 y5 y6 lx ly
  go_wp2_with fail
  rename World => WL
  go_loopw [13] (fun iv wz => ∃ k : Nat, k ≤ n ∧ iv = .int .i64 k ∧ Below WL.heap.size WL wz) (fun iv _ => n - (intOf iv).toNat)
  case atStart => exact ⟨0, Nat.zero_le _, rfl, Below.refl _ _⟩
  case round =>
    rename World => wz
    obtain ⟨k, hk, rfl, hbz⟩ := hrel
    have BZ := Lib.hid hbz
    have hsz := hbz.size
    by_cases hlt : k < n
    · obtain ⟨x, hx⟩ : ∃ x, R[k]'(by rw [HN.out]; exact hlt) = x := ⟨_, rfl⟩
      obtain ⟨b1, o1, hA1, hl1, c1'⟩ := ((HS1.out.under hbz).elem (by rw [HN.out]; exact hlt) hx)
      obtain ⟨b2, o2, hA2, hl2, c2'⟩ := ((HS2.out.under hbz).elem (by rw [HN.out]; exact hlt) hx)
      obtain rfl := hA1
      obtain rfl := hA2
      have hkI : (k : Int) < (n : Int) := by omega
      have hk0 : (0 : Int) ≤ (k : Int) := by omega
      have hl1 : b1 < wz.heap.size := by omega
      have hl2 : b2 < wz.heap.size := by omega
      clear hx hbz hsz
      go_upto_region 19 with fail
      go_quiet (fail)
      go_wp2_with fail
      first
        | exact ⟨⟨k + 1, by omega, by go_num, below_drewN BZ.out _⟩, by simp [intOf]; omega⟩
        | (go_roundw
           case rel => exact ⟨k + 1, by omega, by go_num, below_drewN BZ.out _⟩
           case measure => simp [intOf]; omega)
    · obtain rfl : k = n := by omega
      have hkI : ¬ (k : Int) < (k : Int) := by omega
      clear hbz hsz
      go_wp2_with fail
      go_ret
      exact ⟨rfl, BC.out.trans (BZ.out.mono BC.out.size)⟩
end Go.Proofs.YtjeldfipipkfiaaGreatDoor
namespace Go.Proofs.YtjeldfipipkfiaaGreatDoor
open Go.ChangeShapes Go.WideShapes Go.ChangeAt Go.RowKit
open Go.ChangeMaps (open_string shut_string)
namespace checks
theorem own : ownKnob Tryz.prog.godebug = none := by kernel_rfl
theorem laidOut : laidOutB Tryz.prog = true := by kernel_rfl
def put0 (h : Array Obj) (g : Nat) (cs : Array Value) : Array Obj := h.modify g fun
  | .cells _ t frozen => .cells cs t frozen
  | o => o
/-- a world that meets the condition: the settled one, the listed tables laid -/
noncomputable def laidWorld (os : Os) : World :=
  let w0 := World.holding Tryz.prog os ⟨#[], #[], []⟩
  { w0 with heap := put0 (w0.heap) 0 #[.iface 207 (.agg #[.pointer (some ⟨5, 34, none⟩)])] }
theorem laid_met (os : Os) (args : Array Value) : laidMetH Tryz.prog Rows.scopeChecksRow.laid ((laidWorld os).forCall (fun _ _ => 0) ⟨#[], args, []⟩).memory :=
  laidMetH_of_parts (laidMet_nil _ _) (by kernel_rfl)
theorem RL.et : (Tryz.prog).globalNamed "errors.errorType" = some 0 := by kernel_rfl
theorem RL.rt : ((Tryz.prog).cutTypes.find? (·.1 == "internal/reflectlite.rtype")).map (·.2) = some 207 := by kernel_rfl
theorem RL.oneRow : ((List.range (Tryz.prog).types.size).filter fun t => (Tryz.prog).rowNamed t [101, 114, 114, 111, 114]) = [34] := by kernel_rfl
/-- what the condition gives a walk: the variable's one cell -/
theorem handle_of_laid {W : World} (h : laidMetH Tryz.prog Rows.scopeChecksRow.laid W) : HandleE W := by
  have h' : laidMet Tryz.prog [] W ∧ handlesMet Tryz.prog Rows.scopeChecksRow.laid W := h
  obtain ⟨name, u, ty, e1, e2, e3, e4, e5⟩ := h'.2 _ (List.mem_singleton.2 rfl)
  have en : name = [101, 114, 114, 111, 114] := (Option.some.inj e1).symm
  subst en
  obtain rfl := Option.some.inj (RL.rt.symm.trans e2)
  have hm : ty ∈ (List.range (Tryz.prog).types.size).filter fun t => (Tryz.prog).rowNamed t [101, 114, 114, 111, 114] := List.mem_filter.2 ⟨List.mem_range.2 e3, e4⟩
  rw [RL.oneRow] at hm
  obtain rfl := List.mem_singleton.1 hm
  have hh : typeHandle Tryz.prog 34 = .pointer (some ⟨5, 34, none⟩) := by kernel_rfl
  rw [hh] at e5
  unfold HandleE
  simpa using World.var?_cell RL.et e5 0
theorem reads (os : Os) {H : Type} (enc : TypeId × Value → H) : ∃ places, DataW.whole enc Tryz.prog ((laidWorld os).forCall (fun _ _ => 0) ⟨#[], #[.agg #[.string ByteArray.empty, .slice none 0 0, .slice none 0 0], .agg #[.int .i64 0, .string ByteArray.empty, .int .i64 0, .string ByteArray.empty, .string ByteArray.empty, .slice none 0 0, .slice none 0 0]], []⟩).memory Tryz.f3.params.toList Rows.scopeChecksSpec.vars false (#[.agg #[.string ByteArray.empty, .slice none 0 0, .slice none 0 0], .agg #[.int .i64 0, .string ByteArray.empty, .int .i64 0, .string ByteArray.empty, .string ByteArray.empty, .slice none 0 0, .slice none 0 0]] : Array Value).toList 8 = some ([.agg [.lit (.string []), .nil, .nil], .agg [.lit (.int .i64 0), .lit (.string []), .lit (.int .i64 0), .lit (.string []), .lit (.string []), .nil, .nil]], [], places) :=
  ⟨[], by kernel_rfl⟩
set_option maxRecDepth 100000 in
theorem lifted (os : Os) (started : os.Started) (H : Type) (enc : TypeId × Value → H) (F : Stop.Interp) :
    ReturnsInHanded {} Tryz.checked os 3 .any ((OpenSpec.ofChange Rows.scopeChecksSpec).preRow enc Tryz.prog Tryz.f3 Rows.scopeChecksRow.domain false Rows.scopeChecksRow.laid) (((OpenSpec.ofChange Rows.scopeChecksSpec).at F).post enc Tryz.prog Tryz.f3 false true false false) := by
  obtain ⟨places, hx⟩ := reads os enc
  refine returnsInHanded_of_row (C := Tryz.checked) (s := (OpenSpec.ofChange Rows.scopeChecksSpec)) own started (by kernel_rfl) Tryz.func3
    (witness_row_at (enc := enc) (C := Tryz.checked) false (laidWorld os) #[.agg #[.string ByteArray.empty, .slice none 0 0, .slice none 0 0], .agg #[.int .i64 0, .string ByteArray.empty, .int .i64 0, .string ByteArray.empty, .string ByteArray.empty, .slice none 0 0, .slice none 0 0]] rfl (by kernel_rfl) (by kernel_rfl) (by kernel_rfl)
      (OpenSpec.preRow_of_cond 8 hx (by kernel_rfl) (fun k hk => by cases hk) (by kernel_rfl) (laid_met os _))) ?_
  intro W base args ds gs before hval0 hW _ hcond _ hL hsh _
  have hval : ∀ (j : Nat) t v, Tryz.f3.params[j]? = some t → args[j]? = some v → Value.okWide Tryz.prog W .any base t v := hval0
  have hW' := hW
  obtain ⟨p, q, hA0, hV, rfl, hfz, hnd⟩ := hW
  have hA : DataW.TrodAll enc Tryz.prog W 0 (fun _ => true) true Tryz.f3.params.toList args.toList ds p := hA0
  rw [Tryz.params3] at hA hval
  obtain ⟨v0, vs0, d0, ds0, p0, q0, hargs, rfl, rfl, h0, r0⟩ := trodAll_cons hA
  obtain ⟨v1, vs1, d1, ds1, p1, q1, rfl, rfl, rfl, h1, r1⟩ := trodAll_cons r0
  obtain ⟨rfl, rfl, rfl⟩ := trodAll_nil r1
  obtain rfl : args = #[v0, v1] := by cases args; simp_all
  obtain ⟨rfl, rfl⟩ := trodVars_none hV
  have g0 := h0
  have g1 := h1
  obtain ⟨m, ia, ic, da, dc, rfl, hm⟩ := open_mdl (hval 0 25 v0 rfl rfl) h0
  obtain ⟨cs, t, rfl, ht⟩ := open_type (hval 1 29 v1 rfl rfl) h1
  have hlt := hW'.lt
  clear hA0 hval0
  refine (scopeChecks_c m ia ic da dc t cs W hm ht (handle_of_laid hL)).mono fun e W' ⟨he, bel⟩ => ?_
  subst he
  have a0 := Below.trod laidOut (by kernel_rfl) (of_decide_eq_true (by kernel_rfl)) g0 bel (fun x hx => by first | exact absurd hx List.not_mem_nil | exact hlt x (by simp [hx]))
  have a1 := Below.trod laidOut (by kernel_rfl) (of_decide_eq_true (by kernel_rfl)) g1 bel (fun x hx => by first | exact absurd hx List.not_mem_nil | exact hlt x (by simp [hx]))
  exact ⟨_, rfl, _, _, _, [], _, [], hW', trodAll_mk1 (shut_bool Tryz.underlying4 _), (trodAll_cons_mk a0 (trodAll_cons_mk a1 trodAll_mk0)), rfl, bel.frame _, fun h => by cases h⟩
theorem said : Rows.ScopeChecksSaid :=
  OpenClaim.holds_of_cond 3 Tryz.f3 rfl rfl rfl rfl rfl rfl rfl ⟨rfl, rfl, rfl, rfl, rfl⟩ rfl rfl rfl rfl rfl (by kernel_rfl) Tryz.func3 (by kernel_rfl)
    (of_decide_eq_true (by kernel_rfl)) (by unfold Func.isWrapper; first | (rw [if_pos (by decide +kernel)]; kernel_rfl) | (rw [if_neg (by decide +kernel)]; exact ⟨rfl, rfl⟩))
    (fun os started H enc _ F => by rw [OpenClaim.pre_eq_preRow]; exact lifted os started H enc F)
end checks
theorem checks_holds : Rows.ScopeChecksCardSaid :=
  Claim7.holds_tied_plain_at .later [] _ _ _ _ checks.said (fun _ h => by cases h) (by kernel_rfl) (fun _ h => by cases h) scopeChecks_row_tie rfl ⟨rfl, rfl⟩ (by kernel_rfl) rfl
    (fun f fn hf hfn => by
      obtain rfl : f = 3 := Option.some.inj ((show (Tryz.prog).funcNamed "merlon/merlonlaw07.ScopeChecks" = some 3 by kernel_rfl).symm.trans hf) |>.symm
      obtain rfl : fn = Tryz.f3 := (Option.some.inj (Tryz.func3.symm.trans hfn)).symm
      exact ⟨by kernel_rfl, fun j t ht => by
        rw [Tryz.params3] at ht
        have h3 : t = 25 ∨ t = 29 := by
          rcases j with _ | _ | j
          · left; simpa using ht.symm
          · right; simpa using ht.symm
          · simp at ht
        rcases h3 with rfl | rfl
        · exact (show (Tryz.prog).wantsStandIn 25 = false by kernel_rfl)
        · exact (show (Tryz.prog).wantsStandIn 29 = false by kernel_rfl)⟩)
    (by kernel_rfl)
#print axioms checks_holds
end Go.Proofs.YtjeldfipipkfiaaGreatDoor
