/- The contract of scope.Mentions: the names that a type mentions, rising. -/
import Derived.Test.YtjeldfipipkfiaaGreatChkC
import Derived.Test.YtjeldfipipkfiaaGreatGShelf
namespace Go.Proofs.YtjeldfipipkfiaaGreat
open Go.RowKit
set_option linter.unusedSimpArgs false
set_option linter.unusedVariables false
def mentM (m : Mdl) (t : Ty) : List ByteArray := if (mayM m && mayT t) = true then sortN (mentF m.decls t) else []
set_option maxRecDepth 100000 in
set_option maxHeartbeats 8000000 in
theorem mentM_c (m : Mdl) (ia : Option Addr) (ic : Nat) (da : Option Addr) (dc B : Nat) (t : Ty) (cs : Array Value) (w : World) (hm : MdlC w B m ia ic da dc) (ht : TyC w B t cs) (hB : B ≤ w.heap.size) :
    Calls Tryz.prog 96 #[.agg (mdlCells m ia ic da dc), .agg cs] w fun e w' => ∃ A c, e = .returned (.slice A (mentM m t).length c) ∧ StrsAt w' w'.heap.size A (mentM m t) ∧ (mentM m t).length ≤ c ∧ Below w.heap.size w w' := by
  obtain ⟨na, nc, sa, sc, f, rfl, -⟩ := ht.inv
  have C1 := fun W (hb : Below w.heap.size w W) => synMay_c m ia ic da dc B W (hm.under (hb.mono hB)) (Nat.le_trans hB hb.size)
  have C2 := fun W (hb : Below w.heap.size w W) => May_c t _ B W (ht.under (hb.mono hB)) (Nat.le_trans hB hb.size)
  have C3 := fun W (hb : Below w.heap.size w W) hl => mentions_c m ia ic da dc B t _ W (hm.under (hb.mono hB)) (ht.under (hb.mono hB)) (Nat.le_trans hB hb.size) hl
  obtain ⟨R, hR⟩ : ∃ R, mentM m t = R := ⟨_, rfl⟩
  rw [hR]
  have HR := Lib.hid hR
  clear hR hm ht
  simp only [tyCells, mdlCells] at C1 C2 C3 ⊢
  have H3 := Lib.hid C3
  clear C3
  have hdl : mayM m = true → m.decls.length ≤ 1000000 := fun h => by have := (mayM_iff.1 h).2.2.1; omega
  have HDL := Lib.hid hdl
  clear hdl
  obtain ⟨s1, h1⟩ : ∃ s, mayM m = s := ⟨_, rfl⟩
  obtain ⟨s2, h2⟩ : ∃ s, mayT t = s := ⟨_, rfl⟩
  simp only [h1] at C1
  simp only [h2] at C2
  have H1 := Lib.hid C1
  have H2 := Lib.hid C2
  have E1 := Lib.hid h1
  have E2 := Lib.hid h2
  clear C1 C2 h1 h2
  go_enter Tryz.func96, Tryz.ntmps96
  go_upto_region 1 with fail
  have z1 : (w.alloc (.cells #[.string m.name, .slice ia m.imps.length ic, .slice da m.decls.length dc] 25)).heap.size = w.heap.size + 1 := by simp
  obtain ⟨b1, hb1, hz3⟩ := laidN w #[.string m.name, .slice ia m.imps.length ic, .slice da m.decls.length dc] 25
  obtain ⟨b2, hb2, hz4⟩ := laidN (w.alloc (.cells #[.string m.name, .slice ia m.imps.length ic, .slice da m.decls.length dc] 25)) #[.int .i64 t.kind, .string t.pkg, .int .i64 t.major, .string t.mod, .string t.name, .slice na t.names.length nc, .slice sa t.subs.length sc] 53
  have b3 := b1.under hb2 b1.lt
  have hb3 := hb1.trans (hb2.mono hb1.size)
  rw [z1] at b2 hz4
  clear b1 hb1 hb2 hz3 z1
  generalize (w.alloc (.cells #[.string m.name, .slice ia m.imps.length ic, .slice da m.decls.length dc] 25)).alloc (.cells #[.int .i64 t.kind, .string t.pkg, .int .i64 t.major, .string t.mod, .string t.name, .slice na t.names.length nc, .slice sa t.subs.length sc] 53) = W at b3 b2 hb3 hz4 ⊢
  have P1 := Lib.hid b3
  have P2 := Lib.hid b2
  have B0 := Lib.hid hb3
  obtain ⟨x0, x1, x2⟩ := cellsT3 b3
  obtain ⟨y0, y1, y2, y3, y4, y5, y6⟩ := cellsT7 b2
  have l1 := b3.lt
  have l2 := b2.lt
  clear b3 b2 hb3 hz4
  cases s1
  · have hR : R = [] := by rw [← HR.out, mentM, E1.out]; rfl
    subst hR
    go_wp2_with (go_at_call 42; refine (H1.out _ B0.out).mono ?_; rintro e w2 ⟨rfl, hb⟩; have B2 := Lib.hid (B0.out.trans (hb.mono B0.out.size)); clear hb)
    go_ret
    exact ⟨none, 0, rfl, .inl rfl, Nat.le_refl _, B2.out⟩
  · cases s2
    · have hR : R = [] := by rw [← HR.out, mentM, E1.out, E2.out]; rfl
      subst hR
      go_wp2_with (first
        | (go_at_call 42; refine (H1.out _ B0.out).mono ?_; rintro e w2 ⟨rfl, hb⟩; have B2 := Lib.hid (B0.out.trans (hb.mono B0.out.size)); have p2 := P2.out.under hb P2.out.lt; clear hb y0 y1 y2 y3 y4 y5 y6 x0 x1 x2 l1 l2; obtain ⟨y0, y1, y2, y3, y4, y5, y6⟩ := cellsT7 p2; have l2 := p2.lt; clear p2)
        | (go_at_call 48; refine (H2.out _ B2.out).mono ?_; rintro e w3 ⟨rfl, hb⟩; have B3 := Lib.hid (B2.out.trans (hb.mono B2.out.size)); clear hb))
      go_ret
      exact ⟨none, 0, rfl, .inl rfl, Nat.le_refl _, B3.out⟩
    · have hR : R = sortN (mentF m.decls t) := by rw [← HR.out, mentM, E1.out, E2.out]; rfl
      have H3' := Lib.hid (fun W hb => H3.out W hb (HDL.out E1.out))
      clear H3
      have HL := Lib.hid (show (mentF m.decls t).length ≤ 1000000 by have := ment_len m.decls t; have := HDL.out E1.out; omega)
      have HRR := Lib.hid hR
      clear hR
      go_wp2_with (first
        | (go_at_call 42; refine (H1.out _ B0.out).mono ?_; rintro e w2 ⟨rfl, hb⟩; have B2 := Lib.hid (B0.out.trans (hb.mono B0.out.size)); have p2 := P2.out.under hb P2.out.lt; have p1 := P1.out.under hb P1.out.lt; have Q1 := Lib.hid p1; have Q2 := Lib.hid p2; clear hb y0 y1 y2 y3 y4 y5 y6 x0 x1 x2 l1 l2; obtain ⟨y0, y1, y2, y3, y4, y5, y6⟩ := cellsT7 p2; have l2 := p2.lt; clear p2 p1)
        | (go_at_call 48; refine (H2.out _ B2.out).mono ?_; rintro e w3 ⟨rfl, hb⟩; have B3 := Lib.hid (B2.out.trans (hb.mono B2.out.size)); have p2 := Q2.out.under hb Q2.out.lt; have p1 := Q1.out.under hb Q1.out.lt; clear hb y0 y1 y2 y3 y4 y5 y6 l2; obtain ⟨y0, y1, y2, y3, y4, y5, y6⟩ := cellsT7 p2; obtain ⟨x0, x1, x2⟩ := cellsT3 p1; have l2 := p2.lt; have l1 := p1.lt; clear p2 p1)
        | (go_at_call 136; refine (H3'.out _ B3.out).mono ?_; rintro e w4 ⟨v, rfl, hown, hb⟩; have HO := Lib.hid hown; have B4 := Lib.hid (B3.out.trans (hb.mono B3.out.size)); have HB4 := Lib.hid hb; clear hb hown y0 y1 y2 y3 y4 y5 y6 x0 x1 x2 l1 l2)
        | (go_at_call 116; refine (sortU_c HO.out HB4.out HL.out).mono ?_; rintro e w5 ⟨rfl, hown, hb⟩; have HO5 := Lib.hid hown; have B5 := Lib.hid (B3.out.trans (hb.mono B3.out.size)); clear hb hown))
      have ho := HO5.out
      rw [← sortN_len (mentF m.decls t), ← HRR.out] at ho
      obtain ⟨A, c, rfl, h1, h2⟩ := own_strs ho rfl
      go_ret
      exact ⟨A, c, rfl, h1, h2, B5.out⟩
end Go.Proofs.YtjeldfipipkfiaaGreat
