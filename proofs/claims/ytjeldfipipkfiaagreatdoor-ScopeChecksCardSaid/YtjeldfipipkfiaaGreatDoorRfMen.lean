/- The contract of merlonref07.Mentions: the names that a type mentions, rising. Printed by mkrmen.py. -/
import Derived.Test.YtjeldfipipkfiaaGreatDoorRfRch
import Derived.Test.YtjeldfipipkfiaaGreatDoorRchM
namespace Go.Proofs.YtjeldfipipkfiaaGreatDoor
open Go.RowKit
set_option linter.unusedSimpArgs false
set_option linter.unusedVariables false
set_option linter.unnecessarySimpa false
theorem infoStr7 : ((Tryz.prog).info? 9).map (fun i => (i.zero, i.size, i.bytes)) = some (some (.string { data := #[] }), 1, 16) := by kernel_rfl
theorem str_one (l : List ByteArray) : ∀ u ∈ l.map Value.string, u.oneCell' = true := by
  intro u hu
  obtain ⟨x, -, rfl⟩ := List.mem_map.1 hu
  rfl
theorem str_src {w : World} {b o : Nat} {l : List ByteArray} (h : ∀ i (h : i < l.length), w.cell? ⟨b, o + i, none⟩ = some (.string l[i])) : ∀ j u, (l.map Value.string)[j]? = some u → w.cell? (Addr.add ⟨b, o, none⟩ j) = some u := by
  intro j u hu
  have hj : j < l.length := by
    have := (List.getElem?_eq_some_iff.1 hu).1
    simpa using this
  rw [addN, h j hj]
  simp [hj] at hu
  rw [hu]

set_option maxRecDepth 100000 in
set_option maxHeartbeats 8000000 in
theorem rMentions_c (m : Mdl) (ia : Option Addr) (ic : Nat) (da : Option Addr) (dc B : Nat) (t : Ty) (cs : Array Value) (w : World) (hm : MdlC w B m ia ic da dc) (ht : TyC w B t cs) (hB : B ≤ w.heap.size) (hl : m.decls.length ≤ 60) (hmt : manyT t ≤ 1000) (hmd : ∀ d ∈ m.decls, manyT d.ty ≤ 1000) :
    Calls Tryz.prog 21 #[.agg (mdlCells m ia ic da dc), .agg cs] w fun e w' => ∃ v, e = .returned v ∧ w'.ownsRow w.heap.size 9 1 v (sortN (mentF m.decls t)).length ((sortN (mentF m.decls t)).map Value.string) ∧ Below w.heap.size w w' := by
  obtain ⟨i0, hi, hz0, hz1, hz2⟩ := info_parts infoStr7
  obtain ⟨na, nc, sa, sc, f, rfl, -⟩ := ht.inv
  have HM := Lib.hid hm
  obtain ⟨R, hR⟩ : ∃ R, sortN (mentF m.decls t) = R := ⟨_, rfl⟩
  rw [hR]
  have HR := Lib.hid hR
  have C1 := Lib.hid (fun W (hb : Below w.heap.size w W) => rReach_c m ia ic da dc B t _ W (hm.under (hb.mono hB)) (ht.under (hb.mono hB)) (Nat.le_trans hB hb.size) hl hmt hmd)
  clear hm ht hmt hmd hR
  simp only [mdlCells, tyCells] at C1 ⊢
  go_enter Tryz.func21, Tryz.ntmps21
  go_upto_region 1 with fail
  have z1 : (w.alloc (.cells #[.string m.name, .slice ia m.imps.length ic, .slice da m.decls.length dc] 25)).heap.size = w.heap.size + 1 := by simp
  obtain ⟨b1, hb1, hz3⟩ := laidN w #[.string m.name, .slice ia m.imps.length ic, .slice da m.decls.length dc] 25
  obtain ⟨b2, hb2, hz4⟩ := laidN (w.alloc (.cells #[.string m.name, .slice ia m.imps.length ic, .slice da m.decls.length dc] 25)) #[.int .i64 t.kind, .string t.pkg, .int .i64 t.major, .string t.mod, .string t.name, .slice na t.names.length nc, .slice sa t.subs.length sc] 29
  have b3 := b1.under hb2 b1.lt
  have hb3 := hb1.trans (hb2.mono hb1.size)
  rw [z1] at b2 hz4
  clear b1 hb1 hb2 hz3 z1
  generalize (w.alloc (.cells #[.string m.name, .slice ia m.imps.length ic, .slice da m.decls.length dc] 25)).alloc (.cells #[.int .i64 t.kind, .string t.pkg, .int .i64 t.major, .string t.mod, .string t.name, .slice na t.names.length nc, .slice sa t.subs.length sc] 29) = W at b3 b2 hb3 hz4 ⊢
  have B0 := Lib.hid hb3
  obtain ⟨x0, x1, x2⟩ := cellsT3 b3
  obtain ⟨y0, y1, y2, y3, y4, y5, y6⟩ := cellsT7 b2
  have l1 := b3.lt
  have l2 := b2.lt
  have P1 := Lib.hid b3
  clear b3 b2 hb3 hz4
  go_upto_region 3 with (go_at_call 62; refine (C1.out _ B0.out).mono ?_; rintro e W3 ⟨g, rfl, hg, hrow, hb⟩; have HRow := Lib.hid hrow; have BW := Lib.hid hb; clear hrow hb)
  have p1 := P1.out.under BW.out P1.out.lt
  have P3 := Lib.hid p1
  have B3 := Lib.hid (B0.out.trans (BW.out.mono B0.out.size))
  have hB3 : B ≤ W3.heap.size := Nat.le_trans hB B3.out.size
  have hg3 : g < W3.heap.size := (owns_lt2 HRow.out rfl).2
  have l13 := p1.lt
  clear p1 x0 x1 x2 y0 y1 y2 y3 y4 y5 y6 l1 l2 C1
  go_wp2_with fail
  go_loopw [6, 7] (fun v i wz => ∃ (k : Nat) (l : List ByteArray), k ≤ m.decls.length ∧ i = .int .i64 k ∧ MInv m.decls t k l ∧ wz.ownsRow W3.heap.size 9 1 v l.length (l.map Value.string) ∧ Below W3.heap.size W3 wz) (fun _ i _ => m.decls.length - (intOf i).toNat)
  case atStart => exact ⟨0, [], Nat.zero_le _, rfl, MInv.init _ _, World.ownsRow_nil _ _ _ _, Below.refl _ _⟩
  case round =>
    rename World => wr
    obtain ⟨k, l, hk, rfl, hinv, hown, hbr⟩ := hrel
    have HI := Lib.hid hinv
    have HO := Lib.hid hown
    have BR := Lib.hid hbr
    have hlb := hinv.len
    obtain ⟨n, hn⟩ : ∃ n, l.length = n := ⟨_, rfl⟩
    rw [hn] at hlb
    have HN := Lib.hid hn
    obtain ⟨A, c, hv, -, -⟩ := own_strs hown rfl
    rw [hn] at hv
    subst hv
    clear hinv hown hn hbr
    by_cases hlt : k < m.decls.length
    · obtain ⟨d, hd⟩ : ∃ d, m.decls[k] = d := ⟨_, rfl⟩
      obtain ⟨rk, hrk⟩ : ∃ b, reachF m.decls t k = b := ⟨_, rfl⟩
      have rc : wr.cell? ⟨g, k, none⟩ = some (.bool rk) := by
        rw [BR.out.cell (p := ⟨g, k, none⟩) hg3, HRow.out.cellAt k (by omega)]
        rw [List.getElem?_map, List.getElem?_map, List.getElem?_range hlt]
        rw [← hrk]; rfl
      have HRK := Lib.hid hrk
      have HDD := Lib.hid hd
      have hkI : (k : Int) < (m.decls.length : Int) := by omega
      have hk0 : (0 : Int) ≤ (k : Int) := by omega
      have lgr : g < wr.heap.size := Nat.lt_of_lt_of_le hg3 BR.out.size
      clear hrk hd
      cases rk
      · have HI2 := Lib.hid (HI.out.skip HRK.out)
        go_wp2_with fail
        first
          | exact ⟨⟨k + 1, l, by omega, by go_num, HI2.out, by have h := HO.out; rw [HN.out] at h ⊢; exact h, BR.out⟩, by simp [intOf]; omega⟩
          | (go_roundw
             case rel => exact ⟨k + 1, l, by omega, by go_num, HI2.out, by have h := HO.out; rw [HN.out] at h ⊢; exact h, BR.out⟩
             case measure => simp [intOf]; omega)
      · go_upto_region 8 with fail
        clear rc
        obtain ⟨-, bd, od, nd, ne, sd, se, hda, hbd, -, e0, e1, -⟩ := (HM.out.decls.under ((B3.out.mono hB).trans (BR.out.mono hB3))).elem hlt HDD.out
        obtain rfl := hda
        have lbd : bd < wr.heap.size := by have := BR.out.size; omega
        have p1 := P3.out.under BR.out P3.out.lt
        obtain ⟨x0, x1, x2⟩ := cellsT3 p1
        have l1 := p1.lt
        clear p1 e0
        have HX2 := Lib.hid x2
        have HE1 := Lib.hid e1
        go_upto_block 2 with fail
        go_cut [9] (fun jv w2 => ∃ a : Nat, jv = .int .i64 a ∧ a ≤ n ∧ (∀ i (h : i < l.length), i < a → ltB l[i] d.name = true) ∧ (∀ h : a < l.length, ltB l[a] d.name = false) ∧ Below wr.heap.size wr w2)
        case first =>
          go_wp2_with fail
          go_loopw [9] (fun jv wz => ∃ a : Nat, a ≤ n ∧ jv = .int .i64 a ∧ (∀ i (h : i < l.length), i < a → ltB l[i] d.name = true) ∧ Below wr.heap.size wr wz) (fun jv _ => n - (intOf jv).toNat)
          case atStart => exact ⟨0, Nat.zero_le _, rfl, fun i _ h => absurd h (by omega), Below.refl _ _⟩
          case round =>
            rename World => wz
            obtain ⟨a, ha, rfl, hall, hbz⟩ := hrel
            have HA := Lib.hid hall
            have BZ := Lib.hid hbz
            have x2 := (hbz.cell (p := ⟨w.heap.size, 2, none⟩) l1).trans HX2.out
            have e1 := (hbz.cell (p := ⟨bd, od + k * 9 + 1, none⟩) lbd).trans HE1.out
            have hoz := owns_keep HO.out fun q hq => hbz.block q (owns_lt2 HO.out hq).2
            clear hall hbz
            by_cases hla : a < n
            · obtain ⟨A', c', hv, hst, -⟩ := own_strs hoz rfl
              injection hv with v1 v2 v3
              subst v1 v3
              obtain ⟨x, hx⟩ : ∃ x, l[a]'(by rw [HN.out]; exact hla) = x := ⟨_, rfl⟩
              obtain ⟨sb, so, hA, hsb, c0⟩ := hst.elem (by rw [HN.out]; exact hla) hx
              obtain rfl := hA
              have hlaI : (a : Int) < (n : Int) := by omega
              have ha0 : (0 : Int) ≤ (a : Int) := by omega
              have HX := Lib.hid hx
              obtain ⟨tt, ht⟩ : ∃ t, Op.bytesLess x.toList d.name.toList = t := ⟨_, rfl⟩
              have HT := Lib.hid (show ltB x d.name = tt from ht)
              clear hx hst hoz v2
              cases tt
              · go_upto_region 9 with fail
                go_quiet (fail)
                go_wp2_with fail
                go_meet
                exact ⟨a, rfl, ha, HA.out, fun h => by rw [HX.out]; exact HT.out, below_drewN BZ.out _⟩
              · have HA2 := Lib.hid (show ∀ i (h : i < l.length), i < a + 1 → ltB l[i] d.name = true from fun i h h' => by
                  by_cases e : i = a
                  · subst e; rw [HX.out]; exact HT.out
                  · exact HA.out i h (by omega))
                go_upto_region 9 with fail
                go_quiet (fail)
                go_wp2_with fail
                first
                  | exact ⟨⟨a + 1, by omega, by go_num, HA2.out, below_drewN BZ.out _⟩, by simp [intOf]; omega⟩
                  | (go_roundw
                     case rel => exact ⟨a + 1, by omega, by go_num, HA2.out, below_drewN BZ.out _⟩
                     case measure => simp [intOf]; omega)
            · obtain rfl : a = n := by omega
              have hlaI : ¬ (a : Int) < (a : Int) := by omega
              clear hoz
              go_upto_region 9 with fail
              go_quiet (fail)
              go_wp2_with fail
              go_meet
              exact ⟨a, rfl, Nat.le_refl _, HA.out, fun h => absurd h (by rw [HN.out]; omega), below_drewN BZ.out _⟩
        case rest =>
          rename World => w2
          obtain ⟨a, rfl, ha, hall, hat, hb2⟩ := hcut
          have HI2 := Lib.hid (HI.out.put (k := k) hlt HRK.out (a := a) (by rw [HN.out]; exact ha) (by rw [HDD.out]; exact hall) (by rw [HDD.out]; exact hat))
          rw [HDD.out] at HI2
          have HB2 := Lib.hid (BR.out.trans (hb2.mono BR.out.size))
          have ho2 := owns_keep HO.out fun q hq => hb2.block q (owns_lt2 HO.out hq).2
          have E1 := Lib.hid (fun W' (h : Below wr.heap.size wr W') => (show W'.cell? ⟨w.heap.size, 2, none⟩ = some (.slice (some ⟨bd, od, none⟩) m.decls.length dc) ∧ W'.cell? ⟨bd, od + k * 9 + 1, none⟩ = some (.string d.name) from ⟨(h.cell (p := ⟨w.heap.size, 2, none⟩) l1).trans HX2.out, (h.cell (p := ⟨bd, od + k * 9 + 1, none⟩) lbd).trans HE1.out⟩))
          have HB2r := Lib.hid hb2
          clear hall hat hb2 x2 e1
          have HO2 := Lib.hid ho2
          rcases ho2.2 with ⟨hv, hn0⟩ | ⟨gb, cap, cur, hv, hgb, -, hnc, -⟩
          · injection hv with v1 v2 v3
            subst v1 v3
            have hl0 : l = [] := List.eq_nil_of_length_eq_zero (HN.out.trans v2)
            have ha0 : a = 0 := by omega
            subst hl0 ha0
            have HI2 := Lib.hid (show MInv m.decls t (k + 1) [d.name] from HI2.out)
            obtain ⟨x2, e1⟩ := E1.out _ HB2r.out
            go_upto_region 12 with (at_builtin; refine wpList_append_noneC rfl _ _ 26 rfl W3.heap.size 9 i0 1 Tryz.underlying26 hi _ 0 [] rfl (World.ownsRow_nil _ _ _ _) 0 0 rfl rfl ?_)
            go_upto_region 13 with (at_builtin; refine wpList_append_own2 rfl _ _ 26 rfl W3.heap.size 9 i0 (.string { data := #[] }) 1 16 Tryz.underlying26 hi hz0 hz1 hz2 rfl (by decide) _ 0 [] rfl (World.ownsRow_nil _ _ _ _) ⟨w2.heap.size, 0, none⟩ 1 1 [.string d.name] rfl rfl (by exact World.news_of_block (cs := #[.string d.name]) (t := 9) (fr := (0, 0)) (heap_alloc_new w2 _)) (by simp [Value.oneCell']) (by unfold maxLen; omega) (by omega) (by have := HB2.out.size; simp; omega) ?_)
            intro v2 w4 hown4 hg4 hn4
            have HBF := Lib.hid (show Below W3.heap.size W3 w4 from (HB2.out.alloc HB2.out.size _).grown hg4 (by have := HB2.out.size; simp; omega) (fun q hq => by simp [Value.ownBlock] at hq))
            have HWF := Lib.hid (show w4.ownsRow W3.heap.size 9 1 v2 [d.name].length ([d.name].map Value.string) from hown4)
            obtain ⟨A2, c2, rfl, -, -⟩ := own_strs HWF.out rfl
            clear hown4 hg4 hn4 x2 e1
            go_wp2_with (at_builtin; refine wpList_append_noneC rfl _ _ 26 rfl W3.heap.size 9 i0 1 Tryz.underlying26 hi _ 1 _ rfl HWF.out 0 0 rfl rfl ?_)
            go_wp2_with fail
            first
              | exact ⟨⟨k + 1, _, by omega, by go_num, HI2.out, HWF.out, HBF.out⟩, by simp [intOf]; omega⟩
              | (go_roundw
                 case rel => exact ⟨k + 1, _, by omega, by go_num, HI2.out, HWF.out, HBF.out⟩
                 case measure => simp [intOf]; omega)
          · injection hv with v1 v2 v3
            subst v1 v3
            have HCL := Lib.hid (show ∀ i (h : i < l.length), w2.cell? ⟨gb, i, none⟩ = some (.string l[i]) from fun i h => by
              have hh := HO2.out
              rw [v2, ] at hh
              rw [hh.cellAt i (by omega)]
              simp [h])
            have lgb : gb < w2.heap.size := (owns_lt2 HO2.out rfl).2
            have hac : (a : Int) ≤ (c : Int) := by omega
            have han : (a : Int) ≤ (n : Int) := by omega
            have hncn : n ≤ c := by have := HN.out; omega
            clear v2
            by_cases hck : c = a
            · obtain rfl : a = c := hck.symm
              obtain rfl : a = n := by omega
              have hdr : l.drop a = [] := List.drop_eq_nil_of_le (by rw [HN.out]; omega)
              go_upto_region 12 with (at_builtin; refine wpList_append_own2 rfl _ _ 26 rfl W3.heap.size 9 i0 (.string { data := #[] }) 1 16 Tryz.underlying26 hi hz0 hz1 hz2 rfl (by decide) _ 0 [] rfl (World.ownsRow_nil _ _ _ _) ⟨gb, 0, none⟩ a a ((l.take a).map Value.string) rfl (by simp; have := HN.out; omega) (by exact str_src fun i hi => by rw [Nat.zero_add, HCL.out i (by rw [List.length_take] at hi; omega)]; simp) (str_one _) (by unfold maxLen; omega) (by omega) HB2.out.size ?_)
              intro v1 w1 hown1 hg1 hn1
              have hown1 : w1.ownsRow W3.heap.size 9 1 v1 a ((l.take a).map Value.string) := by simpa using hown1
              replace hg1 : w2.grownBy w1 none := hg1
              replace hn1 : ∀ q, v1.ownBlock = some q → w2.heap.size ≤ q := fun q hq => by
                rcases hn1 with h | h
                · rw [h] at hq; cases hq
                · exact h q hq
              have hbr1 : Below wr.heap.size wr w1 := HB2r.out.grown hg1 HB2r.out.size (fun q hq => by cases hq)
              have HB1 := Lib.hid (BR.out.trans (hbr1.mono BR.out.size))
              obtain ⟨x2, e1⟩ := E1.out _ hbr1
              have HW1 := Lib.hid hown1
              have HCL1 := Lib.hid (fun i (h : i < l.length) => (hg1.cell_far ⟨gb, i, none⟩ lgb (by simp)).trans (HCL.out i h))
              have lgb1 : gb < w1.heap.size := Nat.lt_of_lt_of_le lgb hg1.size
              have hne1 : some gb ≠ v1.ownBlock := fun e => by have := hn1 gb e.symm; omega
              have hla : (l.take a).length = a := by rw [List.length_take]; have := HN.out; omega
              obtain ⟨A1, c1, hv1, -, -⟩ := own_strs hown1 hla
              rw [hla] at hv1
              subst hv1
              clear hown1 hg1 hn1 hbr1 hla
              go_upto_region 13 with (at_builtin; refine wpList_append_own2 rfl _ _ 26 rfl W3.heap.size 9 i0 (.string { data := #[] }) 1 16 Tryz.underlying26 hi hz0 hz1 hz2 rfl (by decide) _ a _ rfl (owns_under HW1.out ((Below.refl w1.heap.size w1).alloc (Nat.le_refl _) _)) ⟨w1.heap.size, 0, none⟩ 1 1 [.string d.name] rfl rfl (by exact World.news_of_block (cs := #[.string d.name]) (t := 9) (fr := (0, 0)) (heap_alloc_new w1 _)) (by simp [Value.oneCell']) (by unfold maxLen; omega) (by omega) (by have := HB1.out.size; simp; omega) ?_)
              intro v2 w4 hown4 hg4 hn4
              have HB4 := Lib.hid (show Below W3.heap.size W3 w4 from (HB1.out.alloc HB1.out.size _).grown hg4 (by have := HB1.out.size; simp; omega) (fun q hq => (owns_lt2 HW1.out hq).1))
              have HCL4 := Lib.hid (fun i (h : i < l.length) => (hg4.cell_far ⟨gb, i, none⟩ (by simp; omega) hne1).trans ((World.cell?_alloc_lt w1 _ ⟨gb, i, none⟩ lgb1).trans (HCL1.out i h)))
              have HW4 := Lib.hid hown4
              obtain ⟨A2, c2, hv2, -, -⟩ := own_strs (l := l.take a ++ [d.name]) (by simpa using hown4) (by rw [List.length_append, List.length_take]; have := HN.out; simp; omega)
              have hla : (l.take a ++ [d.name]).length = a + 1 := by rw [List.length_append, List.length_take]; have := HN.out; simp; omega
              rw [hla] at hv2
              subst hv2
              clear hown4 hg4 hn4 x2 e1 hne1 hla
              go_wp2_with (at_builtin; refine wpList_append_own2 rfl _ _ 26 rfl W3.heap.size 9 i0 (.string { data := #[] }) 1 16 Tryz.underlying26 hi hz0 hz1 hz2 rfl (by decide) _ (a + 1) _ rfl HW4.out ⟨gb, 0, none⟩ 0 _ (([] : List ByteArray).map Value.string) rfl (by simp; try (have := HN.out; omega)) (by exact fun j u hu => by simp at hu) (str_one _) (by unfold maxLen; omega) (by omega) HB4.out.size ?_)
              intro v5 w5 hown5 hg5 hn5
              have hre : (l.take a ++ d.name :: l.drop a).length = a + 1 + 0 := by simp; have := HN.out; omega
              have HBF := Lib.hid (show Below W3.heap.size W3 w5 from HB4.out.grown hg5 HB4.out.size (fun q hq => (owns_lt2 HW4.out hq).1))
              have HWF := Lib.hid (show w5.ownsRow W3.heap.size 9 1 v5 (l.take a ++ d.name :: l.drop a).length ((l.take a ++ d.name :: l.drop a).map Value.string) from by
                rw [hre]
                rw [hdr]
                simpa using hown5)
              obtain ⟨A5, c5, hv5, -, -⟩ := own_strs HWF.out rfl
              rw [hre] at hv5
              subst hv5
              clear hown5 hg5 hn5 hre
              go_wp2_with fail
              first
                | exact ⟨⟨k + 1, _, by omega, by go_num, HI2.out, HWF.out, HBF.out⟩, by simp [intOf]; omega⟩
                | (go_roundw
                   case rel => exact ⟨k + 1, _, by omega, by go_num, HI2.out, HWF.out, HBF.out⟩
                   case measure => simp [intOf]; omega)
            · have hck2 : ¬ a = c := fun e => hck e.symm
              go_upto_region 12 with (at_builtin; refine wpList_append_own2 rfl _ _ 26 rfl W3.heap.size 9 i0 (.string { data := #[] }) 1 16 Tryz.underlying26 hi hz0 hz1 hz2 rfl (by decide) _ 0 [] rfl (World.ownsRow_nil _ _ _ _) ⟨gb, 0, none⟩ a c ((l.take a).map Value.string) rfl (by simp; have := HN.out; omega) (by exact str_src fun i hi => by rw [Nat.zero_add, HCL.out i (by rw [List.length_take] at hi; omega)]; simp) (str_one _) (by unfold maxLen; omega) (by omega) HB2.out.size ?_)
              intro v1 w1 hown1 hg1 hn1
              have hown1 : w1.ownsRow W3.heap.size 9 1 v1 a ((l.take a).map Value.string) := by simpa using hown1
              replace hg1 : w2.grownBy w1 none := hg1
              replace hn1 : ∀ q, v1.ownBlock = some q → w2.heap.size ≤ q := fun q hq => by
                rcases hn1 with h | h
                · rw [h] at hq; cases hq
                · exact h q hq
              have hbr1 : Below wr.heap.size wr w1 := HB2r.out.grown hg1 HB2r.out.size (fun q hq => by cases hq)
              have HB1 := Lib.hid (BR.out.trans (hbr1.mono BR.out.size))
              obtain ⟨x2, e1⟩ := E1.out _ hbr1
              have HW1 := Lib.hid hown1
              have HCL1 := Lib.hid (fun i (h : i < l.length) => (hg1.cell_far ⟨gb, i, none⟩ lgb (by simp)).trans (HCL.out i h))
              have lgb1 : gb < w1.heap.size := Nat.lt_of_lt_of_le lgb hg1.size
              have hne1 : some gb ≠ v1.ownBlock := fun e => by have := hn1 gb e.symm; omega
              have hla : (l.take a).length = a := by rw [List.length_take]; have := HN.out; omega
              obtain ⟨A1, c1, hv1, -, -⟩ := own_strs hown1 hla
              rw [hla] at hv1
              subst hv1
              clear hown1 hg1 hn1 hbr1 hla
              go_upto_region 13 with (at_builtin; refine wpList_append_own2 rfl _ _ 26 rfl W3.heap.size 9 i0 (.string { data := #[] }) 1 16 Tryz.underlying26 hi hz0 hz1 hz2 rfl (by decide) _ a _ rfl (owns_under HW1.out ((Below.refl w1.heap.size w1).alloc (Nat.le_refl _) _)) ⟨w1.heap.size, 0, none⟩ 1 1 [.string d.name] rfl rfl (by exact World.news_of_block (cs := #[.string d.name]) (t := 9) (fr := (0, 0)) (heap_alloc_new w1 _)) (by simp [Value.oneCell']) (by unfold maxLen; omega) (by omega) (by have := HB1.out.size; simp; omega) ?_)
              intro v2 w4 hown4 hg4 hn4
              have HB4 := Lib.hid (show Below W3.heap.size W3 w4 from (HB1.out.alloc HB1.out.size _).grown hg4 (by have := HB1.out.size; simp; omega) (fun q hq => (owns_lt2 HW1.out hq).1))
              have HCL4 := Lib.hid (fun i (h : i < l.length) => (hg4.cell_far ⟨gb, i, none⟩ (by simp; omega) hne1).trans ((World.cell?_alloc_lt w1 _ ⟨gb, i, none⟩ lgb1).trans (HCL1.out i h)))
              have HW4 := Lib.hid hown4
              obtain ⟨A2, c2, hv2, -, -⟩ := own_strs (l := l.take a ++ [d.name]) (by simpa using hown4) (by rw [List.length_append, List.length_take]; have := HN.out; simp; omega)
              have hla : (l.take a ++ [d.name]).length = a + 1 := by rw [List.length_append, List.length_take]; have := HN.out; simp; omega
              rw [hla] at hv2
              subst hv2
              clear hown4 hg4 hn4 x2 e1 hne1 hla
              go_wp2_with (at_builtin; refine wpList_append_own2 rfl _ _ 26 rfl W3.heap.size 9 i0 (.string { data := #[] }) 1 16 Tryz.underlying26 hi hz0 hz1 hz2 rfl (by decide) _ (a + 1) _ rfl HW4.out ⟨gb, a, none⟩ (n - a) _ ((l.drop a).map Value.string) rfl (by simp; try (have := HN.out; omega)) (by exact str_src fun i hi => by rw [HCL4.out (a + i) (by rw [List.length_drop] at hi; omega)]; simp) (str_one _) (by unfold maxLen; omega) (by omega) HB4.out.size ?_)
              intro v5 w5 hown5 hg5 hn5
              have hre : (l.take a ++ d.name :: l.drop a).length = a + 1 + (n - a) := by simp; have := HN.out; omega
              have HBF := Lib.hid (show Below W3.heap.size W3 w5 from HB4.out.grown hg5 HB4.out.size (fun q hq => (owns_lt2 HW4.out hq).1))
              have HWF := Lib.hid (show w5.ownsRow W3.heap.size 9 1 v5 (l.take a ++ d.name :: l.drop a).length ((l.take a ++ d.name :: l.drop a).map Value.string) from by
                rw [hre]
                skip
                simpa using hown5)
              obtain ⟨A5, c5, hv5, -, -⟩ := own_strs HWF.out rfl
              rw [hre] at hv5
              subst hv5
              clear hown5 hg5 hn5 hre
              go_wp2_with fail
              first
                | exact ⟨⟨k + 1, _, by omega, by go_num, HI2.out, HWF.out, HBF.out⟩, by simp [intOf]; omega⟩
                | (go_roundw
                   case rel => exact ⟨k + 1, _, by omega, by go_num, HI2.out, HWF.out, HBF.out⟩
                   case measure => simp [intOf]; omega)
    · obtain rfl : k = m.decls.length := by omega
      have hkI : ¬ (m.decls.length : Int) < (m.decls.length : Int) := by omega
      have hf : l = R := HI.out.out.trans HR.out
      subst hf
      go_wp2_with fail
      go_ret
      refine ⟨_, rfl, ?_, B3.out.trans (BR.out.mono B3.out.size)⟩
      have h := HO.out
      rw [HN.out] at h ⊢
      exact own_base h B3.out.size
end Go.Proofs.YtjeldfipipkfiaaGreatDoor
