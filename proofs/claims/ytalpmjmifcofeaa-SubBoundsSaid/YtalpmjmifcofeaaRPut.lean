/- The contract of merlonref09.put. -/
import Derived.Test.YtalpmjmifcofeaaRPutA
import Derived.Test.YtalpmjmifcofeaaBoundL
import Derived.Deep.DeepCutAuto
import Derived.Deep.Cut
namespace Go.Proofs.Ytalpmjmifcofeaa
open Go.RowKit
set_option linter.unusedSimpArgs false
set_option linter.unusedVariables false
theorem put_round {s n : ByteArray} {x y : Ty} {d d' c c0 : Bool} {L L' : List (ByteArray × Ty)} (h0 : ltB s n = c0) (hc : (!d && c0) = c) (he : (d', L') = if c = true then (true, L ++ [(s, x)]) else (d, L)) : putStep s x (d, L) (n, y) = (d', L' ++ [(n, y)]) := by
  unfold putStep
  subst h0
  rw [hc]
  split
  · rename_i h
    rw [if_pos h] at he
    cases he
    rfl
  · rename_i h
    rw [if_neg h] at he
    cases he
    rfl
set_option maxRecDepth 100000 in
set_option maxHeartbeats 8000000 in
theorem put_c (t x : Ty) (s : ByteArray) (cs cx : Array Value) (M : Nat → Prop) (w : World) (ht : TyM w M t cs) (hx : TyM w M x cx) (hM0 : ∀ b, M b → b < w.heap.size) (hrow : t.names.length = t.subs.length) (hl : t.names.length ≤ 100) (hf : Fits (setRows t (putF s x (pairs t)))) :
    Calls Try.prog 40 #[.agg cs, .string s, .agg cx] w fun e w' => (∃ cs', e = .returned (.agg cs') ∧ TyM w' (fun b => M b ∨ Fresh w w' b) (setRows t (putF s x (pairs t))) cs') ∧ Below w.heap.size w w' := by
  obtain ⟨na, nc, sa, sc, f, rfl, -, hn, hs, -, -, hsub⟩ := ht.inv
  obtain ⟨na1, nc1, sa1, sc1, f1, rfl, -⟩ := hx.inv
  have HN := Lib.hid hn
  have HS := Lib.hid hs
  have HU := Lib.hid hsub
  have HX := Lib.hid hx
  have HF := Lib.hid hf
  have HROW := Lib.hid hrow
  clear ht hx hn hs hsub hf hrow
  obtain ⟨iN, hiN, hzN0, hzN1, hzN2⟩ := info_parts info_str
  obtain ⟨iS, hiS, hzS0, hzS1, hzS2⟩ := info_parts info_type
  go_enter Try.func40, Try.ntmps40
  simp only [tyCells]
  go_upto_region 1 with fail
  have h3 := boxes3 w #[.int .i64 t.kind, .string t.pkg, .int .i64 t.major, .string t.mod, .string t.name, .slice na t.names.length nc, .slice sa t.subs.length sc] #[.int .i64 x.kind, .string x.pkg, .int .i64 x.major, .string x.mod, .string x.name, .slice na1 x.names.length nc1, .slice sa1 x.subs.length sc1] #[.int .i64 0, .string { data := #[] }, .int .i64 0, .string { data := #[] }, .string { data := #[] }, .slice none 0 0, .slice none 0 0] 25
  generalize (((w.alloc (.cells #[.int .i64 t.kind, .string t.pkg, .int .i64 t.major, .string t.mod, .string t.name, .slice na t.names.length nc, .slice sa t.subs.length sc] 25)).alloc (.cells #[.int .i64 x.kind, .string x.pkg, .int .i64 x.major, .string x.mod, .string x.name, .slice na1 x.names.length nc1, .slice sa1 x.subs.length sc1] 25)).alloc (.cells #[.int .i64 0, .string { data := #[] }, .int .i64 0, .string { data := #[] }, .string { data := #[] }, .slice none 0 0, .slice none 0 0] 25)) = W at h3 ⊢
  obtain ⟨x0, x1, x2, xs, xb⟩ := h3
  have TB := Lib.hid x0
  have XB := Lib.hid x1
  have RB := Lib.hid x2
  have WB := Lib.hid xb
  have hM : ∀ b, M b → b < W.heap.size := fun b hb => by have := hM0 b hb; omega
  have hk : ∀ p : Addr, M p.block → W.cell? p = w.cell? p := fun p hp => xb.cell (hM0 _ hp)
  have HXW := Lib.hid (HX.out.keep hk)
  have HNW := Lib.hid (HN.out.move (fun _ h => h) hk)
  have HSW := Lib.hid (HS.out.move (fun _ h => h) hk)
  have HUW := Lib.hid (fun i hi => (HU.out i hi).keep hk)
  have h0 : PutRow W W M (.slice none 0 0) (.slice none 0 0) [] [] := ⟨Below.refl _ _, Nat.le_refl _, Out2.nil _ _ _, fun i hi => by simp at hi⟩
  have H0 := Lib.hid h0
  clear x0 x1 x2 xb h0 hk HN HS HU HX
  go_wp2_with fail
  go_loopw [7, 8, 9, 10] (fun v7 v8 v9 i wr => ∃ (k : Nat) (nv sv : Value) (L : List (ByteArray × Ty)) (F : List (Array Value)) (d : Bool), k ≤ t.names.length ∧ nv = v7 ∧ sv = v8 ∧ i = .int .i64 k ∧ v9 = .bool d ∧ PutRow W wr M nv sv L F ∧ putAt s x (pairs t) k = (d, L)) (fun _ _ _ i _ => t.names.length - (intOf i).toNat)
  case atStart => exact ⟨0, _, _, _, _, _, Nat.zero_le _, rfl, rfl, rfl, rfl, H0.out, rfl⟩
  case round =>
    obtain ⟨k, nv, sv, L, F, d, hk, rfl, rfl, rfl, rfl, hr, hgot⟩ := hrel
    have HR := Lib.hid hr
    have BEL := Lib.hid hr.below
    have hrz := hr.size
    have HGOT := Lib.hid hgot
    have hpl := pairs_len (t := t) (Nat.le_of_eq HROW.out)
    have hpp := putAt_len s x (pairs t) k (by omega)
    rw [hgot] at hpp
    dsimp only at hpp
    have HLN := Lib.hid (show L.length ≤ 101 by have := hpp.1; omega)
    have kt0 := TB.out.under BEL.out TB.out.lt
    have t5 := kt0.cell 5
    have t6 := kt0.cell 6
    simp at t5 t6
    clear hr hgot hpp kt0
    by_cases hlt : k < t.names.length
    · have hlt' : k < t.subs.length := by have := HROW.out; omega
      have hnk : ∃ b1 o1, na = some ⟨b1, o1, none⟩ ∧ W.cell? ⟨b1, o1 + k, none⟩ = some (.string t.names[k]) ∧ M b1 := by
        rcases HNW.out with h | ⟨b1, o1, h1, h2, h3⟩
        · rw [h] at hlt; simp at hlt
        · exact ⟨b1, o1, h1, h3 k hlt, h2⟩
      obtain ⟨b1, o1, rfl, hcn, hMb1⟩ := hnk
      have hsk : ∃ b2 o2, sa = some ⟨b2, o2, none⟩ ∧ (∀ j, j < (f k).size → W.cell? ⟨b2, o2 + k * 7 + j, none⟩ = (f k)[j]?) ∧ M b2 := by
        rcases HSW.out with h | ⟨b2, o2, h1, h2, h3⟩
        · omega
        · exact ⟨b2, o2, h1, fun j hj => h3 k hlt' j hj, h2⟩
      obtain ⟨b2, o2, rfl, hcs, hMb2⟩ := hsk
      have hyw := HUW.out k hlt'
      obtain ⟨na2, nc2, sa2, sc2, f2, hfk, -⟩ := hyw.inv
      rw [hfk] at hyw hcs
      have HYW := Lib.hid hyw
      have D0 := Lib.hid (hcs 0 (show 0 < 7 by decide))
      have D1 := Lib.hid (hcs 1 (show 1 < 7 by decide))
      have D2 := Lib.hid (hcs 2 (show 2 < 7 by decide))
      have D3 := Lib.hid (hcs 3 (show 3 < 7 by decide))
      have D4 := Lib.hid (hcs 4 (show 4 < 7 by decide))
      have D5 := Lib.hid (hcs 5 (show 5 < 7 by decide))
      have D6 := Lib.hid (hcs 6 (show 6 < 7 by decide))
      simp only [tyCells] at HYW
      have hcw := (BEL.out.cell (p := ⟨b1, o1 + k, none⟩) (hM b1 hMb1)).trans hcn
      obtain ⟨c0, hc0⟩ : ∃ c0, ltB s t.names[k] = c0 := ⟨_, rfl⟩
      have hcb : Op.bytesLess s.toList t.names[k].toList = c0 := hc0
      have HC0 := Lib.hid hc0
      have HCN := Lib.hid hcn
      have hltI : (k : Int) < (t.names.length : Int) := by omega
      have hltI' : (k : Int) < (t.subs.length : Int) := by omega
      clear hyw hcs hfk hc0 hcn
      go_upto_region 7 with fail
      go_cut [28] (fun s28 wx => s28 = .bool (!d && c0) ∧ wx = wr)
      case first =>
        cases d
        · go_wp2_with fail
          go_meet
          exact ⟨by simp, rfl⟩
        · go_wp2_with fail
          go_meet
          exact ⟨rfl, rfl⟩
      case rest =>
        obtain ⟨rfl, rfl⟩ := hcut
        generalize hcc : (!d && c0) = c
        have HCC := Lib.hid hcc
        clear hcc hcb
        go_upto_if 28 with fail
        go_cut [7, 8, 9] (fun s7 s8 s9 wx => ∃ (nv2 sv2 : Value) (L' : List (ByteArray × Ty)) (F' : List (Array Value)) (d' : Bool), nv2 = s7 ∧ sv2 = s8 ∧ s9 = .bool d' ∧ PutRow W wx M nv2 sv2 L' F' ∧ (d', L') = (if c = true then (true, L ++ [(s, x)]) else (d, L)))
        case first =>
          cases c
          · go_wp2_with fail
            go_meet
            exact ⟨_, _, L, F, d, rfl, rfl, rfl, HR.out, rfl⟩
          ·
            have kx0 := XB.out.under BEL.out XB.out.lt
            clear hcw
            have hlA := HR.out.size
            go_wp2_with (at_builtin; first | ((with_reducible show wpList _ _ _ _ _ (World.alloc wc _)); refine wpList_append_lies (wc.alloc (.cells #[.string s] 9)) rfl _ _ 22 rfl W.heap.size 9 iN (.string { data := #[] }) 1 16 Try.underlying22 hiN hzN0 hzN1 hzN2 rfl (by decide) nv L.length (L.map fun p => Value.string p.1) rfl (owns_under HR.out.rows.row1 ((Below.refl wc.heap.size wc).alloc (Nat.le_refl _) _)) ⟨wc.heap.size, 0, none⟩ 1 1 [.string s] rfl (by rfl) (World.news_of_block (cs := #[.string s]) (t := 9) (fr := (0, 0)) (heap_alloc_new wc _)) (by simp [Value.oneCell']) (by decide) (by have := HLN.out; unfold maxLen; omega) (by have := HLN.out; omega) (by simp; omega) _ rfl ?_; intro gNA cNA x2A hoN hgN haN hlN; have hfst := HR.out.first hgN; have HNA := Lib.hid (And.intro hoN (And.intro hgN (And.intro haN hfst))); have hzA := hfst.1.size; have kx := XB.out.under (BEL.out.trans (hfst.1)) XB.out.lt; have x0 := kx.cell 0; have x1 := kx.cell 1; have x2 := kx.cell 2; have x3 := kx.cell 3; have x4 := kx.cell 4; have x5 := kx.cell 5; have x6 := kx.cell 6; simp at x0 x1 x2 x3 x4 x5 x6; clear kx; clear hoN hgN haN hlN hfst) | ((with_reducible show wpList _ _ _ _ _ (World.alloc x2A _)); refine wpList_append_lies (x2A.alloc (.cells #[.int .i64 x.kind, .string x.pkg, .int .i64 x.major, .string x.mod, .string x.name, .slice na1 x.names.length nc1, .slice sa1 x.subs.length sc1] 25)) rfl _ _ 23 rfl W.heap.size 25 iS (.agg zeroCells) 7 112 Try.underlying23 hiS hzS0 hzS1 hzS2 rfl (by decide) sv L.length (F.flatMap (·.toList)) rfl (owns_under HNA.out.2.2.2.2 ((Below.refl x2A.heap.size x2A).alloc (Nat.le_refl _) _)) ⟨x2A.heap.size, 0, none⟩ 1 1 (#[.int .i64 x.kind, .string x.pkg, .int .i64 x.major, .string x.mod, .string x.name, .slice na1 x.names.length nc1, .slice sa1 x.subs.length sc1] : Array Value).toList rfl (by rfl) (World.news_of_block (cs := #[.int .i64 x.kind, .string x.pkg, .int .i64 x.major, .string x.mod, .string x.name, .slice na1 x.names.length nc1, .slice sa1 x.subs.length sc1]) (t := 25) (fr := (0, 0)) (heap_alloc_new x2A _)) (by simp [Value.oneCell']) (by decide) (by have := HLN.out; unfold maxLen; omega) (by have := HLN.out; omega) (by simp; omega) _ rfl ?_; intro gSA cSA x4A hoS hgS haS hlS; have HPA := Lib.hid (HR.out.push hM HXW.out HNA.out.1 HNA.out.2.1 HNA.out.2.2.1 hoS hgS haS); clear hoS hgS haS hlS))
            go_meet
            exact ⟨_, _, _, _, true, rfl, rfl, rfl, HPA.out, rfl⟩
        case rest =>
          obtain ⟨nv2, sv2, L', F', d', rfl, rfl, rfl, hp, he⟩ := hcut
          have HP := Lib.hid hp
          have BEC := Lib.hid hp.below
          have hcz := hp.size
          have HPR := Lib.hid (put_round HC0.out HCC.out he (y := t.subs[k]))
          have hll : L'.length ≤ 102 := by
            have h1 := HLN.out
            have h2 := congrArg (fun q : Bool × List (ByteArray × Ty) => q.2.length) he
            dsimp only at h2
            split at h2 <;> simp at h2 <;> omega
          have HLN := Lib.hid hll
          have kt1 := TB.out.under BEC.out TB.out.lt
          have r5 := kt1.cell 5
          simp at r5
          have hcw2 := (BEC.out.cell (p := ⟨b1, o1 + k, none⟩) (hM b1 hMb1)).trans HCN.out
          clear hp he hll kt1 t5 t6 hcw
          have hlB := HP.out.size
          go_wp2_with (at_builtin; first | ((with_reducible show wpList _ _ _ _ _ (World.alloc wc _)); refine wpList_append_lies (wc.alloc (.cells #[.string t.names[k]] 9)) rfl _ _ 22 rfl W.heap.size 9 iN (.string { data := #[] }) 1 16 Try.underlying22 hiN hzN0 hzN1 hzN2 rfl (by decide) nv2 L'.length (L'.map fun p => Value.string p.1) rfl (owns_under HP.out.rows.row1 ((Below.refl wc.heap.size wc).alloc (Nat.le_refl _) _)) ⟨wc.heap.size, 0, none⟩ 1 1 [.string t.names[k]] rfl (by rfl) (World.news_of_block (cs := #[.string t.names[k]]) (t := 9) (fr := (0, 0)) (heap_alloc_new wc _)) (by simp [Value.oneCell']) (by decide) (by have := HLN.out; unfold maxLen; omega) (by have := HLN.out; omega) (by simp; omega) _ rfl ?_; intro gNB cNB x2B hoN hgN haN hlN; have hfst := HP.out.first hgN; have HNB := Lib.hid (And.intro hoN (And.intro hgN (And.intro haN hfst))); have hzB := hfst.1.size; have kt := TB.out.under (BEC.out.trans (hfst.1)) TB.out.lt; have t6 := kt.cell 6; simp at t6; clear kt; have d0 := (Below.cell (BEC.out.trans (hfst.1)) (p := ⟨b2, o2 + k * 7, none⟩) (hM b2 hMb2)).trans D0.out; have d1 := (Below.cell (BEC.out.trans (hfst.1)) (p := ⟨b2, o2 + k * 7 + 1, none⟩) (hM b2 hMb2)).trans D1.out; have d2 := (Below.cell (BEC.out.trans (hfst.1)) (p := ⟨b2, o2 + k * 7 + 2, none⟩) (hM b2 hMb2)).trans D2.out; have d3 := (Below.cell (BEC.out.trans (hfst.1)) (p := ⟨b2, o2 + k * 7 + 3, none⟩) (hM b2 hMb2)).trans D3.out; have d4 := (Below.cell (BEC.out.trans (hfst.1)) (p := ⟨b2, o2 + k * 7 + 4, none⟩) (hM b2 hMb2)).trans D4.out; have d5 := (Below.cell (BEC.out.trans (hfst.1)) (p := ⟨b2, o2 + k * 7 + 5, none⟩) (hM b2 hMb2)).trans D5.out; have d6 := (Below.cell (BEC.out.trans (hfst.1)) (p := ⟨b2, o2 + k * 7 + 6, none⟩) (hM b2 hMb2)).trans D6.out; simp [tyCells] at d0 d1 d2 d3 d4 d5 d6; clear hoN hgN haN hlN hfst) | ((with_reducible show wpList _ _ _ _ _ (World.alloc x2B _)); refine wpList_append_lies (x2B.alloc (.cells #[.int .i64 t.subs[k].kind, .string t.subs[k].pkg, .int .i64 t.subs[k].major, .string t.subs[k].mod, .string t.subs[k].name, .slice na2 t.subs[k].names.length nc2, .slice sa2 t.subs[k].subs.length sc2] 25)) rfl _ _ 23 rfl W.heap.size 25 iS (.agg zeroCells) 7 112 Try.underlying23 hiS hzS0 hzS1 hzS2 rfl (by decide) sv2 L'.length (F'.flatMap (·.toList)) rfl (owns_under HNB.out.2.2.2.2 ((Below.refl x2B.heap.size x2B).alloc (Nat.le_refl _) _)) ⟨x2B.heap.size, 0, none⟩ 1 1 (#[.int .i64 t.subs[k].kind, .string t.subs[k].pkg, .int .i64 t.subs[k].major, .string t.subs[k].mod, .string t.subs[k].name, .slice na2 t.subs[k].names.length nc2, .slice sa2 t.subs[k].subs.length sc2] : Array Value).toList rfl (by rfl) (World.news_of_block (cs := #[.int .i64 t.subs[k].kind, .string t.subs[k].pkg, .int .i64 t.subs[k].major, .string t.subs[k].mod, .string t.subs[k].name, .slice na2 t.subs[k].names.length nc2, .slice sa2 t.subs[k].subs.length sc2]) (t := 25) (fr := (0, 0)) (heap_alloc_new x2B _)) (by simp [Value.oneCell']) (by decide) (by have := HLN.out; unfold maxLen; omega) (by have := HLN.out; omega) (by simp; omega) _ rfl ?_; intro gSB cSB x4B hoS hgS haS hlS; have HPB := Lib.hid (HP.out.push hM HYW.out HNB.out.1 HNB.out.2.1 HNB.out.2.2.1 hoS hgS haS); clear hoS hgS haS hlS))
          have hnew : putAt s x (pairs t) (k + 1) = (d', L' ++ [(t.names[k], t.subs[k])]) := by
            rw [putAt_succ s x (pairs t) k (by omega), HGOT.out, pairs_at hlt hlt']
            exact HPR.out
          first
            | exact ⟨⟨k + 1, _, _, _, _, d', by omega, rfl, rfl, by go_num, rfl, HPB.out, hnew⟩, by simp [intOf]; omega⟩
            | (go_roundw
               case rel => exact ⟨k + 1, _, _, _, _, d', by omega, rfl, rfl, by go_num, rfl, HPB.out, hnew⟩
               case measure => simp [intOf]; omega)
    · have hke : k = t.names.length := by omega
      have hkx : ¬ (k : Int) < (t.names.length : Int) := by omega
      have hput : putAt s x (pairs t) (pairs t).length = (d, L) := by rw [hpl, ← hke]; exact HGOT.out
      have HPUT := Lib.hid hput
      clear hput hke
      go_upto_if 54 with fail
      go_cut [7, 8] (fun s7 s8 wx => ∃ (nv2 sv2 : Value) (F' : List (Array Value)), nv2 = s7 ∧ sv2 = s8 ∧ PutRow W wx M nv2 sv2 (putF s x (pairs t)) F')
      case first =>
        cases d
        ·
          have hpf : putF s x (pairs t) = L ++ [(s, x)] := by unfold putF; rw [HPUT.out]; rfl
          have HPF := Lib.hid hpf
          clear hpf t5 t6
          have hlC := HR.out.size
          go_wp2_with (at_builtin; first | ((with_reducible show wpList _ _ _ _ _ (World.alloc wr _)); refine wpList_append_lies (wr.alloc (.cells #[.string s] 9)) rfl _ _ 22 rfl W.heap.size 9 iN (.string { data := #[] }) 1 16 Try.underlying22 hiN hzN0 hzN1 hzN2 rfl (by decide) nv L.length (L.map fun p => Value.string p.1) rfl (owns_under HR.out.rows.row1 ((Below.refl wr.heap.size wr).alloc (Nat.le_refl _) _)) ⟨wr.heap.size, 0, none⟩ 1 1 [.string s] rfl (by rfl) (World.news_of_block (cs := #[.string s]) (t := 9) (fr := (0, 0)) (heap_alloc_new wr _)) (by simp [Value.oneCell']) (by decide) (by have := HLN.out; unfold maxLen; omega) (by have := HLN.out; omega) (by simp; omega) _ rfl ?_; intro gNC cNC x2C hoN hgN haN hlN; have hfst := HR.out.first hgN; have HNC := Lib.hid (And.intro hoN (And.intro hgN (And.intro haN hfst))); have hzC := hfst.1.size; have kx := XB.out.under (BEL.out.trans (hfst.1)) XB.out.lt; have x0 := kx.cell 0; have x1 := kx.cell 1; have x2 := kx.cell 2; have x3 := kx.cell 3; have x4 := kx.cell 4; have x5 := kx.cell 5; have x6 := kx.cell 6; simp at x0 x1 x2 x3 x4 x5 x6; clear kx; clear hoN hgN haN hlN hfst) | ((with_reducible show wpList _ _ _ _ _ (World.alloc x2C _)); refine wpList_append_lies (x2C.alloc (.cells #[.int .i64 x.kind, .string x.pkg, .int .i64 x.major, .string x.mod, .string x.name, .slice na1 x.names.length nc1, .slice sa1 x.subs.length sc1] 25)) rfl _ _ 23 rfl W.heap.size 25 iS (.agg zeroCells) 7 112 Try.underlying23 hiS hzS0 hzS1 hzS2 rfl (by decide) sv L.length (F.flatMap (·.toList)) rfl (owns_under HNC.out.2.2.2.2 ((Below.refl x2C.heap.size x2C).alloc (Nat.le_refl _) _)) ⟨x2C.heap.size, 0, none⟩ 1 1 (#[.int .i64 x.kind, .string x.pkg, .int .i64 x.major, .string x.mod, .string x.name, .slice na1 x.names.length nc1, .slice sa1 x.subs.length sc1] : Array Value).toList rfl (by rfl) (World.news_of_block (cs := #[.int .i64 x.kind, .string x.pkg, .int .i64 x.major, .string x.mod, .string x.name, .slice na1 x.names.length nc1, .slice sa1 x.subs.length sc1]) (t := 25) (fr := (0, 0)) (heap_alloc_new x2C _)) (by simp [Value.oneCell']) (by decide) (by have := HLN.out; unfold maxLen; omega) (by have := HLN.out; omega) (by simp; omega) _ rfl ?_; intro gSC cSC x4C hoS hgS haS hlS; have HPC := Lib.hid (HR.out.push hM HXW.out HNC.out.1 HNC.out.2.1 HNC.out.2.2.1 hoS hgS haS); clear hoS hgS haS hlS))
          go_meet
          exact ⟨_, _, _, rfl, rfl, by rw [HPF.out]; exact HPC.out⟩
        · have hpf : putF s x (pairs t) = L := by unfold putF; rw [HPUT.out]; rfl
          have HPF := Lib.hid hpf
          clear hpf
          go_wp2_with fail
          go_meet
          exact ⟨_, _, _, rfl, rfl, by rw [HPF.out]; exact HR.out⟩
      case rest =>
        obtain ⟨nv2, sv2, F', rfl, rfl, hp⟩ := hcut
        clear t5 t6
        obtain ⟨na3, nc3, sa3, sc3, rfl, rfl, hty⟩ := hp.ty hM HF.out
        have HTY := Lib.hid hty
        have HP := Lib.hid hp
        have BEC := Lib.hid hp.below
        have hcz := hp.size
        have kt := TB.out.under BEC.out TB.out.lt
        have kr := RB.out.under BEC.out RB.out.lt
        have g5 := kt.cell 5
        have g6 := kt.cell 6
        have gf5 := kt.free 5
        have gf6 := kt.free 6
        simp at g5 g6
        have KT := Lib.hid kt
        have KR := Lib.hid kr
        clear hp hty kt kr
        go_upto_region 18 with fail
        clear g5 g6 gf5 gf6
        have kt := (KT.out.set 5 (.slice na3 (putF s x (pairs t)).length nc3)).set 6 (.slice sa3 (putF s x (pairs t)).length sc3)
        have kr := (KR.out.far ⟨w.heap.size, 5, none⟩ (.slice na3 (putF s x (pairs t)).length nc3) (by simp; omega)).far ⟨w.heap.size, 6, none⟩ (.slice sa3 (putF s x (pairs t)).length sc3) (by simp; omega)
        have hwb : Below w.heap.size w ((wc.setCell ⟨w.heap.size, 5, none⟩ (.slice na3 (putF s x (pairs t)).length nc3)).setCell ⟨w.heap.size, 6, none⟩ (.slice sa3 (putF s x (pairs t)).length sc3)) :=
          ((acc0 WB.out WB.out.size BEC.out).setCell (p := ⟨w.heap.size, 5, none⟩) (Nat.le_refl _) _).setCell (p := ⟨w.heap.size, 6, none⟩) (Nat.le_refl _) _
        have hty := HTY.out.move (M' := fun b => M b ∨ (W.heap.size ≤ b ∧ b < ((wc.setCell ⟨w.heap.size, 5, none⟩ (.slice na3 (putF s x (pairs t)).length nc3)).setCell ⟨w.heap.size, 6, none⟩ (.slice sa3 (putF s x (pairs t)).length sc3)).heap.size)) (w' := ((wc.setCell ⟨w.heap.size, 5, none⟩ (.slice na3 (putF s x (pairs t)).length nc3)).setCell ⟨w.heap.size, 6, none⟩ (.slice sa3 (putF s x (pairs t)).length sc3))) (fun b hb => hb.imp id fun h => ⟨h.1, by simpa [World.setCell] using h.2⟩) (fun q hq => by
          have hne : q.block ≠ w.heap.size := by
            rcases hq with hq | hq
            · have := hM0 _ hq; omega
            · have := hq.1; omega
          rw [World.cell?_setCell_other _ _ _ _ (fun e => hne (by rw [← e])), World.cell?_setCell_other _ _ _ _ (fun e => hne (by rw [← e]))])
        have hsz : W.heap.size ≤ ((wc.setCell ⟨w.heap.size, 5, none⟩ (.slice na3 (putF s x (pairs t)).length nc3)).setCell ⟨w.heap.size, 6, none⟩ (.slice sa3 (putF s x (pairs t)).length sc3)).heap.size := by simpa [World.setCell] using hcz
        generalize ((wc.setCell ⟨w.heap.size, 5, none⟩ (.slice na3 (putF s x (pairs t)).length nc3)).setCell ⟨w.heap.size, 6, none⟩ (.slice sa3 (putF s x (pairs t)).length sc3)) = Wy at kt kr hwb hty hsz ⊢
        have g0 := kt.cell 0
        have z0 := kr.cell 0
        have zf0 := kr.free 0
        have g1 := kt.cell 1
        have z1 := kr.cell 1
        have zf1 := kr.free 1
        have g2 := kt.cell 2
        have z2 := kr.cell 2
        have zf2 := kr.free 2
        have g3 := kt.cell 3
        have z3 := kr.cell 3
        have zf3 := kr.free 3
        have g4 := kt.cell 4
        have z4 := kr.cell 4
        have zf4 := kr.free 4
        have g5 := kt.cell 5
        have z5 := kr.cell 5
        have zf5 := kr.free 5
        have g6 := kt.cell 6
        have z6 := kr.cell 6
        have zf6 := kr.free 6
        simp at g0 g1 g2 g3 g4 g5 g6 z0 z1 z2 z3 z4 z5 z6
        have HKR := Lib.hid kr
        have HHTY := Lib.hid hty
        have HWB := Lib.hid hwb
        clear kt kr hty hwb
        go_wp2_with fail
        have hblk := put7_full (.int .i64 t.kind) (.string t.pkg) (.int .i64 t.major) (.string t.mod) (.string t.name) (.slice na3 (putF s x (pairs t)).length nc3) (.slice sa3 (putF s x (pairs t)).length sc3) HKR.out
        have hbel := put7_bel (.int .i64 t.kind) (.string t.pkg) (.int .i64 t.major) (.string t.mod) (.string t.name) (.slice na3 (putF s x (pairs t)).length nc3) (.slice sa3 (putF s x (pairs t)).length sc3) HWB.out (show w.heap.size ≤ w.heap.size + 1 + 1 by omega)
        have hfin := HHTY.out.move (M' := fun b => M b ∨ Fresh w (((((((Wy.setCell ⟨w.heap.size + 1 + 1, 0, none⟩ (.int .i64 t.kind)).setCell ⟨w.heap.size + 1 + 1, 1, none⟩ (.string t.pkg)).setCell ⟨w.heap.size + 1 + 1, 2, none⟩ (.int .i64 t.major)).setCell ⟨w.heap.size + 1 + 1, 3, none⟩ (.string t.mod)).setCell ⟨w.heap.size + 1 + 1, 4, none⟩ (.string t.name)).setCell ⟨w.heap.size + 1 + 1, 5, none⟩ (.slice na3 (putF s x (pairs t)).length nc3)).setCell ⟨w.heap.size + 1 + 1, 6, none⟩ (.slice sa3 (putF s x (pairs t)).length sc3)) b) (w' := (((((((Wy.setCell ⟨w.heap.size + 1 + 1, 0, none⟩ (.int .i64 t.kind)).setCell ⟨w.heap.size + 1 + 1, 1, none⟩ (.string t.pkg)).setCell ⟨w.heap.size + 1 + 1, 2, none⟩ (.int .i64 t.major)).setCell ⟨w.heap.size + 1 + 1, 3, none⟩ (.string t.mod)).setCell ⟨w.heap.size + 1 + 1, 4, none⟩ (.string t.name)).setCell ⟨w.heap.size + 1 + 1, 5, none⟩ (.slice na3 (putF s x (pairs t)).length nc3)).setCell ⟨w.heap.size + 1 + 1, 6, none⟩ (.slice sa3 (putF s x (pairs t)).length sc3))) (fun b hb => hb.imp id fun h => ⟨by have := h.1; omega, by simpa [World.setCell] using h.2⟩) (fun q hq => by
          rw [← put7_zero]
          refine put7_cell _ _ _ _ _ _ _ ?_
          rcases hq with hq | hq
          · have := hM0 _ hq; omega
          · have := hq.1; omega)
        generalize (((((((Wy.setCell ⟨w.heap.size + 1 + 1, 0, none⟩ (.int .i64 t.kind)).setCell ⟨w.heap.size + 1 + 1, 1, none⟩ (.string t.pkg)).setCell ⟨w.heap.size + 1 + 1, 2, none⟩ (.int .i64 t.major)).setCell ⟨w.heap.size + 1 + 1, 3, none⟩ (.string t.mod)).setCell ⟨w.heap.size + 1 + 1, 4, none⟩ (.string t.name)).setCell ⟨w.heap.size + 1 + 1, 5, none⟩ (.slice na3 (putF s x (pairs t)).length nc3)).setCell ⟨w.heap.size + 1 + 1, 6, none⟩ (.slice sa3 (putF s x (pairs t)).length sc3)) = Wz at hblk hbel hfin ⊢
        have q0 := hblk.cell 0
        have q1 := hblk.cell 1
        have q2 := hblk.cell 2
        have q3 := hblk.cell 3
        have q4 := hblk.cell 4
        have q5 := hblk.cell 5
        have q6 := hblk.cell 6
        simp at q0 q1 q2 q3 q4 q5 q6
        refine bodyPost_ret (by simp [results, Try.results40, go_sem, q0, q1, q2, q3, q4, q5, q6]; try rfl) rfl ?_
        refine ⟨⟨_, rfl, ?_⟩, hbel⟩
        have e : tyCells (setRows t (putF s x (pairs t))) na3 nc3 sa3 sc3 = #[.int .i64 t.kind, .string t.pkg, .int .i64 t.major, .string t.mod, .string t.name, .slice na3 (putF s x (pairs t)).length nc3, .slice sa3 (putF s x (pairs t)).length sc3] := by
          simp [tyCells, setRows, Ty.kind, Ty.pkg, Ty.major, Ty.mod, Ty.name, Ty.names, Ty.subs]
        rw [← e]
        exact hfin
end Go.Proofs.Ytalpmjmifcofeaa
