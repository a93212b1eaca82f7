/- The contract of merlonlaw09.spoil: the walk. -/
import Derived.Test.YtalpmjmifcofeaaSpoil
import Derived.Deep.Cut
namespace Go.Proofs.Ytalpmjmifcofeaa
open Go.RowKit
set_option linter.unusedSimpArgs false
set_option linter.unusedVariables false
theorem Shp.lit {n : Nat} {w : World} {B E : Nat} {cs : Array Value} (h : Shp n w B E cs) : ∃ (k : Int) (p : ByteArray) (mj : Int) (md nm : ByteArray) (na : Option Addr) (l nc : Nat) (sa : Option Addr) (m sc : Nat), cs = #[.int .i64 k, .string p, .int .i64 mj, .string md, .string nm, .slice na l nc, .slice sa m sc] := by
  cases n with
  | zero => exact h.elim
  | succ n =>
    obtain ⟨k', p', mj', md', nm', na', l', nc', sa', m', sc', e, -⟩ := h
    exact ⟨_, _, _, _, _, _, _, _, _, _, _, e⟩
theorem Shp.child {n : Nat} {w w' : World} {B E b o : Nat} {c : Array Value} (h : Shp n w B E c) (e3 : ∀ j, j < 7 → w.cell? ⟨b, o + j, none⟩ = c[j]?) (hs : Sim w w') :
    ∃ (k : Int) (p : ByteArray) (mj : Int) (md nm : ByteArray) (na : Option Addr) (l nc : Nat) (sa : Option Addr) (m sc : Nat), w'.cell? ⟨b, o, none⟩ = some (.int .i64 k) ∧ w'.cell? ⟨b, o + 1, none⟩ = some (.string p) ∧ w'.cell? ⟨b, o + 2, none⟩ = some (.int .i64 mj) ∧ w'.cell? ⟨b, o + 3, none⟩ = some (.string md) ∧ w'.cell? ⟨b, o + 4, none⟩ = some (.string nm) ∧
      w'.cell? ⟨b, o + 5, none⟩ = some (.slice na l nc) ∧ w'.cell? ⟨b, o + 6, none⟩ = some (.slice sa m sc) ∧ Shp n w' B E #[.int .i64 k, .string p, .int .i64 mj, .string md, .string nm, .slice na l nc, .slice sa m sc] := by
  obtain ⟨k, p, mj, md, nm, na, l, nc, sa, m, sc, rfl⟩ := h.lit
  obtain ⟨y0, d0, g0⟩ := hs.cell _ _ ((e3 0 (by omega)).trans rfl)
  obtain ⟨y1, d1, g1⟩ := hs.cell _ _ ((e3 1 (by omega)).trans rfl)
  obtain ⟨y2, d2, g2⟩ := hs.cell _ _ ((e3 2 (by omega)).trans rfl)
  obtain ⟨y3, d3, g3⟩ := hs.cell _ _ ((e3 3 (by omega)).trans rfl)
  obtain ⟨y4, d4, g4⟩ := hs.cell _ _ ((e3 4 (by omega)).trans rfl)
  obtain ⟨y5, d5, g5⟩ := hs.cell _ _ ((e3 5 (by omega)).trans rfl)
  obtain ⟨y6, d6, g6⟩ := hs.cell _ _ ((e3 6 (by omega)).trans rfl)
  obtain ⟨i0, rfl⟩ := g0.num
  obtain ⟨s1, rfl⟩ := g1.str
  obtain ⟨i2, rfl⟩ := g2.num
  obtain ⟨s3, rfl⟩ := g3.str
  obtain ⟨s4, rfl⟩ := g4.str
  obtain rfl := g5.slc
  obtain rfl := g6.slc
  refine ⟨i0, s1, i2, s3, s4, na, l, nc, sa, m, sc, d0, d1, d2, d3, d4, d5, d6, Shp.move n h hs (fun j v hv => ?_) rfl⟩
  match j with
  | 0 => exact ⟨_, rfl, by cases hv; exact g0⟩
  | 1 => exact ⟨_, rfl, by cases hv; exact g1⟩
  | 2 => exact ⟨_, rfl, by cases hv; exact g2⟩
  | 3 => exact ⟨_, rfl, by cases hv; exact g3⟩
  | 4 => exact ⟨_, rfl, by cases hv; exact g4⟩
  | 5 => exact ⟨_, rfl, by cases hv; exact g5⟩
  | 6 => exact ⟨_, rfl, by cases hv; exact g6⟩
  | j + 7 => simp at hv
set_option maxRecDepth 100000 in
set_option maxHeartbeats 4000000 in
theorem spoil_c : ∀ (n : Nat) (cs : Array Value) (B E : Nat) (w : World), Shp n w B E cs → E ≤ w.heap.size →
    Calls Try.prog 19 #[.agg cs] w fun e w' => e = .returned (.tuple #[]) ∧ Sim w w' ∧ Btw B E w w'
  | 0, _, _, _, _, h, _ => h.elim
  | n + 1, cs, B, E, w, h, hE => by
    have HI := Lib.hid (spoil_c n)
    obtain ⟨k0, p0, mj, md, nm, na, l, nc, sa, m, sc, rfl, hl, hm, hn, hsub⟩ := h
    have HN := Lib.hid hn
    have HS := Lib.hid hsub
    clear hn hsub
    go_enter Try.func19, Try.ntmps19
    go_wp2_with fail
    have hbx := Blk.new w #[.int .i64 k0, .string p0, .int .i64 mj, .string md, .string nm, .slice na l nc, .slice sa m sc] 25
    have hs0 := Sim.alloc w (.cells #[.int .i64 k0, .string p0, .int .i64 mj, .string md, .string nm, .slice na l nc, .slice sa m sc] 25)
    have hb0 := Btw.alloc B E w (.cells #[.int .i64 k0, .string p0, .int .i64 mj, .string md, .string nm, .slice na l nc, .slice sa m sc] 25)
    generalize (w.alloc (.cells #[.int .i64 k0, .string p0, .int .i64 mj, .string md, .string nm, .slice na l nc, .slice sa m sc] 25)) = W at hbx hs0 hb0 ⊢
    have HST := Lib.hid (And.intro hs0 (And.intro hb0 hbx))
    clear hs0 hb0 hbx
    go_loopw [2] (fun i wr => ∃ k : Nat, k ≤ l ∧ i = .int .i64 k ∧ Sim w wr ∧ Btw B E w wr ∧ Blk wr w.heap.size #[.int .i64 k0, .string p0, .int .i64 mj, .string md, .string nm, .slice na l nc, .slice sa m sc] 25) (fun i _ => l - (intOf i).toNat)
    case atStart => exact ⟨0, Nat.zero_le _, rfl, HST.out⟩
    case round =>
      clear HST
      obtain ⟨k, hk, rfl, hsim, hbtw, hbx⟩ := hrel
      have e5 := hbx.cell 5
      have e6 := hbx.cell 6
      simp at e5 e6
      have H := Lib.hid (And.intro hsim (And.intro hbtw hbx))
      by_cases hlt : k < l
      · obtain ⟨b, o, s, rfl, hM, hc, hf⟩ := HN.out k hlt
        obtain ⟨v, c1, a1⟩ := hsim.cell _ _ hc
        obtain ⟨s', rfl⟩ := a1.str
        have f1 : wr.frozen? ⟨b, o + k, none⟩ = false := (hsim.froz _ (World.block_lt_of_cell? w _ hc)).trans hf
        have hltI : (k : Int) < (l : Int) := by omega
        have HC := Lib.hid c1
        clear hsim hbtw hbx hc hf a1
        go_wp2_with fail
        have hnew : Sim w (wr.setCell ⟨b, o + k, none⟩ (.string { data := #[33] })) ∧ Btw B E w (wr.setCell ⟨b, o + k, none⟩ (.string { data := #[33] })) ∧ Blk (wr.setCell ⟨b, o + k, none⟩ (.string { data := #[33] })) w.heap.size #[.int .i64 k0, .string p0, .int .i64 mj, .string md, .string nm, .slice (some ⟨b, o, none⟩) l nc, .slice sa m sc] 25 :=
          ⟨H.out.1.trans (Sim.set HC.out (.inr (.inl ⟨_, _, rfl, rfl⟩))), H.out.2.1.trans (Btw.set wr hM.1 hM.2 _), H.out.2.2.far _ _ (by simp; omega)⟩
        first
          | exact ⟨⟨k + 1, by omega, by go_num, hnew⟩, by simp [intOf]; omega⟩
          | (go_roundw
             case rel => exact ⟨k + 1, by omega, by go_num, hnew⟩
             case measure => simp [intOf]; omega)
      · have hkx : ¬ (k : Int) < (l : Int) := by omega
        clear hsim hbtw hbx
        go_wp2_with fail
        go_loopw [3] (fun i wr => ∃ k : Nat, k ≤ m ∧ i = .int .i64 k ∧ Sim w wr ∧ Btw B E w wr ∧ Blk wr w.heap.size #[.int .i64 k0, .string p0, .int .i64 mj, .string md, .string nm, .slice na l nc, .slice sa m sc] 25) (fun i _ => m - (intOf i).toNat)
        case atStart => exact ⟨0, Nat.zero_le _, rfl, H.out⟩
        case round =>
          clear H e5 e6 hlt hkx
          obtain ⟨q, hq, rfl, hsim, hbtw, hbx⟩ := hrel
          have e6 := hbx.cell 6
          simp at e6
          have H := Lib.hid (And.intro hsim (And.intro hbtw hbx))
          by_cases hqt : q < m
          · obtain ⟨b, o, c, rfl, hM, h3, h4, h5⟩ := HS.out q hqt
            obtain ⟨k1, p1, mj1, md1, nm1, na1, l1, nc1, sa1, m1, sc1, d0, d1, d2, d3, d4, d5, d6, hsh⟩ := Shp.child (o := o + q * 7) h5 h3 hsim
            have hltI : (q : Int) < (m : Int) := by omega
            have hzz := hsim.size
            have hlc := World.block_lt_of_cell? _ _ d0
            have hfz : wr.frozen? ⟨b, o + q * 7, none⟩ = false := (hsim.froz _ (show b < w.heap.size by omega)).trans h4
            have HSH := Lib.hid hsh
            have HD := Lib.hid d0
            clear hsim hbtw hbx h3 h4 h5 hsh
            go_wp2_with fail
            refine (HI.out _ B E wr HSH.out (by omega)).mono ?_
            rintro e w5 ⟨rfl, hs5, hb5⟩
            have hbx5 := hb5.blk H.out.2.2 (.inr hE)
            have g6 := hbx5.cell 6
            simp at g6
            obtain ⟨v, c5, a5⟩ := hs5.cell _ _ HD.out
            obtain ⟨k5, rfl⟩ := a5.num
            have f5 : w5.frozen? ⟨b, o + q * 7, none⟩ = false := (hs5.froz _ hlc).trans hfz
            have HC := Lib.hid c5
            have HB5 := Lib.hid (And.intro hs5 (And.intro hb5 hbx5))
            clear hs5 hb5 hbx5 a5 d0 d1 d2 d3 d4 d5 d6
            go_wp2_with fail
            have hnew : Sim w (w5.setCell ⟨b, o + q * 7, none⟩ (.int .i64 99)) ∧ Btw B E w (w5.setCell ⟨b, o + q * 7, none⟩ (.int .i64 99)) ∧ Blk (w5.setCell ⟨b, o + q * 7, none⟩ (.int .i64 99)) w.heap.size #[.int .i64 k0, .string p0, .int .i64 mj, .string md, .string nm, .slice na l nc, .slice (some ⟨b, o, none⟩) m sc] 25 :=
              ⟨(H.out.1.trans HB5.out.1).trans (Sim.set HC.out (.inr (.inr ⟨_, _, rfl, rfl⟩))), (H.out.2.1.trans HB5.out.2.1).trans (Btw.set w5 hM.1 hM.2 _), HB5.out.2.2.far _ _ (by simp; omega)⟩
            first
              | exact ⟨⟨q + 1, by omega, by go_num, hnew⟩, by simp [intOf]; omega⟩
              | (go_roundw
                 case rel => exact ⟨q + 1, by omega, by go_num, hnew⟩
                 case measure => simp [intOf]; omega)
          · have hqx : ¬ (q : Int) < (m : Int) := by omega
            clear hsim hbtw hbx
            go_wp2_with fail
            refine bodyPost_end (by simp [results, Try.results19, go_sem]; try rfl) rfl ?_
            exact ⟨rfl, H.out.1, H.out.2.1⟩
end Go.Proofs.Ytalpmjmifcofeaa
