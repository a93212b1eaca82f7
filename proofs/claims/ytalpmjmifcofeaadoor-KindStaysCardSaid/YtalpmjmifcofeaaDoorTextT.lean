/- The text of a type, in plain Lean: its length; unlike allowed types have unlike texts. -/
import Derived.Test.YtalpmjmifcofeaaDoorRefMay
import Derived.Test.YtalpmjmifcofeaaDoorMayLaw
import Derived.Lib.Join
import Derived.Lib.ItoaNum
namespace Go.Proofs.YtalpmjmifcofeaaDoor
open Go.RowKit
set_option linter.unusedSimpArgs false
set_option linter.unusedVariables false
def bl (s : ByteArray) : List UInt8 := s.data.toList
def sepC : List UInt8 := [44, 32]
def rowN (ns : List ByteArray) (l : List (List UInt8)) : List (List UInt8) := if ns.length = 0 then l else List.zipWith (fun n t => bl n ++ [58, 32] ++ t) ns l
mutual
def tx : Ty → List UInt8
  | .mk k pkg major mod name names subs =>
    if k = 1 then [73, 110, 116]
    else if k = 2 then [84, 101, 120, 116]
    else if k = 3 then [66, 111, 111, 108]
    else if k = 4 then [76, 105, 115, 116, 40] ++ (txL subs).headD [] ++ [41]
    else if k = 5 then [123] ++ Lib.join (rowN names (txL subs)) sepC ++ [125]
    else if k = 6 then [91] ++ Lib.join (rowN names (txL subs)) sepC ++ [93]
    else if k = 7 then [40] ++ Lib.join (txL subs).dropLast sepC ++ [41, 32, 45, 62, 32] ++ (txL subs).getLastD []
    else if k = 9 then [60] ++ bl pkg ++ [32] ++ Lib.itoa major ++ [32] ++ bl mod ++ [32] ++ bl name ++ [62]
    else if mod.size = 0 then bl name else bl mod ++ [46] ++ bl name
def txL : List Ty → List (List UInt8)
  | [] => []
  | t :: l => tx t :: txL l
end
theorem txL_map : ∀ l : List Ty, txL l = l.map tx
  | [] => by rw [txL]; rfl
  | t :: l => by rw [txL, txL_map l]; rfl
theorem tx_eq (t : Ty) : tx t =
    if t.kind = 1 then [73, 110, 116]
    else if t.kind = 2 then [84, 101, 120, 116]
    else if t.kind = 3 then [66, 111, 111, 108]
    else if t.kind = 4 then [76, 105, 115, 116, 40] ++ (t.subs.map tx).headD [] ++ [41]
    else if t.kind = 5 then [123] ++ Lib.join (rowN t.names (t.subs.map tx)) sepC ++ [125]
    else if t.kind = 6 then [91] ++ Lib.join (rowN t.names (t.subs.map tx)) sepC ++ [93]
    else if t.kind = 7 then [40] ++ Lib.join (t.subs.map tx).dropLast sepC ++ [41, 32, 45, 62, 32] ++ (t.subs.map tx).getLastD []
    else if t.kind = 9 then [60] ++ bl t.pkg ++ [32] ++ Lib.itoa t.major ++ [32] ++ bl t.mod ++ [32] ++ bl t.name ++ [62]
    else if t.mod.size = 0 then bl t.name else bl t.mod ++ [46] ++ bl t.name := by
  cases t with
  | mk k pkg major mod name names subs => rw [tx, txL_map]; rfl
def e0 : ByteArray := { data := #[] }
/-- the allowed types, by their kinds -/
inductive V : Ty → Prop
  | int : V (.mk 1 e0 0 e0 e0 [] [])
  | text : V (.mk 2 e0 0 e0 e0 [] [])
  | bool : V (.mk 3 e0 0 e0 e0 [] [])
  | list (s : Ty) (h : V s) : V (.mk 4 e0 0 e0 e0 [] [s])
  | rows (ns : List ByteArray) (ss : List Ty) (hl : ns.length = ss.length) (hn : ∀ n ∈ ns, smallB n = true) (h : ∀ s ∈ ss, V s) : V (.mk 5 e0 0 e0 e0 ns ss)
  | vars (ns : List ByteArray) (ss : List Ty) (hl : ns.length = ss.length) (hn : ∀ n ∈ ns, greatB n = true) (h : ∀ s ∈ ss, V s) : V (.mk 6 e0 0 e0 e0 ns ss)
  | fn (ss : List Ty) (l : Ty) (h : ∀ s ∈ ss, V s) (hl : V l) : V (.mk 7 e0 0 e0 e0 [] (ss ++ [l]))
  | here (n : ByteArray) (h : greatB n = true) : V (.mk 8 e0 0 e0 n [] [])
  | there (m n : ByteArray) (hm : smallB m = true) (h : greatB n = true) : V (.mk 8 e0 0 m n [] [])
  | far (p : ByteArray) (j : Int) (m n : ByteArray) (hp : smallB p = true) (hm : smallB m = true) (h : greatB n = true) (hj : 1 ≤ j) (hj' : j ≤ 999999999) : V (.mk 9 p j m n [] [])
theorem is_e0 {s : ByteArray} (h : s.toList.isEmpty = true) : s = e0 := by
  rw [ByteArray.toList_eq] at h
  cases s with
  | mk d => simp at h; rw [h]; rfl
theorem view : ∀ (n : Nat) (t : Ty), deepT t ≤ n → mayT t = true → V t
  | 0, t, hd, _ => by have := deep_bound t; omega
  | n + 1, t, hd, hm => by
    have IH : ∀ s ∈ t.subs, V s := fun s hs => view n s (by have := deep_child hs; omega) (may_child hm hs)
    have hk := may_kind hm
    have hs := may_shape hm
    rw [shapeB, Bool.and_eq_true, Bool.and_eq_true] at hs
    have he := hs.1.1
    have flat : ¬ t.kind = 8 → ¬ t.kind = 9 → t = .mk t.kind e0 0 e0 e0 t.names t.subs := fun h8 h9 => by
      rw [bareT, if_neg h8, if_neg h9] at he
      simp only [emptyB, Bool.and_eq_true, beq_iff_eq] at he
      conv => lhs; rw [t.eta]
      rw [is_e0 he.1.1.1, he.1.1.2, is_e0 he.1.2, is_e0 he.2]
    unfold kindB at hk
    split at hk
    · rename_i h
      simp only [Bool.and_eq_true, beq_iff_eq] at hk
      have hn : t.names = [] := List.eq_nil_of_length_eq_zero (by omega)
      have hs : t.subs = [] := List.eq_nil_of_length_eq_zero (by omega)
      rw [flat (by omega) (by omega), hn, hs]
      rcases h with h | h | h
      · rw [h]; exact .int
      · rw [h]; exact .text
      · rw [h]; exact .bool
    · split at hk
      · rename_i h
        simp only [Bool.and_eq_true, beq_iff_eq] at hk
        have hn : t.names = [] := List.eq_nil_of_length_eq_zero (by omega)
        obtain ⟨s, hs⟩ : ∃ s, t.subs = [s] := List.length_eq_one_iff.1 (by omega)
        rw [hs] at IH
        rw [flat (by omega) (by omega), hn, hs, h]
        exact .list s (IH s (by simp))
      · split at hk
        · rename_i h
          simp only [Bool.and_eq_true, beq_iff_eq, namesB, List.all_eq_true] at hk
          rw [flat (by omega) (by omega), h]
          exact .rows t.names t.subs (by omega) hk.2.1 IH
        · split at hk
          · rename_i h
            simp only [Bool.and_eq_true, beq_iff_eq, namesB, List.all_eq_true] at hk
            rw [flat (by omega) (by omega), h]
            exact .vars t.names t.subs (by omega) hk.2.1 IH
          · split at hk
            · rename_i h
              simp only [Bool.and_eq_true, beq_iff_eq, decide_eq_true_eq] at hk
              have hn : t.names = [] := List.eq_nil_of_length_eq_zero (by omega)
              have hne : t.subs ≠ [] := fun h => by rw [h] at hk; simp at hk
              obtain ⟨ss, l, hl⟩ : ∃ ss l, t.subs = ss ++ [l] := ⟨_, _, (List.dropLast_concat_getLast hne).symm⟩
              rw [hl] at IH
              rw [flat (by omega) (by omega), hn, h, hl]
              exact .fn _ _ (fun s hs => IH s (by simp [hs])) (IH _ (by simp))
            · split at hk
              · rename_i h
                simp only [Bool.and_eq_true, beq_iff_eq] at hk
                have hn : t.names = [] := List.eq_nil_of_length_eq_zero (by omega)
                have hs : t.subs = [] := List.eq_nil_of_length_eq_zero (by omega)
                rw [bareT, if_pos h] at he
                simp only [emptyB, Ty.pkg, Ty.major, Ty.mod, Ty.name, Bool.and_eq_true, beq_iff_eq] at he
                have hp : t.pkg = e0 := is_e0 he.1.1.1
                have hj : t.major = 0 := he.1.1.2
                rw [t.eta, hn, hs, h, hp, hj]
                rcases Bool.or_eq_true_iff.1 hk.2 with h | h
                · rw [is_e0 h]
                  exact .here t.name hk.1.2
                · exact .there t.mod t.name h hk.1.2
              · split at hk
                · rename_i h
                  simp only [Bool.and_eq_true, beq_iff_eq, decide_eq_true_eq] at hk
                  have hn : t.names = [] := List.eq_nil_of_length_eq_zero (by omega)
                  have hs : t.subs = [] := List.eq_nil_of_length_eq_zero (by omega)
                  rw [t.eta, hn, hs, h]
                  exact .far t.pkg t.major t.mod t.name hk.1.1.1.1.2 hk.1.1.1.2 hk.1.1.2 hk.1.2 hk.2
                · cases hk
/-- what may stand behind a name -/
def Stop (s : List UInt8) : Prop := ∀ c r, s = c :: r → letC true c = false
theorem Stop.cons {c : UInt8} (r : List UInt8) (h : letC true c = false) : Stop (c :: r) := fun c' r' e => by cases e; exact h
theorem Stop.nil : Stop [] := fun c r e => by cases e
theorem split_word : ∀ (u v s s' : List UInt8), u.all (letC true) = true → v.all (letC true) = true → Stop s → Stop s' → u ++ s = v ++ s' → u = v ∧ s = s'
  | [], [], s, s', _, _, _, _, h => ⟨rfl, h⟩
  | [], c :: v, s, s', _, hv, hs, _, h => by
    have := hs c (v ++ s') (by simpa using h)
    simp [this] at hv
  | c :: u, [], s, s', hu, _, _, hs', h => by
    have := hs' c (u ++ s) (by simpa using h.symm)
    simp [this] at hu
  | c :: u, d :: v, s, s', hu, hv, hs, hs', h => by
    simp only [List.cons_append, List.cons.injEq] at h
    simp only [List.all_cons, Bool.and_eq_true] at hu hv
    obtain ⟨rfl, h⟩ := h
    obtain ⟨rfl, rfl⟩ := split_word u v s s' hu.2 hv.2 hs hs' h
    exact ⟨rfl, rfl⟩
def codeW (u : List UInt8) : Nat :=
  if u = [73, 110, 116] then 1 else if u = [84, 101, 120, 116] then 2 else if u = [66, 111, 111, 108] then 3 else if u = [76, 105, 115, 116] then 4
  else match u with | [] => 0 | c :: _ => if smallC c = true then 8 else 9
def codeL (l : List UInt8) : Nat :=
  match l with
  | [] => 0
  | c :: _ => if letC true c = true then codeW (l.takeWhile (letC true)) else c.toNat
theorem take_word : ∀ (u s : List UInt8), u.all (letC true) = true → Stop s → (u ++ s).takeWhile (letC true) = u
  | [], [], _, _ => rfl
  | [], c :: s, _, hs => by rw [List.nil_append, List.takeWhile_cons, if_neg (by rw [hs c s rfl]; simp)]
  | c :: u, s, hu, hs => by
    simp only [List.all_cons, Bool.and_eq_true] at hu
    rw [List.cons_append, List.takeWhile_cons, if_pos hu.1, take_word u s hu.2 hs]
theorem code_word {u s : List UInt8} (hu : u.all (letC true) = true) (hne : u ≠ []) (hs : Stop s) : codeL (u ++ s) = codeW u := by
  have ht := take_word u s hu hs
  cases u with
  | nil => exact absurd rfl hne
  | cons c u =>
    rw [List.cons_append] at ht ⊢
    simp only [List.all_cons, Bool.and_eq_true] at hu
    rw [codeL]
    simp only [hu.1, if_true]
    rw [ht]
def codeT (t : Ty) : Nat :=
  if t.kind = 1 then 1 else if t.kind = 2 then 2 else if t.kind = 3 then 3 else if t.kind = 4 then 4 else if t.kind = 5 then 123 else if t.kind = 6 then 91 else if t.kind = 7 then 40
  else if t.kind = 9 then 60 else if t.mod.size = 0 then 9 else 8
def item (p : ByteArray × Ty) : List UInt8 := bl p.1 ++ ([58, 32] ++ tx p.2)
theorem rowN_zip : ∀ (ns : List ByteArray) (ss : List Ty), ns.length = ss.length → rowN ns (ss.map tx) = (ns.zip ss).map item
  | [], [], _ => rfl
  | [], _ :: _, h => by simp at h
  | _ :: _, [], h => by simp at h
  | n :: ns, s :: ss, h => by
    have : ∀ (l : List ByteArray) (l' : List Ty), List.zipWith (fun n t => bl n ++ [58, 32] ++ t) l (l'.map tx) = (l.zip l').map item := by
      intro l
      induction l with
      | nil => intro l'; rfl
      | cons x l ih =>
        intro l'
        cases l' with
        | nil => rfl
        | cons y l' => simpa [item] using ih l'
    rw [rowN, if_neg (by simp), this]
theorem tx_list (s : Ty) : tx (.mk 4 e0 0 e0 e0 [] [s]) = [76, 105, 115, 116] ++ ([40] ++ (tx s ++ [41])) := by
  rw [tx_eq]; simp [Ty.kind, Ty.subs]
theorem tx_rows (ns : List ByteArray) (ss : List Ty) (hl : ns.length = ss.length) : tx (.mk 5 e0 0 e0 e0 ns ss) = 123 :: (Lib.join ((ns.zip ss).map item) sepC ++ [125]) := by
  rw [tx_eq]; simp [Ty.kind, Ty.subs, Ty.names, rowN_zip _ _ hl]
theorem tx_vars (ns : List ByteArray) (ss : List Ty) (hl : ns.length = ss.length) : tx (.mk 6 e0 0 e0 e0 ns ss) = 91 :: (Lib.join ((ns.zip ss).map item) sepC ++ [93]) := by
  rw [tx_eq]; simp [Ty.kind, Ty.subs, Ty.names, rowN_zip _ _ hl]
theorem tx_fn (ss : List Ty) (l : Ty) : tx (.mk 7 e0 0 e0 e0 [] (ss ++ [l])) = 40 :: (Lib.join (ss.map tx) sepC ++ ([41, 32, 45, 62, 32] ++ tx l)) := by
  rw [tx_eq]; simp [Ty.kind, Ty.subs, Ty.names]
theorem tx_here (n : ByteArray) : tx (.mk 8 e0 0 e0 n [] []) = bl n := by
  rw [tx_eq]; simp [Ty.kind, Ty.mod, Ty.name, show e0.size = 0 from rfl]
theorem tx_there (m n : ByteArray) (hm : m.size ≠ 0) : tx (.mk 8 e0 0 m n [] []) = bl m ++ ([46] ++ bl n) := by
  rw [tx_eq]; simp [Ty.kind, Ty.mod, Ty.name, hm]
theorem tx_far (p : ByteArray) (j : Int) (m n : ByteArray) : tx (.mk 9 p j m n [] []) = 60 :: (bl p ++ ([32] ++ (Lib.itoa j ++ ([32] ++ (bl m ++ ([32] ++ (bl n ++ [62]))))))) := by
  rw [tx_eq]; simp [Ty.kind, Ty.mod, Ty.name, Ty.pkg, Ty.major]
theorem small_all {s : ByteArray} (h : smallB s = true) : (bl s).all (letC true) = true ∧ bl s ≠ [] ∧ s.size ≠ 0 ∧ ∃ c r, bl s = c :: r ∧ smallC c = true := by
  rw [smallB, Bool.and_eq_true, Bool.and_eq_true] at h
  have h1 := h.1.1
  have h2 := h.1.2
  have h3 := letters_pos _ _ h1
  rw [letters, Bool.and_eq_true] at h1
  unfold headC at h2
  have e : bl s = s.data.toList := rfl
  rw [← e] at h1 h2
  cases hb : bl s with
  | nil => rw [hb] at h2; cases h2
  | cons c r =>
    rw [hb] at h1 h2
    refine ⟨?_, by simp, by omega, c, r, rfl, h2⟩
    rw [List.all_eq_true] at h1 ⊢
    intro x hx
    have := h1.2 x hx
    simp only [letC, Bool.or_eq_true, Bool.and_eq_true] at this ⊢
    rcases this with h | h
    · exact .inl h
    · cases h.1
theorem great_all {s : ByteArray} (h : greatB s = true) : (bl s).all (letC true) = true ∧ bl s ≠ [] ∧ s.size ≠ 0 ∧ codeW (bl s) = 9 ∧ ∃ c r, bl s = c :: r ∧ greatC c = true := by
  rw [greatB, Bool.and_eq_true, Bool.and_eq_true] at h
  have h1 := h.1.1
  have h2 := h.1.2
  have h3 := letters_pos _ _ h1
  have h4 := h.2
  rw [letters, Bool.and_eq_true] at h1
  unfold headC at h2
  have e : bl s = s.data.toList := rfl
  rw [tyB, ByteArray.toList_eq] at h4
  rw [← e] at h1 h2 h4
  simp only [Bool.not_eq_true', Bool.or_eq_false_iff, beq_eq_false_iff_ne] at h4
  cases hb : bl s with
  | nil => rw [hb] at h2; cases h2
  | cons c r =>
    rw [hb] at h1 h2 h4
    refine ⟨h1.2, by simp, by omega, ?_, c, r, rfl, h2⟩
    rw [codeW, if_neg h4.1.1.1, if_neg h4.1.1.2, if_neg h4.1.2, if_neg h4.2]
    have : smallC c = false := by
      have h2 : greatC c = true := h2
      simp only [greatC, smallC, Bool.and_eq_true, decide_eq_true_eq, Bool.and_eq_false_iff, decide_eq_false_iff_not] at h2 ⊢
      omega
    simp [this]
theorem small_code {s : ByteArray} (h : smallB s = true) : codeW (bl s) = 8 := by
  obtain ⟨-, -, -, c, r, e, hc⟩ := small_all h
  rw [e]
  have h1 : ∀ d : UInt8, smallC d = false → c ≠ d := fun d hd e => by rw [e, hd] at hc; cases hc
  have a1 := h1 73 (by decide)
  have a2 := h1 84 (by decide)
  have a3 := h1 66 (by decide)
  have a4 := h1 76 (by decide)
  simp [codeW, a1, a2, a3, a4, hc]
theorem code_tx {a : Ty} (h : V a) {r : List UInt8} (hr : Stop r) : codeL (tx a ++ r) = codeT a := by
  cases h with
  | int => rw [show tx (.mk 1 e0 0 e0 e0 [] []) = [73, 110, 116] from by simp [tx], code_word (by decide) (by simp) hr]; rfl
  | text => rw [show tx (.mk 2 e0 0 e0 e0 [] []) = [84, 101, 120, 116] from by simp [tx], code_word (by decide) (by simp) hr]; rfl
  | bool => rw [show tx (.mk 3 e0 0 e0 e0 [] []) = [66, 111, 111, 108] from by simp [tx], code_word (by decide) (by simp) hr]; rfl
  | list s h =>
    rw [tx_list, List.append_assoc]
    exact code_word (u := [76, 105, 115, 116]) (s := 40 :: (tx s ++ [41] ++ r)) (by decide) (by simp) (Stop.cons _ (by decide))
  | rows ns ss hl hn h => rw [tx_rows _ _ hl]; rfl
  | vars ns ss hl hn h => rw [tx_vars _ _ hl]; rfl
  | fn ss l h hl => rw [tx_fn]; rfl
  | here n h =>
    obtain ⟨h1, h2, -, h4, -⟩ := great_all h
    rw [tx_here, code_word h1 h2 hr, h4]; rfl
  | there m n hm h =>
    obtain ⟨h1, h2, h3, -⟩ := small_all hm
    rw [tx_there _ _ h3, List.append_assoc]
    refine (code_word (s := 46 :: (bl n ++ r)) h1 h2 (Stop.cons _ (by decide))).trans ?_
    rw [small_code hm]
    simp [codeT, Ty.kind, Ty.mod, h3]
  | far p j m n hp hm h hj hj' => rw [tx_far]; rfl
theorem joinTail_cons (sep x : List UInt8) (l : List (List UInt8)) : Lib.joinTail sep (x :: l) = sep ++ (x ++ Lib.joinTail sep l) := by
  simp [Lib.joinTail, List.append_assoc]
theorem tail_stop {α : Type} (f : α → List UInt8) (l : List α) (c : UInt8) (r : List UInt8) (hc : letC true c = false) : Stop (Lib.joinTail sepC (l.map f) ++ c :: r) := by
  cases l with
  | nil => exact Stop.cons _ hc
  | cons x l => rw [List.map_cons, joinTail_cons]; exact Stop.cons (c := 44) _ (by decide)
theorem tail_inj {α : Type} (f : α → List UInt8) (c : UInt8) (hc : c ≠ 44) (hw : letC true c = false) : ∀ (l l' : List α) (r r' : List UInt8),
    (∀ x ∈ l, ∀ y ∈ l', ∀ z z', Stop z → Stop z' → f x ++ z = f y ++ z' → x = y ∧ z = z') →
    Lib.joinTail sepC (l.map f) ++ c :: r = Lib.joinTail sepC (l'.map f) ++ c :: r' → l = l' ∧ r = r'
  | [], [], r, r', _, h => by
    have h : c :: r = c :: r' := h
    exact ⟨rfl, (List.cons.inj h).2⟩
  | [], y :: l', r, r', _, h => by
    rw [List.map_cons, joinTail_cons] at h
    have h : c :: r = 44 :: _ := h
    exact absurd (List.cons.inj h).1 hc
  | x :: l, [], r, r', _, h => by
    rw [List.map_cons, joinTail_cons] at h
    have h : 44 :: _ = c :: r' := h
    exact absurd (List.cons.inj h).1.symm hc
  | x :: l, y :: l', r, r', hf, h => by
    rw [List.map_cons, List.map_cons, joinTail_cons, joinTail_cons, List.append_assoc, List.append_assoc, List.append_assoc, List.append_assoc] at h
    have h := List.append_cancel_left h
    obtain ⟨hxy, h2⟩ := hf x (by simp) y (by simp) _ _ (tail_stop f l c r hw) (tail_stop f l' c r' hw) h
    obtain ⟨rfl, rfl⟩ := tail_inj f c hc hw l l' r r' (fun x hx y hy => hf x (by simp [hx]) y (by simp [hy])) h2
    rw [hxy]
    exact ⟨rfl, rfl⟩
theorem join_inj {α : Type} (f : α → List UInt8) (c : UInt8) (hc : c ≠ 44) (hw : letC true c = false) (l l' : List α) (r r' : List UInt8)
    (hf : ∀ x ∈ l, ∀ y ∈ l', ∀ z z', Stop z → Stop z' → f x ++ z = f y ++ z' → x = y ∧ z = z')
    (hn : ∀ x ∈ l, ∀ z z', f x ++ z ≠ c :: z') (hn' : ∀ x ∈ l', ∀ z z', f x ++ z ≠ c :: z')
    (h : Lib.join (l.map f) sepC ++ c :: r = Lib.join (l'.map f) sepC ++ c :: r') : l = l' ∧ r = r' := by
  cases l with
  | nil =>
    cases l' with
    | nil =>
      have h : c :: r = c :: r' := h
      exact ⟨rfl, (List.cons.inj h).2⟩
    | cons y l' =>
      rw [List.map_cons, Lib.join_cons, List.append_assoc] at h
      exact absurd h.symm (hn' y (by simp) _ _)
  | cons x l =>
    cases l' with
    | nil =>
      rw [List.map_cons, Lib.join_cons, List.append_assoc] at h
      exact absurd h (hn x (by simp) _ _)
    | cons y l' =>
      rw [List.map_cons, List.map_cons, Lib.join_cons, Lib.join_cons, List.append_assoc, List.append_assoc] at h
      obtain ⟨hxy, h2⟩ := hf x (by simp) y (by simp) _ _ (tail_stop f l c r hw) (tail_stop f l' c r' hw) h
      obtain ⟨rfl, rfl⟩ := tail_inj f c hc hw l l' r r' (fun x hx y hy => hf x (by simp [hx]) y (by simp [hy])) h2
      rw [hxy]
      exact ⟨rfl, rfl⟩
theorem bl_inj {s t : ByteArray} (h : bl s = bl t) : s = t := by
  cases s with
  | mk a => cases t with
    | mk b =>
      have : a.toList = b.toList := h
      rw [Array.toList_inj.1 this]
theorem dig_char {d : Nat} (h : d < 10) : letC true (UInt8.ofNat (48 + d)) = true := by
  have : ∀ d : Fin 10, letC true (UInt8.ofNat (48 + d.1)) = true := by decide
  exact this ⟨d, h⟩
theorem dec_lt {u : Nat} (h : u < 10) : Lib.decDigits u = [UInt8.ofNat (48 + u)] := by rw [Lib.decDigits, dif_pos h]
theorem dec_ge {u : Nat} (h : ¬ u < 10) : Lib.decDigits u = Lib.decDigits (u / 10) ++ [UInt8.ofNat (48 + u % 10)] := by rw [Lib.decDigits, dif_neg h]
theorem one_all {c : UInt8} (h : letC true c = true) : [c].all (letC true) = true := by rw [List.all_cons, h]; rfl
theorem dec_all (u : Nat) : (Lib.decDigits u).all (letC true) = true := by
  induction u using Nat.strongRecOn with
  | _ u ih =>
    by_cases h : u < 10
    · rw [dec_lt h]
      exact one_all (dig_char h)
    · rw [dec_ge h, List.all_append, ih (u / 10) (by omega), one_all (dig_char (Nat.mod_lt u (by omega : 10 > 0)))]
      rfl
theorem dig_inj {a b : Nat} (ha : a < 10) (hb : b < 10) (h : UInt8.ofNat (48 + a) = UInt8.ofNat (48 + b)) : a = b := by
  have : ∀ a b : Fin 10, UInt8.ofNat (48 + a.1) = UInt8.ofNat (48 + b.1) → a = b := by decide
  exact congrArg Fin.val (this ⟨a, ha⟩ ⟨b, hb⟩ h)
theorem dec_ne (u : Nat) : Lib.decDigits u ≠ [] := by
  by_cases h : u < 10
  · rw [dec_lt h]; simp
  · rw [dec_ge h]; simp
theorem dec_inj : ∀ (u v : Nat), Lib.decDigits u = Lib.decDigits v → u = v := by
  intro u
  induction u using Nat.strongRecOn with
  | _ u ih =>
    intro v h
    by_cases hu : u < 10
    · by_cases hv : v < 10
      · rw [dec_lt hu, dec_lt hv] at h
        exact dig_inj hu hv (List.cons.inj h).1
      · rw [dec_lt hu, dec_ge hv] at h
        have := congrArg List.length h
        have h2 := List.length_pos_iff.2 (dec_ne (v / 10))
        simp at this
        rw [this] at h2
        simp at h2
    · by_cases hv : v < 10
      · rw [dec_ge hu, dec_lt hv] at h
        have := congrArg List.length h
        have h2 := List.length_pos_iff.2 (dec_ne (u / 10))
        simp at this
        rw [this] at h2
        simp at h2
      · rw [dec_ge hu, dec_ge hv] at h
        obtain ⟨h1, h2⟩ := List.append_inj' h rfl
        have h3 := ih (u / 10) (by omega) (v / 10) h1
        have h4 := dig_inj (Nat.mod_lt u (by omega)) (Nat.mod_lt v (by omega)) (List.cons.inj h2).1
        omega
theorem itoa_pos {j : Int} (h : 1 ≤ j) : Lib.itoa j = Lib.decDigits j.toNat := by rw [Lib.itoa, if_neg (by omega)]
theorem item_inj {ns ns' : List ByteArray} {ss ss' : List Ty} (wn : ∀ n ∈ ns, (bl n).all (letC true) = true) (wn' : ∀ n ∈ ns', (bl n).all (letC true) = true)
    (hs : ∀ s ∈ ss, ∀ t ∈ ss', ∀ z z', Stop z → Stop z' → tx s ++ z = tx t ++ z' → s = t ∧ z = z') :
    ∀ x ∈ ns.zip ss, ∀ y ∈ ns'.zip ss', ∀ z z', Stop z → Stop z' → item x ++ z = item y ++ z' → x = y ∧ z = z' := by
  rintro ⟨n, s⟩ hx ⟨m, t⟩ hy z z' hz hz' h
  have h1 := List.of_mem_zip hx
  have h2 := List.of_mem_zip hy
  simp only [item, List.append_assoc] at h
  obtain ⟨e1, h⟩ := split_word _ _ _ _ (wn n h1.1) (wn' m h2.1) (Stop.cons (c := 58) _ (by decide)) (Stop.cons (c := 58) _ (by decide)) h
  have h : [58, 32] ++ (tx s ++ z) = [58, 32] ++ (tx t ++ z') := h
  have h3 := List.append_cancel_left h
  obtain ⟨rfl, rfl⟩ := hs s h1.2 t h2.2 z z' hz hz' h3
  rw [bl_inj e1]
  exact ⟨rfl, rfl⟩
theorem item_ne {ns : List ByteArray} {ss : List Ty} (c : UInt8) (hc : letC true c = false) (wn : ∀ n ∈ ns, (bl n).all (letC true) = true ∧ bl n ≠ []) : ∀ x ∈ ns.zip ss, ∀ z z', item x ++ z ≠ c :: z' := by
  rintro ⟨n, s⟩ hx z z' h
  obtain ⟨h1, h2⟩ := wn n (List.of_mem_zip hx).1
  cases hb : bl n with
  | nil => exact h2 hb
  | cons d r =>
    rw [hb] at h1
    simp only [List.all_cons, Bool.and_eq_true] at h1
    simp only [item, hb, List.cons_append, List.cons.injEq] at h
    rw [h.1, hc] at h1
    cases h1.1
theorem tx_head {a : Ty} (h : V a) : ∃ c l, tx a = c :: l ∧ (letC true c = true ∨ c = 123 ∨ c = 91 ∨ c = 40 ∨ c = 60) := by
  have word : ∀ (u v : List UInt8), u.all (letC true) = true → u ≠ [] → ∃ c l, u ++ v = c :: l ∧ (letC true c = true ∨ c = 123 ∨ c = 91 ∨ c = 40 ∨ c = 60) := by
    intro u v hu hne
    cases u with
    | nil => exact absurd rfl hne
    | cons c u =>
      simp only [List.all_cons, Bool.and_eq_true] at hu
      exact ⟨c, u ++ v, rfl, .inl hu.1⟩
  cases h with
  | int => exact ⟨73, [110, 116], by simp [tx], .inl (by decide)⟩
  | text => exact ⟨84, [101, 120, 116], by simp [tx], .inl (by decide)⟩
  | bool => exact ⟨66, [111, 111, 108], by simp [tx], .inl (by decide)⟩
  | list s h => rw [tx_list]; exact word _ _ (by decide) (by simp)
  | rows ns ss hl hn h => rw [tx_rows _ _ hl]; exact ⟨_, _, rfl, by simp⟩
  | vars ns ss hl hn h => rw [tx_vars _ _ hl]; exact ⟨_, _, rfl, by simp⟩
  | fn ss l h hl => rw [tx_fn]; exact ⟨_, _, rfl, by simp⟩
  | here n h =>
    have := word (bl n) [] (great_all h).1 (great_all h).2.1
    rw [List.append_nil] at this
    rw [tx_here]; exact this
  | there m n hm h => rw [tx_there _ _ (small_all hm).2.2.1]; exact word _ _ (small_all hm).1 (small_all hm).2.1
  | far p j m n hp hm h hj hj' => rw [tx_far]; exact ⟨_, _, rfl, by simp⟩
theorem tx_ne2 {a : Ty} (h : V a) (z z' : List UInt8) : tx a ++ z ≠ 41 :: z' := by
  obtain ⟨c, l, e, hc⟩ := tx_head h
  rw [e]
  intro h
  have h := (List.cons.inj h).1
  subst h
  revert hc
  decide
theorem code_there {m n : ByteArray} (hm : smallB m = true) : codeT (.mk 8 e0 0 m n [] []) = 8 := by
  have := (small_all hm).2.2.1
  simp [codeT, Ty.kind, Ty.mod, this]
theorem zip_eq {ns ns' : List ByteArray} {ss ss' : List Ty} (h : ns.length = ss.length) (h' : ns'.length = ss'.length) (e : ns.zip ss = ns'.zip ss') : ns = ns' ∧ ss = ss' := by
  have e1 := congrArg List.unzip e
  rw [List.unzip_zip h, List.unzip_zip h'] at e1
  exact ⟨(Prod.mk.inj e1).1, (Prod.mk.inj e1).2⟩
/-- unlike allowed types have unlike texts, whatever stands behind them -/
theorem tx_inj {a : Ty} (ha : V a) : ∀ b, V b → ∀ r r', Stop r → Stop r' → tx a ++ r = tx b ++ r' → a = b ∧ r = r' := by
  induction ha with
  | int =>
    intro b hb r r' hr hr' h
    have hc := (code_tx V.int hr).symm.trans ((congrArg codeL h).trans (code_tx hb hr'))
    cases hb with
    | int =>
      exact ⟨rfl, List.append_cancel_left h⟩
    | text =>
      simp [codeT, Ty.kind, Ty.mod, show e0.size = 0 from rfl] at hc
    | bool =>
      simp [codeT, Ty.kind, Ty.mod, show e0.size = 0 from rfl] at hc
    | list s' hv' =>
      simp [codeT, Ty.kind, Ty.mod, show e0.size = 0 from rfl] at hc
    | rows ns' ss' hl' hn' hv' =>
      simp [codeT, Ty.kind, Ty.mod, show e0.size = 0 from rfl] at hc
    | vars ns' ss' hl' hn' hv' =>
      simp [codeT, Ty.kind, Ty.mod, show e0.size = 0 from rfl] at hc
    | fn ss' l' hss' hl' =>
      simp [codeT, Ty.kind, Ty.mod, show e0.size = 0 from rfl] at hc
    | here n' h1' =>
      simp [codeT, Ty.kind, Ty.mod, show e0.size = 0 from rfl] at hc
    | there m' n' hm' h1' =>
      rw [code_there hm'] at hc; simp [codeT, Ty.kind, Ty.mod, show e0.size = 0 from rfl] at hc
    | far p' j' m' n' hp' hm' h1' hj' hj2' =>
      simp [codeT, Ty.kind, Ty.mod, show e0.size = 0 from rfl] at hc
  | text =>
    intro b hb r r' hr hr' h
    have hc := (code_tx V.text hr).symm.trans ((congrArg codeL h).trans (code_tx hb hr'))
    cases hb with
    | int =>
      simp [codeT, Ty.kind, Ty.mod, show e0.size = 0 from rfl] at hc
    | text =>
      exact ⟨rfl, List.append_cancel_left h⟩
    | bool =>
      simp [codeT, Ty.kind, Ty.mod, show e0.size = 0 from rfl] at hc
    | list s' hv' =>
      simp [codeT, Ty.kind, Ty.mod, show e0.size = 0 from rfl] at hc
    | rows ns' ss' hl' hn' hv' =>
      simp [codeT, Ty.kind, Ty.mod, show e0.size = 0 from rfl] at hc
    | vars ns' ss' hl' hn' hv' =>
      simp [codeT, Ty.kind, Ty.mod, show e0.size = 0 from rfl] at hc
    | fn ss' l' hss' hl' =>
      simp [codeT, Ty.kind, Ty.mod, show e0.size = 0 from rfl] at hc
    | here n' h1' =>
      simp [codeT, Ty.kind, Ty.mod, show e0.size = 0 from rfl] at hc
    | there m' n' hm' h1' =>
      rw [code_there hm'] at hc; simp [codeT, Ty.kind, Ty.mod, show e0.size = 0 from rfl] at hc
    | far p' j' m' n' hp' hm' h1' hj' hj2' =>
      simp [codeT, Ty.kind, Ty.mod, show e0.size = 0 from rfl] at hc
  | bool =>
    intro b hb r r' hr hr' h
    have hc := (code_tx V.bool hr).symm.trans ((congrArg codeL h).trans (code_tx hb hr'))
    cases hb with
    | int =>
      simp [codeT, Ty.kind, Ty.mod, show e0.size = 0 from rfl] at hc
    | text =>
      simp [codeT, Ty.kind, Ty.mod, show e0.size = 0 from rfl] at hc
    | bool =>
      exact ⟨rfl, List.append_cancel_left h⟩
    | list s' hv' =>
      simp [codeT, Ty.kind, Ty.mod, show e0.size = 0 from rfl] at hc
    | rows ns' ss' hl' hn' hv' =>
      simp [codeT, Ty.kind, Ty.mod, show e0.size = 0 from rfl] at hc
    | vars ns' ss' hl' hn' hv' =>
      simp [codeT, Ty.kind, Ty.mod, show e0.size = 0 from rfl] at hc
    | fn ss' l' hss' hl' =>
      simp [codeT, Ty.kind, Ty.mod, show e0.size = 0 from rfl] at hc
    | here n' h1' =>
      simp [codeT, Ty.kind, Ty.mod, show e0.size = 0 from rfl] at hc
    | there m' n' hm' h1' =>
      rw [code_there hm'] at hc; simp [codeT, Ty.kind, Ty.mod, show e0.size = 0 from rfl] at hc
    | far p' j' m' n' hp' hm' h1' hj' hj2' =>
      simp [codeT, Ty.kind, Ty.mod, show e0.size = 0 from rfl] at hc
  | list s hv ih =>
    intro b hb r r' hr hr' h
    have hc := (code_tx (V.list s hv) hr).symm.trans ((congrArg codeL h).trans (code_tx hb hr'))
    cases hb with
    | int =>
      simp [codeT, Ty.kind, Ty.mod, show e0.size = 0 from rfl] at hc
    | text =>
      simp [codeT, Ty.kind, Ty.mod, show e0.size = 0 from rfl] at hc
    | bool =>
      simp [codeT, Ty.kind, Ty.mod, show e0.size = 0 from rfl] at hc
    | list s' hv' =>
      rw [tx_list, tx_list, List.append_assoc, List.append_assoc, List.append_assoc, List.append_assoc, List.append_assoc, List.append_assoc] at h
      have h2 := List.append_cancel_left (List.append_cancel_left h)
      obtain ⟨rfl, h3⟩ := ih s' hv' _ _ (Stop.cons (c := 41) _ (by decide)) (Stop.cons (c := 41) _ (by decide)) h2
      exact ⟨rfl, (List.cons.inj h3).2⟩
    | rows ns' ss' hl' hn' hv' =>
      simp [codeT, Ty.kind, Ty.mod, show e0.size = 0 from rfl] at hc
    | vars ns' ss' hl' hn' hv' =>
      simp [codeT, Ty.kind, Ty.mod, show e0.size = 0 from rfl] at hc
    | fn ss' l' hss' hl' =>
      simp [codeT, Ty.kind, Ty.mod, show e0.size = 0 from rfl] at hc
    | here n' h1' =>
      simp [codeT, Ty.kind, Ty.mod, show e0.size = 0 from rfl] at hc
    | there m' n' hm' h1' =>
      rw [code_there hm'] at hc; simp [codeT, Ty.kind, Ty.mod, show e0.size = 0 from rfl] at hc
    | far p' j' m' n' hp' hm' h1' hj' hj2' =>
      simp [codeT, Ty.kind, Ty.mod, show e0.size = 0 from rfl] at hc
  | rows ns ss hl hn hv ih =>
    intro b hb r r' hr hr' h
    have hc := (code_tx (V.rows ns ss hl hn hv) hr).symm.trans ((congrArg codeL h).trans (code_tx hb hr'))
    cases hb with
    | int =>
      simp [codeT, Ty.kind, Ty.mod, show e0.size = 0 from rfl] at hc
    | text =>
      simp [codeT, Ty.kind, Ty.mod, show e0.size = 0 from rfl] at hc
    | bool =>
      simp [codeT, Ty.kind, Ty.mod, show e0.size = 0 from rfl] at hc
    | list s' hv' =>
      simp [codeT, Ty.kind, Ty.mod, show e0.size = 0 from rfl] at hc
    | rows ns' ss' hl' hn' hv' =>
      rw [tx_rows _ _ hl, tx_rows _ _ hl', List.cons_append, List.cons_append, List.append_assoc, List.append_assoc] at h
      have h2 := (List.cons.inj h).2
      obtain ⟨e1, rfl⟩ := join_inj item 125 (by decide) (by decide) (ns.zip ss) (ns'.zip ss') r r' (item_inj (fun n hn1 => (small_all (hn n hn1)).1) (fun n hn1 => (small_all (hn' n hn1)).1) fun s hs t ht z z' hz hz' e => ih s hs t (hv' t ht) z z' hz hz' e)
        (item_ne _ (by decide) fun n hn1 => ⟨(small_all (hn n hn1)).1, (small_all (hn n hn1)).2.1⟩) (item_ne _ (by decide) fun n hn1 => ⟨(small_all (hn' n hn1)).1, (small_all (hn' n hn1)).2.1⟩) h2
      obtain ⟨rfl, rfl⟩ := zip_eq hl hl' e1
      exact ⟨rfl, rfl⟩
    | vars ns' ss' hl' hn' hv' =>
      simp [codeT, Ty.kind, Ty.mod, show e0.size = 0 from rfl] at hc
    | fn ss' l' hss' hl' =>
      simp [codeT, Ty.kind, Ty.mod, show e0.size = 0 from rfl] at hc
    | here n' h1' =>
      simp [codeT, Ty.kind, Ty.mod, show e0.size = 0 from rfl] at hc
    | there m' n' hm' h1' =>
      rw [code_there hm'] at hc; simp [codeT, Ty.kind, Ty.mod, show e0.size = 0 from rfl] at hc
    | far p' j' m' n' hp' hm' h1' hj' hj2' =>
      simp [codeT, Ty.kind, Ty.mod, show e0.size = 0 from rfl] at hc
  | vars ns ss hl hn hv ih =>
    intro b hb r r' hr hr' h
    have hc := (code_tx (V.vars ns ss hl hn hv) hr).symm.trans ((congrArg codeL h).trans (code_tx hb hr'))
    cases hb with
    | int =>
      simp [codeT, Ty.kind, Ty.mod, show e0.size = 0 from rfl] at hc
    | text =>
      simp [codeT, Ty.kind, Ty.mod, show e0.size = 0 from rfl] at hc
    | bool =>
      simp [codeT, Ty.kind, Ty.mod, show e0.size = 0 from rfl] at hc
    | list s' hv' =>
      simp [codeT, Ty.kind, Ty.mod, show e0.size = 0 from rfl] at hc
    | rows ns' ss' hl' hn' hv' =>
      simp [codeT, Ty.kind, Ty.mod, show e0.size = 0 from rfl] at hc
    | vars ns' ss' hl' hn' hv' =>
      rw [tx_vars _ _ hl, tx_vars _ _ hl', List.cons_append, List.cons_append, List.append_assoc, List.append_assoc] at h
      have h2 := (List.cons.inj h).2
      obtain ⟨e1, rfl⟩ := join_inj item 93 (by decide) (by decide) (ns.zip ss) (ns'.zip ss') r r' (item_inj (fun n hn1 => (great_all (hn n hn1)).1) (fun n hn1 => (great_all (hn' n hn1)).1) fun s hs t ht z z' hz hz' e => ih s hs t (hv' t ht) z z' hz hz' e)
        (item_ne _ (by decide) fun n hn1 => ⟨(great_all (hn n hn1)).1, (great_all (hn n hn1)).2.1⟩) (item_ne _ (by decide) fun n hn1 => ⟨(great_all (hn' n hn1)).1, (great_all (hn' n hn1)).2.1⟩) h2
      obtain ⟨rfl, rfl⟩ := zip_eq hl hl' e1
      exact ⟨rfl, rfl⟩
    | fn ss' l' hss' hl' =>
      simp [codeT, Ty.kind, Ty.mod, show e0.size = 0 from rfl] at hc
    | here n' h1' =>
      simp [codeT, Ty.kind, Ty.mod, show e0.size = 0 from rfl] at hc
    | there m' n' hm' h1' =>
      rw [code_there hm'] at hc; simp [codeT, Ty.kind, Ty.mod, show e0.size = 0 from rfl] at hc
    | far p' j' m' n' hp' hm' h1' hj' hj2' =>
      simp [codeT, Ty.kind, Ty.mod, show e0.size = 0 from rfl] at hc
  | fn ss l hss hl ih ihl =>
    intro b hb r r' hr hr' h
    have hc := (code_tx (V.fn ss l hss hl) hr).symm.trans ((congrArg codeL h).trans (code_tx hb hr'))
    cases hb with
    | int =>
      simp [codeT, Ty.kind, Ty.mod, show e0.size = 0 from rfl] at hc
    | text =>
      simp [codeT, Ty.kind, Ty.mod, show e0.size = 0 from rfl] at hc
    | bool =>
      simp [codeT, Ty.kind, Ty.mod, show e0.size = 0 from rfl] at hc
    | list s' hv' =>
      simp [codeT, Ty.kind, Ty.mod, show e0.size = 0 from rfl] at hc
    | rows ns' ss' hl' hn' hv' =>
      simp [codeT, Ty.kind, Ty.mod, show e0.size = 0 from rfl] at hc
    | vars ns' ss' hl' hn' hv' =>
      simp [codeT, Ty.kind, Ty.mod, show e0.size = 0 from rfl] at hc
    | fn ss' l' hss' hl' =>
      rw [tx_fn, tx_fn] at h
      simp only [List.append_assoc, List.cons_append, List.nil_append, List.cons.injEq, true_and] at h
      obtain ⟨rfl, h3⟩ := join_inj tx 41 (by decide) (by decide) ss ss' _ _ (fun x hx y hy z z' hz hz' e => ih x hx y (hss' y hy) z z' hz hz' e) (fun x hx z z' => tx_ne2 (hss x hx) z z') (fun x hx z z' => tx_ne2 (hss' x hx) z z') h
      simp only [List.cons.injEq, true_and] at h3
      obtain ⟨rfl, rfl⟩ := ihl l' hl' r r' hr hr' h3
      exact ⟨rfl, rfl⟩
    | here n' h1' =>
      simp [codeT, Ty.kind, Ty.mod, show e0.size = 0 from rfl] at hc
    | there m' n' hm' h1' =>
      rw [code_there hm'] at hc; simp [codeT, Ty.kind, Ty.mod, show e0.size = 0 from rfl] at hc
    | far p' j' m' n' hp' hm' h1' hj' hj2' =>
      simp [codeT, Ty.kind, Ty.mod, show e0.size = 0 from rfl] at hc
  | here n h1 =>
    intro b hb r r' hr hr' h
    have hc := (code_tx (V.here n h1) hr).symm.trans ((congrArg codeL h).trans (code_tx hb hr'))
    cases hb with
    | int =>
      simp [codeT, Ty.kind, Ty.mod, show e0.size = 0 from rfl] at hc
    | text =>
      simp [codeT, Ty.kind, Ty.mod, show e0.size = 0 from rfl] at hc
    | bool =>
      simp [codeT, Ty.kind, Ty.mod, show e0.size = 0 from rfl] at hc
    | list s' hv' =>
      simp [codeT, Ty.kind, Ty.mod, show e0.size = 0 from rfl] at hc
    | rows ns' ss' hl' hn' hv' =>
      simp [codeT, Ty.kind, Ty.mod, show e0.size = 0 from rfl] at hc
    | vars ns' ss' hl' hn' hv' =>
      simp [codeT, Ty.kind, Ty.mod, show e0.size = 0 from rfl] at hc
    | fn ss' l' hss' hl' =>
      simp [codeT, Ty.kind, Ty.mod, show e0.size = 0 from rfl] at hc
    | here n' h1' =>
      rw [tx_here, tx_here] at h
      obtain ⟨e1, rfl⟩ := split_word _ _ _ _ (great_all h1).1 (great_all h1').1 hr hr' h
      rw [bl_inj e1]
      exact ⟨rfl, rfl⟩
    | there m' n' hm' h1' =>
      rw [code_there hm'] at hc; simp [codeT, Ty.kind, Ty.mod, show e0.size = 0 from rfl] at hc
    | far p' j' m' n' hp' hm' h1' hj' hj2' =>
      simp [codeT, Ty.kind, Ty.mod, show e0.size = 0 from rfl] at hc
  | there m n hm h1 =>
    intro b hb r r' hr hr' h
    have hc := (code_tx (V.there m n hm h1) hr).symm.trans ((congrArg codeL h).trans (code_tx hb hr'))
    rw [code_there hm] at hc
    cases hb with
    | int =>
      simp [codeT, Ty.kind, Ty.mod, show e0.size = 0 from rfl] at hc
    | text =>
      simp [codeT, Ty.kind, Ty.mod, show e0.size = 0 from rfl] at hc
    | bool =>
      simp [codeT, Ty.kind, Ty.mod, show e0.size = 0 from rfl] at hc
    | list s' hv' =>
      simp [codeT, Ty.kind, Ty.mod, show e0.size = 0 from rfl] at hc
    | rows ns' ss' hl' hn' hv' =>
      simp [codeT, Ty.kind, Ty.mod, show e0.size = 0 from rfl] at hc
    | vars ns' ss' hl' hn' hv' =>
      simp [codeT, Ty.kind, Ty.mod, show e0.size = 0 from rfl] at hc
    | fn ss' l' hss' hl' =>
      simp [codeT, Ty.kind, Ty.mod, show e0.size = 0 from rfl] at hc
    | here n' h1' =>
      simp [codeT, Ty.kind, Ty.mod, show e0.size = 0 from rfl] at hc
    | there m' n' hm' h1' =>
      rw [tx_there _ _ (small_all hm).2.2.1, tx_there _ _ (small_all hm').2.2.1, List.append_assoc, List.append_assoc, List.append_assoc, List.append_assoc] at h
      obtain ⟨e1, h2⟩ := split_word _ _ _ _ (small_all hm).1 (small_all hm').1 (Stop.cons (c := 46) _ (by decide)) (Stop.cons (c := 46) _ (by decide)) h
      have h3 : [46] ++ (bl n ++ r) = [46] ++ (bl n' ++ r') := h2
      obtain ⟨e2, rfl⟩ := split_word _ _ _ _ (great_all h1).1 (great_all h1').1 hr hr' (List.append_cancel_left h3)
      rw [bl_inj e1, bl_inj e2]
      exact ⟨rfl, rfl⟩
    | far p' j' m' n' hp' hm' h1' hj' hj2' =>
      simp [codeT, Ty.kind, Ty.mod, show e0.size = 0 from rfl] at hc
  | far p j m n hp hm h1 hj hj2 =>
    intro b hb r r' hr hr' h
    have hc := (code_tx (V.far p j m n hp hm h1 hj hj2) hr).symm.trans ((congrArg codeL h).trans (code_tx hb hr'))
    cases hb with
    | int =>
      simp [codeT, Ty.kind, Ty.mod, show e0.size = 0 from rfl] at hc
    | text =>
      simp [codeT, Ty.kind, Ty.mod, show e0.size = 0 from rfl] at hc
    | bool =>
      simp [codeT, Ty.kind, Ty.mod, show e0.size = 0 from rfl] at hc
    | list s' hv' =>
      simp [codeT, Ty.kind, Ty.mod, show e0.size = 0 from rfl] at hc
    | rows ns' ss' hl' hn' hv' =>
      simp [codeT, Ty.kind, Ty.mod, show e0.size = 0 from rfl] at hc
    | vars ns' ss' hl' hn' hv' =>
      simp [codeT, Ty.kind, Ty.mod, show e0.size = 0 from rfl] at hc
    | fn ss' l' hss' hl' =>
      simp [codeT, Ty.kind, Ty.mod, show e0.size = 0 from rfl] at hc
    | here n' h1' =>
      simp [codeT, Ty.kind, Ty.mod, show e0.size = 0 from rfl] at hc
    | there m' n' hm' h1' =>
      rw [code_there hm'] at hc; simp [codeT, Ty.kind, Ty.mod, show e0.size = 0 from rfl] at hc
    | far p' j' m' n' hp' hm' h1' hj' hj2' =>
      rw [tx_far, tx_far] at h
      simp only [List.append_assoc, List.cons_append, List.nil_append, List.cons.injEq, true_and] at h
      obtain ⟨e1, h2⟩ := split_word _ _ _ _ (small_all hp).1 (small_all hp').1 (Stop.cons (c := 32) _ (by decide)) (Stop.cons (c := 32) _ (by decide)) h
      have h3 := (List.cons.inj h2).2
      rw [itoa_pos hj, itoa_pos hj'] at h3
      obtain ⟨e2, h4⟩ := split_word _ _ _ _ (dec_all _) (dec_all _) (Stop.cons (c := 32) _ (by decide)) (Stop.cons (c := 32) _ (by decide)) h3
      have h5 := (List.cons.inj h4).2
      obtain ⟨e3, h6⟩ := split_word _ _ _ _ (small_all hm).1 (small_all hm').1 (Stop.cons (c := 32) _ (by decide)) (Stop.cons (c := 32) _ (by decide)) h5
      have h7 := (List.cons.inj h6).2
      obtain ⟨e4, h8⟩ := split_word _ _ _ _ (great_all h1).1 (great_all h1').1 (Stop.cons (c := 62) _ (by decide)) (Stop.cons (c := 62) _ (by decide)) h7
      have h9 := (List.cons.inj h8).2
      have e5 := dec_inj _ _ e2
      have e6 : j = j' := by omega
      rw [bl_inj e1, bl_inj e3, bl_inj e4, e6, h9]
      exact ⟨rfl, rfl⟩
theorem dec_len : ∀ (k u : Nat), u < 10 ^ (k + 1) → (Lib.decDigits u).length ≤ k + 1
  | 0, u, h => by rw [dec_lt (by simpa using h)]; simp
  | k + 1, u, h => by
    by_cases hu : u < 10
    · rw [dec_lt hu]; simp
    · have := dec_len k (u / 10) (by rw [Nat.pow_succ] at h; omega)
      rw [dec_ge hu, List.length_append]
      simp only [List.length_cons, List.length_nil]; omega
theorem small_len {s : ByteArray} (h : smallB s = true) : (bl s).length ≤ 20 := by
  rw [smallB, Bool.and_eq_true, Bool.and_eq_true, letters, Bool.and_eq_true, Bool.and_eq_true, decide_eq_true_eq, decide_eq_true_eq] at h
  exact h.1.1.1.2
theorem great_len {s : ByteArray} (h : greatB s = true) : (bl s).length ≤ 20 := by
  rw [greatB, Bool.and_eq_true, Bool.and_eq_true, letters, Bool.and_eq_true, Bool.and_eq_true, decide_eq_true_eq, decide_eq_true_eq] at h
  exact h.1.1.1.2
theorem join_le (l : List (List UInt8)) : (Lib.join l sepC).length ≤ (Lib.joinTail sepC l).length := by
  cases l with
  | nil => simp [Lib.join_nil]
  | cons x l => rw [Lib.join_cons, joinTail_cons]; simp
theorem manyL_nn : ∀ l : List Ty, 0 ≤ manyL l
  | [] => by rw [manyL]; exact Int.le_refl 0
  | t :: l => by have := many_pos t; have := manyL_nn l; rw [manyL]; omega
theorem rows_len : ∀ (ns : List ByteArray) (ss : List Ty), (∀ n ∈ ns, (bl n).length ≤ 20) → (∀ s ∈ ss, ((tx s).length : Int) + 24 ≤ 200 * manyT s) → ((Lib.joinTail sepC ((ns.zip ss).map item)).length : Int) ≤ 200 * manyL ss
  | [], ss, _, _ => by have := manyL_nn ss; simp [Lib.joinTail]; omega
  | _ :: _, [], _, _ => by simp [Lib.joinTail, manyL]
  | n :: ns, s :: ss, hn, hs => by
    have h1 := rows_len ns ss (fun n h => hn n (by simp [h])) (fun s h => hs s (by simp [h]))
    have h2 := hn n (by simp)
    have h3 := hs s (by simp)
    rw [List.zip_cons_cons, List.map_cons, joinTail_cons, manyL]
    simp only [List.length_append, item, List.length_cons, List.length_nil, sepC]
    have e : Lib.joinTail [44, 32] ((ns.zip ss).map item) = Lib.joinTail sepC ((ns.zip ss).map item) := rfl
    rw [e]
    omega
theorem subs_len : ∀ (ss : List Ty), (∀ s ∈ ss, ((tx s).length : Int) + 24 ≤ 200 * manyT s) → ((Lib.joinTail sepC (ss.map tx)).length : Int) ≤ 200 * manyL ss
  | [], _ => by simp [Lib.joinTail, manyL]
  | s :: ss, hs => by
    have h1 := subs_len ss (fun s h => hs s (by simp [h]))
    have h3 := hs s (by simp)
    rw [List.map_cons, joinTail_cons, manyL]
    simp only [List.length_append, List.length_cons, List.length_nil, sepC]
    have e : Lib.joinTail [44, 32] (ss.map tx) = Lib.joinTail sepC (ss.map tx) := rfl
    rw [e]
    omega
theorem manyL_snoc : ∀ (ss : List Ty) (l : Ty), manyL (ss ++ [l]) = manyL ss + manyT l
  | [], l => by simp [manyL]
  | s :: ss, l => by rw [List.cons_append, manyL, manyL, manyL_snoc ss l]; omega
theorem tx_len {a : Ty} (h : V a) : ((tx a).length : Int) + 24 ≤ 200 * manyT a := by
  induction h with
  | int => simp [tx, manyT, manyL]
  | text => simp [tx, manyT, manyL]
  | bool => simp [tx, manyT, manyL]
  | list s h ih => rw [tx_list, manyT, manyL, manyL]; simp only [List.length_append, List.length_cons, List.length_nil]; omega
  | rows ns ss hl hn h ih =>
    have h1 := rows_len ns ss (fun n h => small_len (hn n h)) ih
    have h2 := join_le ((ns.zip ss).map item)
    rw [tx_rows _ _ hl, manyT]
    simp only [List.length_append, List.length_cons, List.length_nil]; omega
  | vars ns ss hl hn h ih =>
    have h1 := rows_len ns ss (fun n h => great_len (hn n h)) ih
    have h2 := join_le ((ns.zip ss).map item)
    rw [tx_vars _ _ hl, manyT]
    simp only [List.length_append, List.length_cons, List.length_nil]; omega
  | fn ss l h hl ih ihl =>
    have h1 := subs_len ss ih
    have h2 := join_le (ss.map tx)
    rw [tx_fn, manyT, manyL_snoc]
    simp only [List.length_append, List.length_cons, List.length_nil]; omega
  | here n h =>
    have := great_len h
    rw [tx_here, manyT, manyL]; omega
  | there m n hm h =>
    have := great_len h
    have := small_len hm
    rw [tx_there _ _ (small_all hm).2.2.1, manyT, manyL]
    simp only [List.length_append, List.length_cons, List.length_nil]; omega
  | far p j m n hp hm h hj hj' =>
    have := great_len h
    have := small_len hm
    have := small_len hp
    have := dec_len 8 j.toNat (by omega)
    rw [tx_far, manyT, manyL, itoa_pos hj]
    simp only [List.length_append, List.length_cons, List.length_nil]; omega
end Go.Proofs.YtalpmjmifcofeaaDoor
