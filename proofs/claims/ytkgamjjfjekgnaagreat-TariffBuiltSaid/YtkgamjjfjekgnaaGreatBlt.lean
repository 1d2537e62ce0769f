/-
  A part of the proof of a statement of the seat YtkgamjjfjekgnaaGreat.
-/
import Derived.Test.YtkgamjjfjekgnaaGreatBlt05
namespace Go.Proofs
open Go Go.Abs
set_option maxRecDepth 100000
set_option linter.unusedVariables false
theorem b_goodWord (n : Nat) (s : List UInt8) (hn : 1000 ≤ n) : g_p_goodWord n s = some (decide (1 ≤ s.length ∧ s.length ≤ 12) && decide (∀ x ∈ s.head?, 97 ≤ b2i x ∧ b2i x ≤ 122) && s.all chrB) := by
 unfold g_p_goodWord
 simp only [lenI, ltI]
 cases s with
 | nil => simp
 | cons x r =>
  rw [dzF (show ¬ (((x :: r).length : Nat) : Int) < 1 by simp only [List.length_cons]; omega), cond_false]
  by_cases hl : (x :: r).length ≤ 12
  rotate_left
  ·rw [dzT (show (12 : Int) < (((x :: r).length : Nat) : Int) by omega), dzF (show ¬ (1 ≤ (x :: r).length ∧ (x :: r).length ≤ 12) by omega)]; rfl
  rw [dzF (show ¬ (12 : Int) < (((x :: r).length : Nat) : Int) by omega), cond_false, dzT (show 1 ≤ (x :: r).length ∧ (x :: r).length ≤ 12 by simp only [List.length_cons] at hl ⊢; omega)]
  rw [show getI (x :: r) 0 = some x from rfl]
  have hloop : loopN (fun recl7 l7 => g_p_goodWord_l7 (x :: r) recl7 l7) n 1 = some (r.all chrB) := by
   have := loop_list (l := x :: r) (B := fun recl7 l7 => g_p_goodWord_l7 (x :: r) recl7 l7) (F := fun r => r.all chrB) (by omega) ?_ ?_ (n := n) 1 (by simp) (by omega)
   ·simpa using this
   ·intro rec; simp [g_p_goodWord_l7, ltI, lenI]
   ·intro rec i y q hd hx hi hw hr
    unfold g_p_goodWord_l7
    simp only [lenI, getI_nat, hx, obs, hw, hr, ltI, leI, eqI, cond_some]
    rw [dzT (by omega), cond_true, List.all_cons]
    rw [chr_lem, chrB]
    cases decide ((97 ≤ b2i y ∧ b2i y ≤ 122) ∨ (48 ≤ b2i y ∧ b2i y ≤ 57) ∨ b2i y = 95) <;> simp
  rw [hloop]
  simp only [obs, cond_some, List.head?_cons, Option.mem_def, sie, forall_eq', Bool.true_and, List.all_cons]
  by_cases h1 : b2i x < 97
  ·rw [dzT h1, dzF (show ¬ (97 ≤ b2i x ∧ b2i x ≤ 122) by omega)]; rfl
  ·rw [dzF h1, cond_false]
   by_cases h2 : 122 < b2i x
   ·rw [dzT h2, dzF (show ¬ (97 ≤ b2i x ∧ b2i x ≤ 122) by omega)]; rfl
   ·have h3 : 97 ≤ b2i x ∧ b2i x ≤ 122 := by omega
    have h4 : chrB x = true := by unfold chrB; rw [dzT]; exact Or.inl h3
    rw [dzF h2, dzT h3, h4]; rfl
theorem cnz (b : Bool) (k r : Int) (hk : k ≠ 0) : (!eqI (bif b then k else r) 0) = (b || !eqI r 0) := by
 cases b
 ·rfl
 ·simp [eqI, hk]
theorem b_isKey (n : Nat) (s : List UInt8) : g_p_isKey n s = some (keyB s) := by
 unfold g_p_isKey g_p_kindOf g_p_isAttr g_p_isArticle g_p_isWord
 rw [keyB_mem]
 simp only [cond_some, obs, cse, cst, keyL, g_ref02_Kinds, g_ref02_Attrs, g_ref02_Articles, g_ref02_Words, Option.getD_some, List.cons_append, List.nil_append, List.contains_cons, List.contains_nil, Bool.or_false, eqS]
 rw [cnz _ 1 _ (by decide), cnz _ 2 _ (by decide), cnz _ 3 _ (by decide), cnz _ 4 _ (by decide), cnz _ 5 _ (by decide), cnz _ 6 _ (by decide), cnz _ 7 _ (by decide), show (!eqI 0 0) = false from rfl]
 simp only [Bool.or_assoc, Bool.or_false]
theorem b_goodName (n : Nat) (s : List UInt8) (hn : 1000 ≤ n) : g_p_goodName n s = some (nameB s) := by
 unfold g_p_goodName nameB
 rw [b_goodWord n s hn, obs, b_isKey, obs, cond_some]
 generalize decide (1 ≤ s.length ∧ s.length ≤ 12) = a
 generalize decide (∀ x ∈ s.head?, 97 ≤ b2i x ∧ b2i x ≤ 122) = b
 generalize s.all chrB = c
 generalize keyB s = d
 cases a <;> cases b <;> cases c <;> cases d <;> rfl
theorem of_cs' (k : Int) (s : List UInt8) (m t : Int) (l : List (List PV)) : GNode.of (GNode.cs ⟨k, s, m, t, l⟩) = some ⟨k, s, m, t, l⟩ := by
 unfold GNode.cs GNode.of
 simp only [map_idc, byt_mkS, if_true]
theorem b_parser (n : Nat) (s : List UInt8) (hn : 1000 ≤ n) : g_p_Valid n (⟨1, [], 0, 0, [GNode.cs (⟨2, s, 3, 0, []⟩ : GNode)]⟩ : GNode) = some (nameB s) := by
 obtain ⟨m, rfl⟩ : ∃ m, n = m + 2 := ⟨n - 2, by omega⟩
 have hitem : g_p_validItem (m + 2) (⟨2, s, 3, 0, []⟩ : GNode) 1498 = some (nameB s, 1498) := by
  unfold g_p_validItem
  rw [b_goodName (m + 2) s hn]
  simp only [show (!eqI 2 2) = false from rfl, show ltI 3 1 = false from rfl, show ltI 7 3 = false from rfl, cond_false, obs]
  cases nameB s
  ·rfl
  ·unfold loopN; rfl
 unfold g_p_Valid
 have e1 : ((bif !eqI 1 1 then some true else bif !eqS [] [] then some true else bif !eqI 0 0 then some true else some (ltI (wi (1499 - lenI (List.map idc [GNode.cs (⟨2, s, 3, 0, []⟩ : GNode)]))) 0))) = some false := rfl
 have e2 : wi (1499 - lenI (List.map idc [GNode.cs (⟨2, s, 3, 0, []⟩ : GNode)])) = 1498 := rfl
 simp only
 rw [e1, obs, cond_false, e2]
 unfold loopN
 simp only [g_p_Valid_l5]
 rw [show ltI 0 (lenI (List.map idc [GNode.cs (⟨2, s, 3, 0, []⟩ : GNode)])) = true from rfl, cond_true, show getI [GNode.cs (⟨2, s, 3, 0, []⟩ : GNode)] 0 = some (GNode.cs (⟨2, s, 3, 0, []⟩ : GNode)) from rfl, obs, of_cs', obs, hitem, obs]
 cases nameB s
 ·rfl
 ·unfold loopN; rfl
theorem b_inside (n : Nat) (x a b : Int) : g_t_inside n x a b = some (decide (a ≤ x ∧ x ≤ b)) := by
 unfold g_t_inside leI
 by_cases h : a ≤ x <;> simp [h]
theorem b_article (n : Nat) (a : GAr) : g_t_validArticle n a = some (artB a) := by
 have bad : ¬ Art a → some false = some (artB a) := by
  intro h
  cases hb : artB a
  ·rfl
  ·exact absurd (artB_art hb) h
 unfold g_t_validArticle g_t_isWhole g_t_isTime
 simp only [b_inside, obs]
 by_cases c2 : 1 ≤ a.Kind ∧ a.Kind ≤ 6
 rotate_left
 ·rw [dzF c2]; exact bad (fun h => c2 h.kind)
 rw [dzT c2]
 by_cases c4 : 0 ≤ a.From ∧ a.From ≤ 1439
 rotate_left
 ·rw [dzF c4]; exact bad (fun h => c4 h.from_)
 rw [dzT c4, wi_id (x := a.From + 1) (by omega) (by omega)]
 by_cases c6 : a.From + 1 ≤ a.To ∧ a.To ≤ 1440
 rotate_left
 ·rw [dzF c6]; exact bad (fun h => by have := h.to_; omega)
 rw [dzT c6]
 by_cases c8 : 1 ≤ a.Days ∧ a.Days ≤ 7
 rotate_left
 ·rw [dzF c8]; exact bad (fun h => c8 h.days)
 rw [dzT c8]
 unfold artB g_a_validArticle
 simp only [a_inside, cond_some, obs, Option.getD_some, eqI_d, Bool.not_true, cond_false]
 rw [sie, Bool.eq_iff_iff]
 obtain ⟨k, d, f, t, p, u, v⟩ := a
 simp only at c2 c4 c6 c8
 simp only [Bool.cond_eq_ite]
 have hk : k = 1 ∨ k = 2 ∨ k = 3 ∨ k = 4 ∨ k = 5 ∨ k = 6 := by omega
 rcases hk with rfl | rfl | rfl | rfl | rfl | rfl <;> simp [leI, ltI] <;> omega
theorem b_tariff (n : Nat) (t : GTf) (hn : 1000 ≤ n) : g_t_Valid n t = some (tariffB t) := by
 unfold g_t_Valid tariffB
 rw [b_parser n t.Name hn]
 simp only [obs, cond_some, lenI, List.length_map, ltI]
 cases hname : nameB t.Name
 ·rfl
 by_cases h2 : t.Articles.length ≤ 12
 rotate_left
 ·rw [dzT (show (12 : Int) < t.Articles.length by omega), dzF h2]; rfl
 rw [dzF (show ¬ (12 : Int) < t.Articles.length by omega), dzT h2]
 simp only [Bool.not_true, cond_false, Bool.true_and]
 have := loop_gen (l := t.Articles) (fun (a : Int) i => (a, i)) (B := fun recl4 (v : Int × Int) => g_t_Valid_l4 n t recl4 v.1 v.2) (F := tarB) (fun i a => 0 ≤ a ∧ a ≤ i) (by omega) ?_ ?_ (n := n) 0 0 (by omega) (by omega) (by omega)
 ·exact this
 ·intro rec a ha
  simp only [g_t_Valid_l4, lenI, List.length_map, ltI, leI]
  rw [dzF (by omega), cond_false]
  rfl
 ·intro rec a i x r ha hd hx hi hw hr
  simp only [g_t_Valid_l4, lenI, List.length_map, ltI, getI_nat, hx, obs, b_article, hw, eqI_d]
  rw [dzT (by omega), cond_true, tarB]
  cases hb : artB x
  ·rfl
  ·have hw2 : wi (a + 1) = a + 1 := wi_id (by omega) (by omega)
   simp only [Bool.not_true, cond_false, Bool.true_and]
   by_cases h6 : x.Kind = 6
   ·rw [dzT h6, cond_true, if_pos h6, hw2, hr _ (by omega)]
   ·rw [dzF h6, cond_false, if_neg h6, hr _ (by omega)]
end Go.Proofs
namespace Go.Proofs
open Go Go.Abs
theorem head32_big : g_law32_head 36893488147419103232 = some true := by kernel_rfl
end Go.Proofs
namespace Go.Proofs
open Go Go.Abs
set_option maxRecDepth 100000
set_option linter.unusedVariables false
theorem loopN_s {V R : Type} (B : (V → Option R) → V → Option R) (n : Nat) (v : V) : loopN B (n + 1) v = B (loopN B n) v := rfl
end Go.Proofs
namespace Go.Proofs
open Go Go.Abs
set_option maxRecDepth 100000
set_option linter.unusedVariables false
def N0 : Nat := 36893488147419103232
end Go.Proofs
namespace Go.Proofs
open Go Go.Abs
set_option maxRecDepth 100000
set_option linter.unusedVariables false
def treeD : Nat → GNode → Prop
 | 0, _ => False
 | d + 1, x => (-9223372036854775808 ≤ x.Kind ∧ x.Kind ≤ 9223372036854775807) ∧ (-9223372036854775808 ≤ x.N ∧ x.N ≤ 9223372036854775807) ∧ (-9223372036854775808 ≤ x.At ∧ x.At ≤ 9223372036854775807) ∧ x.Name.length ≤ maxLen ∧ x.Kids.length ≤ maxLen ∧ ∀ k ∈ x.Kids, ∃ y, GNode.of k = some y ∧ treeD d y
def kidsD (d : Nat) (l : List (List PV)) : Prop := ∀ k ∈ l, ∃ y, GNode.of k = some y ∧ treeD d y
theorem tree_kids {d : Nat} {x : GNode} (h : treeD d x) : ∃ e, d = e + 1 ∧ x.Kids.length ≤ 9223372036854775807 ∧ x.Name.length ≤ 9223372036854775807 ∧ kidsD e x.Kids := by
 cases d with
 | zero => exact h.elim
 | succ e => exact ⟨e, rfl, by have := h.2.2.2.2.1; simpa [maxLen] using this, by have := h.2.2.2.1; simpa [maxLen] using this, h.2.2.2.2.2⟩
theorem kid_at {d : Nat} {l : List (List PV)} (h : kidsD d l) {i : Nat} (hi : i < l.length) : ∃ y, Option.bind (getI l (i : Int)) GNode.of = some y ∧ treeD d y ∧ (l.drop i = l[i]'hi :: l.drop (i + 1) ∧ GNode.of (l[i]'hi) = some y) := by
 obtain ⟨y, e, t⟩ := h (l[i]'hi) (List.getElem_mem hi)
 refine ⟨y, ?_, t, List.drop_eq_getElem_cons hi, e⟩
 rw [getI_nat, List.getElem?_eq_getElem hi]
 exact e
def Tot {α : Type} (m : Option α) : Prop := Does m fun _ => True
theorem tot_some {α : Type} (x : α) : Tot (some x) := ⟨x, rfl, trivial⟩
theorem tot_cond {α : Type} {b : Bool} {x y : Option α} (h1 : b = true → Tot x) (h2 : b = false → Tot y) : Tot (cond b x y) := does_cond h1 h2
theorem tot_bind {α β : Type} {m : Option α} {k : α → Option β} (h : Tot m) (hk : ∀ x, Tot (k x)) : Tot (m.bind k) := does_bind h fun x _ => hk x
theorem tot_eq {α : Type} {m : Option α} {x : α} (h : m = some x) : Tot m := ⟨x, h, trivial⟩
theorem tot_of {α : Type} {m : Option α} {Q : α → Prop} (h : Does m Q) : Tot m := does_mono h fun _ _ => trivial
theorem tot_idx {R : Type} {B : (Int → Option R) → Int → Option R} {L : Nat} (hL : L ≤ 9223372036854775807)
  (hB : ∀ (rec : Int → Option R) (i : Nat), i ≤ L → (i < L → wi ((i : Int) + 1) = ((i + 1 : Nat) : Int) ∧ Tot (rec ((i + 1 : Nat) : Int))) → Tot (B rec (i : Int))) :
  ∀ {n : Nat} (i : Nat), i ≤ L → L - i < n → Tot (loopN B n (i : Int))
 | 0, _, _, h => absurd h (Nat.not_lt_zero _)
 | n + 1, i, hi, h => hB _ i hi fun h1 => ⟨by rw [wi_id (by omega) (by omega)]; omega, tot_idx hL hB (i + 1) (by omega) (by omega)⟩
theorem count_tot : ∀ (m n d : Nat) (x : GNode) (most : Int), treeD d x → 0 ≤ most → most ≤ m → m ≤ 1000000 → m + 3 ≤ n → Does (g_ref02_Count n x most) (fun r => 1 ≤ r ∧ r ≤ most + 1) := by
 intro m
 induction m with
 | zero =>
  intro n d x most ht h0 h1 h2 h3
  obtain ⟨n, rfl⟩ : ∃ q, n = q + 1 + 1 := ⟨n - 2, by omega⟩
  obtain rfl : most = 0 := by omega
  refine ⟨1, ?_, by omega, by omega⟩
  unfold g_ref02_Count g_ref02_Count_body
  rw [loopN_s]
  unfold g_ref02_Count_l1
  simp only [show leI 1 0 = false from rfl, cond_some, obs]
  cases ltI 0 (lenI (List.map idc x.Kids)) <;> rfl
 | succ m ih =>
  intro n d x most ht h0 h1 h2 h3
  obtain ⟨n, rfl⟩ : ∃ q, n = q + 1 := ⟨n - 1, by omega⟩
  obtain ⟨e, rfl, hl, _, hk⟩ := tree_kids ht
  unfold g_ref02_Count g_ref02_Count_body
  refine does_loop (Q := fun _ r => 1 ≤ r ∧ r ≤ most + 1) (fun v => (most + 1 - v.1).toNat) (fun v => 1 ≤ v.1 ∧ v.1 ≤ most + 1 ∧ ∃ i : Nat, v.2 = (i : Int) ∧ i ≤ x.Kids.length) ?_ ⟨by omega, by omega, 0, rfl, by omega⟩ (by simp only; omega)
  rintro rec ⟨many, idx⟩ ⟨g1, g2, i, hi, hil⟩ hrec
  simp only at g1 g2 hi hrec ⊢
  subst hi
  unfold g_ref02_Count_l1
  simp only [lenI, List.length_map, ltI, leI]
  by_cases c1 : i < x.Kids.length
  rotate_left
  ·rw [dzF (by omega)]
   exact does_some ⟨g1, g2⟩
  rw [dzT (by omega)]
  by_cases c2 : many ≤ most
  rotate_left
  ·rw [dzF c2]
   exact does_some ⟨g1, g2⟩
  rw [dzT c2]
  obtain ⟨y, hy, hty, _⟩ := kid_at hk c1
  simp only [cond_true, obs]
  rw [hy, obs, wi_id (x := most - many) (by omega) (by omega)]
  refine does_bind (ih n e y (most - many) hty (by omega) (by omega) (by omega) (by omega)) ?_
  rintro r ⟨r1, r2⟩
  rw [wi_id (x := many + r) (by omega) (by omega), wi_id (x := (i : Int) + 1) (by omega) (by omega)]
  exact hrec (many + r, (i : Int) + 1) ⟨by simp only; omega, by simp only; omega, i + 1, by simp, c1⟩ (by simp only; omega)
theorem names_tot : ∀ (m n d : Nat) (x : GNode) (depth : Int), treeD d x → 0 ≤ depth → depth ≤ m → m ≤ 1000 → m + 9223372036854775810 ≤ n → Tot (g_ref02_names n x depth) := by
 intro m
 induction m with
 | zero =>
  intro n d x depth ht h0 h1 h2 h3
  obtain ⟨n, rfl⟩ : ∃ q, n = q + 1 := ⟨n - 1, by omega⟩
  obtain rfl : depth = 0 := by omega
  exact ⟨false, rfl, trivial⟩
 | succ m ih =>
  intro n d x depth ht h0 h1 h2 h3
  obtain ⟨n, rfl⟩ : ∃ q, n = q + 1 := ⟨n - 1, by omega⟩
  by_cases c0 : depth = 0
  ·subst c0
   exact ⟨false, rfl, trivial⟩
  obtain ⟨e, rfl, hl, _, hk⟩ := tree_kids ht
  unfold g_ref02_names g_ref02_names_body
  refine tot_bind (tot_cond (fun _ => tot_some _) (fun _ => tot_some _)) fun j1 => tot_cond (fun _ => tot_some _) fun _ => ?_
  refine tot_idx (L := x.Kids.length) hl (fun rec i hi hr => ?_) 0 (by omega) (by omega)
  unfold g_ref02_names_l3
  simp only [lenI, List.length_map, ltI]
  by_cases c1 : i < x.Kids.length
  rotate_left
  ·rw [dzF (by omega)]; exact tot_some _
  rw [dzT (by omega), cond_true]
  obtain ⟨y, hy, hty, _⟩ := kid_at hk c1
  obtain ⟨w1, w2⟩ := hr c1
  rw [hy, obs, wi_id (x := depth - 1) (by omega) (by omega), w1]
  exact tot_bind (ih n e y (depth - 1) hty (by omega) (by omega) (by omega) (by omega)) fun r => tot_cond (fun _ => tot_some _) fun _ => w2
theorem few_tot {n d : Nat} {x : GNode} (ht : treeD d x) (hn : 9223372036854776000 ≤ n) : Tot (g_ref02_Few n x 1500) := by
 unfold g_ref02_Few
 refine tot_bind (tot_of (count_tot 1500 n d x 1500 ht (by omega) (by omega) (by omega) (by omega))) fun r => tot_cond (fun _ => ?_) fun _ => tot_some _
 exact tot_bind (names_tot 50 n d x 50 ht (by omega) (by omega) (by omega) (by omega)) fun _ => tot_some _
theorem in_tot {n : Nat} {l : List (List UInt8)} {s : List UInt8} (hn : 9223372036854776000 ≤ n) (hl : l.length ≤ 900) : Tot (g_ref02_In n l s) := tot_of (r_in n l s (by omega) hl)
theorem name_tot {n : Nat} {s : List UInt8} (hn : 9223372036854776000 ≤ n) (hl : s.length ≤ 9223372036854775807) : Tot (g_ref02_Name n s) := by
 unfold g_ref02_Name
 refine tot_idx (L := s.length) hl (fun rec i hi hr => ?_) 0 (by omega) (by omega)
 unfold g_ref02_Name_l16
 simp only [lenI, ltI]
 by_cases c1 : i < s.length
 rotate_left
 ·rw [dzF (by omega), cond_false]; exact tot_eq (r_namej n s (by omega))
 obtain ⟨w1, w2⟩ := hr c1
 rw [dzT (by omega), cond_true, getI_nat, List.getElem?_eq_getElem c1, obs, w1]
 simp only [cond_some, obs]
 exact tot_cond (fun _ => tot_some _) fun _ => w2
theorem value_tot {n : Nat} {x : GNode} {b : Bool} (hn : 9223372036854776000 ≤ n) (hl : x.Name.length ≤ 9223372036854775807) : Tot (g_ref02_value n x b) := by
 unfold g_ref02_value g_ref02_Words
 refine tot_cond (fun _ => tot_some _) fun _ => tot_cond (fun _ => ?_) fun _ => ?_
 ·simp only [cond_some, obs]; exact tot_some _
 ·refine tot_bind (tot_cond (fun _ => tot_cond (fun _ => tot_bind (name_tot hn hl) fun r => tot_cond (fun _ => tot_some _) fun _ => tot_cond (fun _ => ?_) fun _ => tot_some _) fun _ => tot_some _) fun _ => tot_some _) fun _ => tot_some _
  rw [obs]
  exact tot_bind (in_tot hn (by decide)) fun _ => tot_some _
theorem part_tot {n d : Nat} {x : GNode} (ht : treeD d x) (hn : 9223372036854776000 ≤ n) : Tot (g_ref02_part n x) := by
 obtain ⟨e, rfl, hl, _, hk⟩ := tree_kids ht
 unfold g_ref02_part g_ref02_Attrs g_ref02_Articles
 refine tot_bind ?_ fun j => tot_cond (fun _ => tot_some _) fun _ => ?_
 ·refine tot_cond (fun _ => tot_some _) fun _ => tot_cond (fun _ => ?_) fun _ => tot_cond (fun _ => ?_) fun _ => tot_some _
  ·rw [obs]
   refine tot_bind (in_tot hn (by decide)) fun _ => tot_cond (fun _ => tot_some _) fun _ => tot_cond (fun _ => ?_) fun _ => tot_some _
   rw [obs]
   exact tot_bind (in_tot hn (by decide)) fun _ => tot_some _
  ·rw [obs]
   exact tot_bind (in_tot hn (by decide)) fun _ => tot_some _
 refine tot_idx (L := x.Kids.length) hl (fun rec i hi hr => ?_) 0 (by omega) (by omega)
 unfold g_ref02_part_l13
 simp only [lenI, List.length_map, ltI]
 by_cases c1 : i < x.Kids.length
 rotate_left
 ·rw [dzF (by omega)]; exact tot_some _
 obtain ⟨y, hy, hty, _⟩ := kid_at hk c1
 obtain ⟨w1, w2⟩ := hr c1
 obtain ⟨_, _, _, hs, _⟩ := tree_kids hty
 rw [dzT (by omega), cond_true, hy, obs, w1]
 exact tot_bind (value_tot hn hs) fun r => tot_cond (fun _ => tot_some _) fun _ => w2
theorem ritem_tot {n d : Nat} {x : GNode} (ht : treeD d x) (hn : 9223372036854776000 ≤ n) : Tot (g_ref02_item n x) := by
 obtain ⟨e, rfl, hl, hs, hk⟩ := tree_kids ht
 unfold g_ref02_item
 refine tot_bind ?_ fun j => tot_cond (fun _ => tot_some _) fun _ => ?_
 ·exact tot_cond (fun _ => tot_some _) fun _ => tot_cond (fun _ => tot_some _) fun _ => tot_cond (fun _ => tot_some _) fun _ => tot_bind (name_tot hn hs) fun _ => tot_some _
 refine tot_idx (L := x.Kids.length) hl (fun rec i hi hr => ?_) 0 (by omega) (by omega)
 unfold g_ref02_item_l6
 simp only [lenI, List.length_map, ltI]
 by_cases c1 : i < x.Kids.length
 rotate_left
 ·rw [dzF (by omega)]; exact tot_some _
 obtain ⟨y, hy, hty, _⟩ := kid_at hk c1
 obtain ⟨w1, w2⟩ := hr c1
 have hprev : ∀ f : GNode → Bool, Tot (cond (decide (0 < (i : Int))) ((Option.bind (getI x.Kids (wi ((i : Int) - 1))) GNode.of).bind fun x15 => some (f x15)) (some false)) := by
  intro f
  refine tot_cond (fun h => ?_) fun _ => tot_some _
  have h0 : 0 < i := by have := of_decide_eq_true h; omega
  obtain ⟨z, hz, _⟩ := kid_at hk (show i - 1 < x.Kids.length by omega)
  rw [wi_id (x := (i : Int) - 1) (by omega) (by omega), show (i : Int) - 1 = ((i - 1 : Nat) : Int) by omega, hz]
  exact tot_some _
 rw [dzT (by omega), cond_true, hy, obs, w1]
 refine tot_bind (tot_bind (part_tot hty hn) fun r => tot_cond (fun _ => tot_some _) fun _ => tot_cond (fun _ => tot_cond (fun _ => tot_some _) fun _ => ?_) fun _ => ?_) fun j => tot_cond (fun _ => tot_some _) fun _ => w2
 ·exact tot_cond (fun _ => hprev fun z => eqI z.Kind 4) fun _ => tot_some _
 ·exact tot_cond (fun _ => hprev fun z => eqI z.Kind 4) fun _ => tot_some _
theorem rvalid_tot {n d : Nat} {x : GNode} (ht : treeD d x) (hn : 9223372036854776000 ≤ n) : Tot (g_ref02_Valid n x) := by
 have ht' := ht
 obtain ⟨e, rfl, hl, hs, hk⟩ := tree_kids ht
 unfold g_ref02_Valid
 refine tot_bind ?_ fun j => tot_cond (fun _ => tot_some _) fun _ => ?_
 ·exact tot_cond (fun _ => tot_some _) fun _ => tot_cond (fun _ => tot_some _) fun _ => tot_cond (fun _ => tot_some _) fun _ => tot_bind (tot_of (count_tot 1500 n _ x 1500 ht' (by omega) (by omega) (by omega) (by omega))) fun _ => tot_some _
 refine tot_idx (L := x.Kids.length) hl (fun rec i hi hr => ?_) 0 (by omega) (by omega)
 unfold g_ref02_Valid_l6
 simp only [lenI, List.length_map, ltI]
 by_cases c1 : i < x.Kids.length
 rotate_left
 ·rw [dzF (by omega)]; exact tot_some _
 obtain ⟨y, hy, hty, _⟩ := kid_at hk c1
 obtain ⟨w1, w2⟩ := hr c1
 rw [dzT (by omega), cond_true, hy, obs, w1]
 exact tot_bind (ritem_tot hty hn) fun r => tot_cond (fun _ => tot_some _) fun _ => w2
theorem usable_tot {n d : Nat} {x : GNode} (ht : treeD d x) (hn : 9223372036854776000 ≤ n) : Tot (g_law32_usable n x) := by
 unfold g_law32_usable
 exact tot_bind (few_tot ht hn) fun r => tot_cond (fun _ => tot_bind (rvalid_tot ht hn) fun _ => tot_some _) fun _ => tot_some _
end Go.Proofs
namespace Go.Proofs
open Go Go.Abs
set_option maxRecDepth 100000
set_option linter.unusedVariables false
theorem pvalue_tot {n : Nat} {x : GNode} {b : Bool} (hn : 1000 ≤ n) : Tot (g_p_validValue n x b) := by
 unfold g_p_validValue
 rw [b_goodName n x.Name hn, obs]
 refine tot_cond (fun _ => tot_some _) fun _ => tot_cond (fun _ => tot_cond (fun _ => tot_cond (fun _ => tot_some _) fun _ => tot_cond (fun _ => ?_) fun _ => tot_some _) fun _ => tot_some _) fun _ => ?_
 ·unfold g_p_isWord
  simp only [cond_some, obs]
  exact tot_some _
 ·simp only [cond_some]; exact tot_some _
theorem ppart_tot {n d : Nat} {x : GNode} {left : Int} (ht : treeD d x) (hn : 9223372036854776000 ≤ n) : Tot (g_p_validPart n x left) := by
 obtain ⟨e, rfl, hl, _, hk⟩ := tree_kids ht
 unfold g_p_validPart g_p_isAttr g_p_isArticle
 simp only [cond_some, obs]
 refine tot_cond (fun _ => tot_some _) fun _ => tot_cond (fun _ => tot_some _) fun _ => tot_cond (fun _ => tot_some _) fun _ => tot_cond (fun _ => tot_some _) fun _ => tot_cond (fun _ => tot_some _) fun _ => ?_
 refine tot_idx (L := x.Kids.length) hl (fun rec i hi hr => ?_) 0 (by omega) (by omega)
 unfold g_p_validPart_l9
 simp only [lenI, List.length_map, ltI]
 by_cases c1 : i < x.Kids.length
 rotate_left
 ·rw [dzF (by omega)]; exact tot_some _
 obtain ⟨y, hy, hty, _⟩ := kid_at hk c1
 obtain ⟨w1, w2⟩ := hr c1
 rw [dzT (by omega), cond_true, hy, obs, w1]
 exact tot_bind (pvalue_tot (by omega)) fun r => tot_cond (fun _ => tot_some _) fun _ => w2
theorem pitem_tot {n d : Nat} {x : GNode} {left : Int} (ht : treeD d x) (hn : 9223372036854776000 ≤ n) : Does (g_p_validItem n x left) (fun r => r.1 = true → nameB x.Name = true) := by
 obtain ⟨e, rfl, hl, _, hk⟩ := tree_kids ht
 unfold g_p_validItem
 rw [b_goodName n x.Name (by omega), obs]
 refine does_bind (Q := fun j => j = false → nameB x.Name = true) ?_ ?_
 ·refine does_cond (fun _ => does_some (fun h => by cases h)) fun _ => does_cond (fun _ => does_some (fun h => by cases h)) fun _ => does_cond (fun _ => does_some (fun h => by cases h)) fun _ => does_some (fun h => by simpa using h)
 intro j hj
 refine does_cond (fun _ => does_some (fun h => by cases h)) fun hjf => does_cond (fun _ => does_some (fun h => by cases h)) fun _ => ?_
 refine does_mono (Q := fun _ => True) ?_ (fun _ _ _ => hj hjf)
 refine does_loop (Q := fun _ _ => True) (fun v => x.Kids.length - v.2.1.toNat) (fun v => ∃ i : Nat, v.2.1 = (i : Int) ∧ i ≤ x.Kids.length) ?_ ⟨0, rfl, by omega⟩ (by simp only; omega)
 rintro rec ⟨fl, idx, lf⟩ ⟨i, hi, hil⟩ hrec
 simp only at hi hrec ⊢
 subst hi
 unfold g_p_validItem_l8
 simp only [lenI, List.length_map, ltI]
 by_cases c1 : i < x.Kids.length
 rotate_left
 ·rw [dzF (by omega), cond_false]
  unfold g_p_validItem_j6
  exact does_cond (fun _ => does_some trivial) fun _ => does_some trivial
 obtain ⟨y, hy, hty, _⟩ := kid_at hk c1
 rw [dzT (by omega), cond_true, hy, obs]
 have hj10 : ∀ b : Bool, Does (g_p_validItem_j10 n (i : Int) lf rec y b) fun _ => True := by
  intro b
  unfold g_p_validItem_j10
  rw [wi_id (x := (i : Int) + 1) (by omega) (by omega)]
  refine does_bind (Q := fun _ => True) (ppart_tot hty hn) fun r _ => does_cond (fun _ => does_some trivial) fun _ => ?_
  exact hrec (b, (i : Int) + 1, r.2) ⟨i + 1, by simp, c1⟩ (by simp only; omega)
 exact does_cond (fun _ => hj10 _) fun _ => does_cond (fun _ => does_some trivial) fun _ => hj10 _
def namesB (l : List (List PV)) : Prop := ∀ k ∈ l, ∀ y, GNode.of k = some y → nameB y.Name = true
theorem pvalid_tot {n d : Nat} {x : GNode} (ht : treeD d x) (hn : 9223372036854776000 ≤ n) : Does (g_p_Valid n x) (fun r => r = true → namesB x.Kids) := by
 obtain ⟨e, rfl, hl, _, hk⟩ := tree_kids ht
 unfold g_p_Valid
 refine does_bind (Q := fun _ => True) (does_cond (fun _ => does_some trivial) fun _ => does_cond (fun _ => does_some trivial) fun _ => does_cond (fun _ => does_some trivial) fun _ => does_some trivial) fun j _ => ?_
 refine does_cond (fun _ => does_some (fun h => by cases h)) fun _ => ?_
 have := does_loop (n := n) (v := ((0 : Int), wi (1499 - lenI (List.map idc x.Kids)))) (B := fun recl5 (v : Int × Int) => g_p_Valid_l5 n x recl5 v.1 v.2) (Q := fun v r => r = true → namesB (x.Kids.drop v.1.toNat)) (fun v => x.Kids.length - v.1.toNat) (fun v => ∃ i : Nat, v.1 = (i : Int) ∧ i ≤ x.Kids.length) ?_ ⟨0, rfl, by omega⟩ (by simp only; omega)
 ·exact this
 rintro rec ⟨idx, lf⟩ ⟨i, hi, hil⟩ hrec
 simp only at hi hrec ⊢
 subst hi
 unfold g_p_Valid_l5
 simp only [lenI, List.length_map, ltI]
 by_cases c1 : i < x.Kids.length
 rotate_left
 ·rw [dzF (by omega), cond_false]
  refine does_some fun _ k hk' => ?_
  rw [List.drop_eq_nil_of_le (by simp; omega)] at hk'
  cases hk'
 obtain ⟨y, hy, hty, hd, hof⟩ := kid_at hk c1
 rw [dzT (by omega), cond_true, hy, obs, wi_id (x := (i : Int) + 1) (by omega) (by omega)]
 refine does_bind (pitem_tot hty hn) fun r hr => does_cond (fun _ => does_some (fun h => by cases h)) fun hr1 => ?_
 refine does_mono (hrec ((i : Int) + 1, r.2) ⟨i + 1, by simp, c1⟩ (by simp only; omega)) fun b hb hb1 => ?_
 rw [show ((i : Int)).toNat = i by omega, hd]
 intro k hk' z hz
 rcases List.mem_cons.1 hk' with rfl | hk'
 ·rw [hof, sie] at hz
  subst hz
  exact hr (by simpa using hr1)
 ·exact hb hb1 k (by simpa [show ((i : Int) + 1).toNat = i + 1 by omega] using hk') z hz
theorem drop1 (l : List (List PV)) : List.drop (Int.toNat 1) (List.take (Int.toNat (lenI (List.map idc l))) l) = l.drop 1 := by
 simp only [lenI, List.length_map, show Int.toNat 1 = 1 from rfl, Int.toNat_natCast, List.take_length]
theorem slice1 {l : List (List PV)} (h : l ≠ []) : sliceB3 1 (lenI (List.map idc l)) (lenI (List.map idc l)) (List.length l) = true := by
 have : 0 < l.length := List.length_pos_iff.2 h
 unfold sliceB3 lenI
 rw [List.length_map]
 exact dzT (by omega)
theorem kidsD_drop {e : Nat} {l : List (List PV)} (h : kidsD e l) : kidsD e (l.drop 1) := fun k hk => h k (List.mem_of_mem_drop hk)
theorem kid0 {e : Nat} {l : List (List PV)} (h : kidsD e l) (h0 : l ≠ []) : ∃ y, Option.bind (getI l 0) GNode.of = some y := by
 obtain ⟨y, hy, _⟩ := kid_at (i := 0) h (List.length_pos_iff.2 h0)
 exact ⟨y, hy⟩
theorem len0 (l : List (List PV)) : eqI (lenI (List.map idc l)) 0 = decide (l = []) := by
 rw [eqI_d, lenI, List.length_map]
 cases l
 ·rfl
 ·rw [dzF (by simp only [List.length_cons]; omega), dzF (by intro h; cases h)]
theorem number_tot {n e : Nat} {r : GTr} (h : kidsD e r.values) : Does (g_t_reader_number n r) (fun q => kidsD e q.2.values ∧ q.2.values.length ≤ r.values.length) := by
 unfold g_t_reader_number
 rw [len0]
 by_cases h0 : r.values = []
 ·rw [dzT h0]
  exact does_some ⟨h, Nat.le_refl _⟩
 rw [dzF h0]
 obtain ⟨y, hy⟩ := kid0 h h0
 rw [hy, slice1 h0, drop1]
 simp only [obs, cond_true, cond_false]
 exact does_cond (fun _ => does_some ⟨h, Nat.le_refl _⟩) fun _ => does_some ⟨kidsD_drop h, by simp⟩
theorem word_tot {n e : Nat} {r : GTr} (h : kidsD e r.values) : Does (g_t_reader_word n r) (fun s => s ≠ [] → r.values ≠ []) := by
 unfold g_t_reader_word
 rw [len0]
 by_cases h0 : r.values = []
 ·rw [dzT h0]
  exact does_some fun h => absurd rfl h
 rw [dzF h0]
 obtain ⟨y, hy⟩ := kid0 h h0
 rw [hy]
 simp only [obs, cond_false]
 exact does_cond (fun _ => does_some fun _ => h0) fun _ => does_some fun _ => h0
theorem day_tot (n : Nat) (s : List UInt8) : Does (g_t_dayOf n s) (fun v => v ≠ 0 → s ≠ []) := by
 unfold g_t_dayOf
 simp only [cond_some]
 refine does_some fun h h0 => h ?_
 subst h0
 rfl
theorem dayw_tot {n e : Nat} {r : GTr} (h : kidsD e r.values) {β : Type} {k : Int → Option β} {Q : β → Prop} (hk : ∀ v, (v ≠ 0 → r.values ≠ []) → Does (k v) Q) : Does ((g_t_reader_word n r).bind fun r2 => (g_t_dayOf n r2).bind fun r3 => k r3) Q :=
 does_bind (word_tot h) fun s hs => does_bind (day_tot n s) fun v hv => hk v fun h => hs (hv h)
theorem days_tot {n e : Nat} {r : GTr} (h : kidsD e r.values) (hn : r.values.length < n) : Does (g_t_reader_days n r) (fun q => kidsD e q.2.values ∧ q.2.values.length ≤ r.values.length) := by
 unfold g_t_reader_days
 refine does_bind (Q := fun q => kidsD e q.2.1 ∧ q.2.1.length ≤ r.values.length) ?_ ?_
 ·refine dayw_tot h fun v hv => ?_
  have := does_loop (n := n) (v := ((0 : Int), v, r.values, r.good)) (B := fun recl4 (v : Int × Int × (List (List PV)) × Bool) => g_t_reader_days_l4 n r recl4 v.1 v.2.1 v.2.2.1 v.2.2.2) (Q := fun v q => kidsD e q.2.1 ∧ q.2.1.length ≤ r.values.length) (fun v => v.2.2.1.length) (fun v => kidsD e v.2.2.1 ∧ v.2.2.1.length ≤ r.values.length ∧ (v.2.1 ≠ 0 → v.2.2.1 ≠ [])) ?_ ⟨h, Nat.le_refl _, hv⟩ hn
  ·exact this
  rintro rec ⟨bits, bit, vs, g⟩ ⟨g1, g2, g3⟩ hrec
  simp only at g1 g2 g3 hrec ⊢
  unfold g_t_reader_days_l4
  refine does_cond (fun hb => ?_) fun _ => does_some ⟨g1, g2⟩
  have hb' : bit ≠ 0 := by simpa [eqI_d] using hb
  have hne := g3 hb'
  have hpos : 0 < vs.length := List.length_pos_iff.2 hne
  rw [slice1 hne, drop1]
  refine does_bind (Q := fun _ => True) (does_cond (fun _ => does_some trivial) fun _ => does_some trivial) fun j _ => ?_
  rw [cond_true]
  refine dayw_tot (r := ⟨r.article, vs.drop 1, j⟩) (kidsD_drop g1) fun v hv => ?_
  exact hrec (bOr .i64 bits bit, v, vs.drop 1, j) ⟨kidsD_drop g1, by simp only [List.length_drop]; omega, hv⟩ (by simp only [List.length_drop]; omega)
 ·rintro ⟨b, vs, g⟩ ⟨q1, q2⟩
  exact does_cond (fun _ => does_some ⟨q1, q2⟩) fun _ => does_some ⟨q1, q2⟩
theorem read_tot {n d : Nat} {x : GNode} (ht : treeD d x) (hn : 9223372036854776000 ≤ n) : Tot (g_t_read n x) := by
 obtain ⟨e, rfl, hl, _, hk⟩ := tree_kids ht
 unfold g_t_read g_t_kindOf g_t_isTime g_t_isWhole
 simp only [cond_some, obs]
 refine does_bind (number_tot (e := e) (n := n) hk) ?_
 rintro ⟨v, a, vs, g⟩ ⟨q1, q2⟩
 simp only at q1 q2 ⊢
 refine does_loop (Q := fun _ _ => True) (fun v => v.2.2.2.2.2.2.2.2.1.length) (fun v => kidsD e v.2.2.2.2.2.2.2.2.1 ∧ v.2.2.2.2.2.2.2.2.1.length ≤ x.Kids.length) ?_ ⟨q1, q2⟩ (by simp only; omega)
 clear q1 q2
 rintro rec ⟨l1, l2, l3, l4, l5, l6, l7, l8, vs, g, m1, m2, m3, m4⟩ ⟨q1, q2⟩ hrec
 simp only at q1 q2 hrec ⊢
 unfold g_t_read_l11
 simp only [cond_some, obs]
 refine does_cond (fun hc => ?_) fun _ => ?_
 rotate_left
 ·unfold g_t_read_j8
  simp only [cond_some]
  exact does_some trivial
 have hne : vs ≠ [] := by
  rintro rfl
  cases g
  ·cases hc
  ·simp [lenI, ltI] at hc
 have hpos : 0 < vs.length := List.length_pos_iff.2 hne
 rw [slice1 hne, drop1]
 refine does_bind (word_tot (r := ⟨⟨l2, l3, l4, l5, l6, l7, l8⟩, vs, g⟩) q1) fun w _ => ?_
 have hd : (vs.drop 1).length < vs.length := by rw [List.length_drop]; omega
 have hq := kidsD_drop q1
 simp only [cond_true]
 refine does_cond (fun _ => ?_) fun _ => does_cond (fun _ => ?_) fun _ => does_cond (fun _ => ?_) fun _ => does_cond (fun _ => ?_) fun _ => does_some trivial
 ·refine does_bind (number_tot (n := n) (r := ⟨⟨l2, l3, l4, l5, l6, l7, l8⟩, vs.drop 1, g⟩) hq) ?_
  rintro ⟨v, a, vs', g'⟩ ⟨p1, p2⟩
  simp only at p1 p2 ⊢
  exact hrec _ ⟨p1, by simp only; omega⟩ (by simp only; omega)
 ·refine does_bind (number_tot (n := n) (r := ⟨⟨l2, l3, l4, l5, l6, l7, l8⟩, vs.drop 1, g⟩) hq) ?_
  rintro ⟨v, a, vs', g'⟩ ⟨p1, p2⟩
  simp only at p1 p2 ⊢
  exact hrec _ ⟨p1, by simp only; omega⟩ (by simp only; omega)
 ·refine does_bind (days_tot (n := n) (r := ⟨⟨l2, l3, l4, l5, l6, l7, l8⟩, vs.drop 1, g⟩) hq (by simp only; omega)) ?_
  rintro ⟨v, a, vs', g'⟩ ⟨p1, p2⟩
  simp only at p1 p2 ⊢
  exact hrec _ ⟨p1, by simp only; omega⟩ (by simp only; omega)
 ·refine does_bind (number_tot (n := n) (r := ⟨⟨l2, l3, l4, l5, l6, l7, l8⟩, vs.drop 1, g⟩) hq) ?_
  rintro ⟨v, a, vs', g'⟩ ⟨p1, p2⟩
  simp only at p1 p2 ⊢
  refine does_bind (number_tot (n := n) (r := ⟨⟨a.Kind, a.Days, v, a.To, a.Price, a.Unit, a.Free⟩, vs', g'⟩) p1) ?_
  rintro ⟨v2, a2, vs2, g2⟩ ⟨p3, p4⟩
  simp only at p3 p4 ⊢
  exact hrec _ ⟨p3, by simp only; omega⟩ (by simp only; omega)
end Go.Proofs
namespace Go.Proofs
open Go Go.Abs
set_option maxRecDepth 100000
set_option linter.unusedVariables false
theorem arts_tot {n d : Nat} {x : GNode} (ht : treeD d x) (hn : 9223372036854776000 ≤ n) :
  Does (g_t_articles n x) (fun r => r.1.length ≤ 12 ∧ (r.2.Err = 0 → r.1.length = x.Kids.length ∧ tarB 0 r.1 = true)) := by
 obtain ⟨e, rfl, hl, _, hk⟩ := tree_kids ht
 unfold g_t_articles
 have := does_loop (n := n) (v := (([] : List GAr), false, (0 : Int))) (B := fun recl1 (v : (List GAr) × Bool × Int) => g_t_articles_l1 n x recl1 v.1 v.2.1 v.2.2) (Q := fun v r => r.1.length ≤ 12 ∧ (r.2.Err = 0 → r.1.length = x.Kids.length ∧ tarB 0 r.1 = true)) (fun v => x.Kids.length - v.2.2.toNat)
  (fun v => v.1.length ≤ 12 ∧ v.2.2 = (v.1.length : Int) ∧ v.1.length ≤ x.Kids.length ∧ ∀ r, tarB 0 (v.1 ++ r) = tarB (cond v.2.1 1 0) r) ?_ ⟨by simp, rfl, by simp, fun r => rfl⟩ (by simp only; omega)
 ·exact this
 rintro rec ⟨out, tax, idx⟩ ⟨g1, g2, g3, g4⟩ hrec
 simp only at g1 g2 g3 g4 hrec ⊢
 subst g2
 unfold g_t_articles_l1
 simp only [lenI, List.length_map, ltI]
 by_cases c1 : out.length < x.Kids.length
 rotate_left
 ·rw [dzF (by omega), cond_false]
  refine does_some ⟨g1, fun _ => ⟨by simp only; omega, ?_⟩⟩
  have := g4 []
  rw [List.append_nil] at this
  rw [this]
  cases tax <;> rfl
 obtain ⟨y, hy, hty, _⟩ := kid_at hk c1
 rw [dzT (by omega), cond_true, hy, obs]
 refine does_cond (fun _ => does_some ⟨by simp, fun h => by cases h⟩) fun _ => does_cond (fun _ => does_some ⟨by simp, fun h => by cases h⟩) fun h12 => ?_
 have h12 : out.length < 12 := by
  rw [eqI_d] at h12
  have := of_decide_eq_false h12
  omega
 refine does_bind (read_tot hty hn) fun r _ => does_cond (fun _ => does_some ⟨by simp, fun h => by cases h⟩) fun _ => ?_
 rw [b_article, obs]
 refine does_cond (fun _ => does_some ⟨by simp, fun h => by cases h⟩) fun hA => ?_
 have hA : artB r.1 = true := by simpa using hA
 have hroom : roomB (out ++ [r.1]).length 56 = true := by unfold roomB; rw [List.length_append]; exact dzT (by simp; omega)
 rw [hroom, wi_id (x := (out.length : Int) + 1) (by omega) (by omega)]
 simp only [cond_some, obs, cond_true]
 have hnext : ∀ t' : Bool, (cond t' 1 0 = if r.1.Kind = 6 then (cond tax 1 0 : Int) + 1 else cond tax 1 0) → Does (rec (out ++ [r.1], t', (out.length : Int) + 1)) (fun r => r.1.length ≤ 12 ∧ (r.2.Err = 0 → r.1.length = x.Kids.length ∧ tarB 0 r.1 = true)) := by
  intro t' ht'
  refine hrec _ ⟨by simp; omega, by simp, by simp; omega, fun q => ?_⟩ (by simp only; omega)
  simp only
  rw [List.append_assoc, g4, List.singleton_append, tarB, hA, Bool.true_and, ← ht']
 cases tax
 ·simp only [cond_false]
  rw [show (bif eqI r.1.Kind 6 then false else false) = false from by cases eqI r.1.Kind 6 <;> rfl, cond_false]
  refine hnext _ ?_
  rw [eqI_d]
  by_cases h : r.1.Kind = 6
  ·simp [h]
  ·simp [h]
 ·simp only [cond_true]
  by_cases h : r.1.Kind = 6
  ·rw [show eqI r.1.Kind 6 = true from by rw [eqI_d]; exact dzT h]
   exact does_some ⟨by simp, fun h => by cases h⟩
  ·rw [show eqI r.1.Kind 6 = false from by rw [eqI_d]; exact dzF h]
   exact hnext _ (by rw [if_neg h])
def relT : List (List PV) → List (List UInt8 × Bool) → Int → List GTf → Prop
 | [], _, k, ts => ts = [] ∧ k ≤ 8
 | c :: r, m, k, ts => ∃ x, GNode.of c = some x ∧ (x.N ≠ 7 → relT r m k ts) ∧ (x.N = 7 → mgetD me_msb x.Name false m = false ∧ ∃ t ts', ts = t :: ts' ∧ t.Name = x.Name ∧ t.Articles.length = x.Kids.length ∧ tariffB t = true ∧ relT r (mset me_msb x.Name true m) (k + 1) ts')
theorem build_tot {n d : Nat} {x : GNode} (ht : treeD d x) (hn : 9223372036854776000 ≤ n) :
  Does (g_t_Build n x) (fun r => (r.2 = [] → relT x.Kids [] 0 r.1 ∧ r.1.length ≤ 28) ∧ (r.2 ≠ [] → r.1 = [] ∧ r.2.length ≤ 20)) := by
 have ht' := ht
 obtain ⟨e, rfl, hl, _, hk⟩ := tree_kids ht
 unfold g_t_Build
 refine does_bind (pvalid_tot ht' hn) fun ok hok => does_cond (fun _ => does_some ⟨fun h => (by cases h), fun _ => ⟨rfl, by simp⟩⟩) fun hok1 => ?_
 have hnames : namesB x.Kids := hok (by simpa using hok1)
 refine does_bind (Q := fun r => r.2.length ≤ 20 ∧ r.1.length ≤ 28 ∧ (r.2 = [] → relT x.Kids [] 0 r.1)) ?_ ?_
 rotate_left
 ·rintro ⟨l, dg⟩ ⟨q1, q2, q3⟩
  simp only at q1 q2 q3 ⊢
  refine does_cond (fun h => does_some ⟨fun h0 => ?_, fun _ => ⟨rfl, q1⟩⟩) fun h => does_some ⟨fun _ => ⟨q3 ?_, q2⟩, fun h0 => absurd rfl h0⟩
  ·simp only at h0
   subst h0
   cases h
  ·cases dg with
   | nil => rfl
   | cons a r => simp [ltI, lenI] at h
 have := does_loop (n := n) (v := (([] : List GTf), ([] : List GDg), (0 : Int), (0 : Int), ([] : List (List UInt8 × Bool)))) (B := fun recl3 (v : (List GTf) × (List GDg) × Int × Int × (List ((List UInt8) × Bool))) => g_t_Build_l3 n x recl3 v.1 v.2.1 v.2.2.1 v.2.2.2.1 v.2.2.2.2)
  (Q := fun v r => r.2.length ≤ 20 ∧ r.1.length ≤ 28 ∧ (v.2.1 ≠ [] → r.2 ≠ []) ∧ (r.2 = [] → ∃ ts, r.1 = v.1 ++ ts ∧ relT (x.Kids.drop v.2.2.2.1.toNat) v.2.2.2.2 v.2.2.1 ts)) (fun v => x.Kids.length - v.2.2.2.1.toNat)
  (fun v => v.2.2.1 = (v.1.length : Int) ∧ v.1.length ≤ 8 + v.2.1.length ∧ v.2.1.length ≤ 19 ∧ ∃ i : Nat, v.2.2.2.1 = (i : Int) ∧ i ≤ x.Kids.length) ?_ ⟨rfl, by simp, by simp, 0, rfl, by omega⟩ (by simp only; omega)
 ·refine does_mono this ?_
  rintro r ⟨q1, q2, q3, q4⟩
  refine ⟨q1, q2, fun h => ?_⟩
  obtain ⟨ts, e1, e2⟩ := q4 h
  simp only [List.nil_append] at e1
  rw [e1]
  exact e2
 rintro rec ⟨out, dg, k, idx, m⟩ ⟨g1, g2, g3, i, hi, hil⟩ hrec
 simp only at g1 g2 g3 hi hrec ⊢
 subst hi g1
 unfold g_t_Build_l3
 simp only [lenI, List.length_map, ltI]
 by_cases c1 : i < x.Kids.length
 rotate_left
 ·rw [dzF (by omega), cond_false]
  refine does_some ⟨by simp only; omega, by simp only; omega, fun h => h, fun h => ⟨[], by simp, ?_⟩⟩
  simp only at h
  subst h
  rw [List.drop_eq_nil_of_le (by omega)]
  exact ⟨rfl, by simp at g2; omega⟩
 obtain ⟨y, hy, hty, hd, hof⟩ := kid_at hk c1
 have hname : nameB y.Name = true := hnames _ (List.getElem_mem c1) y hof
 generalize x.Kids[i]'c1 = c at hd hof
 rw [dzT (by omega), cond_true, hy, obs, wi_id (x := (i : Int) + 1) (by omega) (by omega), show ((i : Int)).toNat = i by omega, hd]
 have hi1 : ((i : Int) + 1).toNat = i + 1 := by omega
 by_cases h7 : y.N = 7
 rotate_left
 ·rw [eqI_d, dzF h7]
  simp only [Bool.not_false, cond_true]
  refine does_mono (hrec (out, dg, (out.length : Int), (i : Int) + 1, m) ⟨rfl, g2, g3, i + 1, by simp, c1⟩ (by simp only; omega)) ?_
  rintro r ⟨q1, q2, q3, q4⟩
  simp only [hi1] at q3 q4
  refine ⟨q1, q2, q3, fun h => ?_⟩
  obtain ⟨ts, e1, e2⟩ := q4 h
  exact ⟨ts, e1, y, hof, fun _ => e2, fun h => absurd h h7⟩
 rw [eqI_d, dzT h7]
 simp only [Bool.not_true, cond_false]
 refine does_bind (Q := fun q => q.1.length ≤ 12 ∧ (8 ≤ out.length → q.2.1 ≠ 0) ∧ (q.2.1 = 0 → mgetD me_msb y.Name false m = false ∧ q.1.length = y.Kids.length ∧ tarB 0 q.1 = true)) ?_ ?_
 ·refine does_cond (fun _ => does_some ⟨by simp, fun _ => (show (5 : Int) ≠ 0 by decide), fun h => by cases h⟩) fun hm => does_cond (fun _ => does_some ⟨by simp, fun _ => (show (2 : Int) ≠ 0 by decide), fun h => by cases h⟩) fun h8 => ?_
  refine does_bind (arts_tot hty hn) fun r hr => does_some ⟨hr.1, fun h => ?_, fun h => ⟨hm, hr.2 h⟩⟩
  rw [leI] at h8
  have := of_decide_eq_false h8
  omega
 rintro ⟨arts, err, at_⟩ ⟨p1, p2, p3⟩
 simp only at p1 p2 p3 ⊢
 have hstep : ∀ dg' : List GDg, dg'.length ≤ 20 → (dg ≠ [] → dg' ≠ []) → (8 ≤ out.length → dg'.length = dg.length + 1) → dg.length ≤ dg'.length → (dg' = [] → mgetD me_msb y.Name false m = false ∧ arts.length = y.Kids.length ∧ tarB 0 arts = true) →
   Does (cond (eqI ((dg'.length : Nat) : Int) 20) (some (out, dg')) (cond (roomB (List.length (out ++ [(⟨y.Name, arts⟩ : GTf)])) 40) (rec (out ++ [(⟨y.Name, arts⟩ : GTf)], dg', wi ((out.length : Int) + 1), (i : Int) + 1, mset me_msb y.Name true m)) none))
    (fun r => r.2.length ≤ 20 ∧ r.1.length ≤ 28 ∧ (dg ≠ [] → r.2 ≠ []) ∧ (r.2 = [] → ∃ ts, r.1 = out ++ ts ∧ relT (c :: List.drop (i + 1) x.Kids) m (out.length : Int) ts)) := by
  intro dg' k1 k2 k3 k4 k5
  refine does_cond (fun h20 => ?_) fun h20 => ?_
  ·rw [eqI_d] at h20
   have h20 := of_decide_eq_true h20
   refine does_some ⟨k1, by simp only; omega, k2, fun h => ?_⟩
   simp only at h
   rw [h] at h20
   simp at h20
  rw [eqI_d] at h20
  have h20 := of_decide_eq_false h20
  have hlen : (out ++ [(⟨y.Name, arts⟩ : GTf)]).length = out.length + 1 := by simp
  have hroom : roomB (out ++ [(⟨y.Name, arts⟩ : GTf)]).length 40 = true := by unfold roomB; rw [hlen]; exact dzT (by omega)
  rw [hroom, cond_true, wi_id (x := (out.length : Int) + 1) (by omega) (by omega)]
  refine does_mono (hrec (out ++ [⟨y.Name, arts⟩], dg', (out.length : Int) + 1, (i : Int) + 1, mset me_msb y.Name true m) ⟨by simp, by simp only [hlen]; omega, by simp only; omega, i + 1, by simp, c1⟩ (by simp only; omega)) ?_
  rintro r ⟨q1, q2, q3, q4⟩
  simp only [hi1] at q3 q4
  refine ⟨q1, q2, fun h => q3 (k2 h), fun h => ?_⟩
  obtain ⟨ts, e1, e2⟩ := q4 h
  have hdg : dg' = [] := by
   by_cases h0 : dg' = []
   ·exact h0
   ·exact absurd h (q3 h0)
  obtain ⟨m1, m2, m3⟩ := k5 hdg
  refine ⟨⟨y.Name, arts⟩ :: ts, by rw [e1, List.append_assoc]; rfl, y, hof, fun h => absurd h7 h, fun _ => ⟨m1, ⟨y.Name, arts⟩, ts, rfl, rfl, m2, ?_, e2⟩⟩
  unfold tariffB
  simp only
  rw [hname, m3, dzT p1]
  rfl
 by_cases he : err = 0
 ·rw [eqI_d, dzT he]
  simp only [Bool.not_true, cond_false, obs]
  refine hstep dg (by omega) (fun h => h) (fun h => absurd he (p2 h)) (Nat.le_refl _) fun _ => p3 he
 ·rw [eqI_d, dzF he]
  have hroom : roomB (dg ++ [(⟨err, at_⟩ : GDg)]).length 16 = true := by unfold roomB; rw [List.length_append]; exact dzT (by simp; omega)
  rw [hroom]
  simp only [Bool.not_false, cond_true, obs]
  refine hstep (dg ++ [⟨err, at_⟩]) (by simp; omega) (fun _ => by simp) (fun _ => by simp) (by simp) fun h => by simp at h
theorem built_loop {n d : Nat} {x : GNode} (hl : x.Kids.length ≤ 9223372036854775807) (hn : 9223372036854776000 ≤ n) (L : List GTf) (dg : List GDg) (hL : L.length ≤ 28) (h : relT x.Kids [] 0 L) :
  Does (loopN (fun recl10 (v : Int × Int × (List ((List UInt8) × Bool))) => g_law32_TariffBuilt_l10 n x true (L, dg) recl10 v.1 v.2.1 v.2.2) n (0, 0, [])) (fun r => r = true) := by
 refine does_loop (Q := fun _ r => r = true) (fun v => x.Kids.length - v.2.1.toNat)
  (fun v => ∃ (i : Nat) (pre ts : List GTf), v.2.1 = (i : Int) ∧ i ≤ x.Kids.length ∧ L = pre ++ ts ∧ v.1 = (pre.length : Int) ∧ relT (x.Kids.drop i) v.2.2 v.1 ts) ?_ ⟨0, [], L, rfl, by omega, rfl, rfl, by simpa using h⟩ (by simp only; omega)
 rintro rec ⟨k, idx, m⟩ ⟨i, pre, ts, hi, hil, hLe, hk, hr⟩ hrec
 simp only at hi hk hr hrec ⊢
 subst hi hk
 have hLl : L.length = pre.length + ts.length := by rw [hLe, List.length_append]
 unfold g_law32_TariffBuilt_l10
 simp only [lenI, List.length_map, ltI]
 by_cases c1 : i < x.Kids.length
 rotate_left
 ·rw [dzF (by omega), cond_false]
  rw [List.drop_eq_nil_of_le (by omega)] at hr
  obtain ⟨rfl, h8⟩ := hr
  unfold g_law32_TariffBuilt_j7
  simp only [lenI, List.length_map, cond_true, eqI_d, leI]
  rw [dzT (by simp at hLl; omega), cond_true, dzT h8]
  exact does_some rfl
 rw [List.drop_eq_getElem_cons c1] at hr
 obtain ⟨y, hof, hr1, hr2⟩ := hr
 rw [dzT (by omega), cond_true, getI_nat, List.getElem?_eq_getElem c1, obs, hof, obs, wi_id (x := (i : Int) + 1) (by omega) (by omega)]
 by_cases h7 : y.N = 7
 rotate_left
 ·rw [eqI_d, dzF h7]
  simp only [Bool.not_false, cond_true]
  exact hrec ((pre.length : Int), (i : Int) + 1, m) ⟨i + 1, pre, ts, by simp, c1, hLe, rfl, hr1 h7⟩ (by simp only; omega)
 obtain ⟨hm, t, ts', rfl, e1, e2, e3, e4⟩ := hr2 h7
 simp only [List.length_cons] at hLl
 have hget : getI L (pre.length : Int) = some t := by
  rw [getI_nat, hLe, List.getElem?_append_right (Nat.le_refl _), Nat.sub_self]
  rfl
 rw [eqI_d, dzT h7, hget, leI, dzF (show ¬ (L.length : Int) ≤ (pre.length : Int) by omega)]
 simp only [Bool.not_true, cond_false, obs]
 rw [e1, show eqS y.Name y.Name = true from by simp [eqS], eqI_d, dzT (show (t.Articles.length : Int) = (y.Kids.length : Int) by omega), hm, b_tariff n t (by omega), e3, wi_id (x := (pre.length : Int) + 1) (by omega) (by omega)]
 simp only [Bool.not_true, cond_false, obs]
 exact hrec ((pre.length : Int) + 1, (i : Int) + 1, mset me_msb y.Name true m) ⟨i + 1, pre ++ [t], ts', by simp, c1, by rw [List.append_assoc]; exact hLe, by simp, e4⟩ (by simp only; omega)
theorem built_gen {n d : Nat} {x : GNode} (ht : treeD d x) (hn : 9223372036854776000 ≤ n) (hh : g_law32_head n = some true) : Does (g_law32_TariffBuilt n x) (fun r => r = true) := by
 have ht' := ht
 obtain ⟨e, rfl, hl, _, hk⟩ := tree_kids ht
 unfold g_law32_TariffBuilt
 rw [hh, obs]
 refine does_bind (usable_tot ht' hn) fun u _ => does_cond (fun _ => does_some rfl) fun _ => ?_
 refine does_bind (build_tot ht' hn) ?_
 rintro ⟨l, dg⟩ ⟨q1, q2⟩
 simp only at q1 q2 ⊢
 refine does_cond (fun h => ?_) fun h => ?_
 ·have hne : dg ≠ [] := by rintro rfl; cases h
  obtain ⟨rfl, h20⟩ := q2 hne
  rw [show eqI (lenI (List.map GTf.cs [])) 0 = true from rfl]
  simp only [cond_true, obs, lenI, List.length_map, leI]
  rw [dzT (by omega)]
  exact does_some rfl
 ·have he : dg = [] := by
   cases dg with
   | nil => rfl
   | cons a r => simp [ltI, lenI] at h
  subst he
  obtain ⟨hr, h28⟩ := q1 rfl
  exact built_loop (d := e) hl hn l [] h28 hr
theorem built32_plain {d : Nat} {x : GNode} (ht : treeD d x) : g_law32_TariffBuilt 36893488147419103232 x = some true := by
 have hN : (36893488147419103232 : Nat) = N0 := rfl
 have hh : g_law32_head N0 = some true := head32_big
 have h1 : 9223372036854776000 ≤ N0 := by unfold N0; omega
 rw [hN]
 generalize N0 = n at hh h1 ⊢
 obtain ⟨r, e, rfl⟩ := built_gen ht h1 hh
 exact e
end Go.Proofs
namespace Go.Proofs.YtkgamjjfjekgnaaGreat
open Go Go.Abs Go.Proofs
theorem tree_of : ∀ (d : Nat) (x : GNode), GNode.wfd d x → treeD d x
 | 0, _, h => h.elim
 | d + 1, x, h => by
  obtain ⟨h0, h1, h2, h3, h4⟩ := h
  exact ⟨h0, h2, h3, h1, h4.1, fun k hk => by
   obtain ⟨y, e, g⟩ := h4.2 k hk
   exact ⟨y, by rw [e]; exact of_cs' _ _ _ _ _, tree_of d y g⟩⟩
theorem tariffBuilt_holds : Rows.TariffBuiltSaid :=
 tariffBuilt_said (fun x h => by
  obtain ⟨d, h⟩ := h
  exact ⟨_, built32_plain (tree_of d x h)⟩)
end Go.Proofs.YtkgamjjfjekgnaaGreat
