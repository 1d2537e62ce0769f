/-
  Proved: LoopholeFree. If time costs something for each minute after at least one free minute, on all days and at all times, and nothing else costs anything, every session that lasts longer than the free minutes has a loophole: dividing it before its second minute. No conditions beyond those of the given statement.
-/
import Derived.Test.YtfkhnaogcahcoaaFre04
namespace Go.Proofs
open Go Go.Abs
set_option maxRecDepth 100000
set_option linter.unusedVariables false
theorem b_tariff (n : Nat) (t : GTariff) (hn : 1000 ≤ n) : g_tariff_Valid n t = some (tariffB t) := by
 unfold g_tariff_Valid tariffB
 rw [b_parser n t.Name hn]
 simp only [Option.bind_some, cond_some, lenI, List.length_map, ltI]
 cases hname : nameB t.Name
 ·rfl
 by_cases h2 : t.Articles.length ≤ 12
 rotate_left
 ·rw [decide_eq_true (show (12 : Int) < t.Articles.length by omega), decide_eq_false h2]; rfl
 rw [decide_eq_false (show ¬ (12 : Int) < t.Articles.length by omega), decide_eq_true h2]
 simp only [Bool.not_true, cond_false, Bool.true_and]
 have := loop_gen (l := t.Articles) (fun (a : Int) i => (a, i)) (B := fun recl4 (v : Int × Int) => g_tariff_Valid_l4 n t recl4 v.1 v.2) (F := tarB) (fun i a => 0 ≤ a ∧ a ≤ i) (by omega) ?_ ?_ (n := n) 0 0 (by omega) (by omega) (by omega)
 ·exact this
 ·intro rec a ha
  simp only [g_tariff_Valid_l4, lenI, List.length_map, ltI, leI]
  rw [decide_eq_false (by omega), cond_false]
  rfl
 ·intro rec a i x r ha hd hx hi hw hr
  simp only [g_tariff_Valid_l4, lenI, List.length_map, ltI, getI_nat, hx, Option.bind_some, b_article, hw, eqI_d]
  rw [decide_eq_true (by omega), cond_true, tarB]
  cases hb : artB x
  ·rfl
  ·have hw2 : wi (a + 1) = a + 1 := wi_id (by omega) (by omega)
   simp only [Bool.not_true, cond_false, Bool.true_and]
   by_cases h6 : x.Kind = 6
   ·rw [decide_eq_true h6, cond_true, if_pos h6, hw2, hr _ (by omega)]
   ·rw [decide_eq_false h6, cond_false, if_neg h6, hr _ (by omega)]
def chK : Int → List GChange → Bool
 | _, [] => true
 | a, x :: r => decide (a < x.At ∧ x.At ≤ 52560000) && chK x.At r
def chO (l : List GChange) : Bool := l.all (fun x => decide (-1440 ≤ x.Offset ∧ x.Offset ≤ 1440))
theorem chgB_KO : ∀ (l : List GChange) (a : Int), chgB a l = (chO l && chK a l)
 | [], _ => rfl
 | x :: r, a => by
  unfold chgB chK
  rw [chgB_KO r x.At, show chO (x :: r) = (decide (-1440 ≤ x.Offset ∧ x.Offset ≤ 1440) && chO r) from List.all_cons]
  by_cases c1 : a < x.At ∧ x.At ≤ 52560000
  ·by_cases c2 : -1440 ≤ x.Offset ∧ x.Offset ≤ 1440
   ·rw [decide_eq_true (show a < x.At ∧ x.At ≤ 52560000 ∧ -1440 ≤ x.Offset ∧ x.Offset ≤ 1440 by omega), decide_eq_true c1, decide_eq_true c2]; rfl
   ·rw [decide_eq_false (show ¬ (a < x.At ∧ x.At ≤ 52560000 ∧ -1440 ≤ x.Offset ∧ x.Offset ≤ 1440) by omega), decide_eq_false c2]; rfl
  ·rw [decide_eq_false (show ¬ (a < x.At ∧ x.At ≤ 52560000 ∧ -1440 ≤ x.Offset ∧ x.Offset ≤ 1440) by omega), decide_eq_false c1]
   simp
theorem b_dinside (n : Nat) (x a b : Int) : g_days_inside n x a b = some (decide (a ≤ x ∧ x ≤ b)) := by
 unfold g_days_inside leI
 by_cases h : a ≤ x <;> simp [h]
theorem b_listC (n : Nat) (l : List GChange) (hn : 1000 ≤ n) (hl : l.length ≤ 900) : g_dv_api_Change n l 52560000 = some (chK (-1) l) := by
 unfold g_dv_api_Change
 have := loop_acc (l := l) (B := fun recl1 (v : Int × Int) => g_dv_api_Change_l1 n l 52560000 recl1 v.1 v.2) (F := chK) (by omega) ?_ ?_ (n := n) 0 (-1) (by omega) (by omega)
 ·exact this
 ·intro rec a; simp [g_dv_api_Change_l1, ltI, lenI, chK]
 ·intro rec a i x r hd hx hi hw hr
  simp only [g_dv_api_Change_l1, g_days_keys_1, lenI, List.length_map, getI_nat, hx, Option.bind_some, hw, hr, ltI, leI, chK, cond_some]
  rw [decide_eq_true (by omega), cond_true]
  by_cases h1 : x.At ≤ a
  ·rw [decide_eq_true h1, decide_eq_false (show ¬ (a < x.At ∧ x.At ≤ 52560000) by omega)]; rfl
  ·rw [decide_eq_false h1]
   by_cases h2 : 52560000 < x.At
   ·rw [decide_eq_true h2, decide_eq_false (show ¬ (a < x.At ∧ x.At ≤ 52560000) by omega)]; rfl
   ·rw [decide_eq_false h2, decide_eq_true (show a < x.At ∧ x.At ≤ 52560000 by omega)]; rfl
theorem b_listI (n : Nat) (l : List Int) (hn : 1000 ≤ n) (hl : l.length ≤ 900) : g_dv_int n l 36500 = some (holB (-1) l) := by
 unfold g_dv_int
 have := loop_acc (l := l) (B := fun recl1 (v : Int × Int) => g_dv_int_l1 n l 36500 recl1 v.1 v.2) (F := holB) (by omega) ?_ ?_ (n := n) 0 (-1) (by omega) (by omega)
 ·exact this
 ·intro rec a; simp [g_dv_int_l1, ltI, lenI, holB]
 ·intro rec a i x r hd hx hi hw hr
  simp only [g_dv_int_l1, g_days_keys_2, lenI, List.length_map, getI_nat, hx, Option.bind_some, hw, hr, ltI, leI, holB, cond_some]
  rw [decide_eq_true (by omega), cond_true]
  by_cases h1 : x ≤ a
  ·rw [decide_eq_true h1, decide_eq_false (show ¬ (a < x ∧ x ≤ 36500) by omega)]; rfl
  ·rw [decide_eq_false h1]
   by_cases h2 : 36500 < x
   ·rw [decide_eq_true h2, decide_eq_false (show ¬ (a < x ∧ x ≤ 36500) by omega)]; rfl
   ·rw [decide_eq_false h2, decide_eq_true (show a < x ∧ x ≤ 36500 by omega)]; rfl
theorem b_cal (n : Nat) (c : GCalendar) (hn : 1000 ≤ n) (h1 : c.Changes.length ≤ 900) (h2 : c.Holidays.length ≤ 900) : g_days_Valid n c = some (calB c) := by
 have key : loopN (fun recl9 l9 => g_days_Valid_l9 n c recl9 l9) n 0 = some (chO c.Changes && (chK (-1) c.Changes && holB (-1) c.Holidays)) := by
  have := loop_list (l := c.Changes) (B := fun recl9 l9 => g_days_Valid_l9 n c recl9 l9) (F := fun r => chO r && (chK (-1) c.Changes && holB (-1) c.Holidays)) (by omega) ?_ ?_ (n := n) 0 (by omega) (by omega)
  ·exact this
  ·intro rec
   simp only [g_days_Valid_l9, g_days_Valid_j5, lenI, List.length_map, ltI, b_listC n _ hn h1, b_listI n _ hn h2, Option.bind_some, cond_some]
   rw [decide_eq_false (by omega), cond_false]
   cases chK (-1) c.Changes <;> rfl
  ·intro rec i x r hd hx hi hw hr
   simp only [g_days_Valid_l9, lenI, List.length_map, getI_nat, hx, Option.bind_some, hw, hr, ltI, b_dinside]
   rw [decide_eq_true (by omega), cond_true, show chO (x :: r) = (decide (-1440 ≤ x.Offset ∧ x.Offset ≤ 1440) && chO r) from List.all_cons]
   cases decide (-1440 ≤ x.Offset ∧ x.Offset ≤ 1440) <;> rfl
 unfold g_days_Valid calB
 rw [key, chgB_KO]
 simp only [b_dinside, Option.bind_some, cond_some, lenI, List.length_map, ltI]
 by_cases c1 : c.Changes.length ≤ 16
 rotate_left
 ·rw [decide_eq_true (show (16 : Int) < c.Changes.length by omega), decide_eq_false c1]; simp
 rw [decide_eq_false (show ¬ (16 : Int) < c.Changes.length by omega), decide_eq_true c1]
 by_cases c2 : c.Holidays.length ≤ 32
 rotate_left
 ·rw [decide_eq_true (show (32 : Int) < c.Holidays.length by omega), decide_eq_false c2]; simp
 rw [decide_eq_false (show ¬ (32 : Int) < c.Holidays.length by omega), decide_eq_true c2]
 generalize decide (-1440 ≤ c.Offset ∧ c.Offset ≤ 1440) = b0
 generalize chO c.Changes = b1
 generalize chK (-1) c.Changes = b2
 generalize holB (-1) c.Holidays = b3
 cases b0 <;> cases b1 <;> cases b2 <;> cases b3 <;> rfl
end Go.Proofs
namespace Go.Proofs
open Go Go.Abs
set_option maxRecDepth 100000
set_option linter.unusedVariables false
theorem chK_lt : ∀ (l : List GChange) (a : Int), chK a l = true → (∀ x ∈ l, a < x.At) ∧ l.Pairwise (fun x y => x.At < y.At)
 | [], _, _ => ⟨(fun x h => by cases h), List.Pairwise.nil⟩
 | x :: r, a, h => by
  simp only [chK, Bool.and_eq_true, decide_eq_true_eq] at h
  obtain ⟨h1, h2⟩ := chK_lt r x.At h.2
  refine ⟨fun y hy => ?_, List.pairwise_cons.2 ⟨h1, h2⟩⟩
  rcases List.mem_cons.1 hy with rfl | hy
  ·exact h.1.1
  ·have := h1 y hy; omega
theorem holB_lt : ∀ (l : List Int) (a : Int), holB a l = true → (∀ x ∈ l, a < x) ∧ l.Pairwise (fun x y => x < y)
 | [], _, _ => ⟨(fun x h => by cases h), List.Pairwise.nil⟩
 | x :: r, a, h => by
  simp only [holB, Bool.and_eq_true, decide_eq_true_eq] at h
  obtain ⟨h1, h2⟩ := holB_lt r x h.2
  refine ⟨fun y hy => ?_, List.pairwise_cons.2 ⟨h1, h2⟩⟩
  rcases List.mem_cons.1 hy with rfl | hy
  ·exact h.1.1
  ·have := h1 y hy; omega
structure LastOf {α : Type} (key : α → Int) (l : List α) (m r : Int) : Prop where
 lo : -1 ≤ r
 hi : r < l.length
 le : ∀ (i : Nat) (x : α), (i : Int) ≤ r → l[i]? = some x → key x ≤ m
 gt : ∀ (i : Nat) (x : α), r < (i : Int) → l[i]? = some x → m < key x
theorem last_gen {α : Type} {key : α → Int} {l : List α} {m : Int} {B : (Int × Int → Option Int) → Int × Int → Option Int} (hl : l.length ≤ 900) (hs : l.Pairwise (fun x y => key x < key y))
  (hB : ∀ rec lo hi, B rec (lo, hi) = cond (ltI lo hi) ((getI l (wi (lo + wi (Int.tdiv (wi (wi (hi - lo) + 1)) 2)))).bind fun x => cond (leI (key x) m) (rec (wi (lo + wi (Int.tdiv (wi (wi (hi - lo) + 1)) 2)), hi)) (rec (lo, wi (wi (lo + wi (Int.tdiv (wi (wi (hi - lo) + 1)) 2)) - 1)))) (some lo))
  {n : Nat} (hn : 1000 ≤ n) : Does (loopN B n (-1, (l.length : Int) - 1)) (LastOf key l m) := by
 have := does_loop (B := B) (Q := fun _ r => LastOf key l m r) (fun v => (v.2 - v.1).toNat) (fun v => -1 ≤ v.1 ∧ v.1 ≤ v.2 ∧ v.2 < l.length ∧ (∀ (i : Nat) (x : α), (i : Int) ≤ v.1 → l[i]? = some x → key x ≤ m) ∧ (∀ (i : Nat) (x : α), v.2 < (i : Int) → l[i]? = some x → m < key x)) ?_ (n := n) (v := (-1, (l.length : Int) - 1)) ⟨by simp, by simp; omega, by simp; omega, fun i x h => by simp only at h; omega, fun i x h hx => by
  have := (List.getElem?_eq_some_iff.1 hx).1
  simp only at h
  omega⟩ (by simp only; omega)
 ·exact this
 ·rintro rec ⟨lo, hi⟩ ⟨h1, h2, h3, h4, h5⟩ ih
  simp only at h1 h2 h3 h4 h5 ih
  rw [hB]
  by_cases hlt : lo < hi
  rotate_left
  ·rw [show ltI lo hi = false from by simp only [ltI]; rw [decide_eq_false hlt], cond_false]
   exact does_some ⟨h1, by omega, h4, fun i x hi' hx => h5 i x (by omega) hx⟩
  rw [show ltI lo hi = true from by simp only [ltI]; rw [decide_eq_true hlt], cond_true]
  rw [wi_id (x := hi - lo) (by omega) (by omega), wi_id (x := hi - lo + 1) (by omega) (by omega), Int.tdiv_eq_ediv_of_nonneg (by omega), wi_id (x := (hi - lo + 1) / 2) (by omega) (by omega), wi_id (x := lo + (hi - lo + 1) / 2) (by omega) (by omega), wi_id (x := lo + (hi - lo + 1) / 2 - 1) (by omega) (by omega)]
  generalize hmid : lo + (hi - lo + 1) / 2 = mid
  have hm : lo < mid ∧ mid ≤ hi := by omega
  obtain ⟨j, rfl⟩ : ∃ j : Nat, mid = (j : Int) := ⟨mid.toNat, by omega⟩
  have hx : l[j]? = some (l[j]'(by omega)) := by rw [List.getElem?_eq_getElem]
  generalize l[j]'(by omega) = x at hx
  rw [getI_nat, hx, Option.bind_some]
  refine does_cond (fun hc => ?_) (fun hc => ?_)
  ·simp only [leI, decide_eq_true_eq] at hc
   refine ih (j, hi) ⟨by simp only; omega, by simp only; omega, h3, fun i y hi' hy => ?_, h5⟩ (by simp only; omega)
   simp only at hi'
   by_cases e : i = j
   ·subst e
    rw [hx] at hy; cases hy
    exact hc
   ·have hij : i < j := by omega
    have hy' := List.getElem?_eq_some_iff.1 hy
    have hx' := List.getElem?_eq_some_iff.1 hx
    have := List.pairwise_iff_getElem.1 hs i j hy'.1 hx'.1 hij
    rw [hy'.2, hx'.2] at this
    omega
  ·simp only [leI, decide_eq_false_iff_not] at hc
   refine ih (lo, (j : Int) - 1) ⟨h1, by simp only; omega, by simp only; omega, h4, fun i y hi' hy => ?_⟩ (by simp only; omega)
   simp only at hi'
   by_cases e : i = j
   ·subst e
    rw [hx] at hy; cases hy
    omega
   ·have hij : j < i := by omega
    have hy' := List.getElem?_eq_some_iff.1 hy
    have hx' := List.getElem?_eq_some_iff.1 hx
    have := List.pairwise_iff_getElem.1 hs j i hx'.1 hy'.1 hij
    rw [hy'.2, hx'.2] at this
    omega
theorem b_lastC (n : Nat) (l : List GChange) (m : Int) (hn : 1000 ≤ n) (hl : l.length ≤ 900) (hs : chK (-1) l = true) : Does (g_days_last_api_Change n l m) (LastOf GChange.At l m) := by
 unfold g_days_last_api_Change
 simp only [lenI, List.length_map]
 rw [wi_id (x := (l.length : Int) - 1) (by omega) (by omega)]
 exact last_gen (B := fun recl1 (v : Int × Int) => g_days_last_api_Change_l1 n l m recl1 v.1 v.2) hl (chK_lt l _ hs).2 (fun rec lo hi => rfl) hn
theorem b_lastI (n : Nat) (l : List Int) (m : Int) (hn : 1000 ≤ n) (hl : l.length ≤ 900) (hs : holB (-1) l = true) : Does (g_days_last_int n l m) (LastOf (fun x => x) l m) := by
 unfold g_days_last_int
 simp only [lenI, List.length_map]
 rw [wi_id (x := (l.length : Int) - 1) (by omega) (by omega)]
 exact last_gen (key := fun x => x) (B := fun recl1 (v : Int × Int) => g_days_last_int_l1 n l m recl1 v.1 v.2) hl (holB_lt l _ hs).2 (fun rec lo hi => rfl) hn
theorem offF_gt (m : Int) : ∀ (l : List GChange) (o : Int), (∀ x ∈ l, m < x.At) → offF m o l = o
 | [], _, _ => rfl
 | x :: r, o, h => by
  have := h x List.mem_cons_self
  unfold offF
  rw [if_neg (by omega)]
  exact offF_gt m r o (fun y hy => h y (List.mem_cons_of_mem _ hy))
theorem offF_at (m : Int) : ∀ (l : List GChange) (o : Int) (k : Nat) (x : GChange), l[k]? = some x → (∀ (i : Nat) (y : GChange), i ≤ k → l[i]? = some y → y.At ≤ m) → (∀ (i : Nat) (y : GChange), k < i → l[i]? = some y → m < y.At) → offF m o l = x.Offset
 | [], _, _, _, h, _, _ => by simp at h
 | z :: r, o, 0, x, h, h1, h2 => by
  simp at h
  subst h
  unfold offF
  rw [if_pos (h1 0 z (Nat.le_refl _) rfl)]
  exact offF_gt m r _ (fun y hy => by
   obtain ⟨i, hi⟩ := List.mem_iff_getElem?.1 hy
   exact h2 (i + 1) y (by omega) (by simpa using hi))
 | z :: r, o, k + 1, x, h, h1, h2 => by
  unfold offF
  exact offF_at m r _ k x (by simpa using h) (fun i y hi hy => h1 (i + 1) y (by omega) (by simpa using hy)) (fun i y hi hy => h2 (i + 1) y (by omega) (by simpa using hy))
theorem typF_mem (d : Int) : ∀ (l : List Int), typF d l = if d ∈ l then 2 else wkF d
 | [] => by simp [typF]
 | x :: r => by
  unfold typF
  rw [typF_mem d r]
  by_cases h : x = d
  ·simp [h]
  ·simp [h, Ne.symm h]
theorem tdiv_neg' (x : Int) (b : Int) (h : x ≤ 0) : Int.tdiv x b = -((-x) / b) ∧ Int.tmod x b = -((-x) % b) := by
 obtain ⟨y, rfl⟩ : ∃ y : Int, x = -y := ⟨-x, by omega⟩
 rw [Int.neg_tdiv, Int.neg_tmod, Int.neg_neg, Int.tdiv_eq_ediv_of_nonneg (by omega), Int.tmod_eq_emod_of_nonneg (by omega)]
 exact ⟨rfl, rfl⟩
theorem b_split1440 (n : Nat) (x : Int) (h : -1440 ≤ x ∧ x ≤ 100000000) : g_days_split n x 1440 = some ((x + 1440) / 1440 - 1, (x + 1440) % 1440) := by
 unfold g_days_split
 rw [show (!eqI 1440 0) = true from rfl, cond_true, cond_true]
 simp only [ltI]
 by_cases hx : 0 ≤ x
 ·rw [Int.tdiv_eq_ediv_of_nonneg hx, Int.tmod_eq_emod_of_nonneg hx, decide_eq_false (by omega), cond_false, wi_id (x := x / 1440) (by omega) (by omega)]
  congr 2
  ·omega
  ·omega
 ·obtain ⟨e1, e2⟩ := tdiv_neg' x 1440 (by omega)
  rw [e1, e2]
  by_cases hm : -((-x) % 1440) < 0
  ·rw [decide_eq_true hm, cond_true, wi_id (x := -((-x) / 1440)) (by omega) (by omega), wi_id (by omega) (by omega), wi_id (by omega) (by omega)]
   congr 2
   ·omega
   ·omega
  ·rw [decide_eq_false hm, cond_false, wi_id (x := -((-x) / 1440)) (by omega) (by omega)]
   congr 2
   ·omega
   ·omega
theorem b_local (n : Nat) (c : GCalendar) (m : Int) (hn : 1000 ≤ n) (h1 : c.Changes.length ≤ 900) (h2 : c.Holidays.length ≤ 900) (hc : calB c = true) (hm : 0 ≤ m ∧ m ≤ 52560000) :
  g_days_Local n c m = some ((m + offF m c.Offset c.Changes + 1440) / 1440 - 1, (m + offF m c.Offset c.Changes + 1440) % 1440, 0) := by
 have ho := cal_off m hc
 have hc' := hc
 simp only [calB, Bool.and_eq_true] at hc'
 have hK : chK (-1) c.Changes = true := by
  have := hc'.1.2
  rw [chgB_KO, Bool.and_eq_true] at this
  exact this.2
 unfold g_days_Local
 rw [b_cal n c hn h1 h2, hc, b_dinside, decide_eq_true hm]
 simp only [Option.bind_some, Bool.not_true, cond_false]
 obtain ⟨r, e, L⟩ := b_lastC n c.Changes m hn h1 hK
 rw [e]
 simp only [Option.bind_some]
 have hoff : (bif leI 0 r then (getI c.Changes r).bind fun x7 => some x7.Offset else some c.Offset) = some (offF m c.Offset c.Changes) := by
  by_cases h0 : 0 ≤ r
  ·obtain ⟨k, rfl⟩ : ∃ k : Nat, r = (k : Int) := ⟨r.toNat, by omega⟩
   have hk := L.hi
   have hx : c.Changes[k]? = some (c.Changes[k]'(by omega)) := by rw [List.getElem?_eq_getElem]
   rw [show leI 0 (k : Int) = true from by simp only [leI]; rw [decide_eq_true h0], cond_true, getI_nat, hx, Option.bind_some]
   rw [offF_at m c.Changes c.Offset k _ hx (fun i y hi hy => L.le i y (by omega) hy) (fun i y hi hy => L.gt i y (by omega) hy)]
  ·rw [show leI 0 r = false from by simp only [leI]; rw [decide_eq_false h0], cond_false]
   rw [offF_gt m c.Changes c.Offset (fun x hx => by
    obtain ⟨i, hi⟩ := List.mem_iff_getElem?.1 hx
    exact L.gt i x (by omega) hi)]
 rw [hoff, Option.bind_some]
 generalize offF m c.Offset c.Changes = o at ho
 rw [wi_id (x := m + o) (by omega) (by omega), b_split1440 n (m + o) (by omega), Option.bind_some]
theorem b_split7 (n : Nat) (d : Int) (h : -1 ≤ d ∧ d ≤ 36501) : g_days_split n d 7 = some ((d + 7) / 7 - 1, (d + 7) % 7) := by
 unfold g_days_split
 rw [show (!eqI 7 0) = true from rfl, cond_true, cond_true]
 simp only [ltI]
 by_cases hx : 0 ≤ d
 ·rw [Int.tdiv_eq_ediv_of_nonneg hx, Int.tmod_eq_emod_of_nonneg hx, decide_eq_false (by omega), cond_false, wi_id (x := d / 7) (by omega) (by omega)]
  congr 2
  ·omega
  ·omega
 ·have : d = -1 := by omega
  subst this
  rfl
theorem b_type (n : Nat) (c : GCalendar) (d : Int) (hn : 1000 ≤ n) (h1 : c.Changes.length ≤ 900) (h2 : c.Holidays.length ≤ 900) (hc : calB c = true) (hd : -1 ≤ d ∧ d ≤ 36501) : g_days_Type n c d = some (typF d c.Holidays, 0) := by
 have hc' := hc
 simp only [calB, Bool.and_eq_true] at hc'
 unfold g_days_Type
 rw [b_cal n c hn h1 h2, hc, b_dinside, decide_eq_true hd]
 simp only [Option.bind_some, Bool.not_true, cond_false]
 obtain ⟨r, e, L⟩ := b_lastI n c.Holidays d hn h2 hc'.2
 have hpw := (holB_lt _ _ hc'.2).2
 rw [e]
 simp only [Option.bind_some]
 have hj : (bif leI 0 r then (getI c.Holidays r).bind fun x8 => some (eqI x8 d) else some false) = some (decide (d ∈ c.Holidays)) := by
  by_cases h0 : 0 ≤ r
  ·obtain ⟨k, rfl⟩ : ∃ k : Nat, r = (k : Int) := ⟨r.toNat, by omega⟩
   have hk := L.hi
   have hx : c.Holidays[k]? = some (c.Holidays[k]'(by omega)) := by rw [List.getElem?_eq_getElem]
   rw [show leI 0 (k : Int) = true from by simp only [leI]; rw [decide_eq_true h0], cond_true, getI_nat, hx, Option.bind_some, eqI_d]
   generalize c.Holidays[k]'(by omega) = x at hx
   by_cases hxd : x = d
   ·rw [decide_eq_true hxd, decide_eq_true]
    rw [← hxd]
    exact List.mem_of_getElem? hx
   ·rw [decide_eq_false hxd, decide_eq_false]
    intro hmem
    obtain ⟨i, hi⟩ := List.mem_iff_getElem?.1 hmem
    have hik : (i : Int) ≤ k := by
     apply Classical.byContradiction
     intro h
     have := L.gt i d (by omega) hi
     omega
    by_cases e : i = k
    ·subst e
     rw [hx] at hi; cases hi
     exact hxd rfl
    ·have hi' := List.getElem?_eq_some_iff.1 hi
     have hx' := List.getElem?_eq_some_iff.1 hx
     have := List.pairwise_iff_getElem.1 hpw i k hi'.1 hx'.1 (by omega)
     rw [hi'.2, hx'.2] at this
     have := L.le k x (Int.le_refl _) hx
     omega
  ·rw [show leI 0 r = false from by simp only [leI]; rw [decide_eq_false h0], cond_false, decide_eq_false]
   intro hmem
   obtain ⟨i, hi⟩ := List.mem_iff_getElem?.1 hmem
   have := L.gt i d (by omega) hi
   omega
 rw [hj, Option.bind_some, typF_mem]
 by_cases hmem : d ∈ c.Holidays
 ·rw [decide_eq_true hmem, if_pos hmem]; rfl
 ·rw [decide_eq_false hmem, if_neg hmem, cond_false, b_split7 n d hd]
  unfold g_days_week wkF
  simp only [Option.bind_some]
  rw [wi_id (x := d + 7) (by omega) (by omega), Int.tmod_eq_emod_of_nonneg (a := d + 7) (by omega)]
  have hr : 0 ≤ (d + 7) % 7 ∧ (d + 7) % 7 < 7 := by omega
  generalize (d + 7) % 7 = w at hr
  have hw : w = 0 ∨ w = 1 ∨ w = 2 ∨ w = 3 ∨ w = 4 ∨ w = 5 ∨ w = 6 := by omega
  rcases hw with rfl | rfl | rfl | rfl | rfl | rfl | rfl <;> rfl
theorem b_applies (n : Nat) (c : GCalendar) (a : GArticle) (m : Int) (hn : 1000 ≤ n) (h1 : c.Changes.length ≤ 900) (h2 : c.Holidays.length ≤ 900) (hc : calB c = true) (ha : artB a = true) (hm : 0 ≤ m ∧ m ≤ 52560000) :
  g_tariff_Applies n a c m = some (appB c a m) := by
 have ho := cal_off m hc
 unfold g_tariff_Applies appB
 rw [b_article, ha, b_local n c m hn h1 h2 hc hm]
 simp only [Option.bind_some, Bool.not_true, cond_false, eqI_d, decide_true]
 generalize offF m c.Offset c.Changes = o at ho
 rw [wi_id (x := m + o) (by omega) (by omega), wi_id (x := m + o + 1440) (by omega) (by omega)]
 rw [Int.tdiv_eq_ediv_of_nonneg (a := m + o + 1440) (by omega), Int.tmod_eq_emod_of_nonneg (a := m + o + 1440) (by omega)]
 rw [wi_id (x := (m + o + 1440) / 1440) (by omega) (by omega), wi_id (x := (m + o + 1440) / 1440 - 1) (by omega) (by omega)]
 rw [b_type n c _ hn h1 h2 hc (by omega)]
 have ht := typF_range ((m + o + 1440) / 1440 - 1) c.Holidays
 simp only [Option.bind_some, cond_some, leI, ltI, decide_true, cond_true]
 rw [decide_eq_false (show ¬ typF ((m + o + 1440) / 1440 - 1) c.Holidays < 0 by omega)]
 generalize decide (bAnd .i64 a.Days (shlI .i64 1 (typF ((m + o + 1440) / 1440 - 1) c.Holidays)) = 0) = b
 generalize (m + o + 1440) % 1440 = w
 by_cases c1 : a.From ≤ w
 ·by_cases c2 : w < a.To
  ·rw [decide_eq_false (show ¬ w < a.From by omega), decide_eq_false (show ¬ a.To ≤ w by omega), decide_eq_true c1, decide_eq_true c2]
   cases b <;> rfl
  ·rw [decide_eq_false (show ¬ w < a.From by omega), decide_eq_true (show a.To ≤ w by omega), decide_eq_false c2]
   cases b <;> simp
 ·rw [decide_eq_true (show w < a.From by omega), decide_eq_false c1]; rfl
end Go.Proofs
namespace Go.Proofs
open Go Go.Abs
set_option maxRecDepth 100000
set_option linter.unusedVariables false
theorem b_minside (n : Nat) (x a b : Int) : g_money_inside n x a b = some (decide (a ≤ x ∧ x ≤ b)) := by
 unfold g_money_inside leI
 by_cases h : a ≤ x <;> simp [h]
theorem b_amount (n : Nat) (x : Int) : g_money_isAmount n x = some (decide (0 ≤ x ∧ x ≤ 1000000000)) := by
 unfold g_money_isAmount
 rw [b_minside, Option.bind_some]
theorem b_need (n : Nat) (b : Bool) (e : Int) : g_money_need n b e = some (needE b e) := by cases b <;> rfl
theorem b_checked (n : Nat) (x : Int) : g_money_checked n x = some (if 0 ≤ x ∧ x ≤ 1000000000 then .ok x else .error 3) := by
 unfold g_money_checked
 rw [b_amount, Option.bind_some, b_need, Option.bind_some, exc_need]
 by_cases h : 0 ≤ x ∧ x ≤ 1000000000
 ·rw [decide_eq_true h, if_pos h]; rfl
 ·rw [decide_eq_false h, if_neg h]; rfl
theorem r_checked' (n : Nat) (x : Int) : g_ref31_checked n x = some (if 0 ≤ x ∧ x ≤ 1000000000 then (x, 0) else (0, 3)) := by
 unfold g_ref31_checked
 rw [r_amount, Option.bind_some]
 by_cases h : 0 ≤ x ∧ x ≤ 1000000000
 ·rw [decide_eq_true h, if_pos h]; rfl
 ·rw [decide_eq_false h, if_neg h]; rfl
theorem b_end (n : Nat) (x : Int) : ((g_money_checked n x).bind (exc (fun r3 => (g_money_caught n 0).bind fun r5 => some (r3, r5)) fun e4 => (g_money_caught_2 n e4 0).bind fun r6 => some (0, r6))) = ((g_ref31_checked n x).bind fun r8 => some (r8.1, r8.2)) := by
 rw [b_checked, r_checked', Option.bind_some, Option.bind_some]
 by_cases h : 0 ≤ x ∧ x ≤ 1000000000
 ·rw [if_pos h, if_pos h]; rfl
 ·rw [if_neg h, if_neg h]; rfl
theorem b_times (n : Nat) (p q d : Int) : g_money_Times n p q d = g_ref31_Times n p q d := by
 unfold g_money_Times g_ref31_Times g_money_Times_j1
 simp only [b_amount, r_amount, b_minside, b_need, Option.bind_some, exc_need, b_end]
 unfold g_money_half g_ref31_divided
 by_cases c1 : 0 ≤ p ∧ p ≤ 1000000000
 rotate_left
 ·rw [decide_eq_false c1]; rfl
 rw [decide_eq_true c1]
 by_cases c2 : 0 ≤ q ∧ q ≤ 1000000000
 rotate_left
 ·rw [decide_eq_false c2]; rfl
 rw [decide_eq_true c2]
 simp only [Bool.not_true, cond_false, cond_true, ltI]
 by_cases c3 : 1 ≤ d
 ·rw [decide_eq_false (show ¬ d < 1 by omega)]
  by_cases c4 : d ≤ 1000000000
  ·rw [decide_eq_true (show 1 ≤ d ∧ d ≤ 1000000000 from ⟨c3, c4⟩), decide_eq_false (show ¬ 1000000000 < d by omega)]; rfl
  ·rw [decide_eq_false (show ¬ (1 ≤ d ∧ d ≤ 1000000000) by omega), decide_eq_true (show 1000000000 < d by omega)]; rfl
 ·rw [decide_eq_true (show d < 1 by omega), decide_eq_false (show ¬ (1 ≤ d ∧ d ≤ 1000000000) by omega)]; rfl
theorem b_started (n : Nat) (p q u : Int) : g_money_Started n p q u = g_ref31_Started n p q u := by
 unfold g_money_Started g_ref31_Started g_money_Started_j1
 simp only [b_amount, r_amount, b_minside, b_need, Option.bind_some, exc_need, b_end]
 by_cases c1 : 0 ≤ p ∧ p ≤ 1000000000
 rotate_left
 ·rw [decide_eq_false c1]; rfl
 rw [decide_eq_true c1]
 by_cases c2 : 0 ≤ q ∧ q ≤ 1000000000
 rotate_left
 ·rw [decide_eq_false c2]; rfl
 rw [decide_eq_true c2]
 simp only [Bool.not_true, cond_false, cond_true, ltI]
 by_cases c3 : 1 ≤ u
 ·rw [decide_eq_false (show ¬ u < 1 by omega)]
  by_cases c4 : u ≤ 1000000000
  ·rw [decide_eq_true (show 1 ≤ u ∧ u ≤ 1000000000 from ⟨c3, c4⟩), decide_eq_false (show ¬ 1000000000 < u by omega)]; rfl
  ·rw [decide_eq_false (show ¬ (1 ≤ u ∧ u ≤ 1000000000) by omega), decide_eq_true (show 1000000000 < u by omega)]; rfl
 ·rw [decide_eq_true (show u < 1 by omega), decide_eq_false (show ¬ (1 ≤ u ∧ u ≤ 1000000000) by omega)]; rfl
theorem b_tax (n : Nat) (x r : Int) : g_money_Tax n x r = g_ref31_Tax n x r := by
 unfold g_money_Tax g_ref31_Tax g_money_Tax_j1
 simp only [b_amount, r_amount, b_minside, b_need, Option.bind_some, exc_need, b_end]
 unfold g_money_half g_ref31_divided
 by_cases c1 : 0 ≤ x ∧ x ≤ 1000000000
 rotate_left
 ·rw [decide_eq_false c1]; rfl
 rw [decide_eq_true c1]
 simp only [Bool.not_true, cond_false, cond_true, ltI]
 by_cases c3 : 0 ≤ r
 ·rw [decide_eq_false (show ¬ r < 0 by omega)]
  by_cases c4 : r ≤ 100000
  ·rw [decide_eq_true (show 0 ≤ r ∧ r ≤ 100000 from ⟨c3, c4⟩), decide_eq_false (show ¬ 100000 < r by omega)]; rfl
  ·rw [decide_eq_false (show ¬ (0 ≤ r ∧ r ≤ 100000) by omega), decide_eq_true (show 100000 < r by omega)]; rfl
 ·rw [decide_eq_true (show r < 0 by omega), decide_eq_false (show ¬ (0 ≤ r ∧ r ≤ 100000) by omega)]; rfl
def amt (x : Int) : Except Int Int := if x ≤ 1000000000 then .ok x else .error 3
theorem b_must (n : Nat) (x : Int) : g_bill_must n (if x ≤ 1000000000 then (x, 0) else (0, 3) : Int × Int).1 (if x ≤ 1000000000 then (x, 0) else (0, 3) : Int × Int).2 = some (amt x) := by
 unfold amt
 by_cases h : x ≤ 1000000000
 ·rw [if_pos h, if_pos h]; rfl
 ·rw [if_neg h, if_neg h]; rfl
theorem b_session (n : Nat) (s : GSession) (hn : 1000 ≤ n) (hl : s.Slices.length ≤ 900) (hb : i64b s.To) : g_bill_Valid n s = some (valB s) := by
 unfold i64b at hb
 unfold g_bill_Valid valB
 simp only [ltI, leI, lenI, List.length_map]
 by_cases c1 : s.From < 0
 ·rw [decide_eq_true c1, cond_true, Option.bind_some, cond_true, decide_eq_false (by omega)]; rfl
 rw [decide_eq_false c1, cond_false]
 by_cases c2 : s.To ≤ s.From
 ·rw [decide_eq_true c2, cond_true, Option.bind_some, cond_true, decide_eq_false (by omega)]; rfl
 rw [decide_eq_false c2, cond_false, wi_id (x := s.To - s.From) (by omega) (by omega)]
 by_cases c4 : 2880 < s.To - s.From
 ·rw [decide_eq_true c4, cond_true, Option.bind_some, cond_true, decide_eq_false (by omega)]; rfl
 rw [decide_eq_false c4, cond_false, Option.bind_some]
 by_cases c3 : 52560000 < s.To
 ·rw [decide_eq_true c3, cond_true, decide_eq_false (by omega)]; rfl
 rw [decide_eq_false c3, cond_false]
 by_cases c5 : s.End < s.From
 ·rw [decide_eq_true c5, cond_true, Option.bind_some, cond_true, decide_eq_false (by omega)]; rfl
 rw [decide_eq_false c5, cond_false]
 by_cases c6 : s.To < s.End
 ·rw [decide_eq_true c6, cond_true, Option.bind_some, cond_true, decide_eq_false (by omega)]; rfl
 rw [decide_eq_false c6, cond_false, Option.bind_some]
 by_cases c7 : s.Slices.length ≤ 48
 rotate_left
 ·rw [decide_eq_true (show (48 : Int) < s.Slices.length by omega), cond_true, decide_eq_false (show ¬ (0 ≤ s.From ∧ s.From < s.To ∧ s.To ≤ 52560000 ∧ s.To - s.From ≤ 2880 ∧ s.From ≤ s.End ∧ s.End ≤ s.To ∧ s.Slices.length ≤ 48) by omega)]; rfl
 rw [decide_eq_false (show ¬ (48 : Int) < s.Slices.length by omega), cond_false, decide_eq_true (show 0 ≤ s.From ∧ s.From < s.To ∧ s.To ≤ 52560000 ∧ s.To - s.From ≤ 2880 ∧ s.From ≤ s.End ∧ s.End ≤ s.To ∧ s.Slices.length ≤ 48 by omega), Bool.true_and, wi_id (x := s.From - 1) (by omega) (by omega)]
 have := loop_gen (l := s.Slices) (fun (a : Int) i => (a, i)) (B := fun recl8 (v : Int × Int) => g_bill_Valid_l8 s recl8 v.1 v.2) (F := slB s.From s.End) (fun i a => s.From - 1 ≤ a) (by omega) ?_ ?_ (n := n) 0 (s.From - 1) (Int.le_refl _) (by omega) (by omega)
 ·exact this
 ·intro rec a ha
  simp only [g_bill_Valid_l8, lenI, List.length_map, ltI]
  rw [decide_eq_false (by omega), cond_false]
  rfl
 ·intro rec a i x r ha hd hx hi hw hr
  simp only [g_bill_Valid_l8, lenI, List.length_map, ltI, leI, getI_nat, hx, Option.bind_some, hw]
  rw [decide_eq_true (by omega), cond_true, slB]
  by_cases d1 : x.Minute ≤ a
  ·rw [decide_eq_true d1, cond_true, Option.bind_some, cond_true, decide_eq_false (by omega)]; rfl
  rw [decide_eq_false d1, cond_false]
  by_cases d2 : s.End ≤ x.Minute
  ·rw [decide_eq_true d2, cond_true, Option.bind_some, cond_true, decide_eq_false (by omega)]; rfl
  rw [decide_eq_false d2, cond_false]
  by_cases d3 : x.Energy < 0
  ·rw [decide_eq_true d3, cond_true, Option.bind_some, cond_true, decide_eq_false (by omega)]; rfl
  rw [decide_eq_false d3, cond_false, Option.bind_some]
  by_cases d4 : 10000 < x.Energy
  ·rw [decide_eq_true d4, cond_true, decide_eq_false (by omega)]; rfl
  rw [decide_eq_false d4, cond_false, hr x.Minute (by omega), decide_eq_true (by omega)]; rfl
theorem b_stretch (n : Nat) (c : GCalendar) (a : GArticle) (s : GSession) (f t : Int) (hn : 10000 ≤ n) (h1 : c.Changes.length ≤ 900) (h2 : c.Holidays.length ≤ 900) (hc : calB c = true) (ha : artB a = true) (hk34 : a.Kind = 3 ∨ a.Kind = 4) (hf : 0 ≤ f) (ht : t ≤ 52560000) (hk : t - f ≤ 2880) :
  g_bb_stretch n (⟨a, c, s⟩ : GBB) f t = some (amt (staF c a f t)) := by
 unfold g_bb_stretch
 have key : ∀ (k j : Nat) (z m : Int), (t - m).toNat = k → k < j → 0 ≤ m → k ≤ 2880 → 0 ≤ z ∧ z ≤ 3000 - k →
   loopN (fun recl3 (v : Int × Int) => g_bb_stretch_l3 n (⟨a, c, s⟩ : GBB) t recl3 v.1 v.2) j (m, z) = some (z + cN c a k m) := by
  intro k
  induction k with
  | zero =>
   intro j z m h3 h4 h5 h6 h7
   obtain ⟨j, rfl⟩ : ∃ j', j = j' + 1 := ⟨j - 1, by omega⟩
   unfold loopN
   simp only [g_bb_stretch_l3, ltI]
   rw [decide_eq_false (by omega), cond_false]
   simp [cN]
  | succ k ih =>
   intro j z m h3 h4 h5 h6 h7
   obtain ⟨j, rfl⟩ : ∃ j', j = j' + 1 := ⟨j - 1, by omega⟩
   have i0 := ih j z (m + 1) (by omega) (by omega) (by omega) (by omega) (by omega)
   have i1 := ih j (z + 1) (m + 1) (by omega) (by omega) (by omega) (by omega) (by omega)
   unfold loopN
   generalize loopN (fun recl3 (v : Int × Int) => g_bb_stretch_l3 n (⟨a, c, s⟩ : GBB) t recl3 v.1 v.2) j = L at i0 i1 ⊢
   show g_bb_stretch_l3 n (⟨a, c, s⟩ : GBB) t L m z = _
   unfold g_bb_stretch_l3 g_bb_applies
   simp only [ltI]
   rw [decide_eq_true (by omega), cond_true, b_applies n c a m (by omega) h1 h2 hc ha (by omega), Option.bind_some, Option.bind_some, wi_id (x := m + 1) (by omega) (by omega), wi_id (x := z + 1) (by omega) (by omega)]
   unfold cN
   cases appB c a m
   ·rw [cond_false, Option.bind_some, i0]
    simp
   ·rw [cond_true, Option.bind_some, i1]
    simp
    omega
 have hloop := key (t - f).toNat n 0 f rfl (by omega) hf (by omega) (by omega)
 rw [Int.zero_add] at hloop
 obtain ⟨g1, g2⟩ := r_sta n c a f t hn h1 h2 hc ha hk34 hf ht hk
 rw [r_minutes n c a f t hn h1 h2 hc ha hf ht hk, Option.bind_some] at g1
 simp only
 refine (congrArg (fun o => Option.bind o _) hloop).trans ?_
 rw [Option.bind_some, b_started]
 cases hS : g_ref31_Started n a.Price (maxI 0 (wi (cN c a (t - f).toNat f - a.Free))) a.Unit with
 | none => rw [hS] at g1; cases g1
 | some r =>
  rw [hS, Option.bind_some] at g1
  have hr : r = if staF c a f t ≤ 1000000000 then (staF c a f t, 0) else (0, 3) := Option.some.inj g1
  rw [Option.bind_some, hr]
  rw [b_must n (staF c a f t), Option.bind_some]
  unfold amt
  by_cases h : staF c a f t ≤ 1000000000
  ·rw [if_pos h]; rfl
  ·rw [if_neg h]; rfl
def endE (rate net : Int) (l : List GLine) : Except Int GBill :=
 if net ≤ 1000000000 ∧ wi (net + taxF net rate) ≤ 1000000000 then .ok ⟨l, net, taxF net rate, wi (net + taxF net rate)⟩ else .error 3
theorem b_sum1 (n : Nat) (rate cap : Int) (l : OL GLine) (z : Int) (hr : 0 ≤ rate ∧ rate ≤ 10000) (hz : 0 ≤ z) : g_bill_sum_j1 n rate cap l z = some (endE rate (capV cap z) l.toL) := by
 unfold g_bill_sum_j1
 have e : (bif leI 0 cap then some (minI z cap) else some z) = some (capV cap z) := by
  unfold capV leI minI
  by_cases c1 : 0 ≤ cap <;> by_cases c2 : cap < z <;> simp [c1, c2]
 rw [e, Option.bind_some]
 have hnet : 0 ≤ capV cap z := by unfold capV; split <;> omega
 generalize capV cap z = net at hnet
 unfold endE
 rw [b_tax]
 by_cases c : 1000000000 < net
 ·have : g_ref31_Tax n net rate = some (0, 1) := by
   unfold g_ref31_Tax
   rw [r_amount, decide_eq_false (show ¬ (0 ≤ net ∧ net ≤ 1000000000) by omega)]; rfl
  rw [this, if_neg (by omega)]; rfl
 ·obtain ⟨g1, g2, g3⟩ := r_tax n net rate (by omega) hr
  rw [g1, Option.bind_some]
  have hm : g_bill_must n (taxF net rate) 0 = some (.ok (taxF net rate)) := rfl
  simp only [hm, Option.bind_some, exc, ltI]
  by_cases c2 : 1000000000 < wi (net + taxF net rate)
  ·rw [decide_eq_true c2, cond_true, if_neg (by omega)]
  ·rw [decide_eq_false c2, cond_false, if_pos (by omega)]
theorem b_sum (n : Nat) (t : GTariff) (c : GCalendar) (s : GSession) (hn : 10000 ≤ n) (h1 : c.Changes.length ≤ 900) (h2 : c.Holidays.length ≤ 900) (hc : calB c = true) (ht : tariffB t = true) (hv : valB s = true) :
  g_bill_sum n t c s = some (if linB (linF c s 0 t.Articles) then (if bilB (bilF t (rateF 0 t.Articles) 0 (linF c s 0 t.Articles)) then .ok (bilF t (rateF 0 t.Articles) 0 (linF c s 0 t.Articles)) else .error 3) else .error 3) := by
 have ht' := ht
 simp only [tariffB, Bool.and_eq_true, decide_eq_true_eq] at ht'
 have hall := tarB_all ht'.2
 have hArt := fun a h => artB_art (hall a h)
 have hv' := hv
 simp only [valB, Bool.and_eq_true, decide_eq_true_eq] at hv'
 obtain ⟨hrng, hsl⟩ := hv'
 have hm := slB_mem hsl
 unfold g_bill_sum
 have := loop_gen (l := t.Articles) (fun (a : Int × Int × OL GLine × Int) i => (a.1, a.2.1, i, a.2.2.1, a.2.2.2)) (B := fun recl6 (v : Int × Int × Int × (OL GLine) × Int) => g_bill_sum_l6 n t c s recl6 v.1 v.2.1 v.2.2.1 v.2.2.2.1 v.2.2.2.2)
  (F := fun a r => if linB (linF c s (t.Articles.length - r.length) r) then endE (rateF a.1 r) (capV (capR a.2.1 r) (sumF a.2.2.2 (linF c s (t.Articles.length - r.length) r))) (a.2.2.1.toL ++ linF c s (t.Articles.length - r.length) r) else .error 3)
  (fun i a => (0 ≤ a.1 ∧ a.1 ≤ 10000) ∧ a.2.2.1.toL.length ≤ i ∧ 0 ≤ a.2.2.2 ∧ a.2.2.2 ≤ 1000000000 * i) (by omega) ?_ ?_ (n := n) 0 (0, -1, OL.nil, 0) (by simp) (by omega) (by omega)
 ·rw [show ((0 : Nat) : Int) = 0 from rfl] at this
  refine this.trans ?_
  simp only [OL.toL_nil, List.nil_append, List.drop_zero, Nat.sub_self]
  rw [← capF_R _ _ _ (fun a h => (hArt a h).price.1), show ∀ z, capV (-1) z = z from fun z => by unfold capV; rw [if_neg (by omega)]]
  unfold endE bilF bilB netF
  simp only [Bool.and_eq_true, decide_eq_true_eq]
 ·intro rec a ha
  have h : ltI ((t.Articles.length : Nat) : Int) (lenI (List.map GArticle.cs t.Articles)) = false := by simp [ltI, lenI]
  show g_bill_sum_l6 n t c s rec a.1 a.2.1 ((t.Articles.length : Nat) : Int) a.2.2.1 a.2.2.2 = _
  unfold g_bill_sum_l6
  rw [h, cond_false, b_sum1 n _ _ _ _ ha.1 ha.2.2.1]
  simp [linF, linB, rateF, capR, sumF]
 ·intro rec a i x r hi0 hd hx hi hw hr
  have h3 : ltI (i : Int) (lenI (List.map GArticle.cs t.Articles)) = true := by
   simp only [ltI, lenI, List.length_map]
   rw [decide_eq_true (by omega)]
  have hidx := drop_idx hd hi
  have hxa := hall x (List.mem_of_getElem? hx)
  have hA := artB_art hxa
  simp only [List.length_cons, hidx.1]
  simp only [hidx.2] at hr
  obtain ⟨rate, cap, acc, z⟩ := a
  simp only at hi0 ⊢
  show g_bill_sum_l6 n t c s rec rate cap (i : Int) acc z = _
  unfold g_bill_sum_l6
  rw [h3, cond_true, getI_nat, hx, Option.bind_some, hw]
  simp only [eqI_d]
  unfold linF rateF capR
  by_cases k5 : x.Kind = 5
  ·rw [decide_eq_true k5, cond_true, if_pos (Or.inl k5), if_neg (show ¬ x.Kind = 6 by omega), if_pos k5]
   have hcap := fun k => hr (rate, k, acc, z) ⟨hi0.1, by simp only; omega, hi0.2.2.1, by simp only; omega⟩
   simp only at hcap
   simp only [ltI, cond_some, Option.bind_some]
   rw [hcap, hcap]
   by_cases c1 : cap < 0
   ·simp [c1]
   ·by_cases c2 : x.Price < cap <;> simp [c1, c2]
  rw [decide_eq_false k5, cond_false]
  by_cases k6 : x.Kind = 6
  ·have := hr (x.Price, cap, acc, z) ⟨⟨hA.price.1, hA.rate k6⟩, by simp only; omega, by simp only; omega, by simp only; omega⟩
   simp only at this
   rw [decide_eq_true k6, cond_true, if_pos (Or.inr k6), if_pos k6, if_neg k5, this]
  rw [decide_eq_false k6, cond_false, if_neg (show ¬ (x.Kind = 5 ∨ x.Kind = 6) by omega), if_neg k6, if_neg k5]
  have g2 := (r_line n c x s hn h1 h2 hc hxa hv).2
  have hj : ∀ y, 0 ≤ y → y ≤ 1000000000 → g_bill_sum_j10 rate cap (i : Int) acc z rec y = some (if linB (linF c s (i + 1) r) then endE (rateF rate r) (capV (capR cap r) (sumF (z + y) (linF c s (i + 1) r))) (acc.toL ++ ⟨(i : Int), y⟩ :: linF c s (i + 1) r) else .error 3) := by
   intro y hy0 hy
   unfold g_bill_sum_j10
   have hroom : roomB (List.length (acc.toL ++ [(⟨(i : Int), y⟩ : GLine)])) 16 = true := by
    simp only [roomB, List.length_append, List.length_cons, List.length_nil]
    rw [decide_eq_true]
    omega
   have := hr (rate, cap, OL.own (acc.toL ++ [(⟨(i : Int), y⟩ : GLine)]), z + y) ⟨hi0.1, by simp only [OL.toL_own, List.length_append, List.length_cons, List.length_nil]; omega, by simp only; omega, by simp only; omega⟩
   simp only at this
   rw [hroom, cond_true, wi_id (x := z + y) (by omega) (by omega), hw, this]
   simp only [OL.toL_own, List.append_assoc, List.singleton_append]
  have hgoal : ∀ (y : Int), cosF c s x = y → 0 ≤ y → ∀ (p : Option (Except Int GBill)), p = (exc (fun y => g_bill_sum_j10 rate cap (i : Int) acc z rec y) (fun e => some (.error e)) (amt y)) →
    p = some (if linB (⟨(i : Int), cosF c s x⟩ :: linF c s (i + 1) r) then endE (rateF rate r) (capV (capR cap r) (sumF z (⟨(i : Int), cosF c s x⟩ :: linF c s (i + 1) r))) (acc.toL ++ ⟨(i : Int), cosF c s x⟩ :: linF c s (i + 1) r) else .error 3) := by
   rintro y rfl hy0 p rfl
   rw [linB_cons]
   unfold amt
   by_cases hb : cosF c s x ≤ 1000000000
   ·rw [if_pos hb, decide_eq_true hb]
    simp only [exc, Bool.true_and]
    rw [hj _ hy0 hb, show ∀ l, sumF z (⟨(i : Int), cosF c s x⟩ :: l) = sumF (wi (z + cosF c s x)) l from fun _ => rfl, wi_id (x := z + cosF c s x) (by omega) (by omega)]
   ·rw [if_neg hb, decide_eq_false hb]
    rfl
  have hcos : cosF c s x = if x.Kind = 1 then (if appB c x s.From then x.Price else 0) else if x.Kind = 2 then wi (Int.tdiv (wi (wi (wi (2 * x.Price) * eneF c x 0 s.Slices) + 1000)) 2000) else if x.Kind = 3 then staF c x s.From s.To else if x.Kind = 4 then staF c x s.End s.To else 0 := rfl
  by_cases k1 : x.Kind = 1
  ·rw [decide_eq_true k1, cond_true]
   rw [if_pos k1] at hcos
   unfold g_bb_applies
   have hp := hA.price
   rw [b_applies n c x s.From (by omega) h1 h2 hc hxa (by omega), Option.bind_some, Option.bind_some]
   cases happ : appB c x s.From
   ·rw [happ] at hcos
    refine hgoal 0 hcos (Int.le_refl _) _ ?_
    rfl
   ·rw [happ] at hcos
    refine hgoal x.Price hcos hp.1 _ ?_
    unfold amt
    rw [if_pos (by omega)]; rfl
  rw [decide_eq_false k1, cond_false]
  rw [if_neg k1] at hcos
  by_cases k2 : x.Kind = 2
  ·rw [decide_eq_true k2, cond_true]
   rw [if_pos k2] at hcos
   have hloop : loopN (fun recl13 (v : Int × Int) => g_bill_sum_l13 n c s x recl13 v.1 v.2) n (0, 0) = some (eneF c x 0 s.Slices) := by
    have := loop_acc (l := s.Slices) (B := fun recl13 (v : Int × Int) => g_bill_sum_l13 n c s x recl13 v.1 v.2) (F := eneF c x) (by omega) ?_ ?_ (n := n) 0 0 (by omega) (by omega)
    ·exact this
    ·intro rec z
     have h : ltI ((s.Slices.length : Nat) : Int) (lenI (List.map GSlice.cs s.Slices)) = false := by simp [ltI, lenI]
     show g_bill_sum_l13 n c s x rec z ((s.Slices.length : Nat) : Int) = some z
     unfold g_bill_sum_l13
     rw [h, cond_false]
    ·intro rec z i y q hd hy hi hw hr
     have h3 : ltI (i : Int) (lenI (List.map GSlice.cs s.Slices)) = true := by
      simp only [ltI, lenI, List.length_map]
      rw [decide_eq_true (by omega)]
     have hym := hm y (List.mem_of_getElem? hy)
     show g_bill_sum_l13 n c s x rec z (i : Int) = some (eneF c x z (y :: q))
     unfold g_bill_sum_l13 eneF g_bb_applies
     rw [h3, cond_true, getI_nat, hy, Option.bind_some, b_applies n c x y.Minute (by omega) h1 h2 hc hxa (by omega), Option.bind_some, Option.bind_some, hw, hr, hr]
     cases appB c x y.Minute
     ·rfl
     ·rfl
   have he := eneF_range c x s.Slices 0 (fun y hy => by have := hm y hy; omega) (by omega) (by omega)
   obtain ⟨g3, g4⟩ := r_times n x.Price (eneF c x 0 s.Slices) hA.price (by omega)
   refine hgoal _ hcos g4 _ ?_
   refine (congrArg (fun o => Option.bind o _) hloop).trans ?_
   rw [Option.bind_some, b_times, g3, Option.bind_some]
   refine (congrArg (fun o => Option.bind o _) (b_must n _)).trans ?_
   rw [Option.bind_some]
  rw [decide_eq_false k2, cond_false]
  rw [if_neg k2] at hcos
  by_cases k3 : x.Kind = 3
  ·rw [decide_eq_true k3, cond_true]
   rw [if_pos k3] at hcos
   refine hgoal _ hcos (by rw [← hcos]; exact g2) _ ?_
   rw [b_stretch n c x s s.From s.To hn h1 h2 hc hxa (Or.inl k3) hrng.1 (by omega) (by omega), Option.bind_some]
  rw [decide_eq_false k3, cond_false]
  rw [if_neg k3] at hcos
  by_cases k4 : x.Kind = 4
  ·rw [decide_eq_true k4, cond_true]
   rw [if_pos k4] at hcos
   refine hgoal _ hcos (by rw [← hcos]; exact g2) _ ?_
   rw [b_stretch n c x s s.End s.To hn h1 h2 hc hxa (Or.inr k4) (by omega) (by omega) (by omega), Option.bind_some]
  have := hA.kind
  omega
theorem b_bill (n : Nat) (t : GTariff) (c : GCalendar) (s : GSession) (hn : 10000 ≤ n) (h1 : c.Changes.length ≤ 900) (h2 : c.Holidays.length ≤ 900) (h3 : s.Slices.length ≤ 900) (hb : i64b s.To) :
  g_bill_Bill n t c s = some (if (tariffB t && calB c && valB s) = true then (if linB (linF c s 0 t.Articles) then (if bilB (bilF t (rateF 0 t.Articles) 0 (linF c s 0 t.Articles)) then (bilF t (rateF 0 t.Articles) 0 (linF c s 0 t.Articles), 0) else (zeroBill, 3)) else (zeroBill, 3)) else (zeroBill, 1)) := by
 unfold g_bill_Bill
 rw [b_tariff n t (by omega), b_cal n c (by omega) h1 h2, b_session n s (by omega) h3 hb]
 simp only [Option.bind_some, cond_some]
 cases ht : tariffB t
 ·rfl
 cases hc : calB c
 ·rfl
 cases hv : valB s
 ·rfl
 rw [b_sum n t c s hn h1 h2 hc ht hv]
 simp only [Bool.not_true, cond_false, Option.bind_some, Bool.and_self, if_true]
 cases linB (linF c s 0 t.Articles)
 ·rfl
 ·cases bilB (bilF t (rateF 0 t.Articles) 0 (linF c s 0 t.Articles))
  ·rfl
  ·rfl
end Go.Proofs
namespace Go.Proofs
open Go Go.Abs
set_option maxRecDepth 100000
set_option linter.unusedVariables false
def bilV (t : GTariff) (c : GCalendar) (s : GSession) : GBill × Int := if (tariffB t && calB c && valB s) = true then (if linB (linF c s 0 t.Articles) then (if bilB (bilF t (rateF 0 t.Articles) 0 (linF c s 0 t.Articles)) then (bilF t (rateF 0 t.Articles) 0 (linF c s 0 t.Articles), 0) else (zeroBill, 3)) else (zeroBill, 3)) else (zeroBill, 1)
theorem b_billV (n : Nat) (t : GTariff) (c : GCalendar) (s : GSession) (hn : 10000 ≤ n) (h1 : c.Changes.length ≤ 900) (h2 : c.Holidays.length ≤ 900) (h3 : s.Slices.length ≤ 900) (hb : i64b s.To) : g_bill_Bill n t c s = some (bilV t c s) := b_bill n t c s hn h1 h2 h3 hb
theorem few33 (n : Nat) (t : GTariff) (k : GCalendar) (s : GSession) : ∃ b, g_ref33_Few n t k s = some b ∧ (b = true → t.Articles.length ≤ 20 ∧ s.Slices.length ≤ 60 ∧ k.Changes.length ≤ 30 ∧ k.Holidays.length ≤ 60 ∧ t.Name.length ≤ 50) := by
 unfold g_ref33_Few g_ref26_Few
 simp only [cond_some, Option.bind_some, lenI, List.length_map, leI]
 refine ⟨_, rfl, fun h => ?_⟩
 simp [Bool.cond_eq_ite] at h
 omega
end Go.Proofs
namespace Go.Proofs
open Go Go.Abs
set_option maxRecDepth 100000
set_option linter.unusedVariables false
def cstM (p q u : Int) : Int := p * ((q + u - 1) / u)
theorem staF_eq (c : GCalendar) (a : GArticle) (f t : Int) (ha : artB a = true) (hk : a.Kind = 3 ∨ a.Kind = 4) (hf : 0 ≤ f) (ht : t ≤ 52560000) (hd : t - f ≤ 2880) : staF c a f t = cstM a.Price (maxI 0 (cN c a (t - f).toNat f - a.Free)) a.Unit := by
 have hA := artB_art ha
 have hU := hA.unit hk
 have hp := hA.price
 have hcn := cN_range c a (t - f).toNat f
 unfold staF cstM
 rw [wi_id (x := 0 - a.Free) (by omega) (by omega), cntF_cN c a _ _ _ (by omega) (by omega), show (0 - a.Free + cN c a (t - f).toNat f) = cN c a (t - f).toNat f - a.Free from by omega]
 have hq : 0 ≤ maxI 0 (cN c a (t - f).toNat f - a.Free) ∧ maxI 0 (cN c a (t - f).toNat f - a.Free) ≤ 3000 := by
  unfold maxI
  split <;> omega
 generalize maxI 0 (cN c a (t - f).toNat f - a.Free) = q at hq
 have hdv : 0 ≤ (q + a.Unit - 1) / a.Unit ∧ (q + a.Unit - 1) / a.Unit ≤ 5000 := by
  constructor
  ·exact Int.ediv_nonneg (by omega) (by omega)
  ·have := Int.ediv_le_self (a := q + a.Unit - 1) a.Unit (by omega)
   omega
 have hb := mul_bound hp hdv
 rw [wi_id (x := q + a.Unit) (by omega) (by omega), wi_id (x := q + a.Unit - 1) (by omega) (by omega), Int.tdiv_eq_ediv_of_nonneg (by omega), wi_id (x := (q + a.Unit - 1) / a.Unit) (by omega) (by omega), wi_id (by omega) (by omega)]
end Go.Proofs
namespace Go.Proofs
open Go Go.Abs
set_option maxRecDepth 100000
set_option linter.unusedVariables false
theorem bit7 (t : Int) (h : 0 ≤ t ∧ t ≤ 2) : decide (bAnd .i64 7 (shlI .i64 1 t) = 0) = false := by
 have ht : t = 0 ∨ t = 1 ∨ t = 2 := by omega
 rcases ht with rfl | rfl | rfl <;> decide
theorem artB_A3 (p u v : Int) (hp : 0 ≤ p ∧ p ≤ 1000000) (hu : 1 ≤ u ∧ u ≤ 1440) (hv : 0 ≤ v ∧ v ≤ 1440) : artB ⟨3, 7, 0, 1440, p, u, v⟩ = true := by
 unfold artB g_a_validArticle
 simp only [a_inside, cond_some, Option.bind_some, Option.getD_some, eqI_d, ltI, leI]
 simp [hp, hu, hv]
end Go.Proofs
namespace Go.Proofs
open Go Go.Abs
set_option maxRecDepth 100000
set_option linter.unusedVariables false
def isLn (a : GArticle) : Bool := !(decide (a.Kind = 5) || decide (a.Kind = 6))
theorem isLn_iff (a : GArticle) : isLn a = true ↔ ¬ (a.Kind = 5 ∨ a.Kind = 6) := by
 unfold isLn
 simp
def sumA (c : GCalendar) (s : GSession) : List GArticle → Int
 | [] => 0
 | a :: r => (if isLn a then cosF c s a else 0) + sumA c s r
def okA (c : GCalendar) (s : GSession) (l : List GArticle) : Bool := l.all fun a => !isLn a || decide (cosF c s a ≤ 1000000000)
theorem linB_okA (c : GCalendar) (s : GSession) : ∀ (l : List GArticle) (i : Nat), linB (linF c s i l) = okA c s l
 | [], _ => rfl
 | a :: r, i => by
  have ih := linB_okA c s r (i + 1)
  unfold okA at ih ⊢
  rw [List.all_cons, ← ih, show linF c s i (a :: r) = if a.Kind = 5 ∨ a.Kind = 6 then linF c s (i + 1) r else ⟨(i : Int), cosF c s a⟩ :: linF c s (i + 1) r from rfl]
  by_cases h : a.Kind = 5 ∨ a.Kind = 6
  ·rw [if_pos h, show isLn a = false from by cases hl : isLn a with | false => rfl | true => exact absurd h ((isLn_iff a).1 hl)]
   simp
  ·rw [if_neg h, (isLn_iff a).2 h, linB_cons]
   simp
theorem sumF_A (c : GCalendar) (s : GSession) : ∀ (l : List GArticle) (i : Nat) (z : Int), okA c s l = true → (∀ a ∈ l, 0 ≤ cosF c s a) → 0 ≤ z → z + 1000000000 * l.length ≤ 1000000000000000 → sumF z (linF c s i l) = z + sumA c s l ∧ 0 ≤ sumA c s l ∧ sumA c s l ≤ 1000000000 * l.length
 | [], i, z, _, _, h0, h1 => by
  refine ⟨?_, Int.le_refl _, ?_⟩
  ·show z = z + 0
   omega
  ·show (0 : Int) ≤ 1000000000 * ((0 : Nat) : Int)
   omega
 | a :: r, i, z, hok, hp, h0, h1 => by
  unfold okA at hok
  rw [List.all_cons, Bool.and_eq_true] at hok
  have hpa := hp a List.mem_cons_self
  simp only [List.length_cons] at h1 ⊢
  rw [show linF c s i (a :: r) = if a.Kind = 5 ∨ a.Kind = 6 then linF c s (i + 1) r else ⟨(i : Int), cosF c s a⟩ :: linF c s (i + 1) r from rfl, show sumA c s (a :: r) = (if isLn a then cosF c s a else 0) + sumA c s r from rfl]
  by_cases h : a.Kind = 5 ∨ a.Kind = 6
  ·have hl : isLn a = false := by cases hl : isLn a with | false => rfl | true => exact absurd h ((isLn_iff a).1 hl)
   obtain ⟨g1, g2, g3⟩ := sumF_A c s r (i + 1) z hok.2 (fun x hx => hp x (List.mem_cons_of_mem _ hx)) h0 (by omega)
   rw [if_pos h, hl, g1]
   simp only [Bool.false_eq_true, if_false]
   omega
  ·have hl := (isLn_iff a).2 h
   have hle : cosF c s a ≤ 1000000000 := by
    have := hok.1
    rw [hl] at this
    simpa using this
   obtain ⟨g1, g2, g3⟩ := sumF_A c s r (i + 1) (z + cosF c s a) hok.2 (fun x hx => hp x (List.mem_cons_of_mem _ hx)) (by omega) (by omega)
   rw [if_neg h, hl, show ∀ q, sumF z (⟨(i : Int), cosF c s a⟩ :: q) = sumF (wi (z + cosF c s a)) q from fun _ => rfl, wi_id (x := z + cosF c s a) (by omega) (by omega), g1]
   simp only [if_true]
   omega
def tax6 : List GArticle → Int
 | [] => 0
 | a :: r => (if a.Kind = 6 then 1 else 0) + tax6 r
theorem tarB_tax : ∀ (l : List GArticle) (k : Int), tarB k l = (l.all artB && decide (k + tax6 l ≤ 1))
 | [], k => by
  show decide (k ≤ 1) = (true && decide (k + 0 ≤ 1))
  rw [Int.add_zero, Bool.true_and]
 | a :: r, k => by
  show (artB a && tarB (if a.Kind = 6 then k + 1 else k) r) = ((a :: r).all artB && decide (k + ((if a.Kind = 6 then (1 : Int) else 0) + tax6 r) ≤ 1))
  rw [tarB_tax r, List.all_cons, Bool.and_assoc]
  congr 2
  by_cases h : a.Kind = 6
  ·rw [if_pos h, if_pos h, Int.add_assoc]
  ·rw [if_neg h, if_neg h, Int.zero_add]
end Go.Proofs
namespace Go.Proofs
open Go Go.Abs
set_option maxRecDepth 100000
set_option linter.unusedVariables false
theorem capF_range : ∀ (l : List GArticle) (z : Int), (∀ a ∈ l, 0 ≤ a.Price) → 0 ≤ z → 0 ≤ capF z l ∧ capF z l ≤ z
 | [], z, _, h => ⟨h, Int.le_refl _⟩
 | a :: r, z, hp, h => by
  have ha := hp a List.mem_cons_self
  rw [show capF z (a :: r) = capF (if a.Kind = 5 then minI z a.Price else z) r from rfl]
  have hz : 0 ≤ (if a.Kind = 5 then minI z a.Price else z) ∧ (if a.Kind = 5 then minI z a.Price else z) ≤ z := by
   split
   ·unfold minI; split <;> omega
   ·omega
  have := capF_range r _ (fun x hx => hp x (List.mem_cons_of_mem _ hx)) hz.1
  omega
theorem rateQ {l : List GArticle} (h : ∀ a ∈ l, artB a = true) : 0 ≤ rateF 0 l ∧ rateF 0 l ≤ 10000 := rateF_range l 0 (fun a ha => ⟨(artB_art (h a ha)).price.1, (artB_art (h a ha)).rate⟩) (by omega)
theorem tariffB_spec {t : GTariff} (h : tariffB t = true) : (∀ a ∈ t.Articles, artB a = true) ∧ t.Articles.length ≤ 12 := by
 simp only [tariffB, Bool.and_eq_true, decide_eq_true_eq] at h
 exact ⟨tarB_all h.2, h.1.2⟩
end Go.Proofs
namespace Go.Proofs
open Go Go.Abs
set_option maxRecDepth 100000
set_option linter.unusedVariables false
theorem taxE {N R : Int} (hN : 0 ≤ N ∧ N ≤ 1000000000) (hR : 0 ≤ R ∧ R ≤ 10000) : taxF N R = (2 * (N * R) + 10000) / 20000 ∧ 0 ≤ N * R := by
 have hb := mul_bound hN hR
 unfold taxF
 rw [wi_id (x := 2 * N) (by omega) (by omega), show 2 * N * R = 2 * (N * R) from Int.mul_assoc .., wi_id (x := 2 * (N * R)) (by omega) (by omega), wi_id (x := 2 * (N * R) + 10000) (by omega) (by omega), Int.tdiv_eq_ediv_of_nonneg (by omega), wi_id (by omega) (by omega)]
 exact ⟨rfl, hb.1⟩
end Go.Proofs
namespace Go.Proofs
open Go Go.Abs
set_option maxRecDepth 100000
set_option linter.unusedVariables false
theorem sumA_mem (c : GCalendar) (s : GSession) : ∀ (l : List GArticle), (∀ a ∈ l, 0 ≤ cosF c s a) → 0 ≤ sumA c s l ∧ ∀ a ∈ l, isLn a = true → cosF c s a ≤ sumA c s l
 | [], _ => ⟨Int.le_refl _, fun a ha => by cases ha⟩
 | x :: r, h => by
  obtain ⟨h1, h2⟩ := sumA_mem c s r (fun y hy => h y (List.mem_cons_of_mem _ hy))
  have hx := h x List.mem_cons_self
  rw [show sumA c s (x :: r) = (if isLn x then cosF c s x else 0) + sumA c s r from rfl]
  refine ⟨by split <;> omega, fun a ha hl => ?_⟩
  rcases List.mem_cons.1 ha with rfl | ha
  ·rw [hl, if_pos rfl]; omega
  ·have := h2 a ha hl
   split <;> omega
theorem bill_val (t : GTariff) (c : GCalendar) (s : GSession) (ht : tariffB t = true) (hc : calB c = true) (hv : valB s = true) (hcc : c.Changes.length ≤ 900) (hch : c.Holidays.length ≤ 900) (hsum : sumA c s t.Articles ≤ 1000000000)
  (htot : capF (sumA c s t.Articles) t.Articles + taxF (capF (sumA c s t.Articles) t.Articles) (rateF 0 t.Articles) ≤ 1000000000) :
  (bilV t c s).2 = 0 ∧ (bilV t c s).1.Total = capF (sumA c s t.Articles) t.Articles + taxF (capF (sumA c s t.Articles) t.Articles) (rateF 0 t.Articles) := by
 obtain ⟨hall, hlen⟩ := tariffB_spec ht
 have hp : ∀ a ∈ t.Articles, 0 ≤ cosF c s a := fun a ha => (r_line 10000 c a s (Nat.le_refl _) hcc hch hc (hall a ha) hv).2
 obtain ⟨m1, m2⟩ := sumA_mem c s t.Articles hp
 have hok : okA c s t.Articles = true := by
  unfold okA
  rw [List.all_eq_true]
  intro a ha
  cases hl : isLn a with
  | false => rfl
  | true =>
   have := m2 a ha hl
   rw [decide_eq_true (show cosF c s a ≤ 1000000000 by omega)]; rfl
 obtain ⟨g1, g2, g3⟩ := sumF_A c s t.Articles 0 0 hok hp (Int.le_refl _) (by omega)
 rw [Int.zero_add] at g1
 have hrt := rateQ hall
 have k1 := capF_range t.Articles _ (fun a ha => (artB_art (hall a ha)).price.1) m1
 have ht2 := (r_tax 0 (capF (sumA c s t.Articles) t.Articles) (rateF 0 t.Articles) (by omega) hrt).2
 have hnet : netF t 0 (linF c s 0 t.Articles) = capF (sumA c s t.Articles) t.Articles := by unfold netF; rw [g1]
 have hbil : bilF t (rateF 0 t.Articles) 0 (linF c s 0 t.Articles) = ⟨linF c s 0 t.Articles, capF (sumA c s t.Articles) t.Articles, taxF (capF (sumA c s t.Articles) t.Articles) (rateF 0 t.Articles), capF (sumA c s t.Articles) t.Articles + taxF (capF (sumA c s t.Articles) t.Articles) (rateF 0 t.Articles)⟩ := by
  unfold bilF
  rw [hnet, wi_id (by omega) (by omega)]
 have hB : bilB (bilF t (rateF 0 t.Articles) 0 (linF c s 0 t.Articles)) = true := by
  rw [hbil]
  simp only [bilB, Bool.and_eq_true, decide_eq_true_eq]
  omega
 unfold bilV
 rw [ht, hc, hv, linB_okA, hok, hB, hbil]
 exact ⟨rfl, rfl⟩
theorem app_all (c : GCalendar) (hc : calB c = true) (k p u v m : Int) (hm : 0 ≤ m ∧ m ≤ 52560000) : appB c ⟨k, 7, 0, 1440, p, u, v⟩ m = true := by
 have ho := cal_off m hc
 unfold appB
 simp only
 generalize offF m c.Offset c.Changes = o at ho
 rw [wi_id (x := m + o) (by omega) (by omega), wi_id (x := m + o + 1440) (by omega) (by omega), Int.tmod_eq_emod_of_nonneg (a := m + o + 1440) (by omega), bit7 _ (typF_range _ _), decide_eq_true (show 0 ≤ (m + o + 1440) % 1440 by omega), decide_eq_true (show (m + o + 1440) % 1440 < 1440 by omega)]
 rfl
end Go.Proofs
namespace Go.Proofs
open Go Go.Abs
set_option maxRecDepth 100000
set_option linter.unusedVariables false
def inP (f t : Int) (x : GSlice) : Bool := decide (f ≤ x.Minute) && decide (x.Minute < t)
def parL (f t : Int) (l : List GSlice) : List GSlice := l.filter (inP f t)
def parV (s : GSession) (f t : Int) : GSession := ⟨f, t, minI (maxI s.End f) t, parL f t s.Slices⟩
theorem parL_len (f t : Int) (l : List GSlice) : (parL f t l).length ≤ l.length := List.length_filter_le _ _
theorem l_session (n : Nat) (s : GSession) (hn : 1000 ≤ n) (hb : i64b s.To) : g_bill_Valid n s = some (valB s) := by
 by_cases hl : s.Slices.length ≤ 900
 ·exact b_session n s hn hl hb
 unfold i64b at hb
 unfold g_bill_Valid valB
 simp only [ltI, leI, lenI, List.length_map]
 rw [decide_eq_false (show ¬ (0 ≤ s.From ∧ s.From < s.To ∧ s.To ≤ 52560000 ∧ s.To - s.From ≤ 2880 ∧ s.From ≤ s.End ∧ s.End ≤ s.To ∧ s.Slices.length ≤ 48) by omega), Bool.false_and]
 rw [decide_eq_true (show (48 : Int) < s.Slices.length by omega)]
 cases decide (s.From < 0) <;> cases decide (s.To ≤ s.From) <;> cases decide (2880 < wi (s.To - s.From)) <;> cases decide (52560000 < s.To) <;> cases decide (s.End < s.From) <;> cases decide (s.To < s.End) <;> rfl
theorem l_part (n : Nat) (s : GSession) (f t : Int) (hn : 1000 ≤ n) (hl : s.Slices.length ≤ 900) : g_loophole_part n s f t = some (parV s f t) := by
 unfold g_loophole_part
 have := loop_gen (l := s.Slices) (fun (a : OL GSlice) i => (i, a)) (B := fun recl1 (v : Int × OL GSlice) => g_loophole_part_l1 s f t recl1 v.1 v.2) (F := fun a r => (⟨f, t, minI (maxI s.End f) t, a.toL ++ parL f t r⟩ : GSession)) (fun i a => a.toL.length ≤ i) (by omega) ?_ ?_ (n := n) 0 OL.nil (Nat.le_refl _) (by omega) (by omega)
 ·refine Eq.trans this ?_
  simp [parV, OL.toL]
 ·intro rec a ha
  simp only [g_loophole_part_l1, lenI, List.length_map, ltI]
  rw [decide_eq_false (by omega), cond_false]
  simp [parL]
 ·intro rec a i x r ha hd hx hi hw hr
  simp only [g_loophole_part_l1, lenI, List.length_map, ltI, leI, getI_nat, hx, Option.bind_some, hw]
  rw [decide_eq_true (by omega), cond_true]
  have e1 : ((bif decide (f ≤ x.Minute) then some (decide (x.Minute < t)) else some false).bind fun j3 => bif j3 then bif roomB (List.length (a.toL ++ [x])) 16 then rec (((i + 1 : Nat) : Int), OL.own (a.toL ++ [x])) else none else rec (((i + 1 : Nat) : Int), a)) = (bif inP f t x then bif roomB (List.length (a.toL ++ [x])) 16 then rec (((i + 1 : Nat) : Int), OL.own (a.toL ++ [x])) else none else rec (((i + 1 : Nat) : Int), a)) := by
   unfold inP
   cases decide (f ≤ x.Minute) <;> cases decide (x.Minute < t) <;> rfl
  rw [e1]
  have e2 : roomB (List.length (a.toL ++ [x])) 16 = true := by
   simp only [roomB, List.length_append, List.length_cons, List.length_nil, decide_eq_true_eq]
   omega
  rw [e2, cond_true]
  have e3 : parL f t (x :: r) = bif inP f t x then x :: parL f t r else parL f t r := by
   unfold parL
   rw [List.filter_cons]
   cases inP f t x <;> rfl
  rw [e3]
  cases inP f t x
  ·rw [cond_false, cond_false]
   exact hr a (by omega)
  ·rw [cond_true, cond_true]
   refine (hr (OL.own (a.toL ++ [x])) ?_).trans ?_
   ·show (a.toL ++ [x]).length ≤ i + 1
    simp only [List.length_append, List.length_cons, List.length_nil]; omega
   ·simp [OL.toL]
theorem slB_memP {f e : Int} : ∀ (l : List GSlice) (p : Int), slB f e p l = true → ∀ x ∈ l, f ≤ x.Minute ∧ x.Minute < e ∧ 0 ≤ x.Energy ∧ x.Energy ≤ 10000 ∧ p < x.Minute
 | [], _, _, x, hx => by cases hx
 | y :: l, p, h, x, hx => by
  simp only [slB, Bool.and_eq_true, decide_eq_true_eq] at h
  rcases List.mem_cons.1 hx with rfl | hx
  ·exact h.1
  ·have := slB_memP l _ h.2 x hx
   omega
theorem slB_mono {f e f' e' : Int} : ∀ (l : List GSlice) (p p' : Int), slB f e p l = true → (∀ x ∈ l, f' ≤ x.Minute ∧ x.Minute < e' ∧ p' < x.Minute) → slB f' e' p' l = true
 | [], _, _, _, _ => rfl
 | y :: l, p, p', h, hx => by
  have hm := slB_memP (f := f) (e := e) l
  simp only [slB, Bool.and_eq_true, decide_eq_true_eq] at h ⊢
  have h1 := hx y (List.mem_cons_self ..)
  refine ⟨by omega, slB_mono l _ _ h.2 fun x hxl => ?_⟩
  have h2 := hx x (List.mem_cons_of_mem _ hxl)
  have h3 := hm _ h.2 x hxl
  omega
theorem slB_filter {f e : Int} (q : GSlice → Bool) : ∀ (l : List GSlice) (p : Int), slB f e p l = true → slB f e p (l.filter q) = true
 | [], _, _ => rfl
 | y :: l, p, h => by
  have h0 := h
  simp only [slB, Bool.and_eq_true, decide_eq_true_eq] at h
  rw [List.filter_cons]
  split
  ·simp only [slB, Bool.and_eq_true, decide_eq_true_eq]
   exact ⟨h.1, slB_filter q l _ h.2⟩
  ·refine slB_filter q l p (slB_mono l _ _ h.2 fun x hx => ?_)
   have := slB_memP l _ h.2 x hx
   omega
theorem valB_spec {s : GSession} (h : valB s = true) : 0 ≤ s.From ∧ s.From < s.To ∧ s.To ≤ 52560000 ∧ s.To - s.From ≤ 2880 ∧ s.From ≤ s.End ∧ s.End ≤ s.To ∧ s.Slices.length ≤ 48 := by
 simp only [valB, Bool.and_eq_true, decide_eq_true_eq] at h; exact h.1
theorem valB_sl {s : GSession} (h : valB s = true) : slB s.From s.End (s.From - 1) s.Slices = true := by
 simp only [valB, Bool.and_eq_true, decide_eq_true_eq] at h; exact h.2
theorem parV_val {s : GSession} {f t : Int} (h : valB s = true) (h1 : s.From ≤ f) (h2 : f < t) (h3 : t ≤ s.To) : valB (parV s f t) = true := by
 have hs := valB_spec h
 have hl := valB_sl h
 have hlen := parL_len f t s.Slices
 have he : f ≤ minI (maxI s.End f) t ∧ minI (maxI s.End f) t ≤ t := by unfold minI maxI; split <;> split <;> omega
 have hsl : slB f (minI (maxI s.End f) t) (f - 1) (parL f t s.Slices) = true := by
  refine slB_mono _ _ _ (slB_filter (inP f t) _ _ hl) fun x hx => ?_
  have hx2 := List.mem_filter.1 hx
  have hx3 := slB_memP _ _ hl x hx2.1
  have hx4 : f ≤ x.Minute ∧ x.Minute < t := by simpa [inP] using hx2.2
  refine ⟨hx4.1, ?_, by omega⟩
  unfold minI maxI; split <;> split <;> omega
 unfold valB parV
 simp only [Bool.and_eq_true, decide_eq_true_eq]
 exact ⟨by omega, hsl⟩
end Go.Proofs
namespace Go.Proofs
open Go Go.Abs
set_option maxRecDepth 100000
set_option linter.unusedVariables false
def cutB (e : Int) : Int → List Int → Bool
 | _, [] => true
 | b, m :: r => decide (b < m ∧ m < e) && cutB e m r
def cutsB (s : GSession) (l : List Int) : Bool := decide (l.length ≤ 4) && cutB s.To s.From l
theorem l_cuts (n : Nat) (s : GSession) (l : List Int) (hn : 1000 ≤ n) : g_loophole_validCuts n s l = some (cutsB s l) := by
 unfold g_loophole_validCuts cutsB
 simp only [ltI, lenI, List.length_map]
 by_cases c : l.length ≤ 4
 ·rw [decide_eq_false (show ¬ (4 : Int) < l.length by omega), cond_false, decide_eq_true c, Bool.true_and]
  have := loop_gen (l := l) (fun (a : Int) i => (a, i)) (B := fun recl1 (v : Int × Int) => g_loophole_validCuts_l1 s l recl1 v.1 v.2) (F := cutB s.To) (fun _ _ => True) (by omega) ?_ ?_ (n := n) 0 s.From trivial (by omega) (by omega)
  ·exact this
  ·intro rec a _
   simp only [g_loophole_validCuts_l1, ltI, lenI, List.length_map]
   rw [decide_eq_false (by omega)]
   rfl
  ·intro rec a i x r _ hd hx hi hw hr
   simp only [g_loophole_validCuts_l1, ltI, leI, lenI, List.length_map, getI_nat, hx, Option.bind_some, hw]
   rw [decide_eq_true (by omega), cond_true, hr x trivial]
   show _ = some (decide (a < x ∧ x < s.To) && cutB s.To x r)
   by_cases c1 : x ≤ a
   ·rw [decide_eq_true c1, decide_eq_false (show ¬ (a < x ∧ x < s.To) by omega)]; rfl
   ·rw [decide_eq_false c1]
    by_cases c2 : s.To ≤ x
    ·rw [decide_eq_true c2, decide_eq_false (show ¬ (a < x ∧ x < s.To) by omega)]; rfl
    ·rw [decide_eq_false c2, decide_eq_true (show (a < x ∧ x < s.To) by omega)]; rfl
 ·rw [decide_eq_true (show (4 : Int) < l.length by omega), cond_true, decide_eq_false c]; rfl
theorem bil_ok {t : GTariff} {c : GCalendar} {s : GSession} (hcc : c.Changes.length ≤ 900) (hch : c.Holidays.length ≤ 900) (h : (bilV t c s).2 = 0) :
  tariffB t = true ∧ calB c = true ∧ valB s = true ∧ okA c s t.Articles = true ∧ 0 ≤ sumA c s t.Articles ∧ capF (sumA c s t.Articles) t.Articles ≤ 1000000000 ∧
  (bilV t c s).1.Total = capF (sumA c s t.Articles) t.Articles + taxF (capF (sumA c s t.Articles) t.Articles) (rateF 0 t.Articles) ∧ 0 ≤ (bilV t c s).1.Total ∧ (bilV t c s).1.Total ≤ 1000000000 := by
 have h3 : (tariffB t && calB c && valB s) = true := by
  by_cases q : (tariffB t && calB c && valB s) = true
  ·exact q
  ·exfalso
   unfold bilV at h
   rw [if_neg q] at h
   cases h
 have h3' : tariffB t = true ∧ calB c = true ∧ valB s = true := by
  simp only [Bool.and_eq_true] at h3; exact ⟨h3.1.1, h3.1.2, h3.2⟩
 obtain ⟨ht, hc, hv⟩ := h3'
 have e0 : bilV t c s = if linB (linF c s 0 t.Articles) then (if bilB (bilF t (rateF 0 t.Articles) 0 (linF c s 0 t.Articles)) then (bilF t (rateF 0 t.Articles) 0 (linF c s 0 t.Articles), 0) else (zeroBill, 3)) else (zeroBill, 3) := by
  unfold bilV
  rw [if_pos h3]
 rw [e0] at h ⊢
 have hok : okA c s t.Articles = true := by
  rw [← linB_okA c s t.Articles 0]
  by_cases q : linB (linF c s 0 t.Articles) = true
  ·exact q
  ·exfalso
   rw [if_neg q] at h
   cases h
 have hlb : linB (linF c s 0 t.Articles) = true := by rw [linB_okA]; exact hok
 rw [if_pos hlb] at h ⊢
 obtain ⟨hall, hlen⟩ := tariffB_spec ht
 have hp : ∀ a ∈ t.Articles, 0 ≤ cosF c s a := fun a ha => (r_line 10000 c a s (Nat.le_refl _) hcc hch hc (hall a ha) hv).2
 obtain ⟨g1, g2, g3⟩ := sumF_A c s t.Articles 0 0 hok hp (Int.le_refl _) (by omega)
 rw [Int.zero_add] at g1
 have hrt := rateQ hall
 have k1 := capF_range t.Articles _ (fun a ha => (artB_art (hall a ha)).price.1) g2
 have hnet : netF t 0 (linF c s 0 t.Articles) = capF (sumA c s t.Articles) t.Articles := by unfold netF; rw [g1]
 have hbil : bilF t (rateF 0 t.Articles) 0 (linF c s 0 t.Articles) = ⟨linF c s 0 t.Articles, capF (sumA c s t.Articles) t.Articles, taxF (capF (sumA c s t.Articles) t.Articles) (rateF 0 t.Articles), wi (capF (sumA c s t.Articles) t.Articles + taxF (capF (sumA c s t.Articles) t.Articles) (rateF 0 t.Articles))⟩ := by
  unfold bilF
  rw [hnet]
 have hB : bilB (bilF t (rateF 0 t.Articles) 0 (linF c s 0 t.Articles)) = true := by
  by_cases q : bilB (bilF t (rateF 0 t.Articles) 0 (linF c s 0 t.Articles)) = true
  ·exact q
  ·exfalso
   rw [if_neg q] at h
   cases h
 rw [if_pos hB]
 rw [hbil] at hB ⊢
 simp only [bilB, Bool.and_eq_true, decide_eq_true_eq] at hB
 have ht2 := (r_tax 0 (capF (sumA c s t.Articles) t.Articles) (rateF 0 t.Articles) (by omega) hrt).2
 have hw := wi_id (x := capF (sumA c s t.Articles) t.Articles + taxF (capF (sumA c s t.Articles) t.Articles) (rateF 0 t.Articles)) (by omega) (by omega)
 rw [hw] at hB ⊢
 exact ⟨ht, hc, hv, hok, g2, hB.1, rfl, by show 0 ≤ capF (sumA c s t.Articles) t.Articles + taxF (capF (sumA c s t.Articles) t.Articles) (rateF 0 t.Articles); omega, hB.2⟩
theorem bil_err {t : GTariff} {c : GCalendar} {s : GSession} (ht : tariffB t = true) (hc : calB c = true) (hv : valB s = true) (h : (bilV t c s).2 ≠ 0) : (bilV t c s).2 = 3 := by
 unfold bilV at h ⊢
 rw [ht, hc, hv] at h ⊢
 simp only [Bool.and_true, if_true] at h ⊢
 cases hl : linB (linF c s 0 t.Articles)
 ·rfl
 ·rw [hl] at h
  simp only [if_true] at h ⊢
  cases hB : bilB (bilF t (rateF 0 t.Articles) 0 (linF c s 0 t.Articles))
  ·rfl
  ·rw [hB] at h; exact absurd rfl h
def ptV (t : GTariff) (c : GCalendar) (s : GSession) (f e : Int) : Int := if (bilV t c (parV s f e)).2 = 0 then (bilV t c (parV s f e)).1.Total else 1000000001
theorem ptV_range (t : GTariff) (c : GCalendar) (s : GSession) (f e : Int) (hcc : c.Changes.length ≤ 900) (hch : c.Holidays.length ≤ 900) : 0 ≤ ptV t c s f e ∧ ptV t c s f e ≤ 1000000001 := by
 unfold ptV
 split
 ·rename_i h
  have := bil_ok hcc hch h
  omega
 ·omega
def segS (t : GTariff) (c : GCalendar) (s : GSession) : Int → List Int → Int
 | f, [] => ptV t c s f s.To
 | f, m :: r => ptV t c s f m + segS t c s m r
theorem segS_range (t : GTariff) (c : GCalendar) (s : GSession) (hcc : c.Changes.length ≤ 900) (hch : c.Holidays.length ≤ 900) : ∀ (l : List Int) (f : Int), 0 ≤ segS t c s f l ∧ segS t c s f l ≤ 1000000001 * (l.length + 1)
 | [], f => by
  have := ptV_range t c s f s.To hcc hch
  simp only [segS, List.length_nil]
  omega
 | m :: r, f => by
  have h1 := ptV_range t c s f m hcc hch
  have h2 := segS_range t c s hcc hch r m
  simp only [segS, List.length_cons]
  omega
def alB (t : GTariff) (c : GCalendar) (s : GSession) : Bool := tariffB t && calB c && valB s
def prcV (t : GTariff) (c : GCalendar) (s : GSession) (l : List Int) : Int × Int := if (alB t c s && cutsB s l) = true then (if segS t c s s.From l ≤ 1000000000 then (segS t c s s.From l, 0) else (0, 3)) else (0, 1)
theorem l_valid (n : Nat) (t : GTariff) (c : GCalendar) (s : GSession) (hn : 10000 ≤ n) (h1 : c.Changes.length ≤ 900) (h2 : c.Holidays.length ≤ 900) (hb : i64b s.To) : g_loophole_valid n t c s = some (alB t c s) := by
 unfold g_loophole_valid alB
 rw [b_tariff n t (by omega), Option.bind_some, b_cal n c (by omega) h1 h2, Option.bind_some, l_session n s (by omega) hb, Option.bind_some]
 cases tariffB t <;> cases calB c <;> cases valB s <;> rfl
theorem l_pay (n : Nat) (t : GTariff) (c : GCalendar) (s : GSession) (f e : Int) (hn : 10000 ≤ n) (h1 : c.Changes.length ≤ 900) (h2 : c.Holidays.length ≤ 900) (hl : s.Slices.length ≤ 900) (he : i64b e) :
  (g_loophole_part n s f e).bind (g_bill_Bill n t c) = some (bilV t c (parV s f e)) := by
 rw [l_part n s f e (by omega) hl, Option.bind_some, b_billV n t c _ hn h1 h2 (by have := parL_len f e s.Slices; unfold parV; simp only; omega) he]
def endL (s : GSession) (l : List Int) : List Int := l ++ [s.To]
theorem cutB_mem {e : Int} : ∀ (l : List Int) (b : Int), cutB e b l = true → ∀ x ∈ l, b < x ∧ x < e
 | [], _, _, x, hx => by cases hx
 | y :: l, b, h, x, hx => by
  simp only [cutB, Bool.and_eq_true, decide_eq_true_eq] at h
  rcases List.mem_cons.1 hx with rfl | hx
  ·exact h.1
  ·have := cutB_mem l _ h.2 x hx
   omega
def segE (t : GTariff) (c : GCalendar) (s : GSession) : Int → Int → List Int → Int × Int
 | z, _, [] => if 1000000000 < z then (0, 3) else (z, 0)
 | z, f, m :: r => if (bilV t c (parV s f m)).2 = 0 then segE t c s (z + (bilV t c (parV s f m)).1.Total) m r else (0, (bilV t c (parV s f m)).2)
theorem segE_S (t : GTariff) (c : GCalendar) (s : GSession) (hcc : c.Changes.length ≤ 900) (hch : c.Holidays.length ≤ 900) (ht : tariffB t = true) (hc : calB c = true) (hv : valB s = true) : ∀ (l : List Int) (z f : Int), 0 ≤ z → s.From ≤ f → cutB s.To f l = true → f < s.To →
  segE t c s z f (endL s l) = if z + segS t c s f l ≤ 1000000000 then (z + segS t c s f l, 0) else (0, 3)
 | [], z, f, hz, hf, hl, hft => by
  show (if (bilV t c (parV s f s.To)).2 = 0 then (if 1000000000 < z + (bilV t c (parV s f s.To)).1.Total then ((0 : Int), (3 : Int)) else (z + (bilV t c (parV s f s.To)).1.Total, 0)) else (0, (bilV t c (parV s f s.To)).2)) = if z + ptV t c s f s.To ≤ 1000000000 then (z + ptV t c s f s.To, 0) else (0, 3)
  unfold ptV
  by_cases h0 : (bilV t c (parV s f s.To)).2 = 0
  ·rw [if_pos h0, if_pos h0]
   by_cases h3 : 1000000000 < z + (bilV t c (parV s f s.To)).1.Total
   ·rw [if_pos h3, if_neg (by omega)]
   ·rw [if_neg h3, if_pos (by omega)]
  ·rw [if_neg h0, if_neg h0, bil_err ht hc (parV_val hv hf hft (Int.le_refl _)) h0, if_neg (by omega)]
 | m :: r, z, f, hz, hf, hl, hft => by
  simp only [cutB, Bool.and_eq_true, decide_eq_true_eq] at hl
  show (if (bilV t c (parV s f m)).2 = 0 then segE t c s (z + (bilV t c (parV s f m)).1.Total) m (endL s r) else (0, (bilV t c (parV s f m)).2)) = if z + (ptV t c s f m + segS t c s m r) ≤ 1000000000 then (z + (ptV t c s f m + segS t c s m r), 0) else (0, 3)
  have hr := segS_range t c s hcc hch r m
  unfold ptV
  by_cases h0 : (bilV t c (parV s f m)).2 = 0
  ·have hb := bil_ok hcc hch h0
   rw [if_pos h0, if_pos h0, segE_S t c s hcc hch ht hc hv r _ m (by omega) (by omega) hl.2 hl.1.2, Int.add_assoc]
  ·rw [if_neg h0, if_neg h0, bil_err ht hc (parV_val hv hf hl.1.1 (by omega)) h0, if_neg (by omega)]
theorem l_price (n : Nat) (t : GTariff) (c : GCalendar) (s : GSession) (l : List Int) (hn : 10000 ≤ n) (h1 : c.Changes.length ≤ 900) (h2 : c.Holidays.length ≤ 900) (hb : i64b s.To) : g_loophole_Price n t c s l = some (prcV t c s l) := by
 unfold g_loophole_Price prcV
 rw [l_valid n t c s hn h1 h2 hb, Option.bind_some]
 cases ha : alB t c s
 ·rfl
 rw [Bool.not_true, cond_false, l_cuts n s l (by omega), Option.bind_some]
 cases hcu : cutsB s l
 ·rfl
 simp only [Option.bind_some, Bool.not_true, cond_false, Bool.and_true, if_true]
 have ha' : tariffB t = true ∧ calB c = true ∧ valB s = true := by
  simp only [alB, Bool.and_eq_true] at ha; exact ⟨ha.1.1, ha.1.2, ha.2⟩
 have hs := valB_spec ha'.2.2
 have hc' : l.length ≤ 4 ∧ cutB s.To s.From l = true := by simpa [cutsB] using hcu
 have key := loop_gen (l := endL s l) (fun (a : Int × Int) i => (a.1, a.2, i)) (B := fun recl6 (v : Int × Int × Int) => g_loophole_Price_l6 n t c s l recl6 v.1 v.2.1 v.2.2) (F := fun a r => segE t c s a.1 a.2 r) (fun i a => 0 ≤ a.1 ∧ a.1 ≤ 1000000000 * i) (by simp [endL]; omega) ?_ ?_ (n := n) 0 (0, s.From) (by simp) (by omega) (by simp [endL]; omega)
 ·refine Eq.trans key ?_
  rw [List.drop_zero]
  show some (segE t c s 0 s.From (endL s l)) = _
  rw [segE_S t c s h1 h2 ha'.1 ha'.2.1 ha'.2.2 l 0 s.From (Int.le_refl _) (Int.le_refl _) hc'.2 hs.2.1, Int.zero_add]
 ·intro rec a ha0
  have e1 : (endL s l).length = l.length + 1 := by simp [endL]
  simp only [g_loophole_Price_l6, ltI, lenI, List.length_map]
  rw [wi_id (x := (l.length : Int) + 1) (by omega) (by omega), decide_eq_false (show ¬ (((endL s l).length : Nat) : Int) < (l.length : Int) + 1 by omega), cond_false]
  unfold g_loophole_Price_j5 segE
  simp only [ltI]
  by_cases h3 : 1000000000 < a.1
  ·rw [decide_eq_true h3, if_pos h3]; rfl
  ·rw [decide_eq_false h3, if_neg h3]; rfl
 ·intro rec a i x r ha0 hd hx hi hw hr
  have e1 : (endL s l).length = l.length + 1 := by simp [endL]
  simp only [g_loophole_Price_l6, ltI, lenI, List.length_map]
  rw [wi_id (x := (l.length : Int) + 1) (by omega) (by omega), decide_eq_true (show (i : Int) < (l.length : Int) + 1 by omega), cond_true]
  have hj : (bif decide ((i : Int) < (l.length : Int)) then (getI l (i : Int)).bind fun x8 => some x8 else some s.To) = some x := by
   by_cases c1 : i < l.length
   ·rw [decide_eq_true (by omega), cond_true, getI_nat]
    rw [show (endL s l)[i]? = l[i]? from by simp [endL, List.getElem?_append, c1]] at hx
    rw [hx]; rfl
   ·have : i = l.length := by omega
    subst this
    rw [decide_eq_false (by omega), cond_false]
    simpa [endL] using hx
  rw [hj, Option.bind_some]
  have hx64 : i64b x := by
   have : x ∈ endL s l := List.mem_of_getElem? hx
   rcases List.mem_append.1 this with h | h
   ·have := cutB_mem l _ hc'.2 x h
    unfold i64b; omega
   ·rw [List.mem_singleton] at h; rw [h]; exact hb
  have hp := l_pay n t c s a.2 x hn h1 h2 (by omega) hx64
  have hp2 : ∀ (k : GBill × Int → Option (Int × Int)), ((g_loophole_part n s a.2 x).bind fun r9 => (g_bill_Bill n t c r9).bind k) = k (bilV t c (parV s a.2 x)) := by
   intro k
   rw [← Option.bind_assoc, hp, Option.bind_some]
  rw [hp2, eqI_d]
  show _ = some (if (bilV t c (parV s a.2 x)).2 = 0 then segE t c s (a.1 + (bilV t c (parV s a.2 x)).1.Total) x r else (0, (bilV t c (parV s a.2 x)).2))
  by_cases h0 : (bilV t c (parV s a.2 x)).2 = 0
  ·have hbk := bil_ok h1 h2 h0
   rw [decide_eq_true h0, Bool.not_true, cond_false, if_pos h0, hw, wi_id (x := a.1 + (bilV t c (parV s a.2 x)).1.Total) (by omega) (by omega)]
   exact hr (a.1 + (bilV t c (parV s a.2 x)).1.Total, x) ⟨by omega, by omega⟩
  ·rw [decide_eq_false h0, Bool.not_false, cond_true, if_neg h0]
end Go.Proofs
namespace Go.Proofs
open Go Go.Abs
set_option maxRecDepth 100000
set_option linter.unusedVariables false
def scanM {R : Type} (hit : Int → Option R) : Nat → Int → Option R
 | 0, _ => none
 | k + 1, m => match hit m with
  | some r => some r
  | none => scanM hit k (m + 1)
def orK {R : Type} (o k : Option R) : Option R := match o with | some r => some r | none => k
theorem scan_loop {A R : Type} {lo to : Int} {Inv : A → Prop} {hit : Int → Option R} {K : A → Option R} {B : (Int × A → Option R) → Int × A → Option R}
  (hstep : ∀ rec m a, Inv a → lo ≤ m → m < to → ∃ a', Inv a' ∧ B rec (m, a) = orK (hit m) (rec (m + 1, a')))
  (hend : ∀ rec m a, Inv a → ¬ m < to → B rec (m, a) = K a) :
  ∀ (k j : Nat) (m : Int) (a : A), (to - m).toNat = k → k < j → lo ≤ m → Inv a → ∃ a', Inv a' ∧ loopN B j (m, a) = orK (scanM hit k m) (K a') := by
 intro k
 induction k with
 | zero =>
  intro j m a h1 h2 h3 h4
  obtain ⟨j, rfl⟩ : ∃ j', j = j' + 1 := ⟨j - 1, by omega⟩
  unfold loopN
  exact ⟨a, h4, by rw [hend _ _ _ h4 (by omega)]; rfl⟩
 | succ k ih =>
  intro j m a h1 h2 h3 h4
  obtain ⟨j, rfl⟩ : ∃ j', j = j' + 1 := ⟨j - 1, by omega⟩
  have hi := fun a' => ih j (m + 1) a' (by omega) (by omega) (by omega)
  unfold loopN
  generalize loopN B j = L at hi ⊢
  obtain ⟨a', g1, g2⟩ := hstep L m a h4 h3 (by omega)
  unfold scanM
  cases hm : hit m with
  | some r => rw [hm] at g2; exact ⟨a', g1, g2⟩
  | none =>
   rw [hm] at g2
   obtain ⟨a2, g3, g4⟩ := hi a' g1
   exact ⟨a2, g3, g2.trans g4⟩
theorem scanM_some {R : Type} {hit : Int → Option R} : ∀ {k : Nat} {m : Int} {r : R}, scanM hit k m = some r → ∃ x, m ≤ x ∧ x < m + k ∧ hit x = some r ∧ ∀ y, m ≤ y → y < x → hit y = none
 | 0, m, r, h => by cases h
 | k + 1, m, r, h => by
  unfold scanM at h
  cases hm : hit m with
  | some q =>
   rw [hm] at h
   exact ⟨m, Int.le_refl _, by omega, by rw [hm]; exact h, fun y h1 h2 => by omega⟩
  | none =>
   rw [hm] at h
   obtain ⟨x, h1, h2, h3, h4⟩ := scanM_some h
   refine ⟨x, by omega, by omega, h3, fun y h5 h6 => ?_⟩
   by_cases e : y = m
   ·rw [e]; exact hm
   ·exact h4 y (by omega) h6
theorem me_iff (a b : GLoopholeStretch) : me_map_loophole_stretch_int a b = true ↔ a = b := by
 cases a; cases b
 simp [me_map_loophole_stretch_int, eqI]
theorem mget_mset {K V : Type} {eq : K → K → Bool} (he : ∀ a b, eq a b = true ↔ a = b) (k k' : K) (v : V) : ∀ m : List (K × V), mget eq k' (mset eq k v m) = bif eq k' k then some v else mget eq k' m
 | [] => by
  unfold mset
  rfl
 | (q, w) :: m => by
  have ih := mget_mset he k k' v m
  unfold mset
  cases h1 : eq k q with
  | true =>
   have := (he _ _).1 h1
   subst this
   rw [cond_true]
   show (bif eq k' k then some v else mget eq k' m) = bif eq k' k then some v else (bif eq k' k then some w else mget eq k' m)
   cases eq k' k <;> rfl
  | false =>
   rw [cond_false]
   show (bif eq k' q then some w else mget eq k' (mset eq k v m)) = bif eq k' k then some v else (bif eq k' q then some w else mget eq k' m)
   rw [ih]
   cases h2 : eq k' q with
   | true =>
    have e2 := (he _ _).1 h2
    cases h3 : eq k' k with
    | true =>
     have e3 := (he _ _).1 h3
     rw [← e3, h2] at h1
     cases h1
    | false => rfl
   | false => cases eq k' k <;> rfl
def TabOk (t : GTariff) (c : GCalendar) (s : GSession) (m : List (GLoopholeStretch × Int)) : Prop := ∀ k v, mget me_map_loophole_stretch_int k m = some v → v = ptV t c s k.from_ k.to_
theorem tab_set {t : GTariff} {c : GCalendar} {s : GSession} {m : List (GLoopholeStretch × Int)} (h : TabOk t c s m) (f e : Int) : TabOk t c s (mset me_map_loophole_stretch_int ⟨f, e⟩ (ptV t c s f e) m) := by
 intro k v hk
 rw [mget_mset me_iff] at hk
 cases q : me_map_loophole_stretch_int k ⟨f, e⟩ with
 | true =>
  rw [q, cond_true] at hk
  rw [(me_iff _ _).1 q]
  exact (Option.some.inj hk).symm
 | false =>
  rw [q, cond_false] at hk
  exact h k v hk
theorem tab_step {n : Nat} {t : GTariff} {c : GCalendar} {s : GSession} {m : List (GLoopholeStretch × Int)} (hn : 10000 ≤ n) (h1 : c.Changes.length ≤ 900) (h2 : c.Holidays.length ≤ 900) (hl : s.Slices.length ≤ 900) (f e : Int) (he : i64b e) (h : TabOk t c s m) :
  ∃ m', TabOk t c s m' ∧ (bif (!(mhas me_map_loophole_stretch_int (⟨f, e⟩ : GLoopholeStretch) m)) then
   ((g_loophole_part n s f e).bind fun r11 =>
   (g_bill_Bill n t c r11).bind fun r12 =>
   bif (!eqI r12.2 0) then
    (some ((1000000001 : Int), mset me_map_loophole_stretch_int (⟨f, e⟩ : GLoopholeStretch) 1000000001 m))
   else
    (some (r12.1.Total, mset me_map_loophole_stretch_int (⟨f, e⟩ : GLoopholeStretch) r12.1.Total m)))
   else (some (mgetD me_map_loophole_stretch_int (⟨f, e⟩ : GLoopholeStretch) 0 m, m))) = some (ptV t c s f e, m') := by
 unfold mhas mgetD
 cases hg : mget me_map_loophole_stretch_int (⟨f, e⟩ : GLoopholeStretch) m with
 | some v =>
  refine ⟨m, h, ?_⟩
  rw [← h _ _ hg]
  rfl
 | none =>
  refine ⟨mset me_map_loophole_stretch_int ⟨f, e⟩ (ptV t c s f e) m, tab_set h f e, ?_⟩
  have hp2 : ∀ (k : GBill × Int → Option (Int × List (GLoopholeStretch × Int))), ((g_loophole_part n s f e).bind fun r9 => (g_bill_Bill n t c r9).bind k) = k (bilV t c (parV s f e)) := by
   intro k
   rw [← Option.bind_assoc, l_pay n t c s f e hn h1 h2 hl he, Option.bind_some]
  rw [show (!Option.isSome (none : Option Int)) = true from rfl, cond_true, hp2, eqI_d]
  unfold ptV
  by_cases h0 : (bilV t c (parV s f e)).2 = 0
  ·rw [decide_eq_true h0, Bool.not_true, cond_false, if_pos h0]
  ·rw [decide_eq_false h0, Bool.not_false, cond_true, if_neg h0]
abbrev FR := List Int × Bool × Int
def hit1 (t : GTariff) (c : GCalendar) (s : GSession) (a : Int) : Option FR := if segS t c s s.From [a] < segS t c s s.From [] then some ([a], true, 0) else none
def hit2 (t : GTariff) (c : GCalendar) (s : GSession) (a b : Int) : Option FR := if segS t c s s.From [a, b] < segS t c s s.From [] then some ([a, b], true, 0) else none
def hitP (t : GTariff) (c : GCalendar) (s : GSession) (a : Int) : Option FR := scanM (hit2 t c s a) (s.To - (a + 1)).toNat (a + 1)
def fndV (t : GTariff) (c : GCalendar) (s : GSession) (most : Int) : FR :=
 match scanM (hit1 t c s) (s.To - (s.From + 1)).toNat (s.From + 1) with
 | some r => r
 | none => if most < 2 then ([], false, 0) else match scanM (hitP t c s) (s.To - (s.From + 1)).toNat (s.From + 1) with
  | some r => r
  | none => ([], false, 0)
def finV (t : GTariff) (c : GCalendar) (s : GSession) (most : Int) : FR :=
 if (alB t c s && decide (s.To - s.From ≤ 60 ∧ 1 ≤ most ∧ most ≤ 2)) = true then (if segS t c s s.From [] ≤ 1000000000 then fndV t c s most else ([], false, 3)) else ([], false, 1)
section
variable {n : Nat} {t : GTariff} {c : GCalendar} {s : GSession} {most : Int} (hn : 10000 ≤ n) (h1 : c.Changes.length ≤ 900) (h2 : c.Holidays.length ≤ 900) (hv : valB s = true) (hd : s.To - s.From ≤ 60)
theorem l_find9 (hn : 10000 ≤ n) (h1 : c.Changes.length ≤ 900) (h2 : c.Holidays.length ≤ 900) (hv : valB s = true) (a : Int) (ha : s.From < a ∧ a < s.To) (recl8 : (Int × (List (GLoopholeStretch × Int))) → Option FR) (m : List (GLoopholeStretch × Int)) (hm : TabOk t c s m) :
  ∃ m', TabOk t c s m' ∧ loopN (fun recl9 (v : Int × List (GLoopholeStretch × Int)) => g_loophole_Find_l9 n t c s (segS t c s s.From [], 0) a recl8 recl9 v.1 v.2) n (a + 1, m) = orK (hitP t c s a) (recl8 (a + 1, m')) := by
 have hs := valB_spec hv
 have hw : ∀ (x : Int) (z : List (GLoopholeStretch × Int)), recl8 (wi (a + 1), z) = recl8 (a + 1, z) := fun x z => by rw [wi_id (x := a + 1) (by omega) (by omega)]
 unfold hitP
 refine scan_loop (lo := s.From) (to := s.To) (Inv := TabOk t c s) (hit := hit2 t c s a) (K := fun m' => recl8 (a + 1, m')) (B := fun recl9 (v : Int × List (GLoopholeStretch × Int)) => g_loophole_Find_l9 n t c s (segS t c s s.From [], 0) a recl8 recl9 v.1 v.2) ?_ ?_ _ n (a + 1) m rfl (by omega) (by omega) hm
 ·intro rec b z hz hb1 hb2
  obtain ⟨m1, k1, g1⟩ := tab_step (n := n) hn h1 h2 (by omega) s.From a (by unfold i64b; omega) hz
  obtain ⟨m2, k2, g2⟩ := tab_step (n := n) hn h1 h2 (by omega) a b (by unfold i64b; omega) k1
  obtain ⟨m3, k3, g3⟩ := tab_step (n := n) hn h1 h2 (by omega) b s.To (by unfold i64b; omega) k2
  refine ⟨m3, k3, ?_⟩
  have r1 := ptV_range t c s s.From a h1 h2
  have r2 := ptV_range t c s a b h1 h2
  have r3 := ptV_range t c s b s.To h1 h2
  show g_loophole_Find_l9 n t c s (segS t c s s.From [], 0) a recl8 rec b z = _
  unfold g_loophole_Find_l9
  simp only [ltI]
  rw [decide_eq_true hb2, cond_true, g1, Option.bind_some]
  simp only
  rw [g2, Option.bind_some]
  simp only
  rw [g3, Option.bind_some]
  simp only
  rw [wi_id (x := ptV t c s s.From a + ptV t c s a b) (by omega) (by omega), wi_id (x := ptV t c s s.From a + ptV t c s a b + ptV t c s b s.To) (by omega) (by omega), wi_id (x := b + 1) (by omega) (by omega)]
  unfold hit2
  rw [show segS t c s s.From [a, b] = ptV t c s s.From a + (ptV t c s a b + ptV t c s b s.To) from rfl, ← Int.add_assoc]
  by_cases q : ptV t c s s.From a + ptV t c s a b + ptV t c s b s.To < segS t c s s.From []
  ·rw [decide_eq_true q, cond_true, if_pos q]; rfl
  ·rw [decide_eq_false q, cond_false, if_neg q]; rfl
 ·intro rec b z hz hb
  show g_loophole_Find_l9 n t c s (segS t c s s.From [], 0) a recl8 rec b z = _
  unfold g_loophole_Find_l9
  simp only [ltI]
  rw [decide_eq_false hb, cond_false, wi_id (x := a + 1) (by omega) (by omega)]
theorem l_find8 (hn : 10000 ≤ n) (h1 : c.Changes.length ≤ 900) (h2 : c.Holidays.length ≤ 900) (hv : valB s = true) (m : List (GLoopholeStretch × Int)) (hm : TabOk t c s m) :
  g_loophole_Find_j7 n t c s most (segS t c s s.From [], 0) m = some (if most < 2 then ([], false, 0) else match scanM (hitP t c s) (s.To - (s.From + 1)).toNat (s.From + 1) with | some r => r | none => ([], false, 0)) := by
 have hs := valB_spec hv
 unfold g_loophole_Find_j7
 simp only [ltI]
 by_cases q : most < 2
 ·rw [decide_eq_true q, cond_true, if_pos q]
 rw [decide_eq_false q, cond_false, if_neg q, wi_id (x := s.From + 1) (by omega) (by omega)]
 have key := scan_loop (lo := s.From + 1) (to := s.To) (Inv := TabOk t c s) (hit := hitP t c s) (K := fun _ => some ([], false, 0)) (B := fun recl8 (v : Int × List (GLoopholeStretch × Int)) => g_loophole_Find_l8 n t c s (segS t c s s.From [], 0) recl8 v.1 v.2) ?_ ?_ _ n (s.From + 1) m rfl (by omega) (Int.le_refl _) hm
 ·obtain ⟨m', k, g⟩ := key
  refine g.trans ?_
  cases scanM (hitP t c s) (s.To - (s.From + 1)).toNat (s.From + 1) <;> rfl
 ·intro rec a z hz ha1 ha2
  show ∃ m', TabOk t c s m' ∧ g_loophole_Find_l8 n t c s (segS t c s s.From [], 0) rec a z = _
  unfold g_loophole_Find_l8
  simp only [ltI]
  rw [decide_eq_true ha2, cond_true, wi_id (x := a + 1) (by omega) (by omega)]
  exact l_find9 hn h1 h2 hv a ⟨by omega, ha2⟩ rec z hz
 ·intro rec a z hz ha
  show g_loophole_Find_l8 n t c s (segS t c s s.From [], 0) rec a z = _
  unfold g_loophole_Find_l8
  simp only [ltI]
  rw [decide_eq_false ha, cond_false]
theorem l_find (hn : 10000 ≤ n) (h1 : c.Changes.length ≤ 900) (h2 : c.Holidays.length ≤ 900) (hb : i64b s.To) : g_loophole_Find n t c s most = some (finV t c s most) := by
 unfold g_loophole_Find finV
 rw [l_valid n t c s hn h1 h2 hb, Option.bind_some]
 cases ha : alB t c s
 ·rfl
 have ha' : tariffB t = true ∧ calB c = true ∧ valB s = true := by
  simp only [alB, Bool.and_eq_true] at ha; exact ⟨ha.1.1, ha.1.2, ha.2⟩
 have hs := valB_spec ha'.2.2
 simp only [Bool.not_true, cond_false, Bool.true_and, ltI]
 rw [wi_id (x := s.To - s.From) (by omega) (by omega)]
 have ej : (bif decide (60 < s.To - s.From) then some true else bif decide (most < 1) then some true else some (decide (2 < most))) = some (!decide (s.To - s.From ≤ 60 ∧ 1 ≤ most ∧ most ≤ 2)) := by
  by_cases c1 : 60 < s.To - s.From
  ·rw [decide_eq_true c1, decide_eq_false (show ¬ (s.To - s.From ≤ 60 ∧ 1 ≤ most ∧ most ≤ 2) by omega)]; rfl
  rw [decide_eq_false c1, cond_false]
  by_cases c2 : most < 1
  ·rw [decide_eq_true c2, decide_eq_false (show ¬ (s.To - s.From ≤ 60 ∧ 1 ≤ most ∧ most ≤ 2) by omega)]; rfl
  rw [decide_eq_false c2, cond_false]
  by_cases c3 : 2 < most
  ·rw [decide_eq_true c3, decide_eq_false (show ¬ (s.To - s.From ≤ 60 ∧ 1 ≤ most ∧ most ≤ 2) by omega)]; rfl
  ·rw [decide_eq_false c3, decide_eq_true (show (s.To - s.From ≤ 60 ∧ 1 ≤ most ∧ most ≤ 2) by omega)]; rfl
 rw [ej, Option.bind_some]
 by_cases hd : s.To - s.From ≤ 60 ∧ 1 ≤ most ∧ most ≤ 2
 ·rw [decide_eq_true hd, Bool.not_true, cond_false, if_pos rfl, l_price n t c s [] hn h1 h2 hb, Option.bind_some]
  unfold prcV
  rw [ha, show cutsB s [] = true from rfl]
  simp only [Bool.and_true, if_true]
  by_cases hW : segS t c s s.From [] ≤ 1000000000
  ·rw [if_pos hW, if_pos hW, show (!eqI (segS t c s s.From [], (0 : Int)).2 0) = false from rfl, cond_false, wi_id (x := s.From + 1) (by omega) (by omega)]
   have key := scan_loop (lo := s.From + 1) (to := s.To) (Inv := TabOk t c s) (hit := hit1 t c s) (K := fun _ => some (if most < 2 then ([], false, 0) else match scanM (hitP t c s) (s.To - (s.From + 1)).toNat (s.From + 1) with | some r => r | none => ([], false, 0))) (B := fun recl19 (v : Int × List (GLoopholeStretch × Int)) => g_loophole_Find_l19 n t c s most (segS t c s s.From [], 0) recl19 v.1 v.2) ?_ ?_ _ n (s.From + 1) [] rfl (by omega) (Int.le_refl _) (fun k v hk => by cases hk)
   ·obtain ⟨m', k, g⟩ := key
    refine g.trans ?_
    unfold fndV
    cases scanM (hit1 t c s) (s.To - (s.From + 1)).toNat (s.From + 1) <;> rfl
   ·intro rec a z hz ha1 ha2
    obtain ⟨m1, k1, g1⟩ := tab_step (n := n) hn h1 h2 (by omega) s.From a (by unfold i64b; omega) hz
    obtain ⟨m2, k2, g2⟩ := tab_step (n := n) hn h1 h2 (by omega) a s.To (by unfold i64b; omega) k1
    refine ⟨m2, k2, ?_⟩
    have r1 := ptV_range t c s s.From a h1 h2
    have r2 := ptV_range t c s a s.To h1 h2
    show g_loophole_Find_l19 n t c s most (segS t c s s.From [], 0) rec a z = _
    unfold g_loophole_Find_l19
    simp only [ltI]
    rw [decide_eq_true ha2, cond_true, g1, Option.bind_some]
    simp only
    rw [g2, Option.bind_some]
    simp only
    rw [wi_id (x := ptV t c s s.From a + ptV t c s a s.To) (by omega) (by omega), wi_id (x := a + 1) (by omega) (by omega)]
    unfold hit1
    rw [show segS t c s s.From [a] = ptV t c s s.From a + ptV t c s a s.To from rfl]
    by_cases q : ptV t c s s.From a + ptV t c s a s.To < segS t c s s.From []
    ·rw [decide_eq_true q, cond_true, if_pos q]; rfl
    ·rw [decide_eq_false q, cond_false, if_neg q]; rfl
   ·intro rec a z hz ha
    show g_loophole_Find_l19 n t c s most (segS t c s s.From [], 0) rec a z = _
    unfold g_loophole_Find_l19
    simp only [ltI]
    rw [decide_eq_false ha, cond_false]
    exact l_find8 hn h1 h2 ha'.2.2 z hz
  ·rw [if_neg hW, if_neg hW]; rfl
 ·rw [decide_eq_false hd, Bool.not_false, cond_true, if_neg (by simp)]
end
end Go.Proofs
namespace Go.Proofs
open Go Go.Abs
set_option maxRecDepth 100000
theorem head34_big : g_law34_head 36893488147419103232 = some true := by kernel_rfl
end Go.Proofs
namespace Go.Proofs
open Go Go.Abs
set_option maxRecDepth 100000
set_option linter.unusedVariables false
theorem l_ints (n : Nat) (al bl : List Int) (hn : 1000 ≤ n) (hl : bl.length ≤ 900) : g_ref34_Ints n al bl = some (decide (al = bl)) := by
 unfold g_ref34_Ints
 simp only [lenI, List.length_map, eqI_d]
 by_cases h : al.length = bl.length
 rotate_left
 ·have h' : ¬ (al.length : Int) = bl.length := by omega
  have h2 : ¬ al = bl := fun h3 => h (by rw [h3])
  simp [h', h2]
 ·rw [decide_eq_true (show (al.length : Int) = bl.length from by omega)]
  simp only [Bool.not_true, cond_false]
  have := loop_gen (l := al) (fun (_ : List Int) i => i) (B := fun recl5 l5 => g_ref34_Ints_l1 al bl recl5 l5) (F := fun q r => decide (r = q)) (fun i q => bl.drop i = q) (by omega) ?_ ?_ (n := n) 0 bl (by simp) (by omega) (by omega)
  ·rw [show (((0 : Nat) : Int)) = 0 from rfl] at this
   rw [this]
   simp
  ·intro rec q hq
   simp only [g_ref34_Ints_l1, lenI, List.length_map, ltI]
   rw [decide_eq_false (by omega), cond_false]
   rw [h, List.drop_length] at hq
   subst hq
   simp
  ·intro rec q i x r hq hd hx hi hw hr
   have hb : bl[i]? = some bl[i] := by rw [List.getElem?_eq_getElem]
   have hq2 : q = bl[i] :: bl.drop (i + 1) := by rw [← hq, List.drop_eq_getElem_cons (by omega)]
   simp only [g_ref34_Ints_l1, lenI, List.length_map, ltI, getI_nat, hx, hb, Option.bind_some, eqI_d, hw]
   rw [decide_eq_true (by omega), cond_true, hr _ rfl, hq2]
   generalize bl[i] = y
   by_cases h1 : x = y <;> simp [h1]
theorem hit1_some {t : GTariff} {c : GCalendar} {s : GSession} {a : Int} {r : FR} (h : hit1 t c s a = some r) : segS t c s s.From [a] < segS t c s s.From [] ∧ r = ([a], true, 0) := by
 unfold hit1 at h
 split at h
 ·rename_i q; exact ⟨q, (Option.some.inj h).symm⟩
 ·cases h
end Go.Proofs
namespace Go.Proofs
open Go Go.Abs
set_option maxRecDepth 100000
set_option linter.unusedVariables false
theorem capF_none : ∀ (l : List GArticle) (z : Int), (∀ a ∈ l, ¬ a.Kind = 5) → capF z l = z
 | [], z, _ => rfl
 | a :: r, z, h => by
  unfold capF
  rw [if_neg (h a List.mem_cons_self)]
  exact capF_none r z fun y hy => h y (List.mem_cons_of_mem _ hy)
theorem rateF_no : ∀ (l : List GArticle) (z : Int), (∀ a ∈ l, ¬ a.Kind = 6) → rateF z l = z
 | [], z, _ => rfl
 | a :: r, z, h => by
  unfold rateF
  rw [if_neg (h a List.mem_cons_self)]
  exact rateF_no r z fun y hy => h y (List.mem_cons_of_mem _ hy)
theorem taxF_zero {z : Int} (h : 0 ≤ z ∧ z ≤ 1000000000) : taxF z 0 = 0 := by
 have := (taxE (N := z) (R := 0) h (by omega)).1
 rw [this, Int.mul_zero]
 rfl
theorem ptV_lines (t : GTariff) (c : GCalendar) (s : GSession) {f e : Int} (ht : tariffB t = true) (hc : calB c = true) (hv : valB s = true) (h1 : c.Changes.length ≤ 900) (h2 : c.Holidays.length ≤ 900) (hS : ∀ a ∈ t.Articles, ¬ a.Kind = 5 ∧ ¬ a.Kind = 6) (h0 : s.From ≤ f) (h3 : f < e) (h4 : e ≤ s.To) :
  ptV t c s f e = if sumA c (parV s f e) t.Articles ≤ 1000000000 then sumA c (parV s f e) t.Articles else 1000000001 := by
 have hvp := parV_val hv h0 h3 h4
 have hcap := capF_none t.Articles (sumA c (parV s f e) t.Articles) fun a ha => (hS a ha).1
 have hrate := rateF_no t.Articles 0 fun a ha => (hS a ha).2
 have hpos : 0 ≤ sumA c (parV s f e) t.Articles := (sumA_mem c (parV s f e) t.Articles fun a ha => (r_line 10000 c a _ (Nat.le_refl _) h1 h2 hc ((tariffB_spec ht).1 a ha) hvp).2).1
 by_cases q : sumA c (parV s f e) t.Articles ≤ 1000000000
 ·have htx := taxF_zero ⟨hpos, q⟩
  obtain ⟨g1, g2⟩ := bill_val t c (parV s f e) ht hc hvp h1 h2 q (by rw [hcap, hrate, htx]; omega)
  unfold ptV
  rw [if_pos g1, g2, hcap, hrate, htx, if_pos q]
  omega
 ·unfold ptV
  rw [if_neg q, if_neg]
  intro h
  have := bil_ok h1 h2 h
  rw [hcap] at this
  omega
theorem cN_all (c : GCalendar) (hc : calB c = true) (k p u v : Int) : ∀ (j : Nat) (m : Int), 0 ≤ m → m + j ≤ 52560001 → cN c ⟨k, 7, 0, 1440, p, u, v⟩ j m = j
 | 0, m, _, _ => rfl
 | j + 1, m, h1, h2 => by
  unfold cN
  rw [cN_all c hc k p u v j (m + 1) (by omega) (by omega), app_all c hc k p u v m (by omega), if_pos rfl]
  omega
theorem ptV_free (c : GCalendar) (s : GSession) (P F : Int) {f e : Int} (hP : 1 ≤ P ∧ P ≤ 65536) (hF : 1 ≤ F ∧ F ≤ 60) (hc : calB c = true) (hv : valB s = true) (h1 : c.Changes.length ≤ 900) (h2 : c.Holidays.length ≤ 900) (hL : s.To - s.From ≤ 60) (h0 : s.From ≤ f) (h3 : f < e) (h4 : e ≤ s.To)
  (ht : tariffB ⟨[116], [⟨3, 7, 0, 1440, P, 1, F⟩]⟩ = true) : ptV ⟨[116], [⟨3, 7, 0, 1440, P, 1, F⟩]⟩ c s f e = P * maxI 0 (e - f - F) := by
 have hs := valB_spec hv
 have ha : artB ⟨3, 7, 0, 1440, P, 1, F⟩ = true := (tariffB_spec ht).1 _ (List.mem_singleton.2 rfl)
 rw [ptV_lines _ c s ht hc hv h1 h2 (fun a ha => by rw [List.mem_singleton] at ha; subst ha; simp) h0 h3 h4]
 have e1 : sumA c (parV s f e) [⟨3, 7, 0, 1440, P, 1, F⟩] = staF c ⟨3, 7, 0, 1440, P, 1, F⟩ f e := by
  show cosF c (parV s f e) ⟨3, 7, 0, 1440, P, 1, F⟩ + 0 = _
  rw [Int.add_zero]
  rfl
 show (if sumA c (parV s f e) [⟨3, 7, 0, 1440, P, 1, F⟩] ≤ 1000000000 then sumA c (parV s f e) [⟨3, 7, 0, 1440, P, 1, F⟩] else 1000000001) = _
 rw [e1, staF_eq c _ f e ha (.inl rfl) (by omega) (by omega) (by omega), cN_all c hc 3 P 1 F _ _ (by omega) (by omega)]
 have e2 : cstM P (maxI 0 ((((e - f).toNat : Nat) : Int) - F)) 1 = P * maxI 0 (e - f - F) := by
  unfold cstM
  rw [show (((e - f).toNat : Nat) : Int) = e - f by omega, Int.ediv_one, show maxI 0 (e - f - F) + 1 - 1 = maxI 0 (e - f - F) by omega]
 show (if cstM P (maxI 0 ((((e - f).toNat : Nat) : Int) - F)) 1 ≤ 1000000000 then cstM P (maxI 0 ((((e - f).toNat : Nat) : Int) - F)) 1 else 1000000001) = _
 rw [e2, if_pos]
 have hm : 0 ≤ maxI 0 (e - f - F) ∧ maxI 0 (e - f - F) ≤ 60 := by unfold maxI; split <;> omega
 have := mul_bound (x := P) (X := 65536) (by omega) hm
 omega
theorem free34_plain (c : GCalendar) (s : GSession) (p w : Int) (hb : i64b s.To) (hbf : i64b s.From) (hp : u16b p) (hw : u16b w) : g_law34_LoopholeFree 36893488147419103232 c s p w = some true := by
 unfold u16b at hp hw
 unfold g_law34_LoopholeFree
 rw [head34_big, Option.bind_some]
 have w1 : wi p = p := wi_id (by omega) (by omega)
 have w2 : wi w = w := wi_id (by omega) (by omega)
 rw [w1, w2, Int.tmod_eq_emod_of_nonneg (by omega)]
 have hF0 : 0 ≤ w % 60 ∧ w % 60 < 60 := ⟨Int.emod_nonneg _ (by omega), Int.emod_lt_of_pos _ (by omega)⟩
 have w3 : wi (1 + p) = 1 + p := wi_id (by omega) (by omega)
 have w4 : wi (1 + w % 60) = 1 + w % 60 := wi_id (by omega) (by omega)
 rw [w3, w4]
 generalize hP : 1 + p = P
 generalize hF : 1 + w % 60 = F
 have hP2 : 1 ≤ P ∧ P ≤ 65536 := by omega
 have hF2 : 1 ≤ F ∧ F ≤ 60 := by omega
 unfold g_law34_always
 rw [Option.bind_some]
 obtain ⟨b, hf, hb2⟩ := few33 36893488147419103232 ⟨[116], [⟨3, 7, 0, 1440, P, 1, F⟩]⟩ c s
 rw [hf, Option.bind_some]
 cases b with
 | false => rfl
 | true =>
 obtain ⟨f1, f2, f3, f4, f5⟩ := hb2 rfl
 rw [Bool.not_true, cond_false, r_session_valid _ s (by omega) (by omega) hbf, Option.bind_some]
 cases hv : valB s with
 | false => rfl
 | true =>
 have hs := valB_spec hv
 rw [Bool.not_true, cond_false, wi_id (x := s.To - s.From) (by omega) (by omega)]
 simp only [ltI]
 by_cases hL : s.To - s.From ≤ 60
 rotate_left
 ·rw [decide_eq_true (by omega)]; rfl
 rw [decide_eq_false (show ¬ (60 < s.To - s.From) by omega), Option.bind_some, cond_false, l_find (by omega) (by omega) (by omega) hb, Option.bind_some]
 have ht : tariffB ⟨[116], [⟨3, 7, 0, 1440, P, 1, F⟩]⟩ = true := by
  unfold tariffB
  have h1 : artB ⟨3, 7, 0, 1440, P, 1, F⟩ = true := artB_A3 P 1 F (by omega) (by omega) (by omega)
  rw [show nameB [116] = true from rfl, tarB_tax]
  show (true && true && (((artB ⟨3, 7, 0, 1440, P, 1, F⟩) && true) && true)) = true
  rw [h1]; rfl
 cases hc : calB c with
 | false =>
  have : finV ⟨[116], [⟨3, 7, 0, 1440, P, 1, F⟩]⟩ c s 1 = ([], false, 1) := by
   unfold finV alB
   rw [hc, Bool.and_false, Bool.false_and, Bool.false_and]; rfl
  rw [this]; rfl
 | true =>
 have pt := fun {f e : Int} (h0 : s.From ≤ f) (h3 : f < e) (h4 : e ≤ s.To) => ptV_free c s P F hP2 hF2 hc hv (by omega) (by omega) hL h0 h3 h4 ht
 have hW : segS ⟨[116], [⟨3, 7, 0, 1440, P, 1, F⟩]⟩ c s s.From [] = P * maxI 0 (s.To - s.From - F) := pt (Int.le_refl _) hs.2.1 (Int.le_refl _)
 have hWb : P * maxI 0 (s.To - s.From - F) ≤ 1000000000 ∧ 0 ≤ P * maxI 0 (s.To - s.From - F) := by
  have hm : 0 ≤ maxI 0 (s.To - s.From - F) ∧ maxI 0 (s.To - s.From - F) ≤ 60 := by unfold maxI; split <;> omega
  have := mul_bound (x := P) (X := 65536) (by omega) hm
  omega
 have hfin : finV ⟨[116], [⟨3, 7, 0, 1440, P, 1, F⟩]⟩ c s 1 = if F < s.To - s.From then ([s.From + 1], true, 0) else ([], false, 0) := by
  unfold finV alB
  rw [ht, hc, hv, decide_eq_true (show s.To - s.From ≤ 60 ∧ (1 : Int) ≤ 1 ∧ (1 : Int) ≤ 2 by omega), if_pos (show (true && true && true && true) = true from rfl), hW, if_pos hWb.1]
  unfold fndV
  by_cases hlg : F < s.To - s.From
  ·rw [if_pos hlg]
   obtain ⟨k, hk⟩ : ∃ k, (s.To - (s.From + 1)).toNat = k + 1 := ⟨(s.To - (s.From + 1)).toNat - 1, by omega⟩
   rw [hk]
   unfold scanM
   have hh : hit1 ⟨[116], [⟨3, 7, 0, 1440, P, 1, F⟩]⟩ c s (s.From + 1) = some ([s.From + 1], true, 0) := by
    unfold hit1
    rw [if_pos]
    rw [hW]
    show ptV _ c s s.From (s.From + 1) + ptV _ c s (s.From + 1) s.To < _
    rw [pt (Int.le_refl _) (by omega) (by omega), pt (by omega) (by omega) (Int.le_refl _)]
    have m1 : maxI 0 (s.From + 1 - s.From - F) = 0 := by unfold maxI; split <;> omega
    have m2 : maxI 0 (s.To - (s.From + 1) - F) = s.To - s.From - F - 1 := by unfold maxI; split <;> omega
    have m3 : maxI 0 (s.To - s.From - F) = s.To - s.From - F := by unfold maxI; split <;> omega
    rw [m1, m2, m3, Int.mul_zero, Int.mul_sub]
    omega
   rw [hh]
  ·rw [if_neg hlg]
   have hz : P * maxI 0 (s.To - s.From - F) = 0 := by
    rw [show maxI 0 (s.To - s.From - F) = 0 from by unfold maxI; split <;> omega, Int.mul_zero]
   cases hq : scanM (hit1 ⟨[116], [⟨3, 7, 0, 1440, P, 1, F⟩]⟩ c s) (s.To - (s.From + 1)).toNat (s.From + 1) with
   | none => rfl
   | some r =>
    exfalso
    obtain ⟨a, g1, g2, g3, g4⟩ := scanM_some hq
    have := (hit1_some g3).1
    have h5 := segS_range ⟨[116], [⟨3, 7, 0, 1440, P, 1, F⟩]⟩ c s (by omega) (by omega) [a] s.From
    omega
 rw [hfin]
 by_cases hlg : F < s.To - s.From
 ·rw [if_pos hlg, decide_eq_true hlg]
  show (bif opq true then Option.bind (g_ref34_Ints 36893488147419103232 [s.From + 1] [wi (s.From + 1)]) _ else some false) = some true
  rw [wi_id (x := s.From + 1) (by omega) (by omega), l_ints _ _ _ (by omega) (by simp), decide_eq_true rfl]
  rfl
 ·rw [if_neg hlg, decide_eq_false hlg]; rfl
end Go.Proofs
namespace Go.Proofs.Ytfkhnaogcahcoaa
open Go Go.Abs Go.Proofs
theorem loopholeFree_holds : Rows.LoopholeFreeSaid :=
 loopholeFree_said (fun c s p w _ hs hp hw => ⟨_, free34_plain c s p w hs.To hs.From hp hw⟩)
end Go.Proofs.Ytfkhnaogcahcoaa
