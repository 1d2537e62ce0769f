/-
  Proved: LoopholeSteps. The price is the sum of the prices of both parts of the division before one of the cuts, each with the other cuts within it; for every tariff, calendar, session and cuts. No conditions beyond those of the given statement.
-/
import Derived.Test.YtfkhnaogcahcoaaSte04
namespace Go.Proofs
open Go Go.Abs
set_option maxRecDepth 100000
set_option linter.unusedVariables false
theorem b_listI (n : Nat) (l : List Int) (hn : 1000 ≤ n) (hl : l.length ≤ 900) : g_dv_int n l 36500 = some (holB (-1) l) := by
 unfold g_dv_int
 have := loop_acc (l := l) (B := fun recl1 (v : Int × Int) => g_dv_int_l1 n l 36500 recl1 v.1 v.2) (F := holB) (by omega) ?_ ?_ (n := n) 0 (-1) (by omega) (by omega)
 ·exact this
 ·intro rec a; simp [g_dv_int_l1, ltI, lenI, holB]
 ·intro rec a i x r hd hx hi hw hr
  simp only [g_dv_int_l1, g_days_keys_2, lenI, List.length_map, getI_nat, hx, Option.bind_some, hw, hr, ltI, leI, holB, cond_some]
  rw [decide_eq_true (by omega), cond_true]
  by_cases h1 : x ≤ a
  ·rw [decide_eq_true h1, decide_eq_false (show ¬ (a < x ∧ x ≤ 36500) by omega)]; rfl
  ·rw [decide_eq_false h1]
   by_cases h2 : 36500 < x
   ·rw [decide_eq_true h2, decide_eq_false (show ¬ (a < x ∧ x ≤ 36500) by omega)]; rfl
   ·rw [decide_eq_false h2, decide_eq_true (show a < x ∧ x ≤ 36500 by omega)]; rfl
theorem b_cal (n : Nat) (c : GCalendar) (hn : 1000 ≤ n) (h1 : c.Changes.length ≤ 900) (h2 : c.Holidays.length ≤ 900) : g_days_Valid n c = some (calB c) := by
 have key : loopN (fun recl9 l9 => g_days_Valid_l9 n c recl9 l9) n 0 = some (chO c.Changes && (chK (-1) c.Changes && holB (-1) c.Holidays)) := by
  have := loop_list (l := c.Changes) (B := fun recl9 l9 => g_days_Valid_l9 n c recl9 l9) (F := fun r => chO r && (chK (-1) c.Changes && holB (-1) c.Holidays)) (by omega) ?_ ?_ (n := n) 0 (by omega) (by omega)
  ·exact this
  ·intro rec
   simp only [g_days_Valid_l9, g_days_Valid_j5, lenI, List.length_map, ltI, b_listC n _ hn h1, b_listI n _ hn h2, Option.bind_some, cond_some]
   rw [decide_eq_false (by omega), cond_false]
   cases chK (-1) c.Changes <;> rfl
  ·intro rec i x r hd hx hi hw hr
   simp only [g_days_Valid_l9, lenI, List.length_map, getI_nat, hx, Option.bind_some, hw, hr, ltI, b_dinside]
   rw [decide_eq_true (by omega), cond_true, show chO (x :: r) = (decide (-1440 ≤ x.Offset ∧ x.Offset ≤ 1440) && chO r) from List.all_cons]
   cases decide (-1440 ≤ x.Offset ∧ x.Offset ≤ 1440) <;> rfl
 unfold g_days_Valid calB
 rw [key, chgB_KO]
 simp only [b_dinside, Option.bind_some, cond_some, lenI, List.length_map, ltI]
 by_cases c1 : c.Changes.length ≤ 16
 rotate_left
 ·rw [decide_eq_true (show (16 : Int) < c.Changes.length by omega), decide_eq_false c1]; simp
 rw [decide_eq_false (show ¬ (16 : Int) < c.Changes.length by omega), decide_eq_true c1]
 by_cases c2 : c.Holidays.length ≤ 32
 rotate_left
 ·rw [decide_eq_true (show (32 : Int) < c.Holidays.length by omega), decide_eq_false c2]; simp
 rw [decide_eq_false (show ¬ (32 : Int) < c.Holidays.length by omega), decide_eq_true c2]
 generalize decide (-1440 ≤ c.Offset ∧ c.Offset ≤ 1440) = b0
 generalize chO c.Changes = b1
 generalize chK (-1) c.Changes = b2
 generalize holB (-1) c.Holidays = b3
 cases b0 <;> cases b1 <;> cases b2 <;> cases b3 <;> rfl
end Go.Proofs
namespace Go.Proofs
open Go Go.Abs
set_option maxRecDepth 100000
set_option linter.unusedVariables false
theorem chK_lt : ∀ (l : List GChange) (a : Int), chK a l = true → (∀ x ∈ l, a < x.At) ∧ l.Pairwise (fun x y => x.At < y.At)
 | [], _, _ => ⟨(fun x h => by cases h), List.Pairwise.nil⟩
 | x :: r, a, h => by
  simp only [chK, Bool.and_eq_true, decide_eq_true_eq] at h
  obtain ⟨h1, h2⟩ := chK_lt r x.At h.2
  refine ⟨fun y hy => ?_, List.pairwise_cons.2 ⟨h1, h2⟩⟩
  rcases List.mem_cons.1 hy with rfl | hy
  ·exact h.1.1
  ·have := h1 y hy; omega
theorem holB_lt : ∀ (l : List Int) (a : Int), holB a l = true → (∀ x ∈ l, a < x) ∧ l.Pairwise (fun x y => x < y)
 | [], _, _ => ⟨(fun x h => by cases h), List.Pairwise.nil⟩
 | x :: r, a, h => by
  simp only [holB, Bool.and_eq_true, decide_eq_true_eq] at h
  obtain ⟨h1, h2⟩ := holB_lt r x h.2
  refine ⟨fun y hy => ?_, List.pairwise_cons.2 ⟨h1, h2⟩⟩
  rcases List.mem_cons.1 hy with rfl | hy
  ·exact h.1.1
  ·have := h1 y hy; omega
structure LastOf {α : Type} (key : α → Int) (l : List α) (m r : Int) : Prop where
 lo : -1 ≤ r
 hi : r < l.length
 le : ∀ (i : Nat) (x : α), (i : Int) ≤ r → l[i]? = some x → key x ≤ m
 gt : ∀ (i : Nat) (x : α), r < (i : Int) → l[i]? = some x → m < key x
theorem last_gen {α : Type} {key : α → Int} {l : List α} {m : Int} {B : (Int × Int → Option Int) → Int × Int → Option Int} (hl : l.length ≤ 900) (hs : l.Pairwise (fun x y => key x < key y))
  (hB : ∀ rec lo hi, B rec (lo, hi) = cond (ltI lo hi) ((getI l (wi (lo + wi (Int.tdiv (wi (wi (hi - lo) + 1)) 2)))).bind fun x => cond (leI (key x) m) (rec (wi (lo + wi (Int.tdiv (wi (wi (hi - lo) + 1)) 2)), hi)) (rec (lo, wi (wi (lo + wi (Int.tdiv (wi (wi (hi - lo) + 1)) 2)) - 1)))) (some lo))
  {n : Nat} (hn : 1000 ≤ n) : Does (loopN B n (-1, (l.length : Int) - 1)) (LastOf key l m) := by
 have := does_loop (B := B) (Q := fun _ r => LastOf key l m r) (fun v => (v.2 - v.1).toNat) (fun v => -1 ≤ v.1 ∧ v.1 ≤ v.2 ∧ v.2 < l.length ∧ (∀ (i : Nat) (x : α), (i : Int) ≤ v.1 → l[i]? = some x → key x ≤ m) ∧ (∀ (i : Nat) (x : α), v.2 < (i : Int) → l[i]? = some x → m < key x)) ?_ (n := n) (v := (-1, (l.length : Int) - 1)) ⟨by simp, by simp; omega, by simp; omega, fun i x h => by simp only at h; omega, fun i x h hx => by
  have := (List.getElem?_eq_some_iff.1 hx).1
  simp only at h
  omega⟩ (by simp only; omega)
 ·exact this
 ·rintro rec ⟨lo, hi⟩ ⟨h1, h2, h3, h4, h5⟩ ih
  simp only at h1 h2 h3 h4 h5 ih
  rw [hB]
  by_cases hlt : lo < hi
  rotate_left
  ·rw [show ltI lo hi = false from by simp only [ltI]; rw [decide_eq_false hlt], cond_false]
   exact does_some ⟨h1, by omega, h4, fun i x hi' hx => h5 i x (by omega) hx⟩
  rw [show ltI lo hi = true from by simp only [ltI]; rw [decide_eq_true hlt], cond_true]
  rw [wi_id (x := hi - lo) (by omega) (by omega), wi_id (x := hi - lo + 1) (by omega) (by omega), Int.tdiv_eq_ediv_of_nonneg (by omega), wi_id (x := (hi - lo + 1) / 2) (by omega) (by omega), wi_id (x := lo + (hi - lo + 1) / 2) (by omega) (by omega), wi_id (x := lo + (hi - lo + 1) / 2 - 1) (by omega) (by omega)]
  generalize hmid : lo + (hi - lo + 1) / 2 = mid
  have hm : lo < mid ∧ mid ≤ hi := by omega
  obtain ⟨j, rfl⟩ : ∃ j : Nat, mid = (j : Int) := ⟨mid.toNat, by omega⟩
  have hx : l[j]? = some (l[j]'(by omega)) := by rw [List.getElem?_eq_getElem]
  generalize l[j]'(by omega) = x at hx
  rw [getI_nat, hx, Option.bind_some]
  refine does_cond (fun hc => ?_) (fun hc => ?_)
  ·simp only [leI, decide_eq_true_eq] at hc
   refine ih (j, hi) ⟨by simp only; omega, by simp only; omega, h3, fun i y hi' hy => ?_, h5⟩ (by simp only; omega)
   simp only at hi'
   by_cases e : i = j
   ·subst e
    rw [hx] at hy; cases hy
    exact hc
   ·have hij : i < j := by omega
    have hy' := List.getElem?_eq_some_iff.1 hy
    have hx' := List.getElem?_eq_some_iff.1 hx
    have := List.pairwise_iff_getElem.1 hs i j hy'.1 hx'.1 hij
    rw [hy'.2, hx'.2] at this
    omega
  ·simp only [leI, decide_eq_false_iff_not] at hc
   refine ih (lo, (j : Int) - 1) ⟨h1, by simp only; omega, by simp only; omega, h4, fun i y hi' hy => ?_⟩ (by simp only; omega)
   simp only at hi'
   by_cases e : i = j
   ·subst e
    rw [hx] at hy; cases hy
    omega
   ·have hij : j < i := by omega
    have hy' := List.getElem?_eq_some_iff.1 hy
    have hx' := List.getElem?_eq_some_iff.1 hx
    have := List.pairwise_iff_getElem.1 hs j i hx'.1 hy'.1 hij
    rw [hy'.2, hx'.2] at this
    omega
theorem b_lastC (n : Nat) (l : List GChange) (m : Int) (hn : 1000 ≤ n) (hl : l.length ≤ 900) (hs : chK (-1) l = true) : Does (g_days_last_api_Change n l m) (LastOf GChange.At l m) := by
 unfold g_days_last_api_Change
 simp only [lenI, List.length_map]
 rw [wi_id (x := (l.length : Int) - 1) (by omega) (by omega)]
 exact last_gen (B := fun recl1 (v : Int × Int) => g_days_last_api_Change_l1 n l m recl1 v.1 v.2) hl (chK_lt l _ hs).2 (fun rec lo hi => rfl) hn
theorem b_lastI (n : Nat) (l : List Int) (m : Int) (hn : 1000 ≤ n) (hl : l.length ≤ 900) (hs : holB (-1) l = true) : Does (g_days_last_int n l m) (LastOf (fun x => x) l m) := by
 unfold g_days_last_int
 simp only [lenI, List.length_map]
 rw [wi_id (x := (l.length : Int) - 1) (by omega) (by omega)]
 exact last_gen (key := fun x => x) (B := fun recl1 (v : Int × Int) => g_days_last_int_l1 n l m recl1 v.1 v.2) hl (holB_lt l _ hs).2 (fun rec lo hi => rfl) hn
theorem offF_gt (m : Int) : ∀ (l : List GChange) (o : Int), (∀ x ∈ l, m < x.At) → offF m o l = o
 | [], _, _ => rfl
 | x :: r, o, h => by
  have := h x List.mem_cons_self
  unfold offF
  rw [if_neg (by omega)]
  exact offF_gt m r o (fun y hy => h y (List.mem_cons_of_mem _ hy))
theorem offF_at (m : Int) : ∀ (l : List GChange) (o : Int) (k : Nat) (x : GChange), l[k]? = some x → (∀ (i : Nat) (y : GChange), i ≤ k → l[i]? = some y → y.At ≤ m) → (∀ (i : Nat) (y : GChange), k < i → l[i]? = some y → m < y.At) → offF m o l = x.Offset
 | [], _, _, _, h, _, _ => by simp at h
 | z :: r, o, 0, x, h, h1, h2 => by
  simp at h
  subst h
  unfold offF
  rw [if_pos (h1 0 z (Nat.le_refl _) rfl)]
  exact offF_gt m r _ (fun y hy => by
   obtain ⟨i, hi⟩ := List.mem_iff_getElem?.1 hy
   exact h2 (i + 1) y (by omega) (by simpa using hi))
 | z :: r, o, k + 1, x, h, h1, h2 => by
  unfold offF
  exact offF_at m r _ k x (by simpa using h) (fun i y hi hy => h1 (i + 1) y (by omega) (by simpa using hy)) (fun i y hi hy => h2 (i + 1) y (by omega) (by simpa using hy))
theorem typF_mem (d : Int) : ∀ (l : List Int), typF d l = if d ∈ l then 2 else wkF d
 | [] => by simp [typF]
 | x :: r => by
  unfold typF
  rw [typF_mem d r]
  by_cases h : x = d
  ·simp [h]
  ·simp [h, Ne.symm h]
theorem tdiv_neg' (x : Int) (b : Int) (h : x ≤ 0) : Int.tdiv x b = -((-x) / b) ∧ Int.tmod x b = -((-x) % b) := by
 obtain ⟨y, rfl⟩ : ∃ y : Int, x = -y := ⟨-x, by omega⟩
 rw [Int.neg_tdiv, Int.neg_tmod, Int.neg_neg, Int.tdiv_eq_ediv_of_nonneg (by omega), Int.tmod_eq_emod_of_nonneg (by omega)]
 exact ⟨rfl, rfl⟩
theorem b_split1440 (n : Nat) (x : Int) (h : -1440 ≤ x ∧ x ≤ 100000000) : g_days_split n x 1440 = some ((x + 1440) / 1440 - 1, (x + 1440) % 1440) := by
 unfold g_days_split
 rw [show (!eqI 1440 0) = true from rfl, cond_true, cond_true]
 simp only [ltI]
 by_cases hx : 0 ≤ x
 ·rw [Int.tdiv_eq_ediv_of_nonneg hx, Int.tmod_eq_emod_of_nonneg hx, decide_eq_false (by omega), cond_false, wi_id (x := x / 1440) (by omega) (by omega)]
  congr 2
  ·omega
  ·omega
 ·obtain ⟨e1, e2⟩ := tdiv_neg' x 1440 (by omega)
  rw [e1, e2]
  by_cases hm : -((-x) % 1440) < 0
  ·rw [decide_eq_true hm, cond_true, wi_id (x := -((-x) / 1440)) (by omega) (by omega), wi_id (by omega) (by omega), wi_id (by omega) (by omega)]
   congr 2
   ·omega
   ·omega
  ·rw [decide_eq_false hm, cond_false, wi_id (x := -((-x) / 1440)) (by omega) (by omega)]
   congr 2
   ·omega
   ·omega
theorem b_local (n : Nat) (c : GCalendar) (m : Int) (hn : 1000 ≤ n) (h1 : c.Changes.length ≤ 900) (h2 : c.Holidays.length ≤ 900) (hc : calB c = true) (hm : 0 ≤ m ∧ m ≤ 52560000) :
  g_days_Local n c m = some ((m + offF m c.Offset c.Changes + 1440) / 1440 - 1, (m + offF m c.Offset c.Changes + 1440) % 1440, 0) := by
 have ho := cal_off m hc
 have hc' := hc
 simp only [calB, Bool.and_eq_true] at hc'
 have hK : chK (-1) c.Changes = true := by
  have := hc'.1.2
  rw [chgB_KO, Bool.and_eq_true] at this
  exact this.2
 unfold g_days_Local
 rw [b_cal n c hn h1 h2, hc, b_dinside, decide_eq_true hm]
 simp only [Option.bind_some, Bool.not_true, cond_false]
 obtain ⟨r, e, L⟩ := b_lastC n c.Changes m hn h1 hK
 rw [e]
 simp only [Option.bind_some]
 have hoff : (bif leI 0 r then (getI c.Changes r).bind fun x7 => some x7.Offset else some c.Offset) = some (offF m c.Offset c.Changes) := by
  by_cases h0 : 0 ≤ r
  ·obtain ⟨k, rfl⟩ : ∃ k : Nat, r = (k : Int) := ⟨r.toNat, by omega⟩
   have hk := L.hi
   have hx : c.Changes[k]? = some (c.Changes[k]'(by omega)) := by rw [List.getElem?_eq_getElem]
   rw [show leI 0 (k : Int) = true from by simp only [leI]; rw [decide_eq_true h0], cond_true, getI_nat, hx, Option.bind_some]
   rw [offF_at m c.Changes c.Offset k _ hx (fun i y hi hy => L.le i y (by omega) hy) (fun i y hi hy => L.gt i y (by omega) hy)]
  ·rw [show leI 0 r = false from by simp only [leI]; rw [decide_eq_false h0], cond_false]
   rw [offF_gt m c.Changes c.Offset (fun x hx => by
    obtain ⟨i, hi⟩ := List.mem_iff_getElem?.1 hx
    exact L.gt i x (by omega) hi)]
 rw [hoff, Option.bind_some]
 generalize offF m c.Offset c.Changes = o at ho
 rw [wi_id (x := m + o) (by omega) (by omega), b_split1440 n (m + o) (by omega), Option.bind_some]
theorem b_split7 (n : Nat) (d : Int) (h : -1 ≤ d ∧ d ≤ 36501) : g_days_split n d 7 = some ((d + 7) / 7 - 1, (d + 7) % 7) := by
 unfold g_days_split
 rw [show (!eqI 7 0) = true from rfl, cond_true, cond_true]
 simp only [ltI]
 by_cases hx : 0 ≤ d
 ·rw [Int.tdiv_eq_ediv_of_nonneg hx, Int.tmod_eq_emod_of_nonneg hx, decide_eq_false (by omega), cond_false, wi_id (x := d / 7) (by omega) (by omega)]
  congr 2
  ·omega
  ·omega
 ·have : d = -1 := by omega
  subst this
  rfl
theorem b_type (n : Nat) (c : GCalendar) (d : Int) (hn : 1000 ≤ n) (h1 : c.Changes.length ≤ 900) (h2 : c.Holidays.length ≤ 900) (hc : calB c = true) (hd : -1 ≤ d ∧ d ≤ 36501) : g_days_Type n c d = some (typF d c.Holidays, 0) := by
 have hc' := hc
 simp only [calB, Bool.and_eq_true] at hc'
 unfold g_days_Type
 rw [b_cal n c hn h1 h2, hc, b_dinside, decide_eq_true hd]
 simp only [Option.bind_some, Bool.not_true, cond_false]
 obtain ⟨r, e, L⟩ := b_lastI n c.Holidays d hn h2 hc'.2
 have hpw := (holB_lt _ _ hc'.2).2
 rw [e]
 simp only [Option.bind_some]
 have hj : (bif leI 0 r then (getI c.Holidays r).bind fun x8 => some (eqI x8 d) else some false) = some (decide (d ∈ c.Holidays)) := by
  by_cases h0 : 0 ≤ r
  ·obtain ⟨k, rfl⟩ : ∃ k : Nat, r = (k : Int) := ⟨r.toNat, by omega⟩
   have hk := L.hi
   have hx : c.Holidays[k]? = some (c.Holidays[k]'(by omega)) := by rw [List.getElem?_eq_getElem]
   rw [show leI 0 (k : Int) = true from by simp only [leI]; rw [decide_eq_true h0], cond_true, getI_nat, hx, Option.bind_some, eqI_d]
   generalize c.Holidays[k]'(by omega) = x at hx
   by_cases hxd : x = d
   ·rw [decide_eq_true hxd, decide_eq_true]
    rw [← hxd]
    exact List.mem_of_getElem? hx
   ·rw [decide_eq_false hxd, decide_eq_false]
    intro hmem
    obtain ⟨i, hi⟩ := List.mem_iff_getElem?.1 hmem
    have hik : (i : Int) ≤ k := by
     apply Classical.byContradiction
     intro h
     have := L.gt i d (by omega) hi
     omega
    by_cases e : i = k
    ·subst e
     rw [hx] at hi; cases hi
     exact hxd rfl
    ·have hi' := List.getElem?_eq_some_iff.1 hi
     have hx' := List.getElem?_eq_some_iff.1 hx
     have := List.pairwise_iff_getElem.1 hpw i k hi'.1 hx'.1 (by omega)
     rw [hi'.2, hx'.2] at this
     have := L.le k x (Int.le_refl _) hx
     omega
  ·rw [show leI 0 r = false from by simp only [leI]; rw [decide_eq_false h0], cond_false, decide_eq_false]
   intro hmem
   obtain ⟨i, hi⟩ := List.mem_iff_getElem?.1 hmem
   have := L.gt i d (by omega) hi
   omega
 rw [hj, Option.bind_some, typF_mem]
 by_cases hmem : d ∈ c.Holidays
 ·rw [decide_eq_true hmem, if_pos hmem]; rfl
 ·rw [decide_eq_false hmem, if_neg hmem, cond_false, b_split7 n d hd]
  unfold g_days_week wkF
  simp only [Option.bind_some]
  rw [wi_id (x := d + 7) (by omega) (by omega), Int.tmod_eq_emod_of_nonneg (a := d + 7) (by omega)]
  have hr : 0 ≤ (d + 7) % 7 ∧ (d + 7) % 7 < 7 := by omega
  generalize (d + 7) % 7 = w at hr
  have hw : w = 0 ∨ w = 1 ∨ w = 2 ∨ w = 3 ∨ w = 4 ∨ w = 5 ∨ w = 6 := by omega
  rcases hw with rfl | rfl | rfl | rfl | rfl | rfl | rfl <;> rfl
theorem b_applies (n : Nat) (c : GCalendar) (a : GArticle) (m : Int) (hn : 1000 ≤ n) (h1 : c.Changes.length ≤ 900) (h2 : c.Holidays.length ≤ 900) (hc : calB c = true) (ha : artB a = true) (hm : 0 ≤ m ∧ m ≤ 52560000) :
  g_tariff_Applies n a c m = some (appB c a m) := by
 have ho := cal_off m hc
 unfold g_tariff_Applies appB
 rw [b_article, ha, b_local n c m hn h1 h2 hc hm]
 simp only [Option.bind_some, Bool.not_true, cond_false, eqI_d, decide_true]
 generalize offF m c.Offset c.Changes = o at ho
 rw [wi_id (x := m + o) (by omega) (by omega), wi_id (x := m + o + 1440) (by omega) (by omega)]
 rw [Int.tdiv_eq_ediv_of_nonneg (a := m + o + 1440) (by omega), Int.tmod_eq_emod_of_nonneg (a := m + o + 1440) (by omega)]
 rw [wi_id (x := (m + o + 1440) / 1440) (by omega) (by omega), wi_id (x := (m + o + 1440) / 1440 - 1) (by omega) (by omega)]
 rw [b_type n c _ hn h1 h2 hc (by omega)]
 have ht := typF_range ((m + o + 1440) / 1440 - 1) c.Holidays
 simp only [Option.bind_some, cond_some, leI, ltI, decide_true, cond_true]
 rw [decide_eq_false (show ¬ typF ((m + o + 1440) / 1440 - 1) c.Holidays < 0 by omega)]
 generalize decide (bAnd .i64 a.Days (shlI .i64 1 (typF ((m + o + 1440) / 1440 - 1) c.Holidays)) = 0) = b
 generalize (m + o + 1440) % 1440 = w
 by_cases c1 : a.From ≤ w
 ·by_cases c2 : w < a.To
  ·rw [decide_eq_false (show ¬ w < a.From by omega), decide_eq_false (show ¬ a.To ≤ w by omega), decide_eq_true c1, decide_eq_true c2]
   cases b <;> rfl
  ·rw [decide_eq_false (show ¬ w < a.From by omega), decide_eq_true (show a.To ≤ w by omega), decide_eq_false c2]
   cases b <;> simp
 ·rw [decide_eq_true (show w < a.From by omega), decide_eq_false c1]; rfl
end Go.Proofs
namespace Go.Proofs
open Go Go.Abs
set_option maxRecDepth 100000
set_option linter.unusedVariables false
theorem b_minside (n : Nat) (x a b : Int) : g_money_inside n x a b = some (decide (a ≤ x ∧ x ≤ b)) := by
 unfold g_money_inside leI
 by_cases h : a ≤ x <;> simp [h]
theorem b_amount (n : Nat) (x : Int) : g_money_isAmount n x = some (decide (0 ≤ x ∧ x ≤ 1000000000)) := by
 unfold g_money_isAmount
 rw [b_minside, Option.bind_some]
theorem b_need (n : Nat) (b : Bool) (e : Int) : g_money_need n b e = some (needE b e) := by cases b <;> rfl
theorem b_checked (n : Nat) (x : Int) : g_money_checked n x = some (if 0 ≤ x ∧ x ≤ 1000000000 then .ok x else .error 3) := by
 unfold g_money_checked
 rw [b_amount, Option.bind_some, b_need, Option.bind_some, exc_need]
 by_cases h : 0 ≤ x ∧ x ≤ 1000000000
 ·rw [decide_eq_true h, if_pos h]; rfl
 ·rw [decide_eq_false h, if_neg h]; rfl
theorem r_checked' (n : Nat) (x : Int) : g_ref31_checked n x = some (if 0 ≤ x ∧ x ≤ 1000000000 then (x, 0) else (0, 3)) := by
 unfold g_ref31_checked
 rw [r_amount, Option.bind_some]
 by_cases h : 0 ≤ x ∧ x ≤ 1000000000
 ·rw [decide_eq_true h, if_pos h]; rfl
 ·rw [decide_eq_false h, if_neg h]; rfl
theorem b_end (n : Nat) (x : Int) : ((g_money_checked n x).bind (exc (fun r3 => (g_money_caught n 0).bind fun r5 => some (r3, r5)) fun e4 => (g_money_caught_2 n e4 0).bind fun r6 => some (0, r6))) = ((g_ref31_checked n x).bind fun r8 => some (r8.1, r8.2)) := by
 rw [b_checked, r_checked', Option.bind_some, Option.bind_some]
 by_cases h : 0 ≤ x ∧ x ≤ 1000000000
 ·rw [if_pos h, if_pos h]; rfl
 ·rw [if_neg h, if_neg h]; rfl
theorem b_times (n : Nat) (p q d : Int) : g_money_Times n p q d = g_ref31_Times n p q d := by
 unfold g_money_Times g_ref31_Times g_money_Times_j1
 simp only [b_amount, r_amount, b_minside, b_need, Option.bind_some, exc_need, b_end]
 unfold g_money_half g_ref31_divided
 by_cases c1 : 0 ≤ p ∧ p ≤ 1000000000
 rotate_left
 ·rw [decide_eq_false c1]; rfl
 rw [decide_eq_true c1]
 by_cases c2 : 0 ≤ q ∧ q ≤ 1000000000
 rotate_left
 ·rw [decide_eq_false c2]; rfl
 rw [decide_eq_true c2]
 simp only [Bool.not_true, cond_false, cond_true, ltI]
 by_cases c3 : 1 ≤ d
 ·rw [decide_eq_false (show ¬ d < 1 by omega)]
  by_cases c4 : d ≤ 1000000000
  ·rw [decide_eq_true (show 1 ≤ d ∧ d ≤ 1000000000 from ⟨c3, c4⟩), decide_eq_false (show ¬ 1000000000 < d by omega)]; rfl
  ·rw [decide_eq_false (show ¬ (1 ≤ d ∧ d ≤ 1000000000) by omega), decide_eq_true (show 1000000000 < d by omega)]; rfl
 ·rw [decide_eq_true (show d < 1 by omega), decide_eq_false (show ¬ (1 ≤ d ∧ d ≤ 1000000000) by omega)]; rfl
theorem b_started (n : Nat) (p q u : Int) : g_money_Started n p q u = g_ref31_Started n p q u := by
 unfold g_money_Started g_ref31_Started g_money_Started_j1
 simp only [b_amount, r_amount, b_minside, b_need, Option.bind_some, exc_need, b_end]
 by_cases c1 : 0 ≤ p ∧ p ≤ 1000000000
 rotate_left
 ·rw [decide_eq_false c1]; rfl
 rw [decide_eq_true c1]
 by_cases c2 : 0 ≤ q ∧ q ≤ 1000000000
 rotate_left
 ·rw [decide_eq_false c2]; rfl
 rw [decide_eq_true c2]
 simp only [Bool.not_true, cond_false, cond_true, ltI]
 by_cases c3 : 1 ≤ u
 ·rw [decide_eq_false (show ¬ u < 1 by omega)]
  by_cases c4 : u ≤ 1000000000
  ·rw [decide_eq_true (show 1 ≤ u ∧ u ≤ 1000000000 from ⟨c3, c4⟩), decide_eq_false (show ¬ 1000000000 < u by omega)]; rfl
  ·rw [decide_eq_false (show ¬ (1 ≤ u ∧ u ≤ 1000000000) by omega), decide_eq_true (show 1000000000 < u by omega)]; rfl
 ·rw [decide_eq_true (show u < 1 by omega), decide_eq_false (show ¬ (1 ≤ u ∧ u ≤ 1000000000) by omega)]; rfl
theorem b_tax (n : Nat) (x r : Int) : g_money_Tax n x r = g_ref31_Tax n x r := by
 unfold g_money_Tax g_ref31_Tax g_money_Tax_j1
 simp only [b_amount, r_amount, b_minside, b_need, Option.bind_some, exc_need, b_end]
 unfold g_money_half g_ref31_divided
 by_cases c1 : 0 ≤ x ∧ x ≤ 1000000000
 rotate_left
 ·rw [decide_eq_false c1]; rfl
 rw [decide_eq_true c1]
 simp only [Bool.not_true, cond_false, cond_true, ltI]
 by_cases c3 : 0 ≤ r
 ·rw [decide_eq_false (show ¬ r < 0 by omega)]
  by_cases c4 : r ≤ 100000
  ·rw [decide_eq_true (show 0 ≤ r ∧ r ≤ 100000 from ⟨c3, c4⟩), decide_eq_false (show ¬ 100000 < r by omega)]; rfl
  ·rw [decide_eq_false (show ¬ (0 ≤ r ∧ r ≤ 100000) by omega), decide_eq_true (show 100000 < r by omega)]; rfl
 ·rw [decide_eq_true (show r < 0 by omega), decide_eq_false (show ¬ (0 ≤ r ∧ r ≤ 100000) by omega)]; rfl
def amt (x : Int) : Except Int Int := if x ≤ 1000000000 then .ok x else .error 3
theorem b_must (n : Nat) (x : Int) : g_bill_must n (if x ≤ 1000000000 then (x, 0) else (0, 3) : Int × Int).1 (if x ≤ 1000000000 then (x, 0) else (0, 3) : Int × Int).2 = some (amt x) := by
 unfold amt
 by_cases h : x ≤ 1000000000
 ·rw [if_pos h, if_pos h]; rfl
 ·rw [if_neg h, if_neg h]; rfl
theorem b_session (n : Nat) (s : GSession) (hn : 1000 ≤ n) (hl : s.Slices.length ≤ 900) (hb : i64b s.To) : g_bill_Valid n s = some (valB s) := by
 unfold i64b at hb
 unfold g_bill_Valid valB
 simp only [ltI, leI, lenI, List.length_map]
 by_cases c1 : s.From < 0
 ·rw [decide_eq_true c1, cond_true, Option.bind_some, cond_true, decide_eq_false (by omega)]; rfl
 rw [decide_eq_false c1, cond_false]
 by_cases c2 : s.To ≤ s.From
 ·rw [decide_eq_true c2, cond_true, Option.bind_some, cond_true, decide_eq_false (by omega)]; rfl
 rw [decide_eq_false c2, cond_false, wi_id (x := s.To - s.From) (by omega) (by omega)]
 by_cases c4 : 2880 < s.To - s.From
 ·rw [decide_eq_true c4, cond_true, Option.bind_some, cond_true, decide_eq_false (by omega)]; rfl
 rw [decide_eq_false c4, cond_false, Option.bind_some]
 by_cases c3 : 52560000 < s.To
 ·rw [decide_eq_true c3, cond_true, decide_eq_false (by omega)]; rfl
 rw [decide_eq_false c3, cond_false]
 by_cases c5 : s.End < s.From
 ·rw [decide_eq_true c5, cond_true, Option.bind_some, cond_true, decide_eq_false (by omega)]; rfl
 rw [decide_eq_false c5, cond_false]
 by_cases c6 : s.To < s.End
 ·rw [decide_eq_true c6, cond_true, Option.bind_some, cond_true, decide_eq_false (by omega)]; rfl
 rw [decide_eq_false c6, cond_false, Option.bind_some]
 by_cases c7 : s.Slices.length ≤ 48
 rotate_left
 ·rw [decide_eq_true (show (48 : Int) < s.Slices.length by omega), cond_true, decide_eq_false (show ¬ (0 ≤ s.From ∧ s.From < s.To ∧ s.To ≤ 52560000 ∧ s.To - s.From ≤ 2880 ∧ s.From ≤ s.End ∧ s.End ≤ s.To ∧ s.Slices.length ≤ 48) by omega)]; rfl
 rw [decide_eq_false (show ¬ (48 : Int) < s.Slices.length by omega), cond_false, decide_eq_true (show 0 ≤ s.From ∧ s.From < s.To ∧ s.To ≤ 52560000 ∧ s.To - s.From ≤ 2880 ∧ s.From ≤ s.End ∧ s.End ≤ s.To ∧ s.Slices.length ≤ 48 by omega), Bool.true_and, wi_id (x := s.From - 1) (by omega) (by omega)]
 have := loop_gen (l := s.Slices) (fun (a : Int) i => (a, i)) (B := fun recl8 (v : Int × Int) => g_bill_Valid_l8 s recl8 v.1 v.2) (F := slB s.From s.End) (fun i a => s.From - 1 ≤ a) (by omega) ?_ ?_ (n := n) 0 (s.From - 1) (Int.le_refl _) (by omega) (by omega)
 ·exact this
 ·intro rec a ha
  simp only [g_bill_Valid_l8, lenI, List.length_map, ltI]
  rw [decide_eq_false (by omega), cond_false]
  rfl
 ·intro rec a i x r ha hd hx hi hw hr
  simp only [g_bill_Valid_l8, lenI, List.length_map, ltI, leI, getI_nat, hx, Option.bind_some, hw]
  rw [decide_eq_true (by omega), cond_true, slB]
  by_cases d1 : x.Minute ≤ a
  ·rw [decide_eq_true d1, cond_true, Option.bind_some, cond_true, decide_eq_false (by omega)]; rfl
  rw [decide_eq_false d1, cond_false]
  by_cases d2 : s.End ≤ x.Minute
  ·rw [decide_eq_true d2, cond_true, Option.bind_some, cond_true, decide_eq_false (by omega)]; rfl
  rw [decide_eq_false d2, cond_false]
  by_cases d3 : x.Energy < 0
  ·rw [decide_eq_true d3, cond_true, Option.bind_some, cond_true, decide_eq_false (by omega)]; rfl
  rw [decide_eq_false d3, cond_false, Option.bind_some]
  by_cases d4 : 10000 < x.Energy
  ·rw [decide_eq_true d4, cond_true, decide_eq_false (by omega)]; rfl
  rw [decide_eq_false d4, cond_false, hr x.Minute (by omega), decide_eq_true (by omega)]; rfl
theorem b_stretch (n : Nat) (c : GCalendar) (a : GArticle) (s : GSession) (f t : Int) (hn : 10000 ≤ n) (h1 : c.Changes.length ≤ 900) (h2 : c.Holidays.length ≤ 900) (hc : calB c = true) (ha : artB a = true) (hk34 : a.Kind = 3 ∨ a.Kind = 4) (hf : 0 ≤ f) (ht : t ≤ 52560000) (hk : t - f ≤ 2880) :
  g_bb_stretch n (⟨a, c, s⟩ : GBB) f t = some (amt (staF c a f t)) := by
 unfold g_bb_stretch
 have key : ∀ (k j : Nat) (z m : Int), (t - m).toNat = k → k < j → 0 ≤ m → k ≤ 2880 → 0 ≤ z ∧ z ≤ 3000 - k →
   loopN (fun recl3 (v : Int × Int) => g_bb_stretch_l3 n (⟨a, c, s⟩ : GBB) t recl3 v.1 v.2) j (m, z) = some (z + cN c a k m) := by
  intro k
  induction k with
  | zero =>
   intro j z m h3 h4 h5 h6 h7
   obtain ⟨j, rfl⟩ : ∃ j', j = j' + 1 := ⟨j - 1, by omega⟩
   unfold loopN
   simp only [g_bb_stretch_l3, ltI]
   rw [decide_eq_false (by omega), cond_false]
   simp [cN]
  | succ k ih =>
   intro j z m h3 h4 h5 h6 h7
   obtain ⟨j, rfl⟩ : ∃ j', j = j' + 1 := ⟨j - 1, by omega⟩
   have i0 := ih j z (m + 1) (by omega) (by omega) (by omega) (by omega) (by omega)
   have i1 := ih j (z + 1) (m + 1) (by omega) (by omega) (by omega) (by omega) (by omega)
   unfold loopN
   generalize loopN (fun recl3 (v : Int × Int) => g_bb_stretch_l3 n (⟨a, c, s⟩ : GBB) t recl3 v.1 v.2) j = L at i0 i1 ⊢
   show g_bb_stretch_l3 n (⟨a, c, s⟩ : GBB) t L m z = _
   unfold g_bb_stretch_l3 g_bb_applies
   simp only [ltI]
   rw [decide_eq_true (by omega), cond_true, b_applies n c a m (by omega) h1 h2 hc ha (by omega), Option.bind_some, Option.bind_some, wi_id (x := m + 1) (by omega) (by omega), wi_id (x := z + 1) (by omega) (by omega)]
   unfold cN
   cases appB c a m
   ·rw [cond_false, Option.bind_some, i0]
    simp
   ·rw [cond_true, Option.bind_some, i1]
    simp
    omega
 have hloop := key (t - f).toNat n 0 f rfl (by omega) hf (by omega) (by omega)
 rw [Int.zero_add] at hloop
 obtain ⟨g1, g2⟩ := r_sta n c a f t hn h1 h2 hc ha hk34 hf ht hk
 rw [r_minutes n c a f t hn h1 h2 hc ha hf ht hk, Option.bind_some] at g1
 simp only
 refine (congrArg (fun o => Option.bind o _) hloop).trans ?_
 rw [Option.bind_some, b_started]
 cases hS : g_ref31_Started n a.Price (maxI 0 (wi (cN c a (t - f).toNat f - a.Free))) a.Unit with
 | none => rw [hS] at g1; cases g1
 | some r =>
  rw [hS, Option.bind_some] at g1
  have hr : r = if staF c a f t ≤ 1000000000 then (staF c a f t, 0) else (0, 3) := Option.some.inj g1
  rw [Option.bind_some, hr]
  rw [b_must n (staF c a f t), Option.bind_some]
  unfold amt
  by_cases h : staF c a f t ≤ 1000000000
  ·rw [if_pos h]; rfl
  ·rw [if_neg h]; rfl
def endE (rate net : Int) (l : List GLine) : Except Int GBill :=
 if net ≤ 1000000000 ∧ wi (net + taxF net rate) ≤ 1000000000 then .ok ⟨l, net, taxF net rate, wi (net + taxF net rate)⟩ else .error 3
theorem b_sum1 (n : Nat) (rate cap : Int) (l : OL GLine) (z : Int) (hr : 0 ≤ rate ∧ rate ≤ 10000) (hz : 0 ≤ z) : g_bill_sum_j1 n rate cap l z = some (endE rate (capV cap z) l.toL) := by
 unfold g_bill_sum_j1
 have e : (bif leI 0 cap then some (minI z cap) else some z) = some (capV cap z) := by
  unfold capV leI minI
  by_cases c1 : 0 ≤ cap <;> by_cases c2 : cap < z <;> simp [c1, c2]
 rw [e, Option.bind_some]
 have hnet : 0 ≤ capV cap z := by unfold capV; split <;> omega
 generalize capV cap z = net at hnet
 unfold endE
 rw [b_tax]
 by_cases c : 1000000000 < net
 ·have : g_ref31_Tax n net rate = some (0, 1) := by
   unfold g_ref31_Tax
   rw [r_amount, decide_eq_false (show ¬ (0 ≤ net ∧ net ≤ 1000000000) by omega)]; rfl
  rw [this, if_neg (by omega)]; rfl
 ·obtain ⟨g1, g2, g3⟩ := r_tax n net rate (by omega) hr
  rw [g1, Option.bind_some]
  have hm : g_bill_must n (taxF net rate) 0 = some (.ok (taxF net rate)) := rfl
  simp only [hm, Option.bind_some, exc, ltI]
  by_cases c2 : 1000000000 < wi (net + taxF net rate)
  ·rw [decide_eq_true c2, cond_true, if_neg (by omega)]
  ·rw [decide_eq_false c2, cond_false, if_pos (by omega)]
theorem b_sum (n : Nat) (t : GTariff) (c : GCalendar) (s : GSession) (hn : 10000 ≤ n) (h1 : c.Changes.length ≤ 900) (h2 : c.Holidays.length ≤ 900) (hc : calB c = true) (ht : tariffB t = true) (hv : valB s = true) :
  g_bill_sum n t c s = some (if linB (linF c s 0 t.Articles) then (if bilB (bilF t (rateF 0 t.Articles) 0 (linF c s 0 t.Articles)) then .ok (bilF t (rateF 0 t.Articles) 0 (linF c s 0 t.Articles)) else .error 3) else .error 3) := by
 have ht' := ht
 simp only [tariffB, Bool.and_eq_true, decide_eq_true_eq] at ht'
 have hall := tarB_all ht'.2
 have hArt := fun a h => artB_art (hall a h)
 have hv' := hv
 simp only [valB, Bool.and_eq_true, decide_eq_true_eq] at hv'
 obtain ⟨hrng, hsl⟩ := hv'
 have hm := slB_mem hsl
 unfold g_bill_sum
 have := loop_gen (l := t.Articles) (fun (a : Int × Int × OL GLine × Int) i => (a.1, a.2.1, i, a.2.2.1, a.2.2.2)) (B := fun recl6 (v : Int × Int × Int × (OL GLine) × Int) => g_bill_sum_l6 n t c s recl6 v.1 v.2.1 v.2.2.1 v.2.2.2.1 v.2.2.2.2)
  (F := fun a r => if linB (linF c s (t.Articles.length - r.length) r) then endE (rateF a.1 r) (capV (capR a.2.1 r) (sumF a.2.2.2 (linF c s (t.Articles.length - r.length) r))) (a.2.2.1.toL ++ linF c s (t.Articles.length - r.length) r) else .error 3)
  (fun i a => (0 ≤ a.1 ∧ a.1 ≤ 10000) ∧ a.2.2.1.toL.length ≤ i ∧ 0 ≤ a.2.2.2 ∧ a.2.2.2 ≤ 1000000000 * i) (by omega) ?_ ?_ (n := n) 0 (0, -1, OL.nil, 0) (by simp) (by omega) (by omega)
 ·rw [show ((0 : Nat) : Int) = 0 from rfl] at this
  refine this.trans ?_
  simp only [OL.toL_nil, List.nil_append, List.drop_zero, Nat.sub_self]
  rw [← capF_R _ _ _ (fun a h => (hArt a h).price.1), show ∀ z, capV (-1) z = z from fun z => by unfold capV; rw [if_neg (by omega)]]
  unfold endE bilF bilB netF
  simp only [Bool.and_eq_true, decide_eq_true_eq]
 ·intro rec a ha
  have h : ltI ((t.Articles.length : Nat) : Int) (lenI (List.map GArticle.cs t.Articles)) = false := by simp [ltI, lenI]
  show g_bill_sum_l6 n t c s rec a.1 a.2.1 ((t.Articles.length : Nat) : Int) a.2.2.1 a.2.2.2 = _
  unfold g_bill_sum_l6
  rw [h, cond_false, b_sum1 n _ _ _ _ ha.1 ha.2.2.1]
  simp [linF, linB, rateF, capR, sumF]
 ·intro rec a i x r hi0 hd hx hi hw hr
  have h3 : ltI (i : Int) (lenI (List.map GArticle.cs t.Articles)) = true := by
   simp only [ltI, lenI, List.length_map]
   rw [decide_eq_true (by omega)]
  have hidx := drop_idx hd hi
  have hxa := hall x (List.mem_of_getElem? hx)
  have hA := artB_art hxa
  simp only [List.length_cons, hidx.1]
  simp only [hidx.2] at hr
  obtain ⟨rate, cap, acc, z⟩ := a
  simp only at hi0 ⊢
  show g_bill_sum_l6 n t c s rec rate cap (i : Int) acc z = _
  unfold g_bill_sum_l6
  rw [h3, cond_true, getI_nat, hx, Option.bind_some, hw]
  simp only [eqI_d]
  unfold linF rateF capR
  by_cases k5 : x.Kind = 5
  ·rw [decide_eq_true k5, cond_true, if_pos (Or.inl k5), if_neg (show ¬ x.Kind = 6 by omega), if_pos k5]
   have hcap := fun k => hr (rate, k, acc, z) ⟨hi0.1, by simp only; omega, hi0.2.2.1, by simp only; omega⟩
   simp only at hcap
   simp only [ltI, cond_some, Option.bind_some]
   rw [hcap, hcap]
   by_cases c1 : cap < 0
   ·simp [c1]
   ·by_cases c2 : x.Price < cap <;> simp [c1, c2]
  rw [decide_eq_false k5, cond_false]
  by_cases k6 : x.Kind = 6
  ·have := hr (x.Price, cap, acc, z) ⟨⟨hA.price.1, hA.rate k6⟩, by simp only; omega, by simp only; omega, by simp only; omega⟩
   simp only at this
   rw [decide_eq_true k6, cond_true, if_pos (Or.inr k6), if_pos k6, if_neg k5, this]
  rw [decide_eq_false k6, cond_false, if_neg (show ¬ (x.Kind = 5 ∨ x.Kind = 6) by omega), if_neg k6, if_neg k5]
  have g2 := (r_line n c x s hn h1 h2 hc hxa hv).2
  have hj : ∀ y, 0 ≤ y → y ≤ 1000000000 → g_bill_sum_j10 rate cap (i : Int) acc z rec y = some (if linB (linF c s (i + 1) r) then endE (rateF rate r) (capV (capR cap r) (sumF (z + y) (linF c s (i + 1) r))) (acc.toL ++ ⟨(i : Int), y⟩ :: linF c s (i + 1) r) else .error 3) := by
   intro y hy0 hy
   unfold g_bill_sum_j10
   have hroom : roomB (List.length (acc.toL ++ [(⟨(i : Int), y⟩ : GLine)])) 16 = true := by
    simp only [roomB, List.length_append, List.length_cons, List.length_nil]
    rw [decide_eq_true]
    omega
   have := hr (rate, cap, OL.own (acc.toL ++ [(⟨(i : Int), y⟩ : GLine)]), z + y) ⟨hi0.1, by simp only [OL.toL_own, List.length_append, List.length_cons, List.length_nil]; omega, by simp only; omega, by simp only; omega⟩
   simp only at this
   rw [hroom, cond_true, wi_id (x := z + y) (by omega) (by omega), hw, this]
   simp only [OL.toL_own, List.append_assoc, List.singleton_append]
  have hgoal : ∀ (y : Int), cosF c s x = y → 0 ≤ y → ∀ (p : Option (Except Int GBill)), p = (exc (fun y => g_bill_sum_j10 rate cap (i : Int) acc z rec y) (fun e => some (.error e)) (amt y)) →
    p = some (if linB (⟨(i : Int), cosF c s x⟩ :: linF c s (i + 1) r) then endE (rateF rate r) (capV (capR cap r) (sumF z (⟨(i : Int), cosF c s x⟩ :: linF c s (i + 1) r))) (acc.toL ++ ⟨(i : Int), cosF c s x⟩ :: linF c s (i + 1) r) else .error 3) := by
   rintro y rfl hy0 p rfl
   rw [linB_cons]
   unfold amt
   by_cases hb : cosF c s x ≤ 1000000000
   ·rw [if_pos hb, decide_eq_true hb]
    simp only [exc, Bool.true_and]
    rw [hj _ hy0 hb, show ∀ l, sumF z (⟨(i : Int), cosF c s x⟩ :: l) = sumF (wi (z + cosF c s x)) l from fun _ => rfl, wi_id (x := z + cosF c s x) (by omega) (by omega)]
   ·rw [if_neg hb, decide_eq_false hb]
    rfl
  have hcos : cosF c s x = if x.Kind = 1 then (if appB c x s.From then x.Price else 0) else if x.Kind = 2 then wi (Int.tdiv (wi (wi (wi (2 * x.Price) * eneF c x 0 s.Slices) + 1000)) 2000) else if x.Kind = 3 then staF c x s.From s.To else if x.Kind = 4 then staF c x s.End s.To else 0 := rfl
  by_cases k1 : x.Kind = 1
  ·rw [decide_eq_true k1, cond_true]
   rw [if_pos k1] at hcos
   unfold g_bb_applies
   have hp := hA.price
   rw [b_applies n c x s.From (by omega) h1 h2 hc hxa (by omega), Option.bind_some, Option.bind_some]
   cases happ : appB c x s.From
   ·rw [happ] at hcos
    refine hgoal 0 hcos (Int.le_refl _) _ ?_
    rfl
   ·rw [happ] at hcos
    refine hgoal x.Price hcos hp.1 _ ?_
    unfold amt
    rw [if_pos (by omega)]; rfl
  rw [decide_eq_false k1, cond_false]
  rw [if_neg k1] at hcos
  by_cases k2 : x.Kind = 2
  ·rw [decide_eq_true k2, cond_true]
   rw [if_pos k2] at hcos
   have hloop : loopN (fun recl13 (v : Int × Int) => g_bill_sum_l13 n c s x recl13 v.1 v.2) n (0, 0) = some (eneF c x 0 s.Slices) := by
    have := loop_acc (l := s.Slices) (B := fun recl13 (v : Int × Int) => g_bill_sum_l13 n c s x recl13 v.1 v.2) (F := eneF c x) (by omega) ?_ ?_ (n := n) 0 0 (by omega) (by omega)
    ·exact this
    ·intro rec z
     have h : ltI ((s.Slices.length : Nat) : Int) (lenI (List.map GSlice.cs s.Slices)) = false := by simp [ltI, lenI]
     show g_bill_sum_l13 n c s x rec z ((s.Slices.length : Nat) : Int) = some z
     unfold g_bill_sum_l13
     rw [h, cond_false]
    ·intro rec z i y q hd hy hi hw hr
     have h3 : ltI (i : Int) (lenI (List.map GSlice.cs s.Slices)) = true := by
      simp only [ltI, lenI, List.length_map]
      rw [decide_eq_true (by omega)]
     have hym := hm y (List.mem_of_getElem? hy)
     show g_bill_sum_l13 n c s x rec z (i : Int) = some (eneF c x z (y :: q))
     unfold g_bill_sum_l13 eneF g_bb_applies
     rw [h3, cond_true, getI_nat, hy, Option.bind_some, b_applies n c x y.Minute (by omega) h1 h2 hc hxa (by omega), Option.bind_some, Option.bind_some, hw, hr, hr]
     cases appB c x y.Minute
     ·rfl
     ·rfl
   have he := eneF_range c x s.Slices 0 (fun y hy => by have := hm y hy; omega) (by omega) (by omega)
   obtain ⟨g3, g4⟩ := r_times n x.Price (eneF c x 0 s.Slices) hA.price (by omega)
   refine hgoal _ hcos g4 _ ?_
   refine (congrArg (fun o => Option.bind o _) hloop).trans ?_
   rw [Option.bind_some, b_times, g3, Option.bind_some]
   refine (congrArg (fun o => Option.bind o _) (b_must n _)).trans ?_
   rw [Option.bind_some]
  rw [decide_eq_false k2, cond_false]
  rw [if_neg k2] at hcos
  by_cases k3 : x.Kind = 3
  ·rw [decide_eq_true k3, cond_true]
   rw [if_pos k3] at hcos
   refine hgoal _ hcos (by rw [← hcos]; exact g2) _ ?_
   rw [b_stretch n c x s s.From s.To hn h1 h2 hc hxa (Or.inl k3) hrng.1 (by omega) (by omega), Option.bind_some]
  rw [decide_eq_false k3, cond_false]
  rw [if_neg k3] at hcos
  by_cases k4 : x.Kind = 4
  ·rw [decide_eq_true k4, cond_true]
   rw [if_pos k4] at hcos
   refine hgoal _ hcos (by rw [← hcos]; exact g2) _ ?_
   rw [b_stretch n c x s s.End s.To hn h1 h2 hc hxa (Or.inr k4) (by omega) (by omega) (by omega), Option.bind_some]
  have := hA.kind
  omega
theorem b_bill (n : Nat) (t : GTariff) (c : GCalendar) (s : GSession) (hn : 10000 ≤ n) (h1 : c.Changes.length ≤ 900) (h2 : c.Holidays.length ≤ 900) (h3 : s.Slices.length ≤ 900) (hb : i64b s.To) :
  g_bill_Bill n t c s = some (if (tariffB t && calB c && valB s) = true then (if linB (linF c s 0 t.Articles) then (if bilB (bilF t (rateF 0 t.Articles) 0 (linF c s 0 t.Articles)) then (bilF t (rateF 0 t.Articles) 0 (linF c s 0 t.Articles), 0) else (zeroBill, 3)) else (zeroBill, 3)) else (zeroBill, 1)) := by
 unfold g_bill_Bill
 rw [b_tariff n t (by omega), b_cal n c (by omega) h1 h2, b_session n s (by omega) h3 hb]
 simp only [Option.bind_some, cond_some]
 cases ht : tariffB t
 ·rfl
 cases hc : calB c
 ·rfl
 cases hv : valB s
 ·rfl
 rw [b_sum n t c s hn h1 h2 hc ht hv]
 simp only [Bool.not_true, cond_false, Option.bind_some, Bool.and_self, if_true]
 cases linB (linF c s 0 t.Articles)
 ·rfl
 ·cases bilB (bilF t (rateF 0 t.Articles) 0 (linF c s 0 t.Articles))
  ·rfl
  ·rfl
end Go.Proofs
namespace Go.Proofs
open Go Go.Abs
set_option maxRecDepth 100000
set_option linter.unusedVariables false
def bilV (t : GTariff) (c : GCalendar) (s : GSession) : GBill × Int := if (tariffB t && calB c && valB s) = true then (if linB (linF c s 0 t.Articles) then (if bilB (bilF t (rateF 0 t.Articles) 0 (linF c s 0 t.Articles)) then (bilF t (rateF 0 t.Articles) 0 (linF c s 0 t.Articles), 0) else (zeroBill, 3)) else (zeroBill, 3)) else (zeroBill, 1)
theorem b_billV (n : Nat) (t : GTariff) (c : GCalendar) (s : GSession) (hn : 10000 ≤ n) (h1 : c.Changes.length ≤ 900) (h2 : c.Holidays.length ≤ 900) (h3 : s.Slices.length ≤ 900) (hb : i64b s.To) : g_bill_Bill n t c s = some (bilV t c s) := b_bill n t c s hn h1 h2 h3 hb
theorem few33 (n : Nat) (t : GTariff) (k : GCalendar) (s : GSession) : ∃ b, g_ref33_Few n t k s = some b ∧ (b = true → t.Articles.length ≤ 20 ∧ s.Slices.length ≤ 60 ∧ k.Changes.length ≤ 30 ∧ k.Holidays.length ≤ 60 ∧ t.Name.length ≤ 50) := by
 unfold g_ref33_Few g_ref26_Few
 simp only [cond_some, Option.bind_some, lenI, List.length_map, leI]
 refine ⟨_, rfl, fun h => ?_⟩
 simp [Bool.cond_eq_ite] at h
 omega
end Go.Proofs
namespace Go.Proofs
open Go Go.Abs
set_option maxRecDepth 100000
set_option linter.unusedVariables false
def isLn (a : GArticle) : Bool := !(decide (a.Kind = 5) || decide (a.Kind = 6))
theorem isLn_iff (a : GArticle) : isLn a = true ↔ ¬ (a.Kind = 5 ∨ a.Kind = 6) := by
 unfold isLn
 simp
def sumA (c : GCalendar) (s : GSession) : List GArticle → Int
 | [] => 0
 | a :: r => (if isLn a then cosF c s a else 0) + sumA c s r
def okA (c : GCalendar) (s : GSession) (l : List GArticle) : Bool := l.all fun a => !isLn a || decide (cosF c s a ≤ 1000000000)
theorem linB_okA (c : GCalendar) (s : GSession) : ∀ (l : List GArticle) (i : Nat), linB (linF c s i l) = okA c s l
 | [], _ => rfl
 | a :: r, i => by
  have ih := linB_okA c s r (i + 1)
  unfold okA at ih ⊢
  rw [List.all_cons, ← ih, show linF c s i (a :: r) = if a.Kind = 5 ∨ a.Kind = 6 then linF c s (i + 1) r else ⟨(i : Int), cosF c s a⟩ :: linF c s (i + 1) r from rfl]
  by_cases h : a.Kind = 5 ∨ a.Kind = 6
  ·rw [if_pos h, show isLn a = false from by cases hl : isLn a with | false => rfl | true => exact absurd h ((isLn_iff a).1 hl)]
   simp
  ·rw [if_neg h, (isLn_iff a).2 h, linB_cons]
   simp
theorem sumF_A (c : GCalendar) (s : GSession) : ∀ (l : List GArticle) (i : Nat) (z : Int), okA c s l = true → (∀ a ∈ l, 0 ≤ cosF c s a) → 0 ≤ z → z + 1000000000 * l.length ≤ 1000000000000000 → sumF z (linF c s i l) = z + sumA c s l ∧ 0 ≤ sumA c s l ∧ sumA c s l ≤ 1000000000 * l.length
 | [], i, z, _, _, h0, h1 => by
  refine ⟨?_, Int.le_refl _, ?_⟩
  ·show z = z + 0
   omega
  ·show (0 : Int) ≤ 1000000000 * ((0 : Nat) : Int)
   omega
 | a :: r, i, z, hok, hp, h0, h1 => by
  unfold okA at hok
  rw [List.all_cons, Bool.and_eq_true] at hok
  have hpa := hp a List.mem_cons_self
  simp only [List.length_cons] at h1 ⊢
  rw [show linF c s i (a :: r) = if a.Kind = 5 ∨ a.Kind = 6 then linF c s (i + 1) r else ⟨(i : Int), cosF c s a⟩ :: linF c s (i + 1) r from rfl, show sumA c s (a :: r) = (if isLn a then cosF c s a else 0) + sumA c s r from rfl]
  by_cases h : a.Kind = 5 ∨ a.Kind = 6
  ·have hl : isLn a = false := by cases hl : isLn a with | false => rfl | true => exact absurd h ((isLn_iff a).1 hl)
   obtain ⟨g1, g2, g3⟩ := sumF_A c s r (i + 1) z hok.2 (fun x hx => hp x (List.mem_cons_of_mem _ hx)) h0 (by omega)
   rw [if_pos h, hl, g1]
   simp only [Bool.false_eq_true, if_false]
   omega
  ·have hl := (isLn_iff a).2 h
   have hle : cosF c s a ≤ 1000000000 := by
    have := hok.1
    rw [hl] at this
    simpa using this
   obtain ⟨g1, g2, g3⟩ := sumF_A c s r (i + 1) (z + cosF c s a) hok.2 (fun x hx => hp x (List.mem_cons_of_mem _ hx)) (by omega) (by omega)
   rw [if_neg h, hl, show ∀ q, sumF z (⟨(i : Int), cosF c s a⟩ :: q) = sumF (wi (z + cosF c s a)) q from fun _ => rfl, wi_id (x := z + cosF c s a) (by omega) (by omega), g1]
   simp only [if_true]
   omega
end Go.Proofs
namespace Go.Proofs
open Go Go.Abs
set_option maxRecDepth 100000
set_option linter.unusedVariables false
theorem capF_range : ∀ (l : List GArticle) (z : Int), (∀ a ∈ l, 0 ≤ a.Price) → 0 ≤ z → 0 ≤ capF z l ∧ capF z l ≤ z
 | [], z, _, h => ⟨h, Int.le_refl _⟩
 | a :: r, z, hp, h => by
  have ha := hp a List.mem_cons_self
  rw [show capF z (a :: r) = capF (if a.Kind = 5 then minI z a.Price else z) r from rfl]
  have hz : 0 ≤ (if a.Kind = 5 then minI z a.Price else z) ∧ (if a.Kind = 5 then minI z a.Price else z) ≤ z := by
   split
   ·unfold minI; split <;> omega
   ·omega
  have := capF_range r _ (fun x hx => hp x (List.mem_cons_of_mem _ hx)) hz.1
  omega
theorem rateQ {l : List GArticle} (h : ∀ a ∈ l, artB a = true) : 0 ≤ rateF 0 l ∧ rateF 0 l ≤ 10000 := rateF_range l 0 (fun a ha => ⟨(artB_art (h a ha)).price.1, (artB_art (h a ha)).rate⟩) (by omega)
theorem tariffB_spec {t : GTariff} (h : tariffB t = true) : (∀ a ∈ t.Articles, artB a = true) ∧ t.Articles.length ≤ 12 := by
 simp only [tariffB, Bool.and_eq_true, decide_eq_true_eq] at h
 exact ⟨tarB_all h.2, h.1.2⟩
end Go.Proofs
namespace Go.Proofs
open Go Go.Abs
set_option maxRecDepth 100000
set_option linter.unusedVariables false
def inP (f t : Int) (x : GSlice) : Bool := decide (f ≤ x.Minute) && decide (x.Minute < t)
def parL (f t : Int) (l : List GSlice) : List GSlice := l.filter (inP f t)
def parV (s : GSession) (f t : Int) : GSession := ⟨f, t, minI (maxI s.End f) t, parL f t s.Slices⟩
theorem parL_len (f t : Int) (l : List GSlice) : (parL f t l).length ≤ l.length := List.length_filter_le _ _
theorem l_session (n : Nat) (s : GSession) (hn : 1000 ≤ n) (hb : i64b s.To) : g_bill_Valid n s = some (valB s) := by
 by_cases hl : s.Slices.length ≤ 900
 ·exact b_session n s hn hl hb
 unfold i64b at hb
 unfold g_bill_Valid valB
 simp only [ltI, leI, lenI, List.length_map]
 rw [decide_eq_false (show ¬ (0 ≤ s.From ∧ s.From < s.To ∧ s.To ≤ 52560000 ∧ s.To - s.From ≤ 2880 ∧ s.From ≤ s.End ∧ s.End ≤ s.To ∧ s.Slices.length ≤ 48) by omega), Bool.false_and]
 rw [decide_eq_true (show (48 : Int) < s.Slices.length by omega)]
 cases decide (s.From < 0) <;> cases decide (s.To ≤ s.From) <;> cases decide (2880 < wi (s.To - s.From)) <;> cases decide (52560000 < s.To) <;> cases decide (s.End < s.From) <;> cases decide (s.To < s.End) <;> rfl
theorem l_part (n : Nat) (s : GSession) (f t : Int) (hn : 1000 ≤ n) (hl : s.Slices.length ≤ 900) : g_loophole_part n s f t = some (parV s f t) := by
 unfold g_loophole_part
 have := loop_gen (l := s.Slices) (fun (a : OL GSlice) i => (i, a)) (B := fun recl1 (v : Int × OL GSlice) => g_loophole_part_l1 s f t recl1 v.1 v.2) (F := fun a r => (⟨f, t, minI (maxI s.End f) t, a.toL ++ parL f t r⟩ : GSession)) (fun i a => a.toL.length ≤ i) (by omega) ?_ ?_ (n := n) 0 OL.nil (Nat.le_refl _) (by omega) (by omega)
 ·refine Eq.trans this ?_
  simp [parV, OL.toL]
 ·intro rec a ha
  simp only [g_loophole_part_l1, lenI, List.length_map, ltI]
  rw [decide_eq_false (by omega), cond_false]
  simp [parL]
 ·intro rec a i x r ha hd hx hi hw hr
  simp only [g_loophole_part_l1, lenI, List.length_map, ltI, leI, getI_nat, hx, Option.bind_some, hw]
  rw [decide_eq_true (by omega), cond_true]
  have e1 : ((bif decide (f ≤ x.Minute) then some (decide (x.Minute < t)) else some false).bind fun j3 => bif j3 then bif roomB (List.length (a.toL ++ [x])) 16 then rec (((i + 1 : Nat) : Int), OL.own (a.toL ++ [x])) else none else rec (((i + 1 : Nat) : Int), a)) = (bif inP f t x then bif roomB (List.length (a.toL ++ [x])) 16 then rec (((i + 1 : Nat) : Int), OL.own (a.toL ++ [x])) else none else rec (((i + 1 : Nat) : Int), a)) := by
   unfold inP
   cases decide (f ≤ x.Minute) <;> cases decide (x.Minute < t) <;> rfl
  rw [e1]
  have e2 : roomB (List.length (a.toL ++ [x])) 16 = true := by
   simp only [roomB, List.length_append, List.length_cons, List.length_nil, decide_eq_true_eq]
   omega
  rw [e2, cond_true]
  have e3 : parL f t (x :: r) = bif inP f t x then x :: parL f t r else parL f t r := by
   unfold parL
   rw [List.filter_cons]
   cases inP f t x <;> rfl
  rw [e3]
  cases inP f t x
  ·rw [cond_false, cond_false]
   exact hr a (by omega)
  ·rw [cond_true, cond_true]
   refine (hr (OL.own (a.toL ++ [x])) ?_).trans ?_
   ·show (a.toL ++ [x]).length ≤ i + 1
    simp only [List.length_append, List.length_cons, List.length_nil]; omega
   ·simp [OL.toL]
theorem slB_memP {f e : Int} : ∀ (l : List GSlice) (p : Int), slB f e p l = true → ∀ x ∈ l, f ≤ x.Minute ∧ x.Minute < e ∧ 0 ≤ x.Energy ∧ x.Energy ≤ 10000 ∧ p < x.Minute
 | [], _, _, x, hx => by cases hx
 | y :: l, p, h, x, hx => by
  simp only [slB, Bool.and_eq_true, decide_eq_true_eq] at h
  rcases List.mem_cons.1 hx with rfl | hx
  ·exact h.1
  ·have := slB_memP l _ h.2 x hx
   omega
theorem slB_mono {f e f' e' : Int} : ∀ (l : List GSlice) (p p' : Int), slB f e p l = true → (∀ x ∈ l, f' ≤ x.Minute ∧ x.Minute < e' ∧ p' < x.Minute) → slB f' e' p' l = true
 | [], _, _, _, _ => rfl
 | y :: l, p, p', h, hx => by
  have hm := slB_memP (f := f) (e := e) l
  simp only [slB, Bool.and_eq_true, decide_eq_true_eq] at h ⊢
  have h1 := hx y (List.mem_cons_self ..)
  refine ⟨by omega, slB_mono l _ _ h.2 fun x hxl => ?_⟩
  have h2 := hx x (List.mem_cons_of_mem _ hxl)
  have h3 := hm _ h.2 x hxl
  omega
theorem slB_filter {f e : Int} (q : GSlice → Bool) : ∀ (l : List GSlice) (p : Int), slB f e p l = true → slB f e p (l.filter q) = true
 | [], _, _ => rfl
 | y :: l, p, h => by
  have h0 := h
  simp only [slB, Bool.and_eq_true, decide_eq_true_eq] at h
  rw [List.filter_cons]
  split
  ·simp only [slB, Bool.and_eq_true, decide_eq_true_eq]
   exact ⟨h.1, slB_filter q l _ h.2⟩
  ·refine slB_filter q l p (slB_mono l _ _ h.2 fun x hx => ?_)
   have := slB_memP l _ h.2 x hx
   omega
theorem valB_spec {s : GSession} (h : valB s = true) : 0 ≤ s.From ∧ s.From < s.To ∧ s.To ≤ 52560000 ∧ s.To - s.From ≤ 2880 ∧ s.From ≤ s.End ∧ s.End ≤ s.To ∧ s.Slices.length ≤ 48 := by
 simp only [valB, Bool.and_eq_true, decide_eq_true_eq] at h; exact h.1
theorem valB_sl {s : GSession} (h : valB s = true) : slB s.From s.End (s.From - 1) s.Slices = true := by
 simp only [valB, Bool.and_eq_true, decide_eq_true_eq] at h; exact h.2
theorem parV_val {s : GSession} {f t : Int} (h : valB s = true) (h1 : s.From ≤ f) (h2 : f < t) (h3 : t ≤ s.To) : valB (parV s f t) = true := by
 have hs := valB_spec h
 have hl := valB_sl h
 have hlen := parL_len f t s.Slices
 have he : f ≤ minI (maxI s.End f) t ∧ minI (maxI s.End f) t ≤ t := by unfold minI maxI; split <;> split <;> omega
 have hsl : slB f (minI (maxI s.End f) t) (f - 1) (parL f t s.Slices) = true := by
  refine slB_mono _ _ _ (slB_filter (inP f t) _ _ hl) fun x hx => ?_
  have hx2 := List.mem_filter.1 hx
  have hx3 := slB_memP _ _ hl x hx2.1
  have hx4 : f ≤ x.Minute ∧ x.Minute < t := by simpa [inP] using hx2.2
  refine ⟨hx4.1, ?_, by omega⟩
  unfold minI maxI; split <;> split <;> omega
 unfold valB parV
 simp only [Bool.and_eq_true, decide_eq_true_eq]
 exact ⟨by omega, hsl⟩
def splV (s : GSession) (m : Int) : GSession × GSession × Int := if (valB s && decide (s.From < m) && decide (m < s.To)) = true then (parV s s.From m, parV s m s.To, 0) else (⟨0, 0, 0, []⟩, ⟨0, 0, 0, []⟩, 1)
theorem l_split (n : Nat) (s : GSession) (m : Int) (hn : 1000 ≤ n) (hb : i64b s.To) : g_loophole_Split n s m = some (splV s m) := by
 unfold g_loophole_Split splV
 rw [l_session n s hn hb, Option.bind_some]
 cases hv : valB s
 ·rfl
 have hs := valB_spec hv
 simp only [Bool.not_true, cond_false, leI, Bool.true_and]
 by_cases c1 : m ≤ s.From
 ·rw [decide_eq_true c1, cond_true, Option.bind_some, cond_true, decide_eq_false (show ¬ s.From < m by omega)]; rfl
 rw [decide_eq_false c1, cond_false, Option.bind_some]
 by_cases c2 : s.To ≤ m
 ·rw [decide_eq_true c2, cond_true, decide_eq_false (show ¬ m < s.To by omega), Bool.and_false]; rfl
 rw [decide_eq_false c2, cond_false, l_part n s s.From m hn (by omega), Option.bind_some, l_part n s m s.To hn (by omega), Option.bind_some, decide_eq_true (show s.From < m by omega), decide_eq_true (show m < s.To by omega)]
 rfl
end Go.Proofs
namespace Go.Proofs
open Go Go.Abs
set_option maxRecDepth 100000
set_option linter.unusedVariables false
def cutB (e : Int) : Int → List Int → Bool
 | _, [] => true
 | b, m :: r => decide (b < m ∧ m < e) && cutB e m r
def cutsB (s : GSession) (l : List Int) : Bool := decide (l.length ≤ 4) && cutB s.To s.From l
theorem l_cuts (n : Nat) (s : GSession) (l : List Int) (hn : 1000 ≤ n) : g_loophole_validCuts n s l = some (cutsB s l) := by
 unfold g_loophole_validCuts cutsB
 simp only [ltI, lenI, List.length_map]
 by_cases c : l.length ≤ 4
 ·rw [decide_eq_false (show ¬ (4 : Int) < l.length by omega), cond_false, decide_eq_true c, Bool.true_and]
  have := loop_gen (l := l) (fun (a : Int) i => (a, i)) (B := fun recl1 (v : Int × Int) => g_loophole_validCuts_l1 s l recl1 v.1 v.2) (F := cutB s.To) (fun _ _ => True) (by omega) ?_ ?_ (n := n) 0 s.From trivial (by omega) (by omega)
  ·exact this
  ·intro rec a _
   simp only [g_loophole_validCuts_l1, ltI, lenI, List.length_map]
   rw [decide_eq_false (by omega)]
   rfl
  ·intro rec a i x r _ hd hx hi hw hr
   simp only [g_loophole_validCuts_l1, ltI, leI, lenI, List.length_map, getI_nat, hx, Option.bind_some, hw]
   rw [decide_eq_true (by omega), cond_true, hr x trivial]
   show _ = some (decide (a < x ∧ x < s.To) && cutB s.To x r)
   by_cases c1 : x ≤ a
   ·rw [decide_eq_true c1, decide_eq_false (show ¬ (a < x ∧ x < s.To) by omega)]; rfl
   ·rw [decide_eq_false c1]
    by_cases c2 : s.To ≤ x
    ·rw [decide_eq_true c2, decide_eq_false (show ¬ (a < x ∧ x < s.To) by omega)]; rfl
    ·rw [decide_eq_false c2, decide_eq_true (show (a < x ∧ x < s.To) by omega)]; rfl
 ·rw [decide_eq_true (show (4 : Int) < l.length by omega), cond_true, decide_eq_false c]; rfl
theorem bil_ok {t : GTariff} {c : GCalendar} {s : GSession} (hcc : c.Changes.length ≤ 900) (hch : c.Holidays.length ≤ 900) (h : (bilV t c s).2 = 0) :
  tariffB t = true ∧ calB c = true ∧ valB s = true ∧ okA c s t.Articles = true ∧ 0 ≤ sumA c s t.Articles ∧ capF (sumA c s t.Articles) t.Articles ≤ 1000000000 ∧
  (bilV t c s).1.Total = capF (sumA c s t.Articles) t.Articles + taxF (capF (sumA c s t.Articles) t.Articles) (rateF 0 t.Articles) ∧ 0 ≤ (bilV t c s).1.Total ∧ (bilV t c s).1.Total ≤ 1000000000 := by
 have h3 : (tariffB t && calB c && valB s) = true := by
  by_cases q : (tariffB t && calB c && valB s) = true
  ·exact q
  ·exfalso
   unfold bilV at h
   rw [if_neg q] at h
   cases h
 have h3' : tariffB t = true ∧ calB c = true ∧ valB s = true := by
  simp only [Bool.and_eq_true] at h3; exact ⟨h3.1.1, h3.1.2, h3.2⟩
 obtain ⟨ht, hc, hv⟩ := h3'
 have e0 : bilV t c s = if linB (linF c s 0 t.Articles) then (if bilB (bilF t (rateF 0 t.Articles) 0 (linF c s 0 t.Articles)) then (bilF t (rateF 0 t.Articles) 0 (linF c s 0 t.Articles), 0) else (zeroBill, 3)) else (zeroBill, 3) := by
  unfold bilV
  rw [if_pos h3]
 rw [e0] at h ⊢
 have hok : okA c s t.Articles = true := by
  rw [← linB_okA c s t.Articles 0]
  by_cases q : linB (linF c s 0 t.Articles) = true
  ·exact q
  ·exfalso
   rw [if_neg q] at h
   cases h
 have hlb : linB (linF c s 0 t.Articles) = true := by rw [linB_okA]; exact hok
 rw [if_pos hlb] at h ⊢
 obtain ⟨hall, hlen⟩ := tariffB_spec ht
 have hp : ∀ a ∈ t.Articles, 0 ≤ cosF c s a := fun a ha => (r_line 10000 c a s (Nat.le_refl _) hcc hch hc (hall a ha) hv).2
 obtain ⟨g1, g2, g3⟩ := sumF_A c s t.Articles 0 0 hok hp (Int.le_refl _) (by omega)
 rw [Int.zero_add] at g1
 have hrt := rateQ hall
 have k1 := capF_range t.Articles _ (fun a ha => (artB_art (hall a ha)).price.1) g2
 have hnet : netF t 0 (linF c s 0 t.Articles) = capF (sumA c s t.Articles) t.Articles := by unfold netF; rw [g1]
 have hbil : bilF t (rateF 0 t.Articles) 0 (linF c s 0 t.Articles) = ⟨linF c s 0 t.Articles, capF (sumA c s t.Articles) t.Articles, taxF (capF (sumA c s t.Articles) t.Articles) (rateF 0 t.Articles), wi (capF (sumA c s t.Articles) t.Articles + taxF (capF (sumA c s t.Articles) t.Articles) (rateF 0 t.Articles))⟩ := by
  unfold bilF
  rw [hnet]
 have hB : bilB (bilF t (rateF 0 t.Articles) 0 (linF c s 0 t.Articles)) = true := by
  by_cases q : bilB (bilF t (rateF 0 t.Articles) 0 (linF c s 0 t.Articles)) = true
  ·exact q
  ·exfalso
   rw [if_neg q] at h
   cases h
 rw [if_pos hB]
 rw [hbil] at hB ⊢
 simp only [bilB, Bool.and_eq_true, decide_eq_true_eq] at hB
 have ht2 := (r_tax 0 (capF (sumA c s t.Articles) t.Articles) (rateF 0 t.Articles) (by omega) hrt).2
 have hw := wi_id (x := capF (sumA c s t.Articles) t.Articles + taxF (capF (sumA c s t.Articles) t.Articles) (rateF 0 t.Articles)) (by omega) (by omega)
 rw [hw] at hB ⊢
 exact ⟨ht, hc, hv, hok, g2, hB.1, rfl, by show 0 ≤ capF (sumA c s t.Articles) t.Articles + taxF (capF (sumA c s t.Articles) t.Articles) (rateF 0 t.Articles); omega, hB.2⟩
theorem bil_err {t : GTariff} {c : GCalendar} {s : GSession} (ht : tariffB t = true) (hc : calB c = true) (hv : valB s = true) (h : (bilV t c s).2 ≠ 0) : (bilV t c s).2 = 3 := by
 unfold bilV at h ⊢
 rw [ht, hc, hv] at h ⊢
 simp only [Bool.and_true, if_true] at h ⊢
 cases hl : linB (linF c s 0 t.Articles)
 ·rfl
 ·rw [hl] at h
  simp only [if_true] at h ⊢
  cases hB : bilB (bilF t (rateF 0 t.Articles) 0 (linF c s 0 t.Articles))
  ·rfl
  ·rw [hB] at h; exact absurd rfl h
def ptV (t : GTariff) (c : GCalendar) (s : GSession) (f e : Int) : Int := if (bilV t c (parV s f e)).2 = 0 then (bilV t c (parV s f e)).1.Total else 1000000001
theorem ptV_range (t : GTariff) (c : GCalendar) (s : GSession) (f e : Int) (hcc : c.Changes.length ≤ 900) (hch : c.Holidays.length ≤ 900) : 0 ≤ ptV t c s f e ∧ ptV t c s f e ≤ 1000000001 := by
 unfold ptV
 split
 ·rename_i h
  have := bil_ok hcc hch h
  omega
 ·omega
def segS (t : GTariff) (c : GCalendar) (s : GSession) : Int → List Int → Int
 | f, [] => ptV t c s f s.To
 | f, m :: r => ptV t c s f m + segS t c s m r
theorem segS_range (t : GTariff) (c : GCalendar) (s : GSession) (hcc : c.Changes.length ≤ 900) (hch : c.Holidays.length ≤ 900) : ∀ (l : List Int) (f : Int), 0 ≤ segS t c s f l ∧ segS t c s f l ≤ 1000000001 * (l.length + 1)
 | [], f => by
  have := ptV_range t c s f s.To hcc hch
  simp only [segS, List.length_nil]
  omega
 | m :: r, f => by
  have h1 := ptV_range t c s f m hcc hch
  have h2 := segS_range t c s hcc hch r m
  simp only [segS, List.length_cons]
  omega
def alB (t : GTariff) (c : GCalendar) (s : GSession) : Bool := tariffB t && calB c && valB s
def prcV (t : GTariff) (c : GCalendar) (s : GSession) (l : List Int) : Int × Int := if (alB t c s && cutsB s l) = true then (if segS t c s s.From l ≤ 1000000000 then (segS t c s s.From l, 0) else (0, 3)) else (0, 1)
theorem l_valid (n : Nat) (t : GTariff) (c : GCalendar) (s : GSession) (hn : 10000 ≤ n) (h1 : c.Changes.length ≤ 900) (h2 : c.Holidays.length ≤ 900) (hb : i64b s.To) : g_loophole_valid n t c s = some (alB t c s) := by
 unfold g_loophole_valid alB
 rw [b_tariff n t (by omega), Option.bind_some, b_cal n c (by omega) h1 h2, Option.bind_some, l_session n s (by omega) hb, Option.bind_some]
 cases tariffB t <;> cases calB c <;> cases valB s <;> rfl
theorem l_pay (n : Nat) (t : GTariff) (c : GCalendar) (s : GSession) (f e : Int) (hn : 10000 ≤ n) (h1 : c.Changes.length ≤ 900) (h2 : c.Holidays.length ≤ 900) (hl : s.Slices.length ≤ 900) (he : i64b e) :
  (g_loophole_part n s f e).bind (g_bill_Bill n t c) = some (bilV t c (parV s f e)) := by
 rw [l_part n s f e (by omega) hl, Option.bind_some, b_billV n t c _ hn h1 h2 (by have := parL_len f e s.Slices; unfold parV; simp only; omega) he]
def endL (s : GSession) (l : List Int) : List Int := l ++ [s.To]
theorem cutB_mem {e : Int} : ∀ (l : List Int) (b : Int), cutB e b l = true → ∀ x ∈ l, b < x ∧ x < e
 | [], _, _, x, hx => by cases hx
 | y :: l, b, h, x, hx => by
  simp only [cutB, Bool.and_eq_true, decide_eq_true_eq] at h
  rcases List.mem_cons.1 hx with rfl | hx
  ·exact h.1
  ·have := cutB_mem l _ h.2 x hx
   omega
def segE (t : GTariff) (c : GCalendar) (s : GSession) : Int → Int → List Int → Int × Int
 | z, _, [] => if 1000000000 < z then (0, 3) else (z, 0)
 | z, f, m :: r => if (bilV t c (parV s f m)).2 = 0 then segE t c s (z + (bilV t c (parV s f m)).1.Total) m r else (0, (bilV t c (parV s f m)).2)
theorem segE_S (t : GTariff) (c : GCalendar) (s : GSession) (hcc : c.Changes.length ≤ 900) (hch : c.Holidays.length ≤ 900) (ht : tariffB t = true) (hc : calB c = true) (hv : valB s = true) : ∀ (l : List Int) (z f : Int), 0 ≤ z → s.From ≤ f → cutB s.To f l = true → f < s.To →
  segE t c s z f (endL s l) = if z + segS t c s f l ≤ 1000000000 then (z + segS t c s f l, 0) else (0, 3)
 | [], z, f, hz, hf, hl, hft => by
  show (if (bilV t c (parV s f s.To)).2 = 0 then (if 1000000000 < z + (bilV t c (parV s f s.To)).1.Total then ((0 : Int), (3 : Int)) else (z + (bilV t c (parV s f s.To)).1.Total, 0)) else (0, (bilV t c (parV s f s.To)).2)) = if z + ptV t c s f s.To ≤ 1000000000 then (z + ptV t c s f s.To, 0) else (0, 3)
  unfold ptV
  by_cases h0 : (bilV t c (parV s f s.To)).2 = 0
  ·rw [if_pos h0, if_pos h0]
   by_cases h3 : 1000000000 < z + (bilV t c (parV s f s.To)).1.Total
   ·rw [if_pos h3, if_neg (by omega)]
   ·rw [if_neg h3, if_pos (by omega)]
  ·rw [if_neg h0, if_neg h0, bil_err ht hc (parV_val hv hf hft (Int.le_refl _)) h0, if_neg (by omega)]
 | m :: r, z, f, hz, hf, hl, hft => by
  simp only [cutB, Bool.and_eq_true, decide_eq_true_eq] at hl
  show (if (bilV t c (parV s f m)).2 = 0 then segE t c s (z + (bilV t c (parV s f m)).1.Total) m (endL s r) else (0, (bilV t c (parV s f m)).2)) = if z + (ptV t c s f m + segS t c s m r) ≤ 1000000000 then (z + (ptV t c s f m + segS t c s m r), 0) else (0, 3)
  have hr := segS_range t c s hcc hch r m
  unfold ptV
  by_cases h0 : (bilV t c (parV s f m)).2 = 0
  ·have hb := bil_ok hcc hch h0
   rw [if_pos h0, if_pos h0, segE_S t c s hcc hch ht hc hv r _ m (by omega) (by omega) hl.2 hl.1.2, Int.add_assoc]
  ·rw [if_neg h0, if_neg h0, bil_err ht hc (parV_val hv hf hl.1.1 (by omega)) h0, if_neg (by omega)]
theorem l_price (n : Nat) (t : GTariff) (c : GCalendar) (s : GSession) (l : List Int) (hn : 10000 ≤ n) (h1 : c.Changes.length ≤ 900) (h2 : c.Holidays.length ≤ 900) (hb : i64b s.To) : g_loophole_Price n t c s l = some (prcV t c s l) := by
 unfold g_loophole_Price prcV
 rw [l_valid n t c s hn h1 h2 hb, Option.bind_some]
 cases ha : alB t c s
 ·rfl
 rw [Bool.not_true, cond_false, l_cuts n s l (by omega), Option.bind_some]
 cases hcu : cutsB s l
 ·rfl
 simp only [Option.bind_some, Bool.not_true, cond_false, Bool.and_true, if_true]
 have ha' : tariffB t = true ∧ calB c = true ∧ valB s = true := by
  simp only [alB, Bool.and_eq_true] at ha; exact ⟨ha.1.1, ha.1.2, ha.2⟩
 have hs := valB_spec ha'.2.2
 have hc' : l.length ≤ 4 ∧ cutB s.To s.From l = true := by simpa [cutsB] using hcu
 have key := loop_gen (l := endL s l) (fun (a : Int × Int) i => (a.1, a.2, i)) (B := fun recl6 (v : Int × Int × Int) => g_loophole_Price_l6 n t c s l recl6 v.1 v.2.1 v.2.2) (F := fun a r => segE t c s a.1 a.2 r) (fun i a => 0 ≤ a.1 ∧ a.1 ≤ 1000000000 * i) (by simp [endL]; omega) ?_ ?_ (n := n) 0 (0, s.From) (by simp) (by omega) (by simp [endL]; omega)
 ·refine Eq.trans key ?_
  rw [List.drop_zero]
  show some (segE t c s 0 s.From (endL s l)) = _
  rw [segE_S t c s h1 h2 ha'.1 ha'.2.1 ha'.2.2 l 0 s.From (Int.le_refl _) (Int.le_refl _) hc'.2 hs.2.1, Int.zero_add]
 ·intro rec a ha0
  have e1 : (endL s l).length = l.length + 1 := by simp [endL]
  simp only [g_loophole_Price_l6, ltI, lenI, List.length_map]
  rw [wi_id (x := (l.length : Int) + 1) (by omega) (by omega), decide_eq_false (show ¬ (((endL s l).length : Nat) : Int) < (l.length : Int) + 1 by omega), cond_false]
  unfold g_loophole_Price_j5 segE
  simp only [ltI]
  by_cases h3 : 1000000000 < a.1
  ·rw [decide_eq_true h3, if_pos h3]; rfl
  ·rw [decide_eq_false h3, if_neg h3]; rfl
 ·intro rec a i x r ha0 hd hx hi hw hr
  have e1 : (endL s l).length = l.length + 1 := by simp [endL]
  simp only [g_loophole_Price_l6, ltI, lenI, List.length_map]
  rw [wi_id (x := (l.length : Int) + 1) (by omega) (by omega), decide_eq_true (show (i : Int) < (l.length : Int) + 1 by omega), cond_true]
  have hj : (bif decide ((i : Int) < (l.length : Int)) then (getI l (i : Int)).bind fun x8 => some x8 else some s.To) = some x := by
   by_cases c1 : i < l.length
   ·rw [decide_eq_true (by omega), cond_true, getI_nat]
    rw [show (endL s l)[i]? = l[i]? from by simp [endL, List.getElem?_append, c1]] at hx
    rw [hx]; rfl
   ·have : i = l.length := by omega
    subst this
    rw [decide_eq_false (by omega), cond_false]
    simpa [endL] using hx
  rw [hj, Option.bind_some]
  have hx64 : i64b x := by
   have : x ∈ endL s l := List.mem_of_getElem? hx
   rcases List.mem_append.1 this with h | h
   ·have := cutB_mem l _ hc'.2 x h
    unfold i64b; omega
   ·rw [List.mem_singleton] at h; rw [h]; exact hb
  have hp := l_pay n t c s a.2 x hn h1 h2 (by omega) hx64
  have hp2 : ∀ (k : GBill × Int → Option (Int × Int)), ((g_loophole_part n s a.2 x).bind fun r9 => (g_bill_Bill n t c r9).bind k) = k (bilV t c (parV s a.2 x)) := by
   intro k
   rw [← Option.bind_assoc, hp, Option.bind_some]
  rw [hp2, eqI_d]
  show _ = some (if (bilV t c (parV s a.2 x)).2 = 0 then segE t c s (a.1 + (bilV t c (parV s a.2 x)).1.Total) x r else (0, (bilV t c (parV s a.2 x)).2))
  by_cases h0 : (bilV t c (parV s a.2 x)).2 = 0
  ·have hbk := bil_ok h1 h2 h0
   rw [decide_eq_true h0, Bool.not_true, cond_false, if_pos h0, hw, wi_id (x := a.1 + (bilV t c (parV s a.2 x)).1.Total) (by omega) (by omega)]
   exact hr (a.1 + (bilV t c (parV s a.2 x)).1.Total, x) ⟨by omega, by omega⟩
  ·rw [decide_eq_false h0, Bool.not_false, cond_true, if_neg h0]
end Go.Proofs
namespace Go.Proofs
open Go Go.Abs
set_option maxRecDepth 100000
theorem head34_big : g_law34_head 36893488147419103232 = some true := by kernel_rfl
end Go.Proofs
namespace Go.Proofs
open Go Go.Abs
set_option maxRecDepth 100000
set_option linter.unusedVariables false
theorem prc_ok {t : GTariff} {c : GCalendar} {s : GSession} {l : List Int} (h : (prcV t c s l).2 = 0) : alB t c s = true ∧ cutsB s l = true ∧ segS t c s s.From l ≤ 1000000000 ∧ (prcV t c s l).1 = segS t c s s.From l := by
 unfold prcV at h ⊢
 by_cases q : (alB t c s && cutsB s l) = true
 ·rw [if_pos q] at h ⊢
  simp only [Bool.and_eq_true] at q
  by_cases w : segS t c s s.From l ≤ 1000000000
  ·rw [if_pos w]
   exact ⟨q.1, q.2, w, rfl⟩
  ·rw [if_neg w] at h; cases h
 ·rw [if_neg q] at h; cases h
theorem prc_val {t : GTariff} {c : GCalendar} {s : GSession} {l : List Int} (h1 : alB t c s = true) (h2 : cutsB s l = true) (h3 : segS t c s s.From l ≤ 1000000000) : prcV t c s l = (segS t c s s.From l, 0) := by
 unfold prcV
 rw [h1, h2]
 exact if_pos h3
end Go.Proofs
namespace Go.Proofs
open Go Go.Abs
set_option maxRecDepth 100000
set_option linter.unusedVariables false
theorem inP_inP {f e f' e' : Int} (h1 : f ≤ f') (h2 : e' ≤ e) (x : GSlice) : (inP f e x && inP f' e' x) = inP f' e' x := by
 unfold inP
 by_cases q : f' ≤ x.Minute ∧ x.Minute < e'
 ·rw [decide_eq_true q.1, decide_eq_true q.2, decide_eq_true (show f ≤ x.Minute by omega), decide_eq_true (show x.Minute < e by omega)]; rfl
 ·have : (decide (f' ≤ x.Minute) && decide (x.Minute < e')) = false := by
   rw [Bool.eq_false_iff]
   intro h
   simp only [Bool.and_eq_true, decide_eq_true_eq] at h
   exact q h
  rw [this, Bool.and_false]
theorem parV_parV (s : GSession) {f e f' e' : Int} (h1 : f ≤ f') (h2 : f' ≤ e') (h3 : e' ≤ e) : parV (parV s f e) f' e' = parV s f' e' := by
 unfold parV
 simp only
 congr 1
 ·unfold minI maxI; split <;> split <;> (try split) <;> (try split) <;> (try split) <;> (try split) <;> omega
 ·unfold parL
  rw [List.filter_filter]
  exact List.filter_congr fun x _ => (Bool.and_comm _ _).trans (inP_inP h1 h3 x)
def segT (t : GTariff) (c : GCalendar) (s : GSession) (e : Int) : Int → List Int → Int
 | f, [] => ptV t c s f e
 | f, m :: r => ptV t c s f m + segT t c s e m r
theorem segT_S (t : GTariff) (c : GCalendar) (s : GSession) : ∀ (l : List Int) (f : Int), segT t c s s.To f l = segS t c s f l
 | [], f => rfl
 | m :: r, f => by unfold segT segS; rw [segT_S t c s r m]
theorem segS_par (t : GTariff) (c : GCalendar) (s : GSession) {f e : Int} : ∀ (l : List Int) (g : Int), f ≤ g → g ≤ e → cutB e g l = true → segS t c (parV s f e) g l = segT t c s e g l
 | [], g, h1, h2, _ => by
  show ptV t c (parV s f e) g e = ptV t c s g e
  unfold ptV
  rw [parV_parV s h1 h2 (Int.le_refl _)]
 | m :: r, g, h1, h2, h => by
  simp only [cutB, Bool.and_eq_true, decide_eq_true_eq] at h
  show ptV t c (parV s f e) g m + segS t c (parV s f e) m r = ptV t c s g m + segT t c s e m r
  rw [segS_par t c s r m (by omega) (by omega) h.2]
  unfold ptV
  rw [parV_parV s h1 (by omega) (by omega)]
theorem segT_app (t : GTariff) (c : GCalendar) (s : GSession) (e m : Int) (r : List Int) : ∀ (l : List Int) (g : Int), segT t c s e g (l ++ m :: r) = segT t c s m g l + segT t c s e m r
 | [], g => rfl
 | x :: l, g => by
  show ptV t c s g x + segT t c s e x (l ++ m :: r) = ptV t c s g x + segT t c s m x l + segT t c s e m r
  rw [segT_app t c s e m r l x]
  omega
theorem cutB_app {e m : Int} (r : List Int) : ∀ (l : List Int) (g : Int), cutB e g (l ++ m :: r) = true → cutB m g l = true ∧ cutB e m r = true ∧ g < m ∧ m < e
 | [], g, h => by
  simp only [List.nil_append, cutB, Bool.and_eq_true, decide_eq_true_eq] at h
  exact ⟨rfl, h.2, h.1.1, h.1.2⟩
 | x :: l, g, h => by
  simp only [List.cons_append, cutB, Bool.and_eq_true, decide_eq_true_eq] at h
  obtain ⟨h1, h2, h3, h4⟩ := cutB_app r l x h.2
  refine ⟨?_, h2, by omega, h4⟩
  simp only [cutB, Bool.and_eq_true, decide_eq_true_eq]
  exact ⟨⟨h.1.1, h3⟩, h1⟩
theorem take_drop_mid {l : List Int} {k : Nat} {x : Int} (h : l[k]? = some x) : l = l.take k ++ x :: l.drop (k + 1) := by
 have hk : k < l.length := by
  rcases Nat.lt_or_ge k l.length with q | q
  ·exact q
  ·rw [List.getElem?_eq_none q] at h; cases h
 have e : x = l[k] := by
  rw [List.getElem?_eq_getElem hk] at h
  exact (Option.some.inj h).symm
 rw [e, ← List.drop_eq_getElem_cons hk, List.take_append_drop]
theorem steps34_plain (t : GTariff) (c : GCalendar) (s : GSession) (l : List Int) (w : Int) (hb : i64b s.To) (hw : u8b w) : g_law34_LoopholeSteps 36893488147419103232 t c s l w = some true := by
 unfold g_law34_LoopholeSteps
 rw [head34_big, Option.bind_some]
 obtain ⟨b, hf, hb2⟩ := few33 36893488147419103232 t c s
 rw [hf, Option.bind_some]
 cases b with
 | false => rfl
 | true =>
 obtain ⟨f1, f2, f3, f4, f5⟩ := hb2 rfl
 simp only [Bool.not_true, cond_false, ltI, lenI, List.length_map, eqI_d]
 by_cases hl0 : l.length = 0
 ·rw [decide_eq_true (show (l.length : Int) = 0 by omega)]; rfl
 rw [decide_eq_false (show ¬ (l.length : Int) = 0 by omega), cond_false]
 by_cases hl : l.length ≤ 4
 rotate_left
 ·rw [decide_eq_true (show (4 : Int) < l.length by omega)]; rfl
 rw [decide_eq_false (show ¬ (4 : Int) < l.length by omega), Option.bind_some, cond_false, l_price _ t c s l (by omega) (by omega) (by omega) hb, Option.bind_some]
 by_cases h0 : (prcV t c s l).2 = 0
 rotate_left
 ·rw [decide_eq_false h0]; rfl
 rw [decide_eq_true h0]
 obtain ⟨p1, p2, p3, p4⟩ := prc_ok h0
 have p5 := (show l.length ≤ 4 ∧ cutB s.To s.From l = true by simpa [cutsB] using p2).2
 have pa : tariffB t = true ∧ calB c = true ∧ valB s = true := by
  simp only [alB, Bool.and_eq_true] at p1; exact ⟨p1.1.1, p1.1.2, p1.2⟩
 have hs := valB_spec pa.2.2
 unfold u8b at hw
 have hwi : wi w = w := wi_id (by omega) (by omega)
 rw [hwi]
 have hk0 : Int.tmod w (l.length : Int) = w % (l.length : Int) := Int.tmod_eq_emod_of_nonneg (by omega)
 rw [hk0]
 have hk1 : 0 ≤ w % (l.length : Int) := Int.emod_nonneg _ (by omega)
 have hk2 : w % (l.length : Int) < (l.length : Int) := Int.emod_lt_of_pos _ (by omega)
 generalize hk : w % (l.length : Int) = k at hk1 hk2 ⊢
 obtain ⟨k, rfl⟩ : ∃ j : Nat, k = (j : Int) := ⟨k.toNat, by omega⟩
 have hx : l[k]? = some (l[k]'(by omega)) := List.getElem?_eq_getElem (by omega)
 generalize l[k]'(by omega) = x at hx
 have hmid := take_drop_mid hx
 rw [Bool.not_true, cond_false, Bool.not_false, cond_true, getI_nat, hx, Option.bind_some]
 have hcm : cutB s.To s.From (l.take k ++ x :: l.drop (k + 1)) = true := by rw [← hmid]; exact p5
 obtain ⟨c1, c2, c3, c4⟩ := cutB_app _ _ _ hcm
 rw [l_split _ s x (by omega) hb, Option.bind_some]
 have hsp : splV s x = (parV s s.From x, parV s x s.To, 0) := by
  unfold splV
  rw [pa.2.2, decide_eq_true c3, decide_eq_true c4]; rfl
 rw [hsp]
 have hsl1 : sliceB 0 (k : Int) l.length = true := by simp only [sliceB, decide_eq_true_eq]; omega
 have hsl2 : sliceB (wi ((k : Int) + 1)) (l.length : Int) l.length = true := by
  rw [wi_id (x := (k : Int) + 1) (by omega) (by omega)]
  simp only [sliceB, decide_eq_true_eq]; omega
 rw [hsl1, cond_true, hsl2]
 have v1 := parV_val pa.2.2 (Int.le_refl _) c3 (by omega)
 have v2 := parV_val pa.2.2 (by omega) c4 (Int.le_refl _)
 have t1 : List.drop (Int.toNat 0) (List.take (Int.toNat (k : Int)) l) = l.take k := by simp
 have t2 : List.drop (Int.toNat (wi ((k : Int) + 1))) (List.take (Int.toNat (l.length : Int)) l) = l.drop (k + 1) := by
  rw [wi_id (x := (k : Int) + 1) (by omega) (by omega)]
  simp
 rw [t1, t2]
 show Option.bind (g_loophole_Price 36893488147419103232 t c (parV s s.From x) (l.take k)) _ = some true
 rw [l_price _ t c (parV s s.From x) (l.take k) (by omega) (by omega) (by omega) (by unfold parV i64b; simp only; omega), Option.bind_some, cond_true]
 show Option.bind (g_loophole_Price 36893488147419103232 t c (parV s x s.To) (l.drop (k + 1))) _ = some true
 rw [l_price _ t c (parV s x s.To) (l.drop (k + 1)) (by omega) (by omega) (by omega) hb, Option.bind_some, cond_true]
 have s1 : segS t c (parV s s.From x) s.From (l.take k) = segT t c s x s.From (l.take k) := segS_par t c s _ _ (Int.le_refl _) (by omega) c1
 have s2 : segS t c (parV s x s.To) x (l.drop (k + 1)) = segT t c s s.To x (l.drop (k + 1)) := segS_par t c s _ _ (Int.le_refl _) (by omega) c2
 have s3 : segS t c s s.From l = segT t c s x s.From (l.take k) + segT t c s s.To x (l.drop (k + 1)) := by
  rw [← segT_S, ← segT_app, ← hmid]
 have r1 := segS_range t c (parV s s.From x) (by omega) (by omega) (l.take k) s.From
 have r2 := segS_range t c (parV s x s.To) (by omega) (by omega) (l.drop (k + 1)) x
 have w1 : prcV t c (parV s s.From x) (l.take k) = (segS t c (parV s s.From x) s.From (l.take k), 0) := by
  refine prc_val ?_ ?_ ?_
  ·unfold alB; rw [pa.1, pa.2.1, v1]; rfl
  ·unfold cutsB
   rw [show cutB (parV s s.From x).To (parV s s.From x).From (l.take k) = true from c1, decide_eq_true (by rw [List.length_take]; omega)]; rfl
  ·show segS t c (parV s s.From x) s.From (l.take k) ≤ 1000000000
   omega
 have w2 : prcV t c (parV s x s.To) (l.drop (k + 1)) = (segS t c (parV s x s.To) x (l.drop (k + 1)), 0) := by
  refine prc_val ?_ ?_ ?_
  ·unfold alB; rw [pa.1, pa.2.1, v2]; rfl
  ·unfold cutsB
   rw [show cutB (parV s x s.To).To (parV s x s.To).From (l.drop (k + 1)) = true from c2, decide_eq_true (by rw [List.length_drop]; omega)]; rfl
  ·show segS t c (parV s x s.To) x (l.drop (k + 1)) ≤ 1000000000
   omega
 rw [w1, w2, p4, s3, s1, s2, wi_id (x := segT t c s x s.From (l.take k) + segT t c s s.To x (l.drop (k + 1))) (by omega) (by omega)]
 simp
end Go.Proofs
namespace Go.Proofs.Ytfkhnaogcahcoaa
open Go Go.Abs Go.Proofs
theorem loopholeSteps_holds : Rows.LoopholeStepsSaid :=
 loopholeSteps_said (fun t c s l w _ _ hs _ hw => ⟨_, steps34_plain t c s l w hs.To hw⟩)
end Go.Proofs.Ytfkhnaogcahcoaa
