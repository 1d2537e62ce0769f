/-
  Proved: BillOrder. For every tariff, calendar and session, if the articles are turned round, the lines are, too, and Net, Tax, Total and the error are the same; Net is at most every cap, and a further cap that is not less than Net changes nothing. No conditions beyond those of the given statement.
-/
import Derived.Test.YtlpflajahcpfkaaOrd04
namespace Go.Proofs
open Go Go.Abs
set_option maxRecDepth 100000
set_option linter.unusedVariables false
theorem b_split1440 (n : Nat) (x : Int) (h : -1440 ≤ x ∧ x ≤ 100000000) : g_days_split n x 1440 = some ((x + 1440) / 1440 - 1, (x + 1440) % 1440) := by
 unfold g_days_split
 rw [show (!eqI 1440 0) = true from rfl, cond_true, cond_true]
 simp only [ltI]
 by_cases hx : 0 ≤ x
 ·rw [Int.tdiv_eq_ediv_of_nonneg hx, Int.tmod_eq_emod_of_nonneg hx, decide_eq_false (by omega), cond_false, wi_id (x := x / 1440) (by omega) (by omega)]
  congr 2
  ·omega
  ·omega
 ·obtain ⟨e1, e2⟩ := tdiv_neg' x 1440 (by omega)
  rw [e1, e2]
  by_cases hm : -((-x) % 1440) < 0
  ·rw [decide_eq_true hm, cond_true, wi_id (x := -((-x) / 1440)) (by omega) (by omega), wi_id (by omega) (by omega), wi_id (by omega) (by omega)]
   congr 2
   ·omega
   ·omega
  ·rw [decide_eq_false hm, cond_false, wi_id (x := -((-x) / 1440)) (by omega) (by omega)]
   congr 2
   ·omega
   ·omega
theorem b_local (n : Nat) (c : GCalendar) (m : Int) (hn : 1000 ≤ n) (h1 : c.Changes.length ≤ 900) (h2 : c.Holidays.length ≤ 900) (hc : calB c = true) (hm : 0 ≤ m ∧ m ≤ 52560000) :
  g_days_Local n c m = some ((m + offF m c.Offset c.Changes + 1440) / 1440 - 1, (m + offF m c.Offset c.Changes + 1440) % 1440, 0) := by
 have ho := cal_off m hc
 have hc' := hc
 simp only [calB, Bool.and_eq_true] at hc'
 have hK : chK (-1) c.Changes = true := by
  have := hc'.1.2
  rw [chgB_KO, Bool.and_eq_true] at this
  exact this.2
 unfold g_days_Local
 rw [b_cal n c hn h1 h2, hc, b_dinside, decide_eq_true hm]
 simp only [Option.bind_some, Bool.not_true, cond_false]
 obtain ⟨r, e, L⟩ := b_lastC n c.Changes m hn h1 hK
 rw [e]
 simp only [Option.bind_some]
 have hoff : (bif leI 0 r then (getI c.Changes r).bind fun x7 => some x7.Offset else some c.Offset) = some (offF m c.Offset c.Changes) := by
  by_cases h0 : 0 ≤ r
  ·obtain ⟨k, rfl⟩ : ∃ k : Nat, r = (k : Int) := ⟨r.toNat, by omega⟩
   have hk := L.hi
   have hx : c.Changes[k]? = some (c.Changes[k]'(by omega)) := by rw [List.getElem?_eq_getElem]
   rw [show leI 0 (k : Int) = true from by simp only [leI]; rw [decide_eq_true h0], cond_true, getI_nat, hx, Option.bind_some]
   rw [offF_at m c.Changes c.Offset k _ hx (fun i y hi hy => L.le i y (by omega) hy) (fun i y hi hy => L.gt i y (by omega) hy)]
  ·rw [show leI 0 r = false from by simp only [leI]; rw [decide_eq_false h0], cond_false]
   rw [offF_gt m c.Changes c.Offset (fun x hx => by
    obtain ⟨i, hi⟩ := List.mem_iff_getElem?.1 hx
    exact L.gt i x (by omega) hi)]
 rw [hoff, Option.bind_some]
 generalize offF m c.Offset c.Changes = o at ho
 rw [wi_id (x := m + o) (by omega) (by omega), b_split1440 n (m + o) (by omega), Option.bind_some]
theorem b_split7 (n : Nat) (d : Int) (h : -1 ≤ d ∧ d ≤ 36501) : g_days_split n d 7 = some ((d + 7) / 7 - 1, (d + 7) % 7) := by
 unfold g_days_split
 rw [show (!eqI 7 0) = true from rfl, cond_true, cond_true]
 simp only [ltI]
 by_cases hx : 0 ≤ d
 ·rw [Int.tdiv_eq_ediv_of_nonneg hx, Int.tmod_eq_emod_of_nonneg hx, decide_eq_false (by omega), cond_false, wi_id (x := d / 7) (by omega) (by omega)]
  congr 2
  ·omega
  ·omega
 ·have : d = -1 := by omega
  subst this
  rfl
theorem b_type (n : Nat) (c : GCalendar) (d : Int) (hn : 1000 ≤ n) (h1 : c.Changes.length ≤ 900) (h2 : c.Holidays.length ≤ 900) (hc : calB c = true) (hd : -1 ≤ d ∧ d ≤ 36501) : g_days_Type n c d = some (typF d c.Holidays, 0) := by
 have hc' := hc
 simp only [calB, Bool.and_eq_true] at hc'
 unfold g_days_Type
 rw [b_cal n c hn h1 h2, hc, b_dinside, decide_eq_true hd]
 simp only [Option.bind_some, Bool.not_true, cond_false]
 obtain ⟨r, e, L⟩ := b_lastI n c.Holidays d hn h2 hc'.2
 have hpw := (holB_lt _ _ hc'.2).2
 rw [e]
 simp only [Option.bind_some]
 have hj : (bif leI 0 r then (getI c.Holidays r).bind fun x8 => some (eqI x8 d) else some false) = some (decide (d ∈ c.Holidays)) := by
  by_cases h0 : 0 ≤ r
  ·obtain ⟨k, rfl⟩ : ∃ k : Nat, r = (k : Int) := ⟨r.toNat, by omega⟩
   have hk := L.hi
   have hx : c.Holidays[k]? = some (c.Holidays[k]'(by omega)) := by rw [List.getElem?_eq_getElem]
   rw [show leI 0 (k : Int) = true from by simp only [leI]; rw [decide_eq_true h0], cond_true, getI_nat, hx, Option.bind_some, eqI_d]
   generalize c.Holidays[k]'(by omega) = x at hx
   by_cases hxd : x = d
   ·rw [decide_eq_true hxd, decide_eq_true]
    rw [← hxd]
    exact List.mem_of_getElem? hx
   ·rw [decide_eq_false hxd, decide_eq_false]
    intro hmem
    obtain ⟨i, hi⟩ := List.mem_iff_getElem?.1 hmem
    have hik : (i : Int) ≤ k := by
     apply Classical.byContradiction
     intro h
     have := L.gt i d (by omega) hi
     omega
    by_cases e : i = k
    ·subst e
     rw [hx] at hi; cases hi
     exact hxd rfl
    ·have hi' := List.getElem?_eq_some_iff.1 hi
     have hx' := List.getElem?_eq_some_iff.1 hx
     have := List.pairwise_iff_getElem.1 hpw i k hi'.1 hx'.1 (by omega)
     rw [hi'.2, hx'.2] at this
     have := L.le k x (Int.le_refl _) hx
     omega
  ·rw [show leI 0 r = false from by simp only [leI]; rw [decide_eq_false h0], cond_false, decide_eq_false]
   intro hmem
   obtain ⟨i, hi⟩ := List.mem_iff_getElem?.1 hmem
   have := L.gt i d (by omega) hi
   omega
 rw [hj, Option.bind_some, typF_mem]
 by_cases hmem : d ∈ c.Holidays
 ·rw [decide_eq_true hmem, if_pos hmem]; rfl
 ·rw [decide_eq_false hmem, if_neg hmem, cond_false, b_split7 n d hd]
  unfold g_days_week wkF
  simp only [Option.bind_some]
  rw [wi_id (x := d + 7) (by omega) (by omega), Int.tmod_eq_emod_of_nonneg (a := d + 7) (by omega)]
  have hr : 0 ≤ (d + 7) % 7 ∧ (d + 7) % 7 < 7 := by omega
  generalize (d + 7) % 7 = w at hr
  have hw : w = 0 ∨ w = 1 ∨ w = 2 ∨ w = 3 ∨ w = 4 ∨ w = 5 ∨ w = 6 := by omega
  rcases hw with rfl | rfl | rfl | rfl | rfl | rfl | rfl <;> rfl
theorem b_applies (n : Nat) (c : GCalendar) (a : GArticle) (m : Int) (hn : 1000 ≤ n) (h1 : c.Changes.length ≤ 900) (h2 : c.Holidays.length ≤ 900) (hc : calB c = true) (ha : artB a = true) (hm : 0 ≤ m ∧ m ≤ 52560000) :
  g_tariff_Applies n a c m = some (appB c a m) := by
 have ho := cal_off m hc
 unfold g_tariff_Applies appB
 rw [b_article, ha, b_local n c m hn h1 h2 hc hm]
 simp only [Option.bind_some, Bool.not_true, cond_false, eqI_d, decide_true]
 generalize offF m c.Offset c.Changes = o at ho
 rw [wi_id (x := m + o) (by omega) (by omega), wi_id (x := m + o + 1440) (by omega) (by omega)]
 rw [Int.tdiv_eq_ediv_of_nonneg (a := m + o + 1440) (by omega), Int.tmod_eq_emod_of_nonneg (a := m + o + 1440) (by omega)]
 rw [wi_id (x := (m + o + 1440) / 1440) (by omega) (by omega), wi_id (x := (m + o + 1440) / 1440 - 1) (by omega) (by omega)]
 rw [b_type n c _ hn h1 h2 hc (by omega)]
 have ht := typF_range ((m + o + 1440) / 1440 - 1) c.Holidays
 simp only [Option.bind_some, cond_some, leI, ltI, decide_true, cond_true]
 rw [decide_eq_false (show ¬ typF ((m + o + 1440) / 1440 - 1) c.Holidays < 0 by omega)]
 generalize decide (bAnd .i64 a.Days (shlI .i64 1 (typF ((m + o + 1440) / 1440 - 1) c.Holidays)) = 0) = b
 generalize (m + o + 1440) % 1440 = w
 by_cases c1 : a.From ≤ w
 ·by_cases c2 : w < a.To
  ·rw [decide_eq_false (show ¬ w < a.From by omega), decide_eq_false (show ¬ a.To ≤ w by omega), decide_eq_true c1, decide_eq_true c2]
   cases b <;> rfl
  ·rw [decide_eq_false (show ¬ w < a.From by omega), decide_eq_true (show a.To ≤ w by omega), decide_eq_false c2]
   cases b <;> simp
 ·rw [decide_eq_true (show w < a.From by omega), decide_eq_false c1]; rfl
end Go.Proofs
namespace Go.Proofs
open Go Go.Abs
set_option maxRecDepth 100000
set_option linter.unusedVariables false
theorem b_minside (n : Nat) (x a b : Int) : g_money_inside n x a b = some (decide (a ≤ x ∧ x ≤ b)) := by
 unfold g_money_inside leI
 by_cases h : a ≤ x <;> simp [h]
theorem b_amount (n : Nat) (x : Int) : g_money_isAmount n x = some (decide (0 ≤ x ∧ x ≤ 1000000000)) := by
 unfold g_money_isAmount
 rw [b_minside, Option.bind_some]
theorem b_need (n : Nat) (b : Bool) (e : Int) : g_money_need n b e = some (needE b e) := by cases b <;> rfl
theorem b_checked (n : Nat) (x : Int) : g_money_checked n x = some (if 0 ≤ x ∧ x ≤ 1000000000 then .ok x else .error 3) := by
 unfold g_money_checked
 rw [b_amount, Option.bind_some, b_need, Option.bind_some, exc_need]
 by_cases h : 0 ≤ x ∧ x ≤ 1000000000
 ·rw [decide_eq_true h, if_pos h]; rfl
 ·rw [decide_eq_false h, if_neg h]; rfl
theorem r_checked' (n : Nat) (x : Int) : g_ref31_checked n x = some (if 0 ≤ x ∧ x ≤ 1000000000 then (x, 0) else (0, 3)) := by
 unfold g_ref31_checked
 rw [r_amount, Option.bind_some]
 by_cases h : 0 ≤ x ∧ x ≤ 1000000000
 ·rw [decide_eq_true h, if_pos h]; rfl
 ·rw [decide_eq_false h, if_neg h]; rfl
theorem b_end (n : Nat) (x : Int) : ((g_money_checked n x).bind (exc (fun r3 => (g_money_caught n 0).bind fun r5 => some (r3, r5)) fun e4 => (g_money_caught_2 n e4 0).bind fun r6 => some (0, r6))) = ((g_ref31_checked n x).bind fun r8 => some (r8.1, r8.2)) := by
 rw [b_checked, r_checked', Option.bind_some, Option.bind_some]
 by_cases h : 0 ≤ x ∧ x ≤ 1000000000
 ·rw [if_pos h, if_pos h]; rfl
 ·rw [if_neg h, if_neg h]; rfl
theorem b_times (n : Nat) (p q d : Int) : g_money_Times n p q d = g_ref31_Times n p q d := by
 unfold g_money_Times g_ref31_Times g_money_Times_j1
 simp only [b_amount, r_amount, b_minside, b_need, Option.bind_some, exc_need, b_end]
 unfold g_money_half g_ref31_divided
 by_cases c1 : 0 ≤ p ∧ p ≤ 1000000000
 rotate_left
 ·rw [decide_eq_false c1]; rfl
 rw [decide_eq_true c1]
 by_cases c2 : 0 ≤ q ∧ q ≤ 1000000000
 rotate_left
 ·rw [decide_eq_false c2]; rfl
 rw [decide_eq_true c2]
 simp only [Bool.not_true, cond_false, cond_true, ltI]
 by_cases c3 : 1 ≤ d
 ·rw [decide_eq_false (show ¬ d < 1 by omega)]
  by_cases c4 : d ≤ 1000000000
  ·rw [decide_eq_true (show 1 ≤ d ∧ d ≤ 1000000000 from ⟨c3, c4⟩), decide_eq_false (show ¬ 1000000000 < d by omega)]; rfl
  ·rw [decide_eq_false (show ¬ (1 ≤ d ∧ d ≤ 1000000000) by omega), decide_eq_true (show 1000000000 < d by omega)]; rfl
 ·rw [decide_eq_true (show d < 1 by omega), decide_eq_false (show ¬ (1 ≤ d ∧ d ≤ 1000000000) by omega)]; rfl
theorem b_started (n : Nat) (p q u : Int) : g_money_Started n p q u = g_ref31_Started n p q u := by
 unfold g_money_Started g_ref31_Started g_money_Started_j1
 simp only [b_amount, r_amount, b_minside, b_need, Option.bind_some, exc_need, b_end]
 by_cases c1 : 0 ≤ p ∧ p ≤ 1000000000
 rotate_left
 ·rw [decide_eq_false c1]; rfl
 rw [decide_eq_true c1]
 by_cases c2 : 0 ≤ q ∧ q ≤ 1000000000
 rotate_left
 ·rw [decide_eq_false c2]; rfl
 rw [decide_eq_true c2]
 simp only [Bool.not_true, cond_false, cond_true, ltI]
 by_cases c3 : 1 ≤ u
 ·rw [decide_eq_false (show ¬ u < 1 by omega)]
  by_cases c4 : u ≤ 1000000000
  ·rw [decide_eq_true (show 1 ≤ u ∧ u ≤ 1000000000 from ⟨c3, c4⟩), decide_eq_false (show ¬ 1000000000 < u by omega)]; rfl
  ·rw [decide_eq_false (show ¬ (1 ≤ u ∧ u ≤ 1000000000) by omega), decide_eq_true (show 1000000000 < u by omega)]; rfl
 ·rw [decide_eq_true (show u < 1 by omega), decide_eq_false (show ¬ (1 ≤ u ∧ u ≤ 1000000000) by omega)]; rfl
theorem b_tax (n : Nat) (x r : Int) : g_money_Tax n x r = g_ref31_Tax n x r := by
 unfold g_money_Tax g_ref31_Tax g_money_Tax_j1
 simp only [b_amount, r_amount, b_minside, b_need, Option.bind_some, exc_need, b_end]
 unfold g_money_half g_ref31_divided
 by_cases c1 : 0 ≤ x ∧ x ≤ 1000000000
 rotate_left
 ·rw [decide_eq_false c1]; rfl
 rw [decide_eq_true c1]
 simp only [Bool.not_true, cond_false, cond_true, ltI]
 by_cases c3 : 0 ≤ r
 ·rw [decide_eq_false (show ¬ r < 0 by omega)]
  by_cases c4 : r ≤ 100000
  ·rw [decide_eq_true (show 0 ≤ r ∧ r ≤ 100000 from ⟨c3, c4⟩), decide_eq_false (show ¬ 100000 < r by omega)]; rfl
  ·rw [decide_eq_false (show ¬ (0 ≤ r ∧ r ≤ 100000) by omega), decide_eq_true (show 100000 < r by omega)]; rfl
 ·rw [decide_eq_true (show r < 0 by omega), decide_eq_false (show ¬ (0 ≤ r ∧ r ≤ 100000) by omega)]; rfl
def amt (x : Int) : Except Int Int := if x ≤ 1000000000 then .ok x else .error 3
theorem b_must (n : Nat) (x : Int) : g_bill_must n (if x ≤ 1000000000 then (x, 0) else (0, 3) : Int × Int).1 (if x ≤ 1000000000 then (x, 0) else (0, 3) : Int × Int).2 = some (amt x) := by
 unfold amt
 by_cases h : x ≤ 1000000000
 ·rw [if_pos h, if_pos h]; rfl
 ·rw [if_neg h, if_neg h]; rfl
theorem b_session (n : Nat) (s : GSession) (hn : 1000 ≤ n) (hl : s.Slices.length ≤ 900) (hb : i64b s.To) : g_bill_Valid n s = some (valB s) := by
 unfold i64b at hb
 unfold g_bill_Valid valB
 simp only [ltI, leI, lenI, List.length_map]
 by_cases c1 : s.From < 0
 ·rw [decide_eq_true c1, cond_true, Option.bind_some, cond_true, decide_eq_false (by omega)]; rfl
 rw [decide_eq_false c1, cond_false]
 by_cases c2 : s.To ≤ s.From
 ·rw [decide_eq_true c2, cond_true, Option.bind_some, cond_true, decide_eq_false (by omega)]; rfl
 rw [decide_eq_false c2, cond_false, wi_id (x := s.To - s.From) (by omega) (by omega)]
 by_cases c4 : 2880 < s.To - s.From
 ·rw [decide_eq_true c4, cond_true, Option.bind_some, cond_true, decide_eq_false (by omega)]; rfl
 rw [decide_eq_false c4, cond_false, Option.bind_some]
 by_cases c3 : 52560000 < s.To
 ·rw [decide_eq_true c3, cond_true, decide_eq_false (by omega)]; rfl
 rw [decide_eq_false c3, cond_false]
 by_cases c5 : s.End < s.From
 ·rw [decide_eq_true c5, cond_true, Option.bind_some, cond_true, decide_eq_false (by omega)]; rfl
 rw [decide_eq_false c5, cond_false]
 by_cases c6 : s.To < s.End
 ·rw [decide_eq_true c6, cond_true, Option.bind_some, cond_true, decide_eq_false (by omega)]; rfl
 rw [decide_eq_false c6, cond_false, Option.bind_some]
 by_cases c7 : s.Slices.length ≤ 48
 rotate_left
 ·rw [decide_eq_true (show (48 : Int) < s.Slices.length by omega), cond_true, decide_eq_false (show ¬ (0 ≤ s.From ∧ s.From < s.To ∧ s.To ≤ 52560000 ∧ s.To - s.From ≤ 2880 ∧ s.From ≤ s.End ∧ s.End ≤ s.To ∧ s.Slices.length ≤ 48) by omega)]; rfl
 rw [decide_eq_false (show ¬ (48 : Int) < s.Slices.length by omega), cond_false, decide_eq_true (show 0 ≤ s.From ∧ s.From < s.To ∧ s.To ≤ 52560000 ∧ s.To - s.From ≤ 2880 ∧ s.From ≤ s.End ∧ s.End ≤ s.To ∧ s.Slices.length ≤ 48 by omega), Bool.true_and, wi_id (x := s.From - 1) (by omega) (by omega)]
 have := loop_gen (l := s.Slices) (fun (a : Int) i => (a, i)) (B := fun recl8 (v : Int × Int) => g_bill_Valid_l8 s recl8 v.1 v.2) (F := slB s.From s.End) (fun i a => s.From - 1 ≤ a) (by omega) ?_ ?_ (n := n) 0 (s.From - 1) (Int.le_refl _) (by omega) (by omega)
 ·exact this
 ·intro rec a ha
  simp only [g_bill_Valid_l8, lenI, List.length_map, ltI]
  rw [decide_eq_false (by omega), cond_false]
  rfl
 ·intro rec a i x r ha hd hx hi hw hr
  simp only [g_bill_Valid_l8, lenI, List.length_map, ltI, leI, getI_nat, hx, Option.bind_some, hw]
  rw [decide_eq_true (by omega), cond_true, slB]
  by_cases d1 : x.Minute ≤ a
  ·rw [decide_eq_true d1, cond_true, Option.bind_some, cond_true, decide_eq_false (by omega)]; rfl
  rw [decide_eq_false d1, cond_false]
  by_cases d2 : s.End ≤ x.Minute
  ·rw [decide_eq_true d2, cond_true, Option.bind_some, cond_true, decide_eq_false (by omega)]; rfl
  rw [decide_eq_false d2, cond_false]
  by_cases d3 : x.Energy < 0
  ·rw [decide_eq_true d3, cond_true, Option.bind_some, cond_true, decide_eq_false (by omega)]; rfl
  rw [decide_eq_false d3, cond_false, Option.bind_some]
  by_cases d4 : 10000 < x.Energy
  ·rw [decide_eq_true d4, cond_true, decide_eq_false (by omega)]; rfl
  rw [decide_eq_false d4, cond_false, hr x.Minute (by omega), decide_eq_true (by omega)]; rfl
theorem b_stretch (n : Nat) (c : GCalendar) (a : GArticle) (s : GSession) (f t : Int) (hn : 10000 ≤ n) (h1 : c.Changes.length ≤ 900) (h2 : c.Holidays.length ≤ 900) (hc : calB c = true) (ha : artB a = true) (hk34 : a.Kind = 3 ∨ a.Kind = 4) (hf : 0 ≤ f) (ht : t ≤ 52560000) (hk : t - f ≤ 2880) :
  g_bb_stretch n (⟨a, c, s⟩ : GBB) f t = some (amt (staF c a f t)) := by
 unfold g_bb_stretch
 have key : ∀ (k j : Nat) (z m : Int), (t - m).toNat = k → k < j → 0 ≤ m → k ≤ 2880 → 0 ≤ z ∧ z ≤ 3000 - k →
   loopN (fun recl3 (v : Int × Int) => g_bb_stretch_l3 n (⟨a, c, s⟩ : GBB) t recl3 v.1 v.2) j (m, z) = some (z + cN c a k m) := by
  intro k
  induction k with
  | zero =>
   intro j z m h3 h4 h5 h6 h7
   obtain ⟨j, rfl⟩ : ∃ j', j = j' + 1 := ⟨j - 1, by omega⟩
   unfold loopN
   simp only [g_bb_stretch_l3, ltI]
   rw [decide_eq_false (by omega), cond_false]
   simp [cN]
  | succ k ih =>
   intro j z m h3 h4 h5 h6 h7
   obtain ⟨j, rfl⟩ : ∃ j', j = j' + 1 := ⟨j - 1, by omega⟩
   have i0 := ih j z (m + 1) (by omega) (by omega) (by omega) (by omega) (by omega)
   have i1 := ih j (z + 1) (m + 1) (by omega) (by omega) (by omega) (by omega) (by omega)
   unfold loopN
   generalize loopN (fun recl3 (v : Int × Int) => g_bb_stretch_l3 n (⟨a, c, s⟩ : GBB) t recl3 v.1 v.2) j = L at i0 i1 ⊢
   show g_bb_stretch_l3 n (⟨a, c, s⟩ : GBB) t L m z = _
   unfold g_bb_stretch_l3 g_bb_applies
   simp only [ltI]
   rw [decide_eq_true (by omega), cond_true, b_applies n c a m (by omega) h1 h2 hc ha (by omega), Option.bind_some, Option.bind_some, wi_id (x := m + 1) (by omega) (by omega), wi_id (x := z + 1) (by omega) (by omega)]
   unfold cN
   cases appB c a m
   ·rw [cond_false, Option.bind_some, i0]
    simp
   ·rw [cond_true, Option.bind_some, i1]
    simp
    omega
 have hloop := key (t - f).toNat n 0 f rfl (by omega) hf (by omega) (by omega)
 rw [Int.zero_add] at hloop
 obtain ⟨g1, g2⟩ := r_sta n c a f t hn h1 h2 hc ha hk34 hf ht hk
 rw [r_minutes n c a f t hn h1 h2 hc ha hf ht hk, Option.bind_some] at g1
 simp only
 refine (congrArg (fun o => Option.bind o _) hloop).trans ?_
 rw [Option.bind_some, b_started]
 cases hS : g_ref31_Started n a.Price (maxI 0 (wi (cN c a (t - f).toNat f - a.Free))) a.Unit with
 | none => rw [hS] at g1; cases g1
 | some r =>
  rw [hS, Option.bind_some] at g1
  have hr : r = if staF c a f t ≤ 1000000000 then (staF c a f t, 0) else (0, 3) := Option.some.inj g1
  rw [Option.bind_some, hr]
  rw [b_must n (staF c a f t), Option.bind_some]
  unfold amt
  by_cases h : staF c a f t ≤ 1000000000
  ·rw [if_pos h]; rfl
  ·rw [if_neg h]; rfl
def endE (rate net : Int) (l : List GLine) : Except Int GBill :=
 if net ≤ 1000000000 ∧ wi (net + taxF net rate) ≤ 1000000000 then .ok ⟨l, net, taxF net rate, wi (net + taxF net rate)⟩ else .error 3
theorem b_sum1 (n : Nat) (rate cap : Int) (l : OL GLine) (z : Int) (hr : 0 ≤ rate ∧ rate ≤ 10000) (hz : 0 ≤ z) : g_bill_sum_j1 n rate cap l z = some (endE rate (capV cap z) l.toL) := by
 unfold g_bill_sum_j1
 have e : (bif leI 0 cap then some (minI z cap) else some z) = some (capV cap z) := by
  unfold capV leI minI
  by_cases c1 : 0 ≤ cap <;> by_cases c2 : cap < z <;> simp [c1, c2]
 rw [e, Option.bind_some]
 have hnet : 0 ≤ capV cap z := by unfold capV; split <;> omega
 generalize capV cap z = net at hnet
 unfold endE
 rw [b_tax]
 by_cases c : 1000000000 < net
 ·have : g_ref31_Tax n net rate = some (0, 1) := by
   unfold g_ref31_Tax
   rw [r_amount, decide_eq_false (show ¬ (0 ≤ net ∧ net ≤ 1000000000) by omega)]; rfl
  rw [this, if_neg (by omega)]; rfl
 ·obtain ⟨g1, g2, g3⟩ := r_tax n net rate (by omega) hr
  rw [g1, Option.bind_some]
  have hm : g_bill_must n (taxF net rate) 0 = some (.ok (taxF net rate)) := rfl
  simp only [hm, Option.bind_some, exc, ltI]
  by_cases c2 : 1000000000 < wi (net + taxF net rate)
  ·rw [decide_eq_true c2, cond_true, if_neg (by omega)]
  ·rw [decide_eq_false c2, cond_false, if_pos (by omega)]
theorem b_sum (n : Nat) (t : GTariff) (c : GCalendar) (s : GSession) (hn : 10000 ≤ n) (h1 : c.Changes.length ≤ 900) (h2 : c.Holidays.length ≤ 900) (hc : calB c = true) (ht : tariffB t = true) (hv : valB s = true) :
  g_bill_sum n t c s = some (if linB (linF c s 0 t.Articles) then (if bilB (bilF t (rateF 0 t.Articles) 0 (linF c s 0 t.Articles)) then .ok (bilF t (rateF 0 t.Articles) 0 (linF c s 0 t.Articles)) else .error 3) else .error 3) := by
 have ht' := ht
 simp only [tariffB, Bool.and_eq_true, decide_eq_true_eq] at ht'
 have hall := tarB_all ht'.2
 have hArt := fun a h => artB_art (hall a h)
 have hv' := hv
 simp only [valB, Bool.and_eq_true, decide_eq_true_eq] at hv'
 obtain ⟨hrng, hsl⟩ := hv'
 have hm := slB_mem hsl
 unfold g_bill_sum
 have := loop_gen (l := t.Articles) (fun (a : Int × Int × OL GLine × Int) i => (a.1, a.2.1, i, a.2.2.1, a.2.2.2)) (B := fun recl6 (v : Int × Int × Int × (OL GLine) × Int) => g_bill_sum_l6 n t c s recl6 v.1 v.2.1 v.2.2.1 v.2.2.2.1 v.2.2.2.2)
  (F := fun a r => if linB (linF c s (t.Articles.length - r.length) r) then endE (rateF a.1 r) (capV (capR a.2.1 r) (sumF a.2.2.2 (linF c s (t.Articles.length - r.length) r))) (a.2.2.1.toL ++ linF c s (t.Articles.length - r.length) r) else .error 3)
  (fun i a => (0 ≤ a.1 ∧ a.1 ≤ 10000) ∧ a.2.2.1.toL.length ≤ i ∧ 0 ≤ a.2.2.2 ∧ a.2.2.2 ≤ 1000000000 * i) (by omega) ?_ ?_ (n := n) 0 (0, -1, OL.nil, 0) (by simp) (by omega) (by omega)
 ·rw [show ((0 : Nat) : Int) = 0 from rfl] at this
  refine this.trans ?_
  simp only [OL.toL_nil, List.nil_append, List.drop_zero, Nat.sub_self]
  rw [← capF_R _ _ _ (fun a h => (hArt a h).price.1), show ∀ z, capV (-1) z = z from fun z => by unfold capV; rw [if_neg (by omega)]]
  unfold endE bilF bilB netF
  simp only [Bool.and_eq_true, decide_eq_true_eq]
 ·intro rec a ha
  have h : ltI ((t.Articles.length : Nat) : Int) (lenI (List.map GArticle.cs t.Articles)) = false := by simp [ltI, lenI]
  show g_bill_sum_l6 n t c s rec a.1 a.2.1 ((t.Articles.length : Nat) : Int) a.2.2.1 a.2.2.2 = _
  unfold g_bill_sum_l6
  rw [h, cond_false, b_sum1 n _ _ _ _ ha.1 ha.2.2.1]
  simp [linF, linB, rateF, capR, sumF]
 ·intro rec a i x r hi0 hd hx hi hw hr
  have h3 : ltI (i : Int) (lenI (List.map GArticle.cs t.Articles)) = true := by
   simp only [ltI, lenI, List.length_map]
   rw [decide_eq_true (by omega)]
  have hidx := drop_idx hd hi
  have hxa := hall x (List.mem_of_getElem? hx)
  have hA := artB_art hxa
  simp only [List.length_cons, hidx.1]
  simp only [hidx.2] at hr
  obtain ⟨rate, cap, acc, z⟩ := a
  simp only at hi0 ⊢
  show g_bill_sum_l6 n t c s rec rate cap (i : Int) acc z = _
  unfold g_bill_sum_l6
  rw [h3, cond_true, getI_nat, hx, Option.bind_some, hw]
  simp only [eqI_d]
  unfold linF rateF capR
  by_cases k5 : x.Kind = 5
  ·rw [decide_eq_true k5, cond_true, if_pos (Or.inl k5), if_neg (show ¬ x.Kind = 6 by omega), if_pos k5]
   have hcap := fun k => hr (rate, k, acc, z) ⟨hi0.1, by simp only; omega, hi0.2.2.1, by simp only; omega⟩
   simp only at hcap
   simp only [ltI, cond_some, Option.bind_some]
   rw [hcap, hcap]
   by_cases c1 : cap < 0
   ·simp [c1]
   ·by_cases c2 : x.Price < cap <;> simp [c1, c2]
  rw [decide_eq_false k5, cond_false]
  by_cases k6 : x.Kind = 6
  ·have := hr (x.Price, cap, acc, z) ⟨⟨hA.price.1, hA.rate k6⟩, by simp only; omega, by simp only; omega, by simp only; omega⟩
   simp only at this
   rw [decide_eq_true k6, cond_true, if_pos (Or.inr k6), if_pos k6, if_neg k5, this]
  rw [decide_eq_false k6, cond_false, if_neg (show ¬ (x.Kind = 5 ∨ x.Kind = 6) by omega), if_neg k6, if_neg k5]
  have g2 := (r_line n c x s hn h1 h2 hc hxa hv).2
  have hj : ∀ y, 0 ≤ y → y ≤ 1000000000 → g_bill_sum_j10 rate cap (i : Int) acc z rec y = some (if linB (linF c s (i + 1) r) then endE (rateF rate r) (capV (capR cap r) (sumF (z + y) (linF c s (i + 1) r))) (acc.toL ++ ⟨(i : Int), y⟩ :: linF c s (i + 1) r) else .error 3) := by
   intro y hy0 hy
   unfold g_bill_sum_j10
   have hroom : roomB (List.length (acc.toL ++ [(⟨(i : Int), y⟩ : GLine)])) 16 = true := by
    simp only [roomB, List.length_append, List.length_cons, List.length_nil]
    rw [decide_eq_true]
    omega
   have := hr (rate, cap, OL.own (acc.toL ++ [(⟨(i : Int), y⟩ : GLine)]), z + y) ⟨hi0.1, by simp only [OL.toL_own, List.length_append, List.length_cons, List.length_nil]; omega, by simp only; omega, by simp only; omega⟩
   simp only at this
   rw [hroom, cond_true, wi_id (x := z + y) (by omega) (by omega), hw, this]
   simp only [OL.toL_own, List.append_assoc, List.singleton_append]
  have hgoal : ∀ (y : Int), cosF c s x = y → 0 ≤ y → ∀ (p : Option (Except Int GBill)), p = (exc (fun y => g_bill_sum_j10 rate cap (i : Int) acc z rec y) (fun e => some (.error e)) (amt y)) →
    p = some (if linB (⟨(i : Int), cosF c s x⟩ :: linF c s (i + 1) r) then endE (rateF rate r) (capV (capR cap r) (sumF z (⟨(i : Int), cosF c s x⟩ :: linF c s (i + 1) r))) (acc.toL ++ ⟨(i : Int), cosF c s x⟩ :: linF c s (i + 1) r) else .error 3) := by
   rintro y rfl hy0 p rfl
   rw [linB_cons]
   unfold amt
   by_cases hb : cosF c s x ≤ 1000000000
   ·rw [if_pos hb, decide_eq_true hb]
    simp only [exc, Bool.true_and]
    rw [hj _ hy0 hb, show ∀ l, sumF z (⟨(i : Int), cosF c s x⟩ :: l) = sumF (wi (z + cosF c s x)) l from fun _ => rfl, wi_id (x := z + cosF c s x) (by omega) (by omega)]
   ·rw [if_neg hb, decide_eq_false hb]
    rfl
  have hcos : cosF c s x = if x.Kind = 1 then (if appB c x s.From then x.Price else 0) else if x.Kind = 2 then wi (Int.tdiv (wi (wi (wi (2 * x.Price) * eneF c x 0 s.Slices) + 1000)) 2000) else if x.Kind = 3 then staF c x s.From s.To else if x.Kind = 4 then staF c x s.End s.To else 0 := rfl
  by_cases k1 : x.Kind = 1
  ·rw [decide_eq_true k1, cond_true]
   rw [if_pos k1] at hcos
   unfold g_bb_applies
   have hp := hA.price
   rw [b_applies n c x s.From (by omega) h1 h2 hc hxa (by omega), Option.bind_some, Option.bind_some]
   cases happ : appB c x s.From
   ·rw [happ] at hcos
    refine hgoal 0 hcos (Int.le_refl _) _ ?_
    rfl
   ·rw [happ] at hcos
    refine hgoal x.Price hcos hp.1 _ ?_
    unfold amt
    rw [if_pos (by omega)]; rfl
  rw [decide_eq_false k1, cond_false]
  rw [if_neg k1] at hcos
  by_cases k2 : x.Kind = 2
  ·rw [decide_eq_true k2, cond_true]
   rw [if_pos k2] at hcos
   have hloop : loopN (fun recl13 (v : Int × Int) => g_bill_sum_l13 n c s x recl13 v.1 v.2) n (0, 0) = some (eneF c x 0 s.Slices) := by
    have := loop_acc (l := s.Slices) (B := fun recl13 (v : Int × Int) => g_bill_sum_l13 n c s x recl13 v.1 v.2) (F := eneF c x) (by omega) ?_ ?_ (n := n) 0 0 (by omega) (by omega)
    ·exact this
    ·intro rec z
     have h : ltI ((s.Slices.length : Nat) : Int) (lenI (List.map GSlice.cs s.Slices)) = false := by simp [ltI, lenI]
     show g_bill_sum_l13 n c s x rec z ((s.Slices.length : Nat) : Int) = some z
     unfold g_bill_sum_l13
     rw [h, cond_false]
    ·intro rec z i y q hd hy hi hw hr
     have h3 : ltI (i : Int) (lenI (List.map GSlice.cs s.Slices)) = true := by
      simp only [ltI, lenI, List.length_map]
      rw [decide_eq_true (by omega)]
     have hym := hm y (List.mem_of_getElem? hy)
     show g_bill_sum_l13 n c s x rec z (i : Int) = some (eneF c x z (y :: q))
     unfold g_bill_sum_l13 eneF g_bb_applies
     rw [h3, cond_true, getI_nat, hy, Option.bind_some, b_applies n c x y.Minute (by omega) h1 h2 hc hxa (by omega), Option.bind_some, Option.bind_some, hw, hr, hr]
     cases appB c x y.Minute
     ·rfl
     ·rfl
   have he := eneF_range c x s.Slices 0 (fun y hy => by have := hm y hy; omega) (by omega) (by omega)
   obtain ⟨g3, g4⟩ := r_times n x.Price (eneF c x 0 s.Slices) hA.price (by omega)
   refine hgoal _ hcos g4 _ ?_
   refine (congrArg (fun o => Option.bind o _) hloop).trans ?_
   rw [Option.bind_some, b_times, g3, Option.bind_some]
   refine (congrArg (fun o => Option.bind o _) (b_must n _)).trans ?_
   rw [Option.bind_some]
  rw [decide_eq_false k2, cond_false]
  rw [if_neg k2] at hcos
  by_cases k3 : x.Kind = 3
  ·rw [decide_eq_true k3, cond_true]
   rw [if_pos k3] at hcos
   refine hgoal _ hcos (by rw [← hcos]; exact g2) _ ?_
   rw [b_stretch n c x s s.From s.To hn h1 h2 hc hxa (Or.inl k3) hrng.1 (by omega) (by omega), Option.bind_some]
  rw [decide_eq_false k3, cond_false]
  rw [if_neg k3] at hcos
  by_cases k4 : x.Kind = 4
  ·rw [decide_eq_true k4, cond_true]
   rw [if_pos k4] at hcos
   refine hgoal _ hcos (by rw [← hcos]; exact g2) _ ?_
   rw [b_stretch n c x s s.End s.To hn h1 h2 hc hxa (Or.inr k4) (by omega) (by omega) (by omega), Option.bind_some]
  have := hA.kind
  omega
theorem b_bill (n : Nat) (t : GTariff) (c : GCalendar) (s : GSession) (hn : 10000 ≤ n) (h1 : c.Changes.length ≤ 900) (h2 : c.Holidays.length ≤ 900) (h3 : s.Slices.length ≤ 900) (hb : i64b s.To) :
  g_bill_Bill n t c s = some (if (tariffB t && calB c && valB s) = true then (if linB (linF c s 0 t.Articles) then (if bilB (bilF t (rateF 0 t.Articles) 0 (linF c s 0 t.Articles)) then (bilF t (rateF 0 t.Articles) 0 (linF c s 0 t.Articles), 0) else (zeroBill, 3)) else (zeroBill, 3)) else (zeroBill, 1)) := by
 unfold g_bill_Bill
 rw [b_tariff n t (by omega), b_cal n c (by omega) h1 h2, b_session n s (by omega) h3 hb]
 simp only [Option.bind_some, cond_some]
 cases ht : tariffB t
 ·rfl
 cases hc : calB c
 ·rfl
 cases hv : valB s
 ·rfl
 rw [b_sum n t c s hn h1 h2 hc ht hv]
 simp only [Bool.not_true, cond_false, Option.bind_some, Bool.and_self, if_true]
 cases linB (linF c s 0 t.Articles)
 ·rfl
 ·cases bilB (bilF t (rateF 0 t.Articles) 0 (linF c s 0 t.Articles))
  ·rfl
  ·rfl
end Go.Proofs
namespace Go.Proofs
open Go Go.Abs
set_option maxRecDepth 100000
set_option linter.unusedVariables false
theorem head33_big : g_law33_head 36893488147419103232 = some true := by kernel_rfl
def bilV (t : GTariff) (c : GCalendar) (s : GSession) : GBill × Int := if (tariffB t && calB c && valB s) = true then (if linB (linF c s 0 t.Articles) then (if bilB (bilF t (rateF 0 t.Articles) 0 (linF c s 0 t.Articles)) then (bilF t (rateF 0 t.Articles) 0 (linF c s 0 t.Articles), 0) else (zeroBill, 3)) else (zeroBill, 3)) else (zeroBill, 1)
theorem b_billV (n : Nat) (t : GTariff) (c : GCalendar) (s : GSession) (hn : 10000 ≤ n) (h1 : c.Changes.length ≤ 900) (h2 : c.Holidays.length ≤ 900) (h3 : s.Slices.length ≤ 900) (hb : i64b s.To) : g_bill_Bill n t c s = some (bilV t c s) := b_bill n t c s hn h1 h2 h3 hb
theorem few33 (n : Nat) (t : GTariff) (k : GCalendar) (s : GSession) : ∃ b, g_ref33_Few n t k s = some b ∧ (b = true → t.Articles.length ≤ 20 ∧ s.Slices.length ≤ 60 ∧ k.Changes.length ≤ 30 ∧ k.Holidays.length ≤ 60 ∧ t.Name.length ≤ 50) := by
 unfold g_ref33_Few g_ref26_Few
 simp only [cond_some, Option.bind_some, lenI, List.length_map, leI]
 refine ⟨_, rfl, fun h => ?_⟩
 simp [Bool.cond_eq_ite] at h
 omega
theorem bilV_len (t : GTariff) (c : GCalendar) (s : GSession) (h : t.Articles.length ≤ 900) : (bilV t c s).1.Lines.length ≤ 900 := by
 have := linF_len c s t.Articles 0
 unfold bilV
 split
 ·split
  ·split
   ·show (linF c s 0 t.Articles).length ≤ 900
    omega
   ·exact Nat.zero_le _
  ·exact Nat.zero_le _
 ·exact Nat.zero_le _
end Go.Proofs
namespace Go.Proofs
open Go Go.Abs
set_option maxRecDepth 100000
set_option linter.unusedVariables false
theorem usable33 (n : Nat) (t : GTariff) (c : GCalendar) (s : GSession) (hn : 10000 ≤ n) (hf : i64b s.From) : ∃ b, g_law33_usable n t c s = some b ∧ (b = true → (t.Articles.length ≤ 20 ∧ s.Slices.length ≤ 60 ∧ c.Changes.length ≤ 30 ∧ c.Holidays.length ≤ 60 ∧ t.Name.length ≤ 50) ∧ tariffB t = true ∧ calB c = true ∧ valB s = true) := by
 obtain ⟨b, f1, f2⟩ := few33 n t c s
 unfold g_law33_usable
 rw [f1, Option.bind_some]
 cases b
 ·exact ⟨false, rfl, fun h => by cases h⟩
 have f3 := f2 rfl
 rw [cond_true, r_tariff n t (by omega) (by omega), Option.bind_some, r_cal n c (by omega) (by omega) (by omega), Option.bind_some, r_session_valid n s (by omega) (by omega) hf, Option.bind_some]
 simp only [cond_some]
 refine ⟨_, rfl, fun h => ?_⟩
 cases ht : tariffB t
 ·rw [ht] at h; cases h
 cases hc : calB c
 ·rw [ht, hc] at h; cases h
 cases hv : valB s
 ·rw [ht, hc, hv] at h; cases h
 exact ⟨f3, rfl, rfl, rfl⟩
end Go.Proofs
namespace Go.Proofs
open Go Go.Abs
set_option maxRecDepth 100000
set_option linter.unusedVariables false
def isLn (a : GArticle) : Bool := !(decide (a.Kind = 5) || decide (a.Kind = 6))
theorem isLn_iff (a : GArticle) : isLn a = true ↔ ¬ (a.Kind = 5 ∨ a.Kind = 6) := by
 unfold isLn
 simp
def sumA (c : GCalendar) (s : GSession) : List GArticle → Int
 | [] => 0
 | a :: r => (if isLn a then cosF c s a else 0) + sumA c s r
theorem sumA_app (c : GCalendar) (s : GSession) : ∀ (x y : List GArticle), sumA c s (x ++ y) = sumA c s x + sumA c s y
 | [], y => by simp [sumA]
 | a :: x, y => by
  show (if isLn a then cosF c s a else 0) + sumA c s (x ++ y) = ((if isLn a then cosF c s a else 0) + sumA c s x) + sumA c s y
  rw [sumA_app c s x y, Int.add_assoc]
def okA (c : GCalendar) (s : GSession) (l : List GArticle) : Bool := l.all fun a => !isLn a || decide (cosF c s a ≤ 1000000000)
theorem linB_okA (c : GCalendar) (s : GSession) : ∀ (l : List GArticle) (i : Nat), linB (linF c s i l) = okA c s l
 | [], _ => rfl
 | a :: r, i => by
  have ih := linB_okA c s r (i + 1)
  unfold okA at ih ⊢
  rw [List.all_cons, ← ih, show linF c s i (a :: r) = if a.Kind = 5 ∨ a.Kind = 6 then linF c s (i + 1) r else ⟨(i : Int), cosF c s a⟩ :: linF c s (i + 1) r from rfl]
  by_cases h : a.Kind = 5 ∨ a.Kind = 6
  ·rw [if_pos h, show isLn a = false from by cases hl : isLn a with | false => rfl | true => exact absurd h ((isLn_iff a).1 hl)]
   simp
  ·rw [if_neg h, (isLn_iff a).2 h, linB_cons]
   simp
theorem sumF_A (c : GCalendar) (s : GSession) : ∀ (l : List GArticle) (i : Nat) (z : Int), okA c s l = true → (∀ a ∈ l, 0 ≤ cosF c s a) → 0 ≤ z → z + 1000000000 * l.length ≤ 1000000000000000 → sumF z (linF c s i l) = z + sumA c s l ∧ 0 ≤ sumA c s l ∧ sumA c s l ≤ 1000000000 * l.length
 | [], i, z, _, _, h0, h1 => by
  refine ⟨?_, Int.le_refl _, ?_⟩
  ·show z = z + 0
   omega
  ·show (0 : Int) ≤ 1000000000 * ((0 : Nat) : Int)
   omega
 | a :: r, i, z, hok, hp, h0, h1 => by
  unfold okA at hok
  rw [List.all_cons, Bool.and_eq_true] at hok
  have hpa := hp a List.mem_cons_self
  simp only [List.length_cons] at h1 ⊢
  rw [show linF c s i (a :: r) = if a.Kind = 5 ∨ a.Kind = 6 then linF c s (i + 1) r else ⟨(i : Int), cosF c s a⟩ :: linF c s (i + 1) r from rfl, show sumA c s (a :: r) = (if isLn a then cosF c s a else 0) + sumA c s r from rfl]
  by_cases h : a.Kind = 5 ∨ a.Kind = 6
  ·have hl : isLn a = false := by cases hl : isLn a with | false => rfl | true => exact absurd h ((isLn_iff a).1 hl)
   obtain ⟨g1, g2, g3⟩ := sumF_A c s r (i + 1) z hok.2 (fun x hx => hp x (List.mem_cons_of_mem _ hx)) h0 (by omega)
   rw [if_pos h, hl, g1]
   simp only [Bool.false_eq_true, if_false]
   omega
  ·have hl := (isLn_iff a).2 h
   have hle : cosF c s a ≤ 1000000000 := by
    have := hok.1
    rw [hl] at this
    simpa using this
   obtain ⟨g1, g2, g3⟩ := sumF_A c s r (i + 1) (z + cosF c s a) hok.2 (fun x hx => hp x (List.mem_cons_of_mem _ hx)) (by omega) (by omega)
   rw [if_neg h, hl, show ∀ q, sumF z (⟨(i : Int), cosF c s a⟩ :: q) = sumF (wi (z + cosF c s a)) q from fun _ => rfl, wi_id (x := z + cosF c s a) (by omega) (by omega), g1]
   simp only [if_true]
   omega
def mnC : List GArticle → Int
 | [] => 1000000000000000000
 | a :: r => if a.Kind = 5 then (if a.Price < mnC r then a.Price else mnC r) else mnC r
theorem mnC_app : ∀ (x y : List GArticle), mnC (x ++ y) = if mnC x < mnC y then mnC x else mnC y
 | [], y => by
  show mnC y = if (1000000000000000000 : Int) < mnC y then 1000000000000000000 else mnC y
  have : mnC y ≤ 1000000000000000000 := by
   induction y with
   | nil => exact Int.le_refl _
   | cons a r ih =>
    unfold mnC
    split
    ·split <;> omega
    ·exact ih
  rw [if_neg (by omega)]
 | a :: x, y => by
  show (if a.Kind = 5 then (if a.Price < mnC (x ++ y) then a.Price else mnC (x ++ y)) else mnC (x ++ y)) = if (if a.Kind = 5 then (if a.Price < mnC x then a.Price else mnC x) else mnC x) < mnC y then (if a.Kind = 5 then (if a.Price < mnC x then a.Price else mnC x) else mnC x) else mnC y
  rw [mnC_app x y]
  generalize mnC x = p
  generalize mnC y = q
  generalize a.Price = z
  by_cases h : a.Kind = 5
  ·simp only [if_pos h]
   by_cases c1 : p < q <;> by_cases c2 : z < p <;> by_cases c3 : z < q <;> simp only [c1, c2, c3, if_true, if_false] <;> first | omega | (split <;> omega)
  ·simp only [if_neg h]
theorem capF_mn : ∀ (l : List GArticle) (z : Int), z ≤ 1000000000000000 → (∀ a ∈ l, 0 ≤ a.Price ∧ a.Price ≤ 1000000) → capF z l = if mnC l < z then mnC l else z
 | [], z, hz, _ => by
  show z = if (1000000000000000000 : Int) < z then 1000000000000000000 else z
  rw [if_neg (by omega)]
 | a :: r, z, hz, h => by
  have ha := h a List.mem_cons_self
  show capF (if a.Kind = 5 then minI z a.Price else z) r = if (if a.Kind = 5 then (if a.Price < mnC r then a.Price else mnC r) else mnC r) < z then (if a.Kind = 5 then (if a.Price < mnC r then a.Price else mnC r) else mnC r) else z
  by_cases h5 : a.Kind = 5
  ·simp only [if_pos h5]
   rw [capF_mn r _ (by unfold minI; split <;> omega) (fun x hx => h x (List.mem_cons_of_mem _ hx))]
   unfold minI
   generalize mnC r = q
   generalize a.Price = y
   by_cases c1 : y < z <;> by_cases c2 : q < y <;> by_cases c3 : q < z <;> by_cases c4 : y < q <;> simp only [c1, c2, c3, c4, if_true, if_false] <;> first | omega | (split <;> omega)
  ·simp only [if_neg h5]
   exact capF_mn r z hz (fun x hx => h x (List.mem_cons_of_mem _ hx))
def tax6 : List GArticle → Int
 | [] => 0
 | a :: r => (if a.Kind = 6 then 1 else 0) + tax6 r
theorem tax6_app : ∀ (x y : List GArticle), tax6 (x ++ y) = tax6 x + tax6 y
 | [], y => by simp [tax6]
 | a :: x, y => by
  show (if a.Kind = 6 then (1 : Int) else 0) + tax6 (x ++ y) = ((if a.Kind = 6 then (1 : Int) else 0) + tax6 x) + tax6 y
  rw [tax6_app x y, Int.add_assoc]
theorem tax6_nonneg : ∀ (x : List GArticle), 0 ≤ tax6 x
 | [] => Int.le_refl _
 | a :: x => by
  have := tax6_nonneg x
  show 0 ≤ (if a.Kind = 6 then (1 : Int) else 0) + tax6 x
  split <;> omega
theorem tarB_tax : ∀ (l : List GArticle) (k : Int), tarB k l = (l.all artB && decide (k + tax6 l ≤ 1))
 | [], k => by
  show decide (k ≤ 1) = (true && decide (k + 0 ≤ 1))
  rw [Int.add_zero, Bool.true_and]
 | a :: r, k => by
  show (artB a && tarB (if a.Kind = 6 then k + 1 else k) r) = ((a :: r).all artB && decide (k + ((if a.Kind = 6 then (1 : Int) else 0) + tax6 r) ≤ 1))
  rw [tarB_tax r, List.all_cons, Bool.and_assoc]
  congr 2
  by_cases h : a.Kind = 6
  ·rw [if_pos h, if_pos h, Int.add_assoc]
  ·rw [if_neg h, if_neg h, Int.zero_add]
theorem rateF_none : ∀ (l : List GArticle) (z : Int), tax6 l ≤ 0 → rateF z l = z
 | [], _, _ => rfl
 | a :: r, z, h => by
  have := tax6_nonneg r
  have h : (if a.Kind = 6 then (1 : Int) else 0) + tax6 r ≤ 0 := h
  show rateF (if a.Kind = 6 then a.Price else z) r = z
  by_cases h6 : a.Kind = 6
  ·rw [if_pos h6] at h
   omega
  ·rw [if_neg h6] at h ⊢
   exact rateF_none r z (by omega)
theorem rateF_app : ∀ (x y : List GArticle) (z : Int), rateF z (x ++ y) = rateF (rateF z x) y
 | [], _, _ => rfl
 | a :: x, y, z => rateF_app x y _
theorem rateF_swap (x y : List GArticle) (h : tax6 (x ++ y) ≤ 1) : rateF 0 (x ++ y) = rateF 0 (y ++ x) := by
 rw [tax6_app] at h
 have h1 := tax6_nonneg x
 have h2 := tax6_nonneg y
 rw [rateF_app, rateF_app]
 by_cases hx : tax6 x ≤ 0
 ·rw [rateF_none x 0 hx, rateF_none x _ hx]
 ·rw [rateF_none y _ (by omega), rateF_none y 0 (by omega)]
end Go.Proofs
namespace Go.Proofs
open Go Go.Abs
set_option maxRecDepth 100000
set_option linter.unusedVariables false
theorem linF_cnt (c : GCalendar) (s : GSession) : ∀ (l : List GArticle) (i : Nat), (linF c s i l).length = (l.filter isLn).length
 | [], _ => rfl
 | a :: r, i => by
  rw [show linF c s i (a :: r) = if a.Kind = 5 ∨ a.Kind = 6 then linF c s (i + 1) r else ⟨(i : Int), cosF c s a⟩ :: linF c s (i + 1) r from rfl]
  by_cases h : a.Kind = 5 ∨ a.Kind = 6
  ·have hl : isLn a = false := by cases hl : isLn a with | false => rfl | true => exact absurd h ((isLn_iff a).1 hl)
   rw [if_pos h, List.filter_cons_of_neg (by rw [hl]; decide), linF_cnt c s r (i + 1)]
  ·have hl := (isLn_iff a).2 h
   rw [if_neg h, List.filter_cons_of_pos hl, List.length_cons, List.length_cons, linF_cnt c s r (i + 1)]
theorem tariffB_swap (nm : List UInt8) (x y : List GArticle) : tariffB ⟨nm, y ++ x⟩ = tariffB ⟨nm, x ++ y⟩ := by
 unfold tariffB
 simp only
 rw [tarB_tax, tarB_tax, List.all_append, List.all_append, tax6_app, tax6_app, Int.add_comm (tax6 y), Bool.and_comm (y.all artB), List.length_append, List.length_append, Nat.add_comm y.length]
theorem okA_swap (c : GCalendar) (s : GSession) (x y : List GArticle) : okA c s (y ++ x) = okA c s (x ++ y) := by
 unfold okA
 rw [List.all_append, List.all_append, Bool.and_comm]
theorem net_eq (c : GCalendar) (s : GSession) (nm : List UInt8) (l : List GArticle) (hok : okA c s l = true) (hp : ∀ a ∈ l, 0 ≤ cosF c s a) (hpr : ∀ a ∈ l, 0 ≤ a.Price ∧ a.Price ≤ 1000000) (hl : l.length ≤ 900) : netF ⟨nm, l⟩ 0 (linF c s 0 l) = if mnC l < sumA c s l then mnC l else sumA c s l := by
 obtain ⟨g1, g2, g3⟩ := sumF_A c s l 0 0 hok hp (Int.le_refl _) (by omega)
 unfold netF
 simp only
 rw [g1, Int.zero_add, capF_mn l (sumA c s l) (by omega) hpr]
theorem bilV_swap (c : GCalendar) (s : GSession) (nm : List UInt8) (x y : List GArticle) (ht : tariffB ⟨nm, x ++ y⟩ = true) (hc : calB c = true) (hv : valB s = true) (hcc : c.Changes.length ≤ 900) (hch : c.Holidays.length ≤ 900) :
  (bilV ⟨nm, y ++ x⟩ c s).2 = (bilV ⟨nm, x ++ y⟩ c s).2 ∧ (bilV ⟨nm, y ++ x⟩ c s).1.Net = (bilV ⟨nm, x ++ y⟩ c s).1.Net ∧ (bilV ⟨nm, y ++ x⟩ c s).1.Tax = (bilV ⟨nm, x ++ y⟩ c s).1.Tax ∧ (bilV ⟨nm, y ++ x⟩ c s).1.Total = (bilV ⟨nm, x ++ y⟩ c s).1.Total ∧ (bilV ⟨nm, y ++ x⟩ c s).1.Lines.length = (bilV ⟨nm, x ++ y⟩ c s).1.Lines.length := by
 have ht' := ht
 simp only [tariffB, Bool.and_eq_true, decide_eq_true_eq] at ht'
 have hall := tarB_all ht'.2
 have hlen := ht'.1.2
 have hall2 : ∀ a ∈ y ++ x, a ∈ x ++ y := fun a ha => by
  rcases List.mem_append.1 ha with h | h
  ·exact List.mem_append.2 (Or.inr h)
  ·exact List.mem_append.2 (Or.inl h)
 have hp : ∀ a ∈ x ++ y, 0 ≤ cosF c s a := fun a ha => (r_line 10000 c a s (Nat.le_refl _) hcc hch hc (hall a ha) hv).2
 have hpr : ∀ a ∈ x ++ y, 0 ≤ a.Price ∧ a.Price ≤ 1000000 := fun a ha => (artB_art (hall a ha)).price
 have hlen2 : (y ++ x).length ≤ 900 := by
  simp only [List.length_append] at hlen ⊢
  omega
 have htax : tax6 (x ++ y) ≤ 1 := by
  have := ht'.2
  rw [tarB_tax, Bool.and_eq_true, decide_eq_true_eq] at this
  omega
 have hr : rateF 0 (y ++ x) = rateF 0 (x ++ y) := (rateF_swap x y htax).symm
 unfold bilV
 rw [tariffB_swap, ht, hc, hv]
 simp only [Bool.and_self, if_true]
 rw [linB_okA, linB_okA, okA_swap]
 cases hok : okA c s (x ++ y)
 ·exact ⟨rfl, rfl, rfl, rfl, rfl⟩
 simp only [if_true]
 have hN1 := net_eq c s nm (x ++ y) hok hp hpr (by omega)
 have hN2 := net_eq c s nm (y ++ x) (by rw [okA_swap]; exact hok) (fun a ha => hp a (hall2 a ha)) (fun a ha => hpr a (hall2 a ha)) hlen2
 have hNN : netF ⟨nm, y ++ x⟩ 0 (linF c s 0 (y ++ x)) = netF ⟨nm, x ++ y⟩ 0 (linF c s 0 (x ++ y)) := by
  rw [hN1, hN2, sumA_app, sumA_app, Int.add_comm (sumA c s y), mnC_app, mnC_app]
  generalize mnC x = p
  generalize mnC y = q
  generalize sumA c s x + sumA c s y = z
  by_cases c1 : p < q <;> by_cases c2 : q < p <;> by_cases c3 : p < z <;> by_cases c4 : q < z <;> simp only [c1, c2, c3, c4, if_true, if_false] <;> omega
 have hBB : bilB (bilF ⟨nm, y ++ x⟩ (rateF 0 (y ++ x)) 0 (linF c s 0 (y ++ x))) = bilB (bilF ⟨nm, x ++ y⟩ (rateF 0 (x ++ y)) 0 (linF c s 0 (x ++ y))) := by
  unfold bilB bilF
  simp only
  rw [hNN, hr]
 rw [hBB]
 cases bilB (bilF ⟨nm, x ++ y⟩ (rateF 0 (x ++ y)) 0 (linF c s 0 (x ++ y)))
 ·exact ⟨rfl, rfl, rfl, rfl, rfl⟩
 simp only [if_true]
 refine ⟨trivial, ?_, ?_, ?_, ?_⟩
 ·exact hNN
 ·unfold bilF
  simp only
  rw [hNN, hr]
 ·unfold bilF
  simp only
  rw [hNN, hr]
 ·show (linF c s 0 (y ++ x)).length = (linF c s 0 (x ++ y)).length
  rw [linF_cnt, linF_cnt, List.filter_append, List.filter_append, List.length_append, List.length_append, Nat.add_comm]
end Go.Proofs
namespace Go.Proofs
open Go Go.Abs
set_option maxRecDepth 100000
set_option linter.unusedVariables false
theorem rot_get {α : Type} (l : List α) (b i : Nat) (hb : b < l.length) (hi : i < l.length) : (l.drop b ++ l.take b)[i]? = l[(i + b) % l.length]? := by
 by_cases h : i < l.length - b
 ·rw [List.getElem?_append_left (by rw [List.length_drop]; exact h), List.getElem?_drop, Nat.mod_eq_of_lt (by omega), Nat.add_comm]
 ·rw [List.getElem?_append_right (by rw [List.length_drop]; omega), List.length_drop, List.getElem?_take_of_lt (by omega)]
  congr 1
  rw [Nat.mod_eq_sub_mod (by omega), Nat.mod_eq_of_lt (by omega)]
  omega
theorem linF_mem (c : GCalendar) (s : GSession) : ∀ (l : List GArticle) (i : Nat) (x : GLine), x ∈ linF c s i l ↔ ∃ k a, l[k]? = some a ∧ isLn a = true ∧ x = ⟨((i + k : Nat) : Int), cosF c s a⟩
 | [], i, x => by simp [linF]
 | a :: r, i, x => by
  rw [show linF c s i (a :: r) = if a.Kind = 5 ∨ a.Kind = 6 then linF c s (i + 1) r else ⟨(i : Int), cosF c s a⟩ :: linF c s (i + 1) r from rfl]
  have ih := linF_mem c s r (i + 1) x
  have hup : (∃ k b, r[k]? = some b ∧ isLn b = true ∧ x = ⟨((i + 1 + k : Nat) : Int), cosF c s b⟩) ↔ ∃ k b, (a :: r)[k + 1]? = some b ∧ isLn b = true ∧ x = ⟨((i + (k + 1) : Nat) : Int), cosF c s b⟩ := by
   constructor
   ·rintro ⟨k, b, h1, h2, h3⟩
    exact ⟨k, b, by simpa using h1, h2, by rw [h3]; congr 2; omega⟩
   ·rintro ⟨k, b, h1, h2, h3⟩
    exact ⟨k, b, by simpa using h1, h2, by rw [h3]; congr 2; omega⟩
  by_cases h : a.Kind = 5 ∨ a.Kind = 6
  ·have hl : isLn a = false := by cases hl : isLn a with | false => rfl | true => exact absurd h ((isLn_iff a).1 hl)
   rw [if_pos h, ih, hup]
   constructor
   ·rintro ⟨k, b, h1, h2, h3⟩
    exact ⟨k + 1, b, h1, h2, h3⟩
   ·rintro ⟨k, b, h1, h2, h3⟩
    cases k with
    | zero =>
     simp at h1
     subst h1
     rw [hl] at h2; cases h2
    | succ k => exact ⟨k, b, h1, h2, h3⟩
  ·have hl := (isLn_iff a).2 h
   rw [if_neg h, List.mem_cons, ih, hup]
   constructor
   ·rintro (h1 | ⟨k, b, h1, h2, h3⟩)
    ·exact ⟨0, a, rfl, hl, by rw [h1]; rfl⟩
    ·exact ⟨k + 1, b, h1, h2, h3⟩
   ·rintro ⟨k, b, h1, h2, h3⟩
    cases k with
    | zero =>
     simp at h1
     subst h1
     exact Or.inl h3
    | succ k => exact Or.inr ⟨k, b, h1, h2, h3⟩
theorem order9 (n : Nat) (t : GTariff) (y : Int) (hn : 1000 ≤ n) (hl : t.Articles.length ≤ 12) (hy : 0 ≤ y) : ∃ j8 : OL GArticle, loopN (fun recl9 (v : Int × OL GArticle) => g_law33_BillOrder_l9 t y recl9 v.1 v.2) n (0, OL.nil) = some j8 ∧
  j8.toL = t.Articles.drop (y.toNat % t.Articles.length) ++ t.Articles.take (y.toNat % t.Articles.length) := by
 by_cases h0 : t.Articles.length = 0
 ·have hnil : t.Articles = [] := List.eq_nil_of_length_eq_zero h0
  obtain ⟨m, rfl⟩ : ∃ m, n = m + 1 := ⟨n - 1, by omega⟩
  refine ⟨OL.nil, ?_, by rw [hnil]; simp⟩
  unfold loopN
  simp only [g_law33_BillOrder_l9, lenI, List.length_map, ltI, h0]
  rfl
 have hbl : y.toNat % t.Articles.length < t.Articles.length := Nat.mod_lt _ (by omega)
 have hby : Int.tmod y (maxI 1 (t.Articles.length : Int)) = ((y.toNat % t.Articles.length : Nat) : Int) := by
  have : maxI 1 (t.Articles.length : Int) = (t.Articles.length : Int) := by unfold maxI; split <;> omega
  rw [this, Int.tmod_eq_emod_of_nonneg hy, Int.natCast_emod, Int.toNat_of_nonneg hy]
 generalize hb : y.toNat % t.Articles.length = b at hbl hby
 have key := loop_does (l := t.Articles) (fun (a : OL GArticle) i => (i, a)) (B := fun recl9 (v : Int × OL GArticle) => g_law33_BillOrder_l9 t y recl9 v.1 v.2) (Q := fun a r x => x.toL = a.toL ++ (t.Articles.drop b ++ t.Articles.take b).drop (t.Articles.length - r.length)) (fun i a => a.toL.length ≤ i) (by omega) ?_ ?_ (n := n) 0 OL.nil (by simp) (by omega) (by omega)
 ·obtain ⟨x, e, hx⟩ := key
  refine ⟨x, e, ?_⟩
  rw [hx]
  simp
 ·intro rec a _
  have h : ltI ((t.Articles.length : Nat) : Int) (lenI (List.map GArticle.cs t.Articles)) = false := by simp [ltI, lenI]
  show Does (g_law33_BillOrder_l9 t y rec ((t.Articles.length : Nat) : Int) a) _
  unfold g_law33_BillOrder_l9
  rw [h, cond_false]
  refine does_some ?_
  rw [List.drop_of_length_le (by simp only [List.length_append, List.length_drop, List.length_take, List.length_nil]; omega), List.append_nil]
 ·intro rec a i x r ha hd hx hi hw hrr
  have h3 : ltI (i : Int) (lenI (List.map GArticle.cs t.Articles)) = true := by
   simp only [ltI, lenI, List.length_map]
   rw [decide_eq_true (by omega)]
  have hidx := drop_idx hd hi
  simp only [List.length_cons, hidx.1]
  simp only [hidx.2] at hrr
  show Does (g_law33_BillOrder_l9 t y rec (i : Int) a) _
  unfold g_law33_BillOrder_l9
  rw [h3, cond_true]
  simp only [lenI, List.length_map, eqI_d]
  rw [hby, decide_eq_false (show ¬ (t.Articles.length : Int) = 0 by omega), Bool.not_false, cond_true, wi_id (x := (i : Int) + ((b : Nat) : Int)) (by omega) (by omega), Int.tmod_eq_emod_of_nonneg (by omega), show ((i : Int) + (b : Int)) % (t.Articles.length : Int) = (((i + b) % t.Articles.length : Nat) : Int) from by rw [Int.natCast_emod]; rfl, getI_nat, ← rot_get t.Articles b i hbl hi, hw]
  have hri : i < (t.Articles.drop b ++ t.Articles.take b).length := by
   simp only [List.length_append, List.length_drop, List.length_take]
   omega
  have hz : (t.Articles.drop b ++ t.Articles.take b)[i]? = some ((t.Articles.drop b ++ t.Articles.take b)[i]'hri) := by rw [List.getElem?_eq_getElem]
  have hdz : (t.Articles.drop b ++ t.Articles.take b).drop i = (t.Articles.drop b ++ t.Articles.take b)[i]'hri :: (t.Articles.drop b ++ t.Articles.take b).drop (i + 1) := List.drop_eq_getElem_cons hri
  rw [hz, Option.bind_some, hdz]
  generalize (t.Articles.drop b ++ t.Articles.take b)[i]'hri = z
  have hroom : roomB (List.length (a.toL ++ [z])) 56 = true := by
   simp only [roomB, List.length_append, List.length_cons, List.length_nil]
   rw [decide_eq_true]
   omega
  rw [hroom, cond_true]
  refine does_mono (hrr (OL.own (a.toL ++ [z])) (by simp only [OL.toL_own, List.length_append, List.length_cons, List.length_nil]; omega)) (fun q hq => ?_)
  rw [hq]
  simp only [OL.toL_own, List.append_assoc, List.singleton_append]
theorem order21 (n : Nat) (t : GTariff) (y : Int) (r11 r12 : GBill × Int) (i : Nat) (x24 : GLine) (hn : 1000 ≤ n) (h0 : t.Articles.length ≠ 0) (hl : r12.1.Lines.length ≤ 900) (hx : r11.1.Lines[i]? = some x24)
  (hm : ∃ z ∈ r12.1.Lines, Int.tmod (wi (z.Article + Int.tmod y (maxI 1 (t.Articles.length : Int)))) (t.Articles.length : Int) = x24.Article ∧ z.Amount = x24.Amount) :
  loopN (fun recl21 (v : Bool × Int) => g_law33_BillOrder_l21 t y r11 r12 (i : Int) recl21 v.1 v.2) n (false, 0) = some true := by
 have key := loop_does (l := r12.1.Lines) (fun (a : Bool) k => (a, k)) (B := fun recl21 (v : Bool × Int) => g_law33_BillOrder_l21 t y r11 r12 (i : Int) recl21 v.1 v.2) (Q := fun a r x => (a = true ∨ ∃ z ∈ r, Int.tmod (wi (z.Article + Int.tmod y (maxI 1 (t.Articles.length : Int)))) (t.Articles.length : Int) = x24.Article ∧ z.Amount = x24.Amount) → x = true) (fun _ _ => True) (by omega) ?_ ?_ (n := n) 0 false trivial (by omega) (by omega)
 ·obtain ⟨x, e, hq⟩ := key
  rw [show ((0 : Nat) : Int) = 0 from rfl] at e
  rw [e, hq (Or.inr (by simpa using hm))]
 ·intro rec a _
  have h : ltI ((r12.1.Lines.length : Nat) : Int) (lenI (List.map GLine.cs r12.1.Lines)) = false := by simp [ltI, lenI]
  show Does (g_law33_BillOrder_l21 t y r11 r12 (i : Int) rec a ((r12.1.Lines.length : Nat) : Int)) _
  unfold g_law33_BillOrder_l21
  rw [h, cond_false]
  refine does_some (fun hq => ?_)
  rcases hq with hq | ⟨z, hz, _⟩
  ·exact hq
  ·cases hz
 ·intro rec a k x r _ hd hxk hk hw hrr
  have h3 : ltI (k : Int) (lenI (List.map GLine.cs r12.1.Lines)) = true := by
   simp only [ltI, lenI, List.length_map]
   rw [decide_eq_true (by omega)]
  show Does (g_law33_BillOrder_l21 t y r11 r12 (i : Int) rec a (k : Int)) _
  unfold g_law33_BillOrder_l21
  rw [h3, cond_true, hw]
  cases a
  rotate_left
  ·exact does_mono (hrr true trivial) (fun q hq _ => hq (Or.inl rfl))
  simp only [cond_false, getI_nat, hxk, hx, Option.bind_some, lenI, List.length_map, eqI_d]
  rw [decide_eq_false (show ¬ (t.Articles.length : Int) = 0 by omega), Bool.not_false, cond_true]
  by_cases hmt : Int.tmod (wi (x.Article + Int.tmod y (maxI 1 (t.Articles.length : Int)))) (t.Articles.length : Int) = x24.Article
  ·rw [decide_eq_true hmt, cond_true]
   refine does_mono (hrr _ trivial) (fun q hq hh => hq ?_)
   rcases hh with hh | ⟨z, hz, h4, h5⟩
   ·cases hh
   ·rcases List.mem_cons.1 hz with rfl | hz
    ·exact Or.inl (by rw [decide_eq_true h5])
    ·exact Or.inr ⟨z, hz, h4, h5⟩
  ·rw [decide_eq_false hmt, cond_false]
   refine does_mono (hrr false trivial) (fun q hq hh => hq ?_)
   rcases hh with hh | ⟨z, hz, h4, h5⟩
   ·cases hh
   ·rcases List.mem_cons.1 hz with rfl | hz
    ·exact absurd h4 hmt
    ·exact Or.inr ⟨z, hz, h4, h5⟩
end Go.Proofs
namespace Go.Proofs
open Go Go.Abs
set_option maxRecDepth 100000
set_option linter.unusedVariables false
theorem order19 (n : Nat) (t : GTariff) (y : Int) (r11 r12 : GBill × Int) (hn : 1000 ≤ n) (hl : r12.1.Lines.length ≤ 900) (hl1 : r11.1.Lines.length ≤ 900)
  (hm : ∀ x ∈ r11.1.Lines, t.Articles.length ≠ 0 ∧ ∃ z ∈ r12.1.Lines, Int.tmod (wi (z.Article + Int.tmod y (maxI 1 (t.Articles.length : Int)))) (t.Articles.length : Int) = x.Article ∧ z.Amount = x.Amount) :
  loopN (fun recl19 (v : Bool × Int) => g_law33_BillOrder_l19 n t y r11 r12 recl19 v.1 v.2) n (true, 0) = some true := by
 have key := loop_gen (l := r11.1.Lines) (fun (_ : Unit) i => (true, i)) (B := fun recl19 (v : Bool × Int) => g_law33_BillOrder_l19 n t y r11 r12 recl19 v.1 v.2) (F := fun _ _ => true) (fun _ _ => True) (by omega) ?_ ?_ (n := n) 0 () trivial (by omega) (by omega)
 ·exact key
 ·intro rec a _
  have h : ltI ((r11.1.Lines.length : Nat) : Int) (lenI (List.map GLine.cs r11.1.Lines)) = false := by simp [ltI, lenI]
  show g_law33_BillOrder_l19 n t y r11 r12 rec true ((r11.1.Lines.length : Nat) : Int) = some true
  unfold g_law33_BillOrder_l19
  rw [h, cond_false]
 ·intro rec a i x r _ hd hx hi hw hr
  have h3 : ltI (i : Int) (lenI (List.map GLine.cs r11.1.Lines)) = true := by
   simp only [ltI, lenI, List.length_map]
   rw [decide_eq_true (by omega)]
  obtain ⟨g1, g2⟩ := hm x (List.mem_of_getElem? hx)
  show g_law33_BillOrder_l19 n t y r11 r12 rec true (i : Int) = some true
  unfold g_law33_BillOrder_l19
  rw [h3, cond_true]
  refine (congrArg (fun o => Option.bind o _) (order21 n t y r11 r12 i x hn g1 hl hx g2)).trans ?_
  rw [Option.bind_some, cond_true, hw]
  exact hr () trivial
theorem capF_le : ∀ (l : List GArticle) (z : Int), capF z l ≤ z ∧ ∀ a ∈ l, a.Kind = 5 → capF z l ≤ a.Price
 | [], z => ⟨Int.le_refl _, fun a ha => by cases ha⟩
 | x :: r, z => by
  show capF (if x.Kind = 5 then minI z x.Price else z) r ≤ z ∧ ∀ a ∈ x :: r, a.Kind = 5 → capF (if x.Kind = 5 then minI z x.Price else z) r ≤ a.Price
  obtain ⟨g1, g2⟩ := capF_le r (if x.Kind = 5 then minI z x.Price else z)
  constructor
  ·have : (if x.Kind = 5 then minI z x.Price else z) ≤ z := by
    unfold minI
    split
    ·split <;> omega
    ·omega
   omega
  ·intro a ha h5
   rcases List.mem_cons.1 ha with rfl | ha
   ·have : (if a.Kind = 5 then minI z a.Price else z) ≤ a.Price := by
     rw [if_pos h5]
     unfold minI
     split <;> omega
    omega
   ·exact g2 a ha h5
theorem capF_app : ∀ (x y : List GArticle) (z : Int), capF z (x ++ y) = capF (capF z x) y
 | [], _, _ => rfl
 | a :: x, y, z => capF_app x y _
theorem linF_app (c : GCalendar) (s : GSession) : ∀ (x y : List GArticle) (i : Nat), linF c s i (x ++ y) = linF c s i x ++ linF c s (i + x.length) y
 | [], y, i => rfl
 | a :: x, y, i => by
  show (if a.Kind = 5 ∨ a.Kind = 6 then linF c s (i + 1) (x ++ y) else ⟨(i : Int), cosF c s a⟩ :: linF c s (i + 1) (x ++ y)) = (if a.Kind = 5 ∨ a.Kind = 6 then linF c s (i + 1) x else ⟨(i : Int), cosF c s a⟩ :: linF c s (i + 1) x) ++ linF c s (i + (x.length + 1)) y
  rw [linF_app c s x y (i + 1), show i + (x.length + 1) = i + 1 + x.length from by omega]
  split
  ·rfl
  ·rfl
theorem artB_cap (p : Int) (hp : 0 ≤ p ∧ p ≤ 1000000) : artB ⟨5, 7, 0, 1440, p, 0, 0⟩ = true := by
 unfold artB g_a_validArticle
 simp only [a_inside, cond_some, Option.bind_some, Option.getD_some, eqI_d, ltI, leI]
 simp [hp]
theorem bil_cap (c : GCalendar) (s : GSession) (nm : List UInt8) (l : List GArticle) (p : Int) (ht : tariffB ⟨nm, l⟩ = true) (hc : calB c = true) (hv : valB s = true) (hlen : l.length < 12) (hp : 0 ≤ p ∧ p ≤ 1000000) (hle : netF ⟨nm, l⟩ 0 (linF c s 0 l) ≤ p) :
  bilV ⟨nm, l ++ [⟨5, 7, 0, 1440, p, 0, 0⟩]⟩ c s = bilV ⟨nm, l⟩ c s := by
 have ht2 : tariffB ⟨nm, l ++ [⟨5, 7, 0, 1440, p, 0, 0⟩]⟩ = true := by
  simp only [tariffB, Bool.and_eq_true, decide_eq_true_eq] at ht ⊢
  refine ⟨⟨ht.1.1, by simp only [List.length_append, List.length_cons, List.length_nil]; omega⟩, ?_⟩
  have := ht.2
  rw [tarB_tax, Bool.and_eq_true, decide_eq_true_eq] at this ⊢
  rw [List.all_append, tax6_app]
  refine ⟨?_, ?_⟩
  ·rw [this.1]
   simp [artB_cap p hp]
  ·have e : tax6 [(⟨5, 7, 0, 1440, p, 0, 0⟩ : GArticle)] = 0 := rfl
   rw [e]
   omega
 have hlin : linF c s 0 (l ++ [⟨5, 7, 0, 1440, p, 0, 0⟩]) = linF c s 0 l := by
  rw [linF_app, show linF c s (0 + l.length) [(⟨5, 7, 0, 1440, p, 0, 0⟩ : GArticle)] = [] from rfl, List.append_nil]
 have hrate : rateF 0 (l ++ [⟨5, 7, 0, 1440, p, 0, 0⟩]) = rateF 0 l := by
  rw [rateF_app]; rfl
 have hnet : netF ⟨nm, l ++ [⟨5, 7, 0, 1440, p, 0, 0⟩]⟩ 0 (linF c s 0 l) = netF ⟨nm, l⟩ 0 (linF c s 0 l) := by
  unfold netF at hle ⊢
  simp only at hle ⊢
  rw [capF_app]
  show minI (capF (sumF 0 (linF c s 0 l)) l) p = _
  unfold minI
  rw [if_neg (by omega)]
 have hbil : bilF ⟨nm, l ++ [⟨5, 7, 0, 1440, p, 0, 0⟩]⟩ (rateF 0 l) 0 (linF c s 0 l) = bilF ⟨nm, l⟩ (rateF 0 l) 0 (linF c s 0 l) := by
  unfold bilF
  rw [hnet]
 unfold bilV
 rw [ht, ht2]
 simp only
 rw [hlin, hrate, hbil]
theorem order34 (n : Nat) (t : GTariff) (r11 : GBill × Int) (hn : 1000 ≤ n) (hl : t.Articles.length ≤ 900) (h : ∀ a ∈ t.Articles, a.Kind = 5 → r11.1.Net ≤ a.Price) :
  loopN (fun recl34 (v : Bool × Int) => g_law33_BillOrder_l34 t r11 recl34 v.1 v.2) n (true, 0) = some true := by
 have key := loop_gen (l := t.Articles) (fun (_ : Unit) i => (true, i)) (B := fun recl34 (v : Bool × Int) => g_law33_BillOrder_l34 t r11 recl34 v.1 v.2) (F := fun _ _ => true) (fun _ _ => True) (by omega) ?_ ?_ (n := n) 0 () trivial (by omega) (by omega)
 ·exact key
 ·intro rec a _
  have h : ltI ((t.Articles.length : Nat) : Int) (lenI (List.map GArticle.cs t.Articles)) = false := by simp [ltI, lenI]
  show g_law33_BillOrder_l34 t r11 rec true ((t.Articles.length : Nat) : Int) = some true
  unfold g_law33_BillOrder_l34
  rw [h, cond_false]
 ·intro rec a i x r _ hd hx hi hw hr
  have h3 : ltI (i : Int) (lenI (List.map GArticle.cs t.Articles)) = true := by
   simp only [ltI, lenI, List.length_map]
   rw [decide_eq_true (by omega)]
  show g_law33_BillOrder_l34 t r11 rec true (i : Int) = some true
  unfold g_law33_BillOrder_l34
  rw [h3, cond_true, cond_true, getI_nat, hx, Option.bind_some, hw, eqI_d]
  by_cases h5 : x.Kind = 5
  ·rw [decide_eq_true h5, Bool.not_true, cond_false, Option.bind_some, show leI r11.1.Net x.Price = true from by simp only [leI]; rw [decide_eq_true (h x (List.mem_of_getElem? hx) h5)]]
   exact hr () trivial
  ·rw [decide_eq_false h5, Bool.not_false, cond_true]
   exact hr () trivial
end Go.Proofs
namespace Go.Proofs
open Go Go.Abs
set_option maxRecDepth 100000
set_option linter.unusedVariables false
theorem bilV_cases (t : GTariff) (c : GCalendar) (s : GSession) : bilV t c s = (bilF t (rateF 0 t.Articles) 0 (linF c s 0 t.Articles), 0) ∨ ((bilV t c s).1 = zeroBill ∧ (bilV t c s).2 ≠ 0) := by
 unfold bilV
 split
 ·split
  ·split
   ·exact Or.inl rfl
   ·exact Or.inr ⟨rfl, by decide⟩
  ·exact Or.inr ⟨rfl, by decide⟩
 ·exact Or.inr ⟨rfl, by decide⟩
theorem order_match (c : GCalendar) (s : GSession) (l : List GArticle) (y : Int) (hy : 0 ≤ y) (hl : l.length ≤ 12) (x : GLine) (hx : x ∈ linF c s 0 l) : l.length ≠ 0 ∧ ∃ z ∈ linF c s 0 (l.drop (y.toNat % l.length) ++ l.take (y.toNat % l.length)), Int.tmod (wi (z.Article + Int.tmod y (maxI 1 (l.length : Int)))) (l.length : Int) = x.Article ∧ z.Amount = x.Amount := by
 obtain ⟨k, a, h1, h2, rfl⟩ := (linF_mem c s l 0 x).1 hx
 have hk := (List.getElem?_eq_some_iff.1 h1).1
 have hbl : y.toNat % l.length < l.length := Nat.mod_lt _ (by omega)
 have hby : Int.tmod y (maxI 1 (l.length : Int)) = ((y.toNat % l.length : Nat) : Int) := by
  have : maxI 1 (l.length : Int) = (l.length : Int) := by unfold maxI; split <;> omega
  rw [this, Int.tmod_eq_emod_of_nonneg hy, Int.natCast_emod, Int.toNat_of_nonneg hy]
 refine ⟨by omega, ?_⟩
 rw [hby]
 generalize y.toNat % l.length = b at hbl
 obtain ⟨j, hj, hjb⟩ : ∃ j, j < l.length ∧ (j + b) % l.length = k := by
  by_cases h : b ≤ k
  ·exact ⟨k - b, by omega, by rw [show k - b + b = k from by omega, Nat.mod_eq_of_lt hk]⟩
  ·exact ⟨k + l.length - b, by omega, by rw [show k + l.length - b + b = k + l.length from by omega, Nat.add_mod_right, Nat.mod_eq_of_lt hk]⟩
 refine ⟨⟨((0 + j : Nat) : Int), cosF c s a⟩, (linF_mem c s _ 0 _).2 ⟨j, a, by rw [rot_get l b j hbl hj, hjb]; exact h1, h2, rfl⟩, ?_, rfl⟩
 simp only [Nat.zero_add]
 rw [wi_id (x := (j : Int) + (b : Int)) (by omega) (by omega), Int.tmod_eq_emod_of_nonneg (by omega), show ((j : Int) + (b : Int)) % (l.length : Int) = (((j + b) % l.length : Nat) : Int) from by rw [Int.natCast_emod]; rfl, hjb]
theorem order33_plain (t : GTariff) (c : GCalendar) (s : GSession) (y z : Int) (hf : i64b s.From) (hb : i64b s.To) : g_law33_BillOrder 36893488147419103232 t c s y z = some true := by
 unfold g_law33_BillOrder
 generalize hn : (36893488147419103232 : Nat) = n
 have hh : g_law33_head n = some true := by rw [← hn]; exact head33_big
 obtain ⟨b, f1, f2⟩ := usable33 n t c s (by omega) hf
 rw [hh, Option.bind_some, f1, Option.bind_some]
 simp only [cond_some, Option.bind_some, ltI, leI, lenI, List.length_map]
 by_cases hz : b = true ∧ 0 ≤ y ∧ 0 ≤ z ∧ z ≤ 1000000 ∧ t.Articles.length < 12
 rotate_left
 ·have : (bif !b then true else bif decide (y < 0) then true else bif decide (z < 0) then true else bif decide (1000000 < z) then true else decide ((12 : Int) ≤ t.Articles.length)) = true := by
   cases b
   ·rfl
   ·simp only [true_and] at hz
    by_cases c1 : y < 0
    ·simp [c1]
    by_cases c2 : z < 0
    ·simp [c2]
    by_cases c3 : 1000000 < z
    ·simp [c3]
    have c4 : (12 : Int) ≤ t.Articles.length := by omega
    simp [c4]
  rw [this, cond_true]
 obtain ⟨rfl, hy, hz0, hz1, hlen⟩ := hz
 obtain ⟨f3, ht, hc, hv⟩ := f2 rfl
 have : (bif !true then true else bif decide (y < 0) then true else bif decide (z < 0) then true else bif decide (1000000 < z) then true else decide ((12 : Int) ≤ t.Articles.length)) = false := by
  rw [decide_eq_false (show ¬ y < 0 by omega), decide_eq_false (show ¬ z < 0 by omega), decide_eq_false (show ¬ 1000000 < z by omega), decide_eq_false (show ¬ (12 : Int) ≤ t.Articles.length by omega)]; rfl
 rw [this, cond_false]
 have hmx : (!eqI (maxI 1 (t.Articles.length : Int)) 0) = true := by
  rw [eqI_d, decide_eq_false]
  ·rfl
  ·unfold maxI
   split <;> omega
 rw [hmx, cond_true]
 obtain ⟨j8, e8, hj8⟩ := order9 n t y (by omega) (by omega) hy
 refine (congrArg (fun o => Option.bind o _) e8).trans ?_
 rw [Option.bind_some, hj8, b_billV n t c s (by omega) (by omega) (by omega) (by omega) hb, Option.bind_some, b_billV n _ c s (by omega) (by omega) (by omega) (by omega) hb, Option.bind_some]
 have hmat := order_match c s t.Articles y hy (by omega)
 obtain ⟨nm, l⟩ := t
 simp only at hlen hmat f3 hmx ht hj8 e8 ⊢
 have hsw := bilV_swap c s nm (l.take (y.toNat % l.length)) (l.drop (y.toNat % l.length)) (by rw [List.take_append_drop]; exact ht) hc hv (by omega) (by omega)
 rw [List.take_append_drop] at hsw
 have hlr : (l.drop (y.toNat % l.length) ++ l.take (y.toNat % l.length)).length ≤ 900 := by
  simp only [List.length_append, List.length_drop, List.length_take]
  omega
 generalize hrot : l.drop (y.toNat % l.length) ++ l.take (y.toNat % l.length) = rot at hsw hmat hlr
 obtain ⟨s1, s2, s3, s4, s5⟩ := hsw
 have hl1 := bilV_len ⟨nm, l⟩ c s (by simp only; omega)
 have hl2 := bilV_len ⟨nm, rot⟩ c s hlr
 rw [s1, s2, s3, s4, s5]
 simp only [eqI_d, decide_true, Bool.not_true, cond_false]
 have hm19 : ∀ x ∈ (bilV ⟨nm, l⟩ c s).1.Lines, l.length ≠ 0 ∧ ∃ q ∈ (bilV ⟨nm, rot⟩ c s).1.Lines, Int.tmod (wi (q.Article + Int.tmod y (maxI 1 (l.length : Int)))) (l.length : Int) = x.Article ∧ q.Amount = x.Amount := by
  intro x hx
  rcases bilV_cases ⟨nm, l⟩ c s with h1 | ⟨h1, _⟩
  ·rcases bilV_cases ⟨nm, rot⟩ c s with h2 | ⟨_, h2⟩
   ·rw [h1] at hx
    rw [h2]
    exact hmat x hx
   ·rw [s1, h1] at h2
    exact absurd rfl h2
  ·rw [h1] at hx
   cases hx
 have e19 := order19 n ⟨nm, l⟩ y (bilV ⟨nm, l⟩ c s) (bilV ⟨nm, rot⟩ c s) (by omega) hl2 hl1 hm19
 refine (congrArg (fun o => Option.bind o _) e19).trans ?_
 rw [Option.bind_some]
 rcases bilV_cases ⟨nm, l⟩ c s with h1 | ⟨_, h1⟩
 rotate_left
 ·rw [decide_eq_false h1]; rfl
 rw [h1]
 simp only [decide_true, Bool.not_true, cond_false]
 have hN : (bilF ⟨nm, l⟩ (rateF 0 l) 0 (linF c s 0 l)).Net = netF ⟨nm, l⟩ 0 (linF c s 0 l) := rfl
 have hbilB : linB (linF c s 0 l) = true ∧ bilB (bilF ⟨nm, l⟩ (rateF 0 l) 0 (linF c s 0 l)) = true := by
  unfold bilV at h1
  rw [ht, hc, hv] at h1
  simp only [Bool.and_self, if_true] at h1
  cases h2 : linB (linF c s 0 l)
  ·rw [h2] at h1
   have := congrArg Prod.snd h1
   cases this
  ·cases h3 : bilB (bilF ⟨nm, l⟩ (rateF 0 l) 0 (linF c s 0 l))
   ·rw [h2, h3] at h1
    have := congrArg Prod.snd h1
    cases this
   ·exact ⟨rfl, rfl⟩
 have hN1 : netF ⟨nm, l⟩ 0 (linF c s 0 l) ≤ 1000000000 := by
  have := hbilB.2
  simp only [bilB, Bool.and_eq_true, decide_eq_true_eq] at this
  exact this.1
 have ht' := ht
 simp only [tariffB, Bool.and_eq_true, decide_eq_true_eq] at ht'
 have hall := tarB_all ht'.2
 have hN0 : 0 ≤ netF ⟨nm, l⟩ 0 (linF c s 0 l) := by
  have hok : okA c s l = true := by rw [← linB_okA c s l 0]; exact hbilB.1
  have hp : ∀ a ∈ l, 0 ≤ cosF c s a := fun a ha => (r_line 10000 c a s (Nat.le_refl _) (by omega) (by omega) hc (hall a ha) hv).2
  obtain ⟨_, g2, _⟩ := sumF_A c s l 0 0 hok hp (Int.le_refl _) (by omega)
  rw [net_eq c s nm l hok hp (fun a ha => (artB_art (hall a ha)).price) (by omega)]
  have hmn : ∀ q : List GArticle, (∀ a ∈ q, 0 ≤ a.Price) → 0 ≤ mnC q := by
   intro q
   induction q with
   | nil => intro _; decide
   | cons a r ih =>
    intro h
    have h1 := h a List.mem_cons_self
    have h2 := ih (fun x hx => h x (List.mem_cons_of_mem _ hx))
    show 0 ≤ if a.Kind = 5 then (if a.Price < mnC r then a.Price else mnC r) else mnC r
    split
    ·split <;> omega
    ·exact h2
  have := hmn l (fun a ha => (artB_art (hall a ha)).price.1)
  split <;> omega
 rw [hN, wi_id (x := netF ⟨nm, l⟩ 0 (linF c s 0 l) + z) (by omega) (by omega)]
 by_cases hbig : 1000000 < netF ⟨nm, l⟩ 0 (linF c s 0 l) + z
 ·rw [decide_eq_true hbig, cond_true]
 rw [decide_eq_false hbig, cond_false]
 have hmk : makeB 0 (wi ((l.length : Int) + 1)) 56 = true := by
  rw [wi_id (x := (l.length : Int) + 1) (by omega) (by omega)]
  simp [makeB]
  omega
 have hr1 : roomB (List.length ([] ++ l)) 56 = true := by simp [roomB]; omega
 have hr2 : ∀ q : GArticle, roomB (List.length (([] ++ l) ++ [q])) 56 = true := by intro q; simp [roomB]; omega
 rw [hmk, cond_true, hr1, cond_true]
 simp only [g_law33_article, Option.bind_some]
 rw [hr2, cond_true, List.nil_append, b_billV n _ c s (by omega) (by omega) (by omega) (by omega) hb, Option.bind_some, bil_cap c s nm l _ ht hc hv hlen (by omega) (by omega), h1]
 have e34 := order34 n ⟨nm, l⟩ (bilF ⟨nm, l⟩ (rateF 0 l) 0 (linF c s 0 l), 0) (by omega) (by simp only; omega) (fun a ha h5 => (capF_le l (sumF 0 (linF c s 0 l))).2 a ha h5)
 refine (congrArg (fun o => Option.bind o _) e34).trans ?_
 rw [Option.bind_some, cond_true, decide_eq_true rfl, cond_true, a_sameBill n _ _ (by omega) (by rw [h1] at hl1; exact hl1), Option.bind_some, decide_eq_true rfl]
end Go.Proofs
namespace Go.Proofs.Ytlpflajahcpfkaa
open Go Go.Abs Go.Proofs
theorem billOrder_holds : Rows.BillOrderSaid :=
 billOrder_said (fun t c s y z _ _ hs _ _ => ⟨_, order33_plain t c s y z hs.From hs.To⟩)
end Go.Proofs.Ytlpflajahcpfkaa
