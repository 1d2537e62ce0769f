/-
  Proved: QuoteMatchesReference. For all tariffs, calendars, limits and sessions, both functions return what the reference implementation returns. No conditions beyond those of the given statement.
-/
import Derived.Test.YtehocmildcedeaaMat04
namespace Go.Proofs
open Go Go.Abs
set_option maxRecDepth 100000
set_option linter.unusedVariables false
theorem allM_sum : ∀ (l : List Int), (∀ x ∈ l, 0 ≤ x) → 0 ≤ sumL l ∧ (allM l = false → 1000000000 < sumL l)
 | [], _ => ⟨Int.le_refl _, fun h => by cases h⟩
 | x :: r, h => by
  obtain ⟨h1, h2⟩ := allM_sum r (fun y hy => h y (List.mem_cons_of_mem _ hy))
  have hx := h x List.mem_cons_self
  rw [show sumL (x :: r) = x + sumL r from rfl]
  refine ⟨by omega, fun hf => ?_⟩
  unfold allM at hf h2
  rw [List.all_cons] at hf
  by_cases hq : x ≤ 1000000000
  ·rw [decide_eq_true hq, Bool.true_and] at hf
   have := h2 hf
   omega
  ·omega
def outV (t : GTariff) (z : Int) : Int × Int := if z ≤ 1000000000 then (if capF z t.Articles + taxF (capF z t.Articles) (rateF 0 t.Articles) ≤ 1000000000 then (capF z t.Articles + taxF (capF z t.Articles) (rateF 0 t.Articles), 0) else (0, 3)) else (0, 3)
theorem r_caps (n : Nat) (t : GTariff) (z : Int) (hn : 1000 ≤ n) (hl : t.Articles.length ≤ 900) : loopN (fun recl10 (v : Int × Int × Int) => g_ref35_Quote_l10 t recl10 v.1 v.2.1 v.2.2) n (z, 0, 0) = some (capF z t.Articles, rateF 0 t.Articles) := by
 have := loop_gen (l := t.Articles) (fun (a : Int × Int) i => (a.1, a.2, i)) (B := fun recl10 (v : Int × Int × Int) => g_ref35_Quote_l10 t recl10 v.1 v.2.1 v.2.2) (F := fun a r => (capF a.1 r, rateF a.2 r)) (fun _ _ => True) (by omega) ?_ ?_ (n := n) 0 (z, 0) trivial (by omega) (by omega)
 ·exact this
 ·intro rec a _
  have h : ltI ((t.Articles.length : Nat) : Int) (lenI (List.map GArticle.cs t.Articles)) = false := by simp [ltI, lenI]
  show g_ref35_Quote_l10 t rec a.1 a.2 ((t.Articles.length : Nat) : Int) = _
  unfold g_ref35_Quote_l10
  rw [h]; rfl
 ·intro rec a i x r _ hd hx hi hw hr
  have h3 : ltI (i : Int) (lenI (List.map GArticle.cs t.Articles)) = true := by
   simp only [ltI, lenI, List.length_map]
   rw [decide_eq_true (by omega)]
  have hr' := fun (u v : Int) => hr (u, v) trivial
  simp only at hr'
  show g_ref35_Quote_l10 t rec a.1 a.2 (i : Int) = some (capF a.1 (x :: r), rateF a.2 (x :: r))
  unfold g_ref35_Quote_l10
  rw [h3, cond_true, getI_nat, hx, Option.bind_some, hw, eqI_d, Option.bind_some, cond_some, Option.bind_some, Option.bind_some, eqI_d, Option.bind_some, hr', hr']
  rw [show capF a.1 (x :: r) = capF (if x.Kind = 5 then minI a.1 x.Price else a.1) r from rfl, show rateF a.2 (x :: r) = rateF (if x.Kind = 6 then x.Price else a.2) r from rfl]
  by_cases k5 : x.Kind = 5
  ·rw [decide_eq_true k5, cond_true, if_pos k5, if_neg (by omega), decide_eq_false (by omega), cond_false]
  ·rw [decide_eq_false k5, cond_false, if_neg k5]
   by_cases k6 : x.Kind = 6
   ·rw [decide_eq_true k6, cond_true, if_pos k6]
   ·rw [decide_eq_false k6, cond_false, if_neg k6]
theorem r_j8 (n : Nat) (t : GTariff) (z : Int) (hn : 1000 ≤ n) (hz : 0 ≤ z) (ht : ∀ a ∈ t.Articles, artB a = true) (hl : t.Articles.length ≤ 12) : g_ref35_Quote_j8 n t z = some (outV t z) := by
 unfold g_ref35_Quote_j8 outV
 by_cases c1 : z ≤ 1000000000
 rotate_left
 ·rw [if_neg c1, show ltI 1000000000 z = true from decide_eq_true (by omega), cond_true]
 rw [if_pos c1, show ltI 1000000000 z = false from decide_eq_false (by omega), cond_false]
 refine (congrArg (fun o => Option.bind o _) (r_caps n t z (by omega) (by omega))).trans ?_
 have hcap := capF_range t.Articles z (fun a ha => (artB_art (ht a ha)).price.1) hz
 have hrt := rateQ ht
 rw [Option.bind_some]
 generalize capF z t.Articles = N at hcap
 generalize rateF 0 t.Articles = R at hrt
 obtain ⟨g1, g2, g3⟩ := r_tax n N R (by omega) hrt
 simp only
 rw [g1, Option.bind_some, wi_id (x := N + taxF N R) (by omega) (by omega)]
 simp only [eqI_d, decide_true, Bool.not_true, cond_false, Option.bind_some]
 by_cases hs2 : N + taxF N R ≤ 1000000000
 ·rw [if_pos hs2, show ltI 1000000000 (N + taxF N R) = false from decide_eq_false (by omega), cond_false]
 ·rw [if_neg hs2, show ltI 1000000000 (N + taxF N R) = true from decide_eq_true (by omega), cond_true]
theorem r_l19 (n : Nat) (t : GTariff) (L : List Int) (b : Bool) (hn : 1000 ≤ n) (ht : ∀ a ∈ t.Articles, artB a = true) (hl : t.Articles.length ≤ 12) (hL : ∀ x ∈ L, 0 ≤ x) (hlen : L.length ≤ 100) :
  loopN (fun recl19 (v : Int × Int) => g_ref35_Quote_l19 n t (L, b) recl19 v.1 v.2) n (0, 0) = some (outV t (sumL L)) := by
 have := loop_gen (l := L) (fun (a : Int) i => (a, i)) (B := fun recl19 (v : Int × Int) => g_ref35_Quote_l19 n t (L, b) recl19 v.1 v.2) (F := fun a r => if allM r then outV t (a + sumL r) else (0, 3)) (fun i a => 0 ≤ a ∧ a ≤ 1000000000 * i) (by omega) ?_ ?_ (n := n) 0 0 (by omega) (by omega) (by omega)
 ·refine this.trans ?_
  simp only [List.drop_zero, Int.zero_add]
  cases hA : allM L
  ·have := (allM_sum L hL).2 hA
   rw [if_neg (by simp)]
   unfold outV
   rw [if_neg (by omega)]
  ·rw [if_pos rfl]
 ·intro rec a ha
  have h : ltI ((L.length : Nat) : Int) (lenI (List.map ci L)) = false := by simp [ltI, lenI]
  show g_ref35_Quote_l19 n t (L, b) rec a ((L.length : Nat) : Int) = _
  unfold g_ref35_Quote_l19
  simp only
  rw [h, cond_false, r_j8 n t a hn ha.1 ht hl, show sumL [] = 0 from rfl, Int.add_zero]
  rfl
 ·intro rec a i x r ha hd hx hi hw hr
  have h3 : ltI (i : Int) (lenI (List.map ci L)) = true := by
   simp only [ltI, lenI, List.length_map]
   rw [decide_eq_true (by omega)]
  have hx0 := hL x (List.mem_of_getElem? hx)
  show g_ref35_Quote_l19 n t (L, b) rec a (i : Int) = _
  unfold g_ref35_Quote_l19
  simp only
  rw [h3, cond_true, getI_nat, hx, Option.bind_some, Option.bind_some, hw]
  have hA : allM (x :: r) = (decide (x ≤ 1000000000) && allM r) := List.all_cons
  rw [hA]
  by_cases hq : x ≤ 1000000000
  ·rw [show ltI 1000000000 x = false from decide_eq_false (by omega), cond_false, wi_id (x := a + x) (by omega) (by omega), hr (a + x) (by omega), decide_eq_true hq, Bool.true_and, show sumL (x :: r) = x + sumL r from rfl, Int.add_assoc]
  ·rw [show ltI 1000000000 x = true from decide_eq_true (by omega), cond_true, decide_eq_false hq, Bool.false_and]
   rfl
theorem r_quote (n : Nat) (t : GTariff) (c : GCalendar) (f to e : Int) (hn : 10000 ≤ n) (h1 : c.Changes.length ≤ 900) (h2 : c.Holidays.length ≤ 900) (h4 : t.Name.length ≤ 900) (hb : i64b to) : g_ref35_Quote n t c f to e = some (quoV t c f to e) := by
 unfold g_ref35_Quote
 rw [r_tariff n t (by omega) h4, r_cal n c (by omega) h1 h2, r_limits n f to e hb]
 have hQ : quoV t c f to e = if (tariffB t && calB c && limB f to e) = true then outV t (sumQ c t.Articles (to - f).toNat f e) else (0, 1) := rfl
 rw [hQ]
 simp only [Option.bind_some, cond_some]
 cases ht : tariffB t
 ·rfl
 cases hc : calB c
 ·rfl
 cases hv : limB f to e
 ·rfl
 have hL := limB_spec hv
 obtain ⟨hall, hlen⟩ := tariffB_spec ht
 simp only [Bool.not_true, cond_false, Bool.and_self, if_true]
 have hj : (to - f).toNat ≤ 2880 := by omega
 have hG1 := grQ_range c t.Articles 1 (to - f).toNat f hall hlen
 have hG2 := grQ_range c t.Articles 2 (to - f).toNat f hall hlen
 have hT := timE_range hG2 (show 0 ≤ e ∧ e ≤ 480000 by omega)
 have hj2 : ∀ (acc : List Int) (k : Int), acc.length ≤ 50 → 0 ≤ k ∧ k ≤ 100 → g_ref35_parts_j2 n t c f to e acc k = some (if e = 0 then (acc, true) else if timE (grQ c t.Articles 2 (to - f).toNat f) e ≤ 1000000000 then (acc ++ [timE (grQ c t.Articles 2 (to - f).toNat f) e + k], true) else ([], false)) := by
  intro acc k ha hk
  unfold g_ref35_parts_j2
  by_cases he : e = 0
  ·rw [if_pos he, show ltI 0 e = false from decide_eq_false (by omega), cond_false]
  rw [if_neg he, show ltI 0 e = true from decide_eq_true (by omega), cond_true, r_greatest n t c 2 f to hn h1 h2 hc hall hlen hL.1 (by omega) (by omega), Option.bind_some, q_times n _ e hG2 (by omega), Option.bind_some]
  generalize timE (grQ c t.Articles 2 (to - f).toNat f) e = T at hT
  by_cases hT1 : T ≤ 1000000000
  ·rw [if_pos hT1, if_pos hT1]
   simp only [eqI_d, decide_true, Bool.not_true, cond_false]
   have hrm : roomB (List.length (acc ++ [wi (T + k)])) 8 = true := by
    simp only [roomB, List.length_append, List.length_cons, List.length_nil]
    rw [decide_eq_true]
    omega
   rw [hrm, cond_true, wi_id (x := T + k) (by omega) (by omega)]
  ·rw [if_neg hT1, if_neg hT1]
   rfl
 have hparts : g_ref35_parts n t c f to e = some (if allM (tiL c (to - f).toNat f t.Articles) then (if e = 0 then ([grQ c t.Articles 1 (to - f).toNat f] ++ tiL c (to - f).toNat f t.Articles, true) else if timE (grQ c t.Articles 2 (to - f).toNat f) e ≤ 1000000000 then (([grQ c t.Articles 1 (to - f).toNat f] ++ tiL c (to - f).toNat f t.Articles) ++ [timE (grQ c t.Articles 2 (to - f).toNat f) e + enC c (to - f).toNat f t.Articles], true) else ([], false)) else ([], false)) := by
  unfold g_ref35_parts
  rw [r_greatest n t c 1 f to hn h1 h2 hc hall hlen hL.1 (by omega) (by omega), Option.bind_some]
  have := loop_gen (l := t.Articles) (fun (a : List Int × Int) i => (a.1, a.2, i)) (B := fun recl5 (v : List Int × Int × Int) => g_ref35_parts_l5 n t c f to e recl5 v.1 v.2.1 v.2.2)
   (F := fun a r => if allM (tiL c (to - f).toNat f r) then (if e = 0 then (a.1 ++ tiL c (to - f).toNat f r, true) else if timE (grQ c t.Articles 2 (to - f).toNat f) e ≤ 1000000000 then ((a.1 ++ tiL c (to - f).toNat f r) ++ [timE (grQ c t.Articles 2 (to - f).toNat f) e + (a.2 + enC c (to - f).toNat f r)], true) else ([], false)) else ([], false))
   (fun i a => a.1.length ≤ i + 1 ∧ 0 ≤ a.2 ∧ a.2 ≤ i) (by omega) ?_ ?_ (n := n) 0 ([grQ c t.Articles 1 (to - f).toNat f], 0) (by simp) (by omega) (by omega)
  ·refine this.trans ?_
   simp only [List.drop_zero, Int.zero_add]
  ·intro rec a ha
   have h : ltI ((t.Articles.length : Nat) : Int) (lenI (List.map GArticle.cs t.Articles)) = false := by simp [ltI, lenI]
   show g_ref35_parts_l5 n t c f to e rec a.1 a.2 ((t.Articles.length : Nat) : Int) = _
   unfold g_ref35_parts_l5
   rw [h, cond_false, hj2 a.1 a.2 (by omega) (by omega)]
   simp only [tiL, enC, List.append_nil, Int.add_zero]
   rfl
  ·intro rec a i x r ha hdr hx hi hw hr
   have h3 : ltI (i : Int) (lenI (List.map GArticle.cs t.Articles)) = true := by
    simp only [ltI, lenI, List.length_map]
    rw [decide_eq_true (by omega)]
   have hxa := hall x (List.mem_of_getElem? hx)
   have hA := artB_art hxa
   obtain ⟨acc, k⟩ := a
   simp only at ha ⊢
   have hr' := fun (u : List Int) (v : Int) hh => hr (u, v) hh
   simp only at hr'
   show g_ref35_parts_l5 n t c f to e rec acc k (i : Int) = _
   unfold g_ref35_parts_l5
   rw [h3, cond_true, getI_nat, hx, Option.bind_some, hw, r_count n c f to x hn h1 h2 hc hL.1 (by omega) (by omega) hxa, Option.bind_some, eqI_d, eqI_d, eqI_d]
   rw [show tiL c (to - f).toNat f (x :: r) = if x.Kind = 3 ∨ x.Kind = 4 then tiA c (to - f).toNat f x :: tiL c (to - f).toNat f r else tiL c (to - f).toNat f r from rfl, show enC c (to - f).toNat f (x :: r) = (if x.Kind = 2 ∧ 0 < cN c x (to - f).toNat f then 1 else 0) + enC c (to - f).toNat f r from rfl]
   have e2 : ((bif decide (x.Kind = 2) then some (ltI 0 (cN c x (to - f).toNat f)) else some false).bind fun j9 => bif j9 then some (wi (k + 1)) else some k) = some (k + (if x.Kind = 2 ∧ 0 < cN c x (to - f).toNat f then 1 else 0)) := by
    rw [wi_id (x := k + 1) (by omega) (by omega)]
    by_cases k2 : x.Kind = 2
    ·rw [decide_eq_true k2, cond_true, Option.bind_some]
     by_cases hp : 0 < cN c x (to - f).toNat f
     ·rw [show ltI 0 (cN c x (to - f).toNat f) = true from decide_eq_true hp, cond_true, if_pos ⟨k2, hp⟩]
     ·rw [show ltI 0 (cN c x (to - f).toNat f) = false from decide_eq_false hp, cond_false, if_neg (fun h => hp h.2), Int.add_zero]
    ·rw [decide_eq_false k2, cond_false, Option.bind_some, cond_false, if_neg (fun h => k2 h.1), Int.add_zero]
   rw [e2, Option.bind_some]
   have hk' : 0 ≤ k + (if x.Kind = 2 ∧ 0 < cN c x (to - f).toNat f then 1 else 0) ∧ k + (if x.Kind = 2 ∧ 0 < cN c x (to - f).toNat f then 1 else 0) ≤ i + 1 := by split <;> omega
   have hadd : ∀ q : Int, k + ((if x.Kind = 2 ∧ 0 < cN c x (to - f).toNat f then 1 else 0) + q) = k + (if x.Kind = 2 ∧ 0 < cN c x (to - f).toNat f then 1 else 0) + q := fun q => by omega
   rw [hadd]
   generalize k + (if x.Kind = 2 ∧ 0 < cN c x (to - f).toNat f then 1 else 0) = k' at hk'
   by_cases kk : x.Kind = 3 ∨ x.Kind = 4
   ·have e3 : (bif decide (x.Kind = 3) then some true else some (decide (x.Kind = 4))) = some true := by
     rcases kk with kk | kk
     ·rw [decide_eq_true kk]; rfl
     ·rw [decide_eq_true kk, decide_eq_false (show ¬ x.Kind = 3 by omega)]; rfl
    have hU := hA.unit kk
    have hcn := cN_range c x (to - f).toNat f
    have hq : 0 ≤ maxI 0 (cN c x (to - f).toNat f - x.Free) ∧ maxI 0 (cN c x (to - f).toNat f - x.Free) ≤ 2880 := by unfold maxI; split <;> omega
    have hti := tiA_range c (to - f).toNat f x hxa kk hj
    rw [e3, Option.bind_some, cond_true, if_pos kk, wi_id (x := cN c x (to - f).toNat f - x.Free) (by omega) (by omega), q_started n x.Price _ x.Unit hA.price hq ⟨hU.1, hU.2.1⟩, Option.bind_some]
    rw [show cstM x.Price (maxI 0 (cN c x (to - f).toNat f - x.Free)) x.Unit = tiA c (to - f).toNat f x from rfl]
    have hAll : ∀ q, allM (tiA c (to - f).toNat f x :: q) = (decide (tiA c (to - f).toNat f x ≤ 1000000000) && allM q) := fun q => List.all_cons
    rw [hAll]
    generalize tiA c (to - f).toNat f x = A at hti
    by_cases hA1 : A ≤ 1000000000
    ·rw [if_pos hA1, decide_eq_true hA1, Bool.true_and]
     simp only [eqI_d, decide_true, Bool.not_true, cond_false]
     have hrm : roomB (List.length (acc ++ [A])) 8 = true := by
      simp only [roomB, List.length_append, List.length_cons, List.length_nil]
      rw [decide_eq_true]
      omega
     rw [hrm, cond_true, hr' (acc ++ [A]) k' ⟨by simp only [List.length_append, List.length_cons, List.length_nil]; omega, by omega, by omega⟩]
     simp only [List.append_assoc, List.singleton_append]
    ·rw [if_neg hA1, decide_eq_false hA1, Bool.false_and]
     rfl
   ·have e3 : (bif decide (x.Kind = 3) then some true else some (decide (x.Kind = 4))) = some false := by
     rw [decide_eq_false (fun h => kk (Or.inl h)), decide_eq_false (fun h => kk (Or.inr h))]; rfl
    rw [e3, Option.bind_some, cond_false, if_neg kk, hr' acc k' ⟨by omega, by omega, by omega⟩]
 rw [hparts, Option.bind_some]
 obtain ⟨s1, s2⟩ := tiL_sum c (to - f).toNat f t.Articles
 have hrange := tiL_range c (to - f).toNat f hj t.Articles hall
 obtain ⟨m1, m2⟩ := allM_sum (tiL c (to - f).toNat f t.Articles) (fun x hx => (hrange x hx).1)
 have hE := enC_range c (to - f).toNat f t.Articles
 have hsum : sumQ c t.Articles (to - f).toNat f e = (if e = 0 then 0 else timE (grQ c t.Articles 2 (to - f).toNat f) e + enC c (to - f).toNat f t.Articles) + grQ c t.Articles 1 (to - f).toNat f + tiS c (to - f).toNat f t.Articles := rfl
 rw [s1] at m1 m2
 cases hM : allM (tiL c (to - f).toNat f t.Articles)
 ·have := m2 hM
  rw [if_neg (by simp)]
  unfold outV
  rw [if_neg (by rw [hsum]; split <;> omega)]
  rfl
 rw [if_pos rfl]
 by_cases he : e = 0
 ·rw [if_pos he]
  rw [if_pos he] at hsum
  simp only [Bool.not_true, cond_false]
  refine (r_l19 n t _ true (by omega) hall hlen ?_ ?_).trans ?_
  ·intro x hx
   rcases List.mem_append.1 hx with hx | hx
   ·rw [List.mem_singleton.1 hx]; exact hG1.1
   ·exact (hrange x hx).1
  ·simp only [List.length_append, List.length_cons, List.length_nil]; omega
  ·rw [sumL_app, s1, hsum, show sumL [grQ c t.Articles 1 (to - f).toNat f] = grQ c t.Articles 1 (to - f).toNat f + 0 from rfl, Int.add_zero, Int.zero_add]
 rw [if_neg he]
 rw [if_neg he] at hsum
 by_cases hT1 : timE (grQ c t.Articles 2 (to - f).toNat f) e ≤ 1000000000
 ·rw [if_pos hT1]
  simp only [Bool.not_true, cond_false]
  refine (r_l19 n t _ true (by omega) hall hlen ?_ ?_).trans ?_
  ·intro x hx
   rcases List.mem_append.1 hx with hx | hx
   ·rcases List.mem_append.1 hx with hx | hx
    ·rw [List.mem_singleton.1 hx]; exact hG1.1
    ·exact (hrange x hx).1
   ·rw [List.mem_singleton.1 hx]
    omega
  ·simp only [List.length_append, List.length_cons, List.length_nil]; omega
  ·rw [sumL_app, sumL_app, s1, hsum, show sumL [grQ c t.Articles 1 (to - f).toNat f] = grQ c t.Articles 1 (to - f).toNat f + 0 from rfl, show ∀ q, sumL [q] = q + 0 from fun _ => rfl]
   congr 2
   omega
 ·rw [if_neg hT1]
  unfold outV
  rw [if_neg (by omega)]
  rfl
theorem matches35_plain (t : GTariff) (c : GCalendar) (f to e : Int) (s : GSession) (hto : i64b to) (hsf : i64b s.From) (hst : i64b s.To) : g_law35_QuoteMatchesReference 36893488147419103232 t c f to e s = some true := by
 unfold g_law35_QuoteMatchesReference
 generalize hn : (36893488147419103232 : Nat) = n
 have hh : g_law35_head n = some true := by rw [← hn]; exact head35_big
 obtain ⟨b, f1, f2⟩ := few35 n t c s
 rw [hh, Option.bind_some, f1, Option.bind_some]
 cases b
 ·rfl
 have f3 := f2 rfl
 rw [Bool.not_true, cond_false, q_quote n t c f to e (by omega) (by omega) (by omega) hto, Option.bind_some, r_quote n t c f to e (by omega) (by omega) (by omega) (by omega) hto, Option.bind_some, cond_true, q_covers n s f to e (by omega) (by omega) hto hst, r_covers n s f to e (by omega) (by omega) hto hsf]
 simp only [eqI_d, decide_true, cond_true, Option.bind_some, opq]
 cases covB s f to e <;> rfl
end Go.Proofs
namespace Go.Proofs.Ytehocmildcedeaa
open Go Go.Abs Go.Proofs
theorem quoteMatchesReference_holds : Rows.QuoteMatchesReferenceSaid :=
 quoteMatchesReference_said (fun t c f to e s _ _ _ h2 _ hs => ⟨_, matches35_plain t c f to e s h2 hs.From hs.To⟩)
end Go.Proofs.Ytehocmildcedeaa
