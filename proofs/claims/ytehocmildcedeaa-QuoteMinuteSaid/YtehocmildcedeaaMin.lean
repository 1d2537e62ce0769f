/-
  Proved: QuoteMinute. For limits of one minute and a tariff of one article, which is for energy, the bound is at most 1 more than the Total of the session of this minute that takes all the energy. No conditions beyond those of the given statement.
-/
import Derived.Test.YtehocmildcedeaaMin04
namespace Go.Proofs
open Go Go.Abs
set_option maxRecDepth 100000
set_option linter.unusedVariables false
theorem tiA_range (c : GCalendar) (j : Nat) (m : Int) (a : GArticle) (ha : artB a = true) (hk : a.Kind = 3 ∨ a.Kind = 4) (hj : j ≤ 2880) : 0 ≤ tiA c j m a ∧ tiA c j m a ≤ 2880000000 := by
 have hA := artB_art ha
 have hU := hA.unit hk
 have hc := cN_range c a j m
 have hq : 0 ≤ maxI 0 (cN c a j m - a.Free) ∧ maxI 0 (cN c a j m - a.Free) ≤ 2880 := by unfold maxI; split <;> omega
 unfold tiA cstM
 have hd := ceil_le (q := maxI 0 (cN c a j m - a.Free)) (u := a.Unit) hq.1 hU.1
 have := mul_bound hA.price (y := (maxI 0 (cN c a j m - a.Free) + a.Unit - 1) / a.Unit) (Y := 2880) ⟨hd.1, by omega⟩
 omega
theorem tiS_range (c : GCalendar) (j : Nat) (m : Int) (hj : j ≤ 2880) : ∀ (l : List GArticle), (∀ a ∈ l, artB a = true) → 0 ≤ tiS c j m l ∧ tiS c j m l ≤ 2880000000 * l.length
 | [], _ => by
  show (0 : Int) ≤ 0 ∧ (0 : Int) ≤ 2880000000 * ((0 : Nat) : Int)
  omega
 | a :: r, h => by
  have := tiS_range c j m hj r (fun x hx => h x (List.mem_cons_of_mem _ hx))
  unfold tiS
  simp only [List.length_cons]
  split
  ·rename_i hk
   have h1 := tiA_range c j m a (h a List.mem_cons_self) hk hj
   omega
  ·omega
theorem grQ_range (c : GCalendar) (l : List GArticle) (k : Int) (j : Nat) (m : Int) (h : ∀ a ∈ l, artB a = true) (hl : l.length ≤ 12) : 0 ≤ grQ c l k j m ∧ grQ c l k j m ≤ 12000000 :=
 gmx_range (by omega) (fun m => by have := prS_range c k m l h; omega) j m
theorem timE_range {p q : Int} (hp : 0 ≤ p ∧ p ≤ 12000000) (hq : 0 ≤ q ∧ q ≤ 480000) : 0 ≤ timE p q ∧ timE p q ≤ 6000000000 := by
 have := mul_bound hp hq
 unfold timE
 omega
theorem q_times (n : Nat) (p q : Int) (hp : 0 ≤ p ∧ p ≤ 12000000) (hq : 0 ≤ q ∧ q ≤ 480000) : g_ref31_Times n p q 1000 = some (if timE p q ≤ 1000000000 then (timE p q, 0) else (0, 3)) := by
 have hb := mul_bound hp hq
 have hr := timE_range hp hq
 have e1 : wi (p * q) = p * q := wi_id (by omega) (by omega)
 unfold g_ref31_Times
 rw [r_amount, r_amount, decide_eq_true (show 0 ≤ p ∧ p ≤ 1000000000 by omega), decide_eq_true (show 0 ≤ q ∧ q ≤ 1000000000 by omega)]
 simp only [Option.bind_some, Bool.not_true, cond_false, show ltI 1000 1 = false from rfl, show ltI 1000000000 1000 = false from rfl]
 rw [e1]
 have e2 : g_ref31_divided n (p * q) 1000 = some (timE p q) := by
  unfold g_ref31_divided
  rw [show wi (2 * 1000) = 2000 from rfl, show (!eqI 2000 0) = true from rfl, cond_true, wi_id (x := 2 * (p * q)) (by omega) (by omega), wi_id (x := 2 * (p * q) + 1000) (by omega) (by omega), Int.tdiv_eq_ediv_of_nonneg (by omega)]
  unfold timE at hr ⊢
  rw [wi_id (by omega) (by omega)]
 rw [e2, Option.bind_some, r_checked n _ hr.1, Option.bind_some]
theorem q_started (n : Nat) (p q u : Int) (hp : 0 ≤ p ∧ p ≤ 1000000) (hq : 0 ≤ q ∧ q ≤ 2880) (hu : 1 ≤ u ∧ u ≤ 1440) : g_ref31_Started n p q u = some (if cstM p q u ≤ 1000000000 then (cstM p q u, 0) else (0, 3)) := by
 have hd := ceil_le hq.1 hu.1
 have hb := mul_bound hp (y := (q + u - 1) / u) (Y := 2880) ⟨hd.1, by omega⟩
 unfold g_ref31_Started cstM
 rw [r_amount, r_amount, decide_eq_true (show 0 ≤ p ∧ p ≤ 1000000000 by omega), decide_eq_true (show 0 ≤ q ∧ q ≤ 1000000000 by omega)]
 simp only [Option.bind_some, Bool.not_true, cond_false, ltI]
 rw [decide_eq_false (show ¬ u < 1 by omega), cond_false, Option.bind_some, decide_eq_false (show ¬ 1000000000 < u by omega), cond_false, show (!eqI u 0) = true by simp [eqI]; omega, cond_true,
  wi_id (x := q + u) (by omega) (by omega), wi_id (x := q + u - 1) (by omega) (by omega), Int.tdiv_eq_ediv_of_nonneg (by omega), wi_id (x := (q + u - 1) / u) (by omega) (by omega), wi_id (x := p * ((q + u - 1) / u)) (by omega) (by omega), r_checked n _ hb.1, Option.bind_some]
theorem min_loop {to : Int} {f : Int → Int} {B : (Int × Int → Option Int) → Int × Int → Option Int} (hto : to ≤ 52560000) (hf : ∀ m, 0 ≤ f m)
  (hstep : ∀ rec m z, 0 ≤ m → m < to → B rec (m, z) = rec (m + 1, maxI z (f m))) (hend : ∀ rec m z, ¬ m < to → B rec (m, z) = some z) :
  ∀ (k j : Nat) (z m : Int), (to - m).toNat = k → k < j → 0 ≤ m → 0 ≤ z → loopN B j (m, z) = some (maxI z (gmx f k m)) := by
 intro k
 induction k with
 | zero =>
  intro j z m h1 h2 h3 h4
  obtain ⟨j, rfl⟩ : ∃ j', j = j' + 1 := ⟨j - 1, by omega⟩
  unfold loopN
  rw [hend _ _ _ (by omega)]
  unfold gmx maxI
  rw [if_neg (by omega)]
 | succ k ih =>
  intro j z m h1 h2 h3 h4
  obtain ⟨j, rfl⟩ : ∃ j', j = j' + 1 := ⟨j - 1, by omega⟩
  have hi := ih j (maxI z (f m)) (m + 1) (by omega) (by omega) (by omega) (Int.le_trans h4 (maxI_l _ _))
  unfold loopN
  generalize loopN B j = L at hi ⊢
  rw [hstep _ _ _ h3 (by omega), hi, maxI_assoc]
  rfl
theorem q_in2 (n : Nat) (t : GTariff) (c : GCalendar) (f to : Int) (hn : 10000 ≤ n) (h1 : c.Changes.length ≤ 900) (h2 : c.Holidays.length ≤ 900) (hc : calB c = true) (ht : ∀ a ∈ t.Articles, artB a = true) (hl : t.Articles.length ≤ 12) (m : Int) (hm : 0 ≤ m ∧ m ≤ 52560000) : loopN (fun recl5 (v : Int × Int) => g_quote_quoted_energy_l5 n (⟨t, c, f, to⟩ : GQuoteQuoted) m recl5 v.1 v.2) n (0, 0) = some (prS c 2 m t.Articles) := by
 have := loop_gen (l := t.Articles) (fun (a : Int) i => (a, i)) (B := fun recl5 (v : Int × Int) => g_quote_quoted_energy_l5 n (⟨t, c, f, to⟩ : GQuoteQuoted) m recl5 v.1 v.2) (F := fun a r => a + prS c 2 m r) (fun i a => 0 ≤ a ∧ a ≤ 1000000 * i) (by omega) ?_ ?_ (n := n) 0 0 (by omega) (by omega) (by omega)
 ·rw [show ((0 : Nat) : Int) = 0 from rfl] at this
  rw [this]
  simp
 ·intro rec a ha
  have h : ltI ((t.Articles.length : Nat) : Int) (lenI (List.map GArticle.cs t.Articles)) = false := by simp [ltI, lenI]
  show g_quote_quoted_energy_l5 n (⟨t, c, f, to⟩ : GQuoteQuoted) m rec a ((t.Articles.length : Nat) : Int) = _
  unfold g_quote_quoted_energy_l5
  rw [h, cond_false]
  simp [prS]
 ·intro rec a i x r ha hd hx hi hw hr
  have h3 : ltI (i : Int) (lenI (List.map GArticle.cs t.Articles)) = true := by
   simp only [ltI, lenI, List.length_map]
   rw [decide_eq_true (by omega)]
  have hxa := ht x (List.mem_of_getElem? hx)
  have hp := (artB_art hxa).price
  show g_quote_quoted_energy_l5 n (⟨t, c, f, to⟩ : GQuoteQuoted) m rec a (i : Int) = some (a + prS c 2 m (x :: r))
  unfold g_quote_quoted_energy_l5
  simp only
  rw [h3, cond_true, getI_nat, hx, Option.bind_some, hw, eqI_d, b_applies n c x m (by omega) h1 h2 hc hxa hm, Option.bind_some, wi_id (x := a + x.Price) (by omega) (by omega), hr a (by omega), hr (a + x.Price) (by omega)]
  rw [show prS c 2 m (x :: r) = (if x.Kind = 2 ∧ appB c x m = true then x.Price else 0) + prS c 2 m r from rfl]
  by_cases k2 : x.Kind = 2
  ·rw [decide_eq_true k2, cond_true, Option.bind_some]
   cases happ : appB c x m
   ·rw [cond_false, if_neg (by simp)]
    simp
   ·rw [cond_true, if_pos ⟨k2, rfl⟩, Int.add_assoc]
  ·rw [decide_eq_false k2, cond_false, Option.bind_some, cond_false, if_neg (fun h => k2 h.1)]
   simp
theorem q_in1 (n : Nat) (t : GTariff) (c : GCalendar) (f to : Int) (hn : 10000 ≤ n) (h1 : c.Changes.length ≤ 900) (h2 : c.Holidays.length ≤ 900) (hc : calB c = true) (ht : ∀ a ∈ t.Articles, artB a = true) (hl : t.Articles.length ≤ 12) (m : Int) (hm : 0 ≤ m ∧ m ≤ 52560000) : loopN (fun recl6 (v : Int × Int) => g_quote_quoted_sum_l6 n (⟨t, c, f, to⟩ : GQuoteQuoted) m recl6 v.1 v.2) n (0, 0) = some (prS c 1 m t.Articles) := by
 have := loop_gen (l := t.Articles) (fun (a : Int) i => (a, i)) (B := fun recl5 (v : Int × Int) => g_quote_quoted_sum_l6 n (⟨t, c, f, to⟩ : GQuoteQuoted) m recl5 v.1 v.2) (F := fun a r => a + prS c 1 m r) (fun i a => 0 ≤ a ∧ a ≤ 1000000 * i) (by omega) ?_ ?_ (n := n) 0 0 (by omega) (by omega) (by omega)
 ·rw [show ((0 : Nat) : Int) = 0 from rfl] at this
  rw [this]
  simp
 ·intro rec a ha
  have h : ltI ((t.Articles.length : Nat) : Int) (lenI (List.map GArticle.cs t.Articles)) = false := by simp [ltI, lenI]
  show g_quote_quoted_sum_l6 n (⟨t, c, f, to⟩ : GQuoteQuoted) m rec a ((t.Articles.length : Nat) : Int) = _
  unfold g_quote_quoted_sum_l6
  rw [h, cond_false]
  simp [prS]
 ·intro rec a i x r ha hd hx hi hw hr
  have h3 : ltI (i : Int) (lenI (List.map GArticle.cs t.Articles)) = true := by
   simp only [ltI, lenI, List.length_map]
   rw [decide_eq_true (by omega)]
  have hxa := ht x (List.mem_of_getElem? hx)
  have hp := (artB_art hxa).price
  show g_quote_quoted_sum_l6 n (⟨t, c, f, to⟩ : GQuoteQuoted) m rec a (i : Int) = some (a + prS c 1 m (x :: r))
  unfold g_quote_quoted_sum_l6
  simp only
  rw [h3, cond_true, getI_nat, hx, Option.bind_some, hw, eqI_d, b_applies n c x m (by omega) h1 h2 hc hxa hm, Option.bind_some, wi_id (x := a + x.Price) (by omega) (by omega), hr a (by omega), hr (a + x.Price) (by omega)]
  rw [show prS c 1 m (x :: r) = (if x.Kind = 1 ∧ appB c x m = true then x.Price else 0) + prS c 1 m r from rfl]
  by_cases k2 : x.Kind = 1
  ·rw [decide_eq_true k2, cond_true, Option.bind_some]
   cases happ : appB c x m
   ·rw [cond_false, if_neg (by simp)]
    simp
   ·rw [cond_true, if_pos ⟨k2, rfl⟩, Int.add_assoc]
  ·rw [decide_eq_false k2, cond_false, Option.bind_some, cond_false, if_neg (fun h => k2 h.1)]
   simp
theorem q_gr2 (n : Nat) (t : GTariff) (c : GCalendar) (f to : Int) (hn : 10000 ≤ n) (h1 : c.Changes.length ≤ 900) (h2 : c.Holidays.length ≤ 900) (hc : calB c = true) (ht : ∀ a ∈ t.Articles, artB a = true) (hl : t.Articles.length ≤ 12) (hf : 0 ≤ f) (hto : to ≤ 52560000) (hd : to - f ≤ 2880) : loopN (fun recl3 (v : Int × Int) => g_quote_quoted_energy_l3 n (⟨t, c, f, to⟩ : GQuoteQuoted) recl3 v.1 v.2) n (f, 0) = some (grQ c t.Articles 2 (to - f).toNat f) := by
 have hge : ∀ m, 0 ≤ prS c 2 m t.Articles := fun m => (prS_range c 2 m t.Articles ht).1
 have key := min_loop (to := to) (f := fun m => prS c 2 m t.Articles) (B := fun recl3 (v : Int × Int) => g_quote_quoted_energy_l3 n (⟨t, c, f, to⟩ : GQuoteQuoted) recl3 v.1 v.2) hto hge ?_ ?_ (to - f).toNat n 0 f rfl (by omega) hf (Int.le_refl _)
 ·rw [key]
  have := gmx_range (f := fun m => prS c 2 m t.Articles) (z := 12000000) (by omega) (fun m => by have := prS_range c 2 m t.Articles ht; omega) (to - f).toNat f
  unfold grQ maxI
  split
  ·rfl
  ·rename_i h; congr 1; omega
 ·intro rec m z h3 h4
  show g_quote_quoted_energy_l3 n (⟨t, c, f, to⟩ : GQuoteQuoted) rec m z = _
  unfold g_quote_quoted_energy_l3
  simp only [ltI]
  rw [decide_eq_true h4, cond_true]
  refine (congrArg (fun o => Option.bind o _) (q_in2 n t c f to hn h1 h2 hc ht hl m (by omega))).trans ?_
  rw [Option.bind_some, wi_id (x := m + 1) (by omega) (by omega)]
 ·intro rec m z h3
  show g_quote_quoted_energy_l3 n (⟨t, c, f, to⟩ : GQuoteQuoted) rec m z = _
  unfold g_quote_quoted_energy_l3
  simp only [ltI]
  rw [decide_eq_false h3, cond_false]
theorem q_gr1 (n : Nat) (t : GTariff) (c : GCalendar) (f to : Int) (hn : 10000 ≤ n) (h1 : c.Changes.length ≤ 900) (h2 : c.Holidays.length ≤ 900) (hc : calB c = true) (ht : ∀ a ∈ t.Articles, artB a = true) (hl : t.Articles.length ≤ 12) (hf : 0 ≤ f) (hto : to ≤ 52560000) (hd : to - f ≤ 2880) : loopN (fun recl4 (v : Int × Int) => g_quote_quoted_sum_l4 n (⟨t, c, f, to⟩ : GQuoteQuoted) recl4 v.1 v.2) n (f, 0) = some (grQ c t.Articles 1 (to - f).toNat f) := by
 have hge : ∀ m, 0 ≤ prS c 1 m t.Articles := fun m => (prS_range c 1 m t.Articles ht).1
 have key := min_loop (to := to) (f := fun m => prS c 1 m t.Articles) (B := fun recl3 (v : Int × Int) => g_quote_quoted_sum_l4 n (⟨t, c, f, to⟩ : GQuoteQuoted) recl3 v.1 v.2) hto hge ?_ ?_ (to - f).toNat n 0 f rfl (by omega) hf (Int.le_refl _)
 ·rw [key]
  have := gmx_range (f := fun m => prS c 1 m t.Articles) (z := 12000000) (by omega) (fun m => by have := prS_range c 1 m t.Articles ht; omega) (to - f).toNat f
  unfold grQ maxI
  split
  ·rfl
  ·rename_i h; congr 1; omega
 ·intro rec m z h3 h4
  show g_quote_quoted_sum_l4 n (⟨t, c, f, to⟩ : GQuoteQuoted) rec m z = _
  unfold g_quote_quoted_sum_l4
  simp only [ltI]
  rw [decide_eq_true h4, cond_true]
  refine (congrArg (fun o => Option.bind o _) (q_in1 n t c f to hn h1 h2 hc ht hl m (by omega))).trans ?_
  rw [Option.bind_some, wi_id (x := m + 1) (by omega) (by omega)]
 ·intro rec m z h3
  show g_quote_quoted_sum_l4 n (⟨t, c, f, to⟩ : GQuoteQuoted) rec m z = _
  unfold g_quote_quoted_sum_l4
  simp only [ltI]
  rw [decide_eq_false h3, cond_false]
end Go.Proofs
namespace Go.Proofs
open Go Go.Abs
set_option maxRecDepth 100000
set_option linter.unusedVariables false
def limB (f to e : Int) : Bool := decide (0 ≤ f ∧ f < to ∧ to - f ≤ 2880 ∧ to ≤ 52560000 ∧ 0 ≤ e ∧ e ≤ 480000)
theorem q_limits (n : Nat) (f to e : Int) (hb : i64b to) : g_quote_validLimits n f to e = some (limB f to e) := by
 unfold i64b at hb
 unfold g_quote_validLimits limB
 simp only [leI, ltI]
 by_cases c1 : 0 ≤ f
 rotate_left
 ·rw [decide_eq_false c1, cond_false, Option.bind_some, decide_eq_false (by omega)]
 rw [decide_eq_true c1, cond_true]
 by_cases c2 : f < to
 rotate_left
 ·rw [decide_eq_false c2, cond_false, Option.bind_some, decide_eq_false (by omega)]
 rw [decide_eq_true c2, cond_true, wi_id (x := to - f) (by omega) (by omega)]
 by_cases c3 : to - f ≤ 2880
 rotate_left
 ·rw [decide_eq_false c3, cond_false, Option.bind_some, decide_eq_false (by omega)]
 rw [decide_eq_true c3, cond_true]
 by_cases c4 : to ≤ 52560000
 rotate_left
 ·rw [decide_eq_false c4, cond_false, Option.bind_some, decide_eq_false (by omega)]
 rw [decide_eq_true c4, cond_true]
 by_cases c5 : 0 ≤ e
 rotate_left
 ·rw [decide_eq_false c5, cond_false, Option.bind_some, decide_eq_false (by omega)]
 rw [decide_eq_true c5, cond_true, Option.bind_some]
 congr 1
 by_cases c6 : e ≤ 480000
 ·rw [decide_eq_true c6, decide_eq_true (by omega)]
 ·rw [decide_eq_false c6, decide_eq_false (by omega)]
theorem r_limits (n : Nat) (f to e : Int) (hb : i64b to) : g_ref35_Limits n f to e = some (limB f to e) := by
 unfold i64b at hb
 unfold g_ref35_Limits limB
 simp only [leI, ltI]
 by_cases c1 : 0 ≤ f
 rotate_left
 ·rw [decide_eq_false c1, cond_false, Option.bind_some, decide_eq_false (by omega)]
 rw [decide_eq_true c1, cond_true]
 by_cases c2 : f < to
 rotate_left
 ·rw [decide_eq_false c2, cond_false, Option.bind_some, decide_eq_false (by omega)]
 rw [decide_eq_true c2, cond_true, wi_id (x := to - f) (by omega) (by omega)]
 by_cases c4 : to ≤ 52560000
 rotate_left
 ·rw [decide_eq_false c4, cond_false, Option.bind_some, decide_eq_false (by omega)]
 rw [decide_eq_true c4, cond_true]
 by_cases c3 : to - f ≤ 2880
 rotate_left
 ·rw [decide_eq_false c3, cond_false, Option.bind_some, decide_eq_false (by omega)]
 rw [decide_eq_true c3, cond_true]
 by_cases c5 : 0 ≤ e
 rotate_left
 ·rw [decide_eq_false c5, cond_false, Option.bind_some, decide_eq_false (by omega)]
 rw [decide_eq_true c5, cond_true, Option.bind_some]
 congr 1
 by_cases c6 : e ≤ 480000
 ·rw [decide_eq_true c6, decide_eq_true (by omega)]
 ·rw [decide_eq_false c6, decide_eq_false (by omega)]
theorem limB_spec {f to e : Int} (h : limB f to e = true) : 0 ≤ f ∧ f < to ∧ to - f ≤ 2880 ∧ to ≤ 52560000 ∧ 0 ≤ e ∧ e ≤ 480000 := by
 simpa [limB] using h
theorem q_count (n : Nat) (t : GTariff) (c : GCalendar) (f to : Int) (hn : 10000 ≤ n) (h1 : c.Changes.length ≤ 900) (h2 : c.Holidays.length ≤ 900) (hc : calB c = true) (hf : 0 ≤ f) (hto : to ≤ 52560000) (hd : to - f ≤ 2880) (a : GArticle) (ha : artB a = true) : g_quote_quoted_count n (⟨t, c, f, to⟩ : GQuoteQuoted) a = some (cN c a (to - f).toNat f) := by
 unfold g_quote_quoted_count
 have key : ∀ (k j : Nat) (z m : Int), (to - m).toNat = k → k < j → 0 ≤ m → k ≤ 2880 → 0 ≤ z ∧ z ≤ 3000 - k →
   loopN (fun recl2 (v : Int × Int) => g_quote_quoted_count_l2 n (⟨t, c, f, to⟩ : GQuoteQuoted) a recl2 v.1 v.2) j (m, z) = some (z + cN c a k m) := by
  intro k
  induction k with
  | zero =>
   intro j z m h3 h4 h5 h6 h7
   obtain ⟨j, rfl⟩ : ∃ j', j = j' + 1 := ⟨j - 1, by omega⟩
   unfold loopN
   simp only [g_quote_quoted_count_l2, ltI]
   rw [decide_eq_false (by omega), cond_false]
   simp [cN]
  | succ k ih =>
   intro j z m h3 h4 h5 h6 h7
   obtain ⟨j, rfl⟩ : ∃ j', j = j' + 1 := ⟨j - 1, by omega⟩
   have i0 := ih j z (m + 1) (by omega) (by omega) (by omega) (by omega) (by omega)
   have i1 := ih j (z + 1) (m + 1) (by omega) (by omega) (by omega) (by omega) (by omega)
   unfold loopN
   generalize loopN (fun recl2 (v : Int × Int) => g_quote_quoted_count_l2 n (⟨t, c, f, to⟩ : GQuoteQuoted) a recl2 v.1 v.2) j = L at i0 i1 ⊢
   show g_quote_quoted_count_l2 n (⟨t, c, f, to⟩ : GQuoteQuoted) a L m z = _
   unfold g_quote_quoted_count_l2
   simp only [ltI]
   rw [decide_eq_true (by omega), cond_true, b_applies n c a m (by omega) h1 h2 hc ha (by omega), Option.bind_some, wi_id (x := m + 1) (by omega) (by omega), wi_id (x := z + 1) (by omega) (by omega)]
   rw [show cN c a (k + 1) m = (if appB c a m then 1 else 0) + cN c a k (m + 1) from rfl]
   cases appB c a m
   ·rw [cond_false, Option.bind_some, i0]
    simp
   ·rw [cond_true, Option.bind_some, i1]
    simp
    omega
 have := key (to - f).toNat n 0 f rfl (by omega) hf (by omega) (by omega)
 rw [Int.zero_add] at this
 exact this
theorem q_cnt (n : Nat) (t : GTariff) (c : GCalendar) (f to : Int) (hn : 10000 ≤ n) (h1 : c.Changes.length ≤ 900) (h2 : c.Holidays.length ≤ 900) (hc : calB c = true) (ht : ∀ a ∈ t.Articles, artB a = true) (hl : t.Articles.length ≤ 12) (hf : 0 ≤ f) (hto : to ≤ 52560000) (hd : to - f ≤ 2880) (x : Int) (hx : 0 ≤ x ∧ x ≤ 6000000000) : loopN (fun recl12 (v : Int × Int) => g_quote_quoted_energy_l12 n (⟨t, c, f, to⟩ : GQuoteQuoted) recl12 v.1 v.2) n (x, 0) = some (x + enC c (to - f).toNat f t.Articles) := by
 have := loop_gen (l := t.Articles) (fun (a : Int) i => (a, i)) (B := fun recl12 (v : Int × Int) => g_quote_quoted_energy_l12 n (⟨t, c, f, to⟩ : GQuoteQuoted) recl12 v.1 v.2) (F := fun a r => a + enC c (to - f).toNat f r) (fun i a => 0 ≤ a ∧ a ≤ 6000000000 + i) (by omega) ?_ ?_ (n := n) 0 x (by omega) (by omega) (by omega)
 ·exact this
 ·intro rec a ha
  have h : ltI ((t.Articles.length : Nat) : Int) (lenI (List.map GArticle.cs t.Articles)) = false := by simp [ltI, lenI]
  show g_quote_quoted_energy_l12 n (⟨t, c, f, to⟩ : GQuoteQuoted) rec a ((t.Articles.length : Nat) : Int) = _
  unfold g_quote_quoted_energy_l12
  rw [h, cond_false]
  simp [enC]
 ·intro rec a i x r ha hdr hx hi hw hr
  have h3 : ltI (i : Int) (lenI (List.map GArticle.cs t.Articles)) = true := by
   simp only [ltI, lenI, List.length_map]
   rw [decide_eq_true (by omega)]
  have hxa := ht x (List.mem_of_getElem? hx)
  show g_quote_quoted_energy_l12 n (⟨t, c, f, to⟩ : GQuoteQuoted) rec a (i : Int) = some (a + enC c (to - f).toNat f (x :: r))
  unfold g_quote_quoted_energy_l12
  rw [h3, cond_true, getI_nat, hx, Option.bind_some, hw, eqI_d, q_count n t c f to hn h1 h2 hc hf hto hd x hxa, Option.bind_some, wi_id (x := a + 1) (by omega) (by omega), hr a (by omega), hr (a + 1) (by omega)]
  rw [show enC c (to - f).toNat f (x :: r) = (if x.Kind = 2 ∧ 0 < cN c x (to - f).toNat f then 1 else 0) + enC c (to - f).toNat f r from rfl]
  by_cases k2 : x.Kind = 2
  ·rw [decide_eq_true k2, cond_true, Option.bind_some]
   by_cases hp : 0 < cN c x (to - f).toNat f
   ·rw [show ltI 0 (cN c x (to - f).toNat f) = true from decide_eq_true hp, cond_true, if_pos ⟨k2, hp⟩, Int.add_assoc]
   ·rw [show ltI 0 (cN c x (to - f).toNat f) = false from decide_eq_false hp, cond_false, if_neg (fun h => hp h.2), Int.zero_add]
  ·rw [decide_eq_false k2, cond_false, Option.bind_some, cond_false, if_neg (fun h => k2 h.1), Int.zero_add]
theorem q_energy (n : Nat) (t : GTariff) (c : GCalendar) (f to : Int) (hn : 10000 ≤ n) (h1 : c.Changes.length ≤ 900) (h2 : c.Holidays.length ≤ 900) (hc : calB c = true) (ht : ∀ a ∈ t.Articles, artB a = true) (hl : t.Articles.length ≤ 12) (hf : 0 ≤ f) (hto : to ≤ 52560000) (hd : to - f ≤ 2880) (e : Int) (he : 0 ≤ e ∧ e ≤ 480000) : g_quote_quoted_energy n (⟨t, c, f, to⟩ : GQuoteQuoted) e = some (if eneQ c t.Articles (to - f).toNat f e ≤ 1000000000 then (eneQ c t.Articles (to - f).toNat f e, 0) else (0, 3)) := by
 unfold g_quote_quoted_energy eneQ
 rw [eqI_d]
 by_cases h0 : e = 0
 ·rw [decide_eq_true h0, cond_true, if_pos h0, if_pos (by omega)]
 rw [decide_eq_false h0, cond_false, if_neg h0]
 refine (congrArg (fun o => Option.bind o _) (q_gr2 n t c f to hn h1 h2 hc ht hl hf hto hd)).trans ?_
 have hg := grQ_range c t.Articles 2 (to - f).toNat f ht hl
 have hr := timE_range hg he
 have hE := enC_range c (to - f).toNat f t.Articles
 rw [Option.bind_some, b_times, q_times n _ e hg he, Option.bind_some]
 generalize timE (grQ c t.Articles 2 (to - f).toNat f) e = T at hr
 by_cases hT : T ≤ 1000000000
 ·rw [if_pos hT]
  simp only [eqI_d, decide_true, Bool.not_true, cond_false]
  refine (congrArg (fun o => Option.bind o _) (q_cnt n t c f to hn h1 h2 hc ht hl hf hto hd T hr)).trans ?_
  rw [Option.bind_some]
  by_cases hs : T + enC c (to - f).toNat f t.Articles ≤ 1000000000
  ·rw [if_pos hs, show ltI 1000000000 (T + enC c (to - f).toNat f t.Articles) = false from decide_eq_false (by omega), cond_false]
  ·rw [if_neg hs, show ltI 1000000000 (T + enC c (to - f).toNat f t.Articles) = true from decide_eq_true (by omega), cond_true]
 ·rw [if_neg hT, if_neg (by omega)]
  rfl
theorem q_tis (n : Nat) (t : GTariff) (c : GCalendar) (f to : Int) (hn : 10000 ≤ n) (h1 : c.Changes.length ≤ 900) (h2 : c.Holidays.length ≤ 900) (hc : calB c = true) (ht : ∀ a ∈ t.Articles, artB a = true) (hl : t.Articles.length ≤ 12) (hf : 0 ≤ f) (hto : to ≤ 52560000) (hd : to - f ≤ 2880) (x : Int) (hx : 0 ≤ x ∧ x ≤ 2000000000) : loopN (fun recl12 (v : Int × Int) => g_quote_quoted_sum_l12 n (⟨t, c, f, to⟩ : GQuoteQuoted) recl12 v.1 v.2) n (x, 0) = some (if x + tiS c (to - f).toNat f t.Articles ≤ 1000000000 then (x + tiS c (to - f).toNat f t.Articles, 0) else (0, 3)) := by
 have hj : (to - f).toNat ≤ 2880 := by omega
 have := loop_gen (l := t.Articles) (fun (a : Int) i => (a, i)) (B := fun recl12 (v : Int × Int) => g_quote_quoted_sum_l12 n (⟨t, c, f, to⟩ : GQuoteQuoted) recl12 v.1 v.2) (F := fun a r => if a + tiS c (to - f).toNat f r ≤ 1000000000 then (a + tiS c (to - f).toNat f r, 0) else (0, 3)) (fun i a => 0 ≤ a ∧ a ≤ 2000000000 + 1000000000 * i) (by omega) ?_ ?_ (n := n) 0 x (by omega) (by omega) (by omega)
 ·exact this
 ·intro rec a ha
  have h : ltI ((t.Articles.length : Nat) : Int) (lenI (List.map GArticle.cs t.Articles)) = false := by simp [ltI, lenI]
  show g_quote_quoted_sum_l12 n (⟨t, c, f, to⟩ : GQuoteQuoted) rec a ((t.Articles.length : Nat) : Int) = _
  unfold g_quote_quoted_sum_l12 g_quote_quoted_sum_j11
  rw [h, cond_false, show tiS c (to - f).toNat f [] = 0 from rfl, Int.add_zero]
  by_cases hs : a ≤ 1000000000
  ·rw [if_pos hs, show ltI 1000000000 a = false from decide_eq_false (by omega), cond_false]
  ·rw [if_neg hs, show ltI 1000000000 a = true from decide_eq_true (by omega), cond_true]
 ·intro rec a i x r ha hdr hx hi hw hr
  have h3 : ltI (i : Int) (lenI (List.map GArticle.cs t.Articles)) = true := by
   simp only [ltI, lenI, List.length_map]
   rw [decide_eq_true (by omega)]
  have hxa := ht x (List.mem_of_getElem? hx)
  have hA := artB_art hxa
  have htr := tiS_range c (to - f).toNat f hj r (fun y hy => ht y (by
   have : y ∈ t.Articles.drop i := by rw [hdr]; exact List.mem_cons_of_mem _ hy
   exact List.mem_of_mem_drop this))
  show g_quote_quoted_sum_l12 n (⟨t, c, f, to⟩ : GQuoteQuoted) rec a (i : Int) = _
  unfold g_quote_quoted_sum_l12
  rw [h3, cond_true, getI_nat, hx, Option.bind_some, hw, eqI_d, eqI_d]
  rw [show tiS c (to - f).toNat f (x :: r) = (if x.Kind = 3 ∨ x.Kind = 4 then tiA c (to - f).toNat f x else 0) + tiS c (to - f).toNat f r from rfl]
  by_cases k : x.Kind = 3 ∨ x.Kind = 4
  rotate_left
  ·have e : (bif !decide (x.Kind = 3) then some (!decide (x.Kind = 4)) else some false) = some true := by
    rw [decide_eq_false (fun h => k (Or.inl h)), decide_eq_false (fun h => k (Or.inr h))]; rfl
   rw [e, Option.bind_some, cond_true, if_neg k, Int.zero_add, hr a (by omega)]
  ·have e : (bif !decide (x.Kind = 3) then some (!decide (x.Kind = 4)) else some false) = some false := by
    rcases k with k | k
    ·rw [decide_eq_true k]; rfl
    ·rw [decide_eq_true k, decide_eq_false (show ¬ x.Kind = 3 by omega)]; rfl
   have hU := hA.unit k
   have hcn := cN_range c x (to - f).toNat f
   have hq : 0 ≤ maxI 0 (cN c x (to - f).toNat f - x.Free) ∧ maxI 0 (cN c x (to - f).toNat f - x.Free) ≤ 2880 := by unfold maxI; split <;> omega
   have hti := tiA_range c (to - f).toNat f x hxa k hj
   rw [e, Option.bind_some, cond_false, if_pos k, q_count n t c f to hn h1 h2 hc hf hto hd x hxa, Option.bind_some, b_started, wi_id (x := cN c x (to - f).toNat f - x.Free) (by omega) (by omega),
    q_started n x.Price _ x.Unit hA.price hq ⟨hU.1, hU.2.1⟩, Option.bind_some]
   rw [show cstM x.Price (maxI 0 (cN c x (to - f).toNat f - x.Free)) x.Unit = tiA c (to - f).toNat f x from rfl]
   generalize tiA c (to - f).toNat f x = A at hti
   by_cases hA1 : A ≤ 1000000000
   ·rw [if_pos hA1]
    simp only [eqI_d, decide_true, Bool.not_true, cond_false]
    rw [wi_id (x := a + A) (by omega) (by omega), hr (a + A) (by omega), Int.add_assoc]
   ·rw [if_neg hA1, if_neg (by omega)]
    rfl
theorem q_sum (n : Nat) (t : GTariff) (c : GCalendar) (f to : Int) (hn : 10000 ≤ n) (h1 : c.Changes.length ≤ 900) (h2 : c.Holidays.length ≤ 900) (hc : calB c = true) (ht : ∀ a ∈ t.Articles, artB a = true) (hl : t.Articles.length ≤ 12) (hf : 0 ≤ f) (hto : to ≤ 52560000) (hd : to - f ≤ 2880) (e : Int) (he : 0 ≤ e ∧ e ≤ 480000) : g_quote_quoted_sum n (⟨t, c, f, to⟩ : GQuoteQuoted) e = some (if sumQ c t.Articles (to - f).toNat f e ≤ 1000000000 then (sumQ c t.Articles (to - f).toNat f e, 0) else (0, 3)) := by
 unfold g_quote_quoted_sum sumQ
 rw [q_energy n t c f to hn h1 h2 hc ht hl hf hto hd e he, Option.bind_some]
 have hg := grQ_range c t.Articles 1 (to - f).toNat f ht hl
 have hti := tiS_range c (to - f).toNat f (by omega) t.Articles ht
 have hE : 0 ≤ eneQ c t.Articles (to - f).toNat f e := by
  unfold eneQ
  split
  ·omega
  ·have := timE_range (grQ_range c t.Articles 2 (to - f).toNat f ht hl) he
   have := enC_range c (to - f).toNat f t.Articles
   omega
 generalize eneQ c t.Articles (to - f).toNat f e = E at hE
 by_cases hE1 : E ≤ 1000000000
 ·rw [if_pos hE1]
  simp only [eqI_d, decide_true, Bool.not_true, cond_false]
  refine (congrArg (fun o => Option.bind o _) (q_gr1 n t c f to hn h1 h2 hc ht hl hf hto hd)).trans ?_
  rw [Option.bind_some, wi_id (x := E + grQ c t.Articles 1 (to - f).toNat f) (by omega) (by omega)]
  exact q_tis n t c f to hn h1 h2 hc ht hl hf hto hd _ (by omega)
 ·rw [if_neg hE1, if_neg (by omega)]
  rfl
def quoV (t : GTariff) (c : GCalendar) (f to e : Int) : Int × Int :=
 if (tariffB t && calB c && limB f to e) = true then
  (if sumQ c t.Articles (to - f).toNat f e ≤ 1000000000 then
   (if capF (sumQ c t.Articles (to - f).toNat f e) t.Articles + taxF (capF (sumQ c t.Articles (to - f).toNat f e) t.Articles) (rateF 0 t.Articles) ≤ 1000000000 then (capF (sumQ c t.Articles (to - f).toNat f e) t.Articles + taxF (capF (sumQ c t.Articles (to - f).toNat f e) t.Articles) (rateF 0 t.Articles), 0) else (0, 3))
  else (0, 3)) else (0, 1)
theorem sumQ_nonneg (c : GCalendar) (l : List GArticle) (j : Nat) (m e : Int) (h : ∀ a ∈ l, artB a = true) (hl : l.length ≤ 12) (hj : j ≤ 2880) (he : 0 ≤ e ∧ e ≤ 480000) : 0 ≤ sumQ c l j m e := by
 have h1 := grQ_range c l 1 j m h hl
 have h2 := tiS_range c j m hj l h
 have h3 : 0 ≤ eneQ c l j m e := by
  unfold eneQ
  split
  ·omega
  ·have := timE_range (grQ_range c l 2 j m h hl) he
   have := enC_range c j m l
   omega
 unfold sumQ
 omega
theorem capF_range : ∀ (l : List GArticle) (z : Int), (∀ a ∈ l, 0 ≤ a.Price) → 0 ≤ z → 0 ≤ capF z l ∧ capF z l ≤ z
 | [], z, _, h => ⟨h, Int.le_refl _⟩
 | a :: r, z, hp, h => by
  have ha := hp a List.mem_cons_self
  rw [show capF z (a :: r) = capF (if a.Kind = 5 then minI z a.Price else z) r from rfl]
  have hz : 0 ≤ (if a.Kind = 5 then minI z a.Price else z) ∧ (if a.Kind = 5 then minI z a.Price else z) ≤ z := by
   split
   ·unfold minI; split <;> omega
   ·omega
  have := capF_range r _ (fun x hx => hp x (List.mem_cons_of_mem _ hx)) hz.1
  omega
theorem rateQ {l : List GArticle} (h : ∀ a ∈ l, artB a = true) : 0 ≤ rateF 0 l ∧ rateF 0 l ≤ 10000 := rateF_range l 0 (fun a ha => ⟨(artB_art (h a ha)).price.1, (artB_art (h a ha)).rate⟩) (by omega)
theorem q_caps (n : Nat) (t : GTariff) (z : Int) (hn : 1000 ≤ n) (hl : t.Articles.length ≤ 900) : loopN (fun recl9 (v : Int × Int × Int) => g_quote_Quote_l9 t recl9 v.1 v.2.1 v.2.2) n (z, 0, 0) = some (capF z t.Articles, rateF 0 t.Articles) := by
 have := loop_gen (l := t.Articles) (fun (a : Int × Int) i => (a.1, a.2, i)) (B := fun recl9 (v : Int × Int × Int) => g_quote_Quote_l9 t recl9 v.1 v.2.1 v.2.2) (F := fun a r => (capF a.1 r, rateF a.2 r)) (fun _ _ => True) (by omega) ?_ ?_ (n := n) 0 (z, 0) trivial (by omega) (by omega)
 ·exact this
 ·intro rec a _
  have h : ltI ((t.Articles.length : Nat) : Int) (lenI (List.map GArticle.cs t.Articles)) = false := by simp [ltI, lenI]
  show g_quote_Quote_l9 t rec a.1 a.2 ((t.Articles.length : Nat) : Int) = _
  unfold g_quote_Quote_l9
  rw [h]; rfl
 ·intro rec a i x r _ hd hx hi hw hr
  have h3 : ltI (i : Int) (lenI (List.map GArticle.cs t.Articles)) = true := by
   simp only [ltI, lenI, List.length_map]
   rw [decide_eq_true (by omega)]
  have hr' := fun (u v : Int) => hr (u, v) trivial
  simp only at hr'
  show g_quote_Quote_l9 t rec a.1 a.2 (i : Int) = some (capF a.1 (x :: r), rateF a.2 (x :: r))
  unfold g_quote_Quote_l9
  rw [h3, cond_true, getI_nat, hx, Option.bind_some, hw, eqI_d, eqI_d, hr', hr', hr']
  rw [show capF a.1 (x :: r) = capF (if x.Kind = 5 then minI a.1 x.Price else a.1) r from rfl, show rateF a.2 (x :: r) = rateF (if x.Kind = 6 then x.Price else a.2) r from rfl]
  by_cases k5 : x.Kind = 5
  ·rw [decide_eq_true k5, cond_true, if_pos k5, if_neg (by omega)]
  ·rw [decide_eq_false k5, cond_false, if_neg k5]
   by_cases k6 : x.Kind = 6
   ·rw [decide_eq_true k6, cond_true, if_pos k6]
   ·rw [decide_eq_false k6, cond_false, if_neg k6]
theorem tariffB_spec {t : GTariff} (h : tariffB t = true) : (∀ a ∈ t.Articles, artB a = true) ∧ t.Articles.length ≤ 12 := by
 simp only [tariffB, Bool.and_eq_true, decide_eq_true_eq] at h
 exact ⟨tarB_all h.2, h.1.2⟩
theorem q_quote (n : Nat) (t : GTariff) (c : GCalendar) (f to e : Int) (hn : 10000 ≤ n) (h1 : c.Changes.length ≤ 900) (h2 : c.Holidays.length ≤ 900) (hb : i64b to) : g_quote_Quote n t c f to e = some (quoV t c f to e) := by
 unfold g_quote_Quote quoV
 rw [b_tariff n t (by omega), b_cal n c (by omega) h1 h2, q_limits n f to e hb]
 simp only [Option.bind_some, cond_some]
 cases ht : tariffB t
 ·rfl
 cases hc : calB c
 ·rfl
 cases hv : limB f to e
 ·rfl
 have hL := limB_spec hv
 obtain ⟨hall, hlen⟩ := tariffB_spec ht
 simp only [Bool.not_true, cond_false, Bool.and_self, if_true]
 rw [q_sum n t c f to hn h1 h2 hc hall hlen hL.1 (by omega) (by omega) e (by omega), Option.bind_some]
 have hs := sumQ_nonneg c t.Articles (to - f).toNat f e hall hlen (by omega) (by omega)
 generalize sumQ c t.Articles (to - f).toNat f e = Z at hs
 by_cases hz : Z ≤ 1000000000
 ·rw [if_pos hz, if_pos hz]
  simp only [eqI_d, decide_true, Bool.not_true, cond_false]
  refine (congrArg (fun o => Option.bind o _) (q_caps n t Z (by omega) (by omega))).trans ?_
  have hcap := capF_range t.Articles Z (fun a ha => (artB_art (hall a ha)).price.1) hs
  have hrt := rateQ hall
  rw [Option.bind_some]
  generalize capF Z t.Articles = N at hcap
  generalize rateF 0 t.Articles = R at hrt
  obtain ⟨g1, g2, g3⟩ := r_tax n N R (by omega) hrt
  simp only
  rw [b_tax, g1, Option.bind_some, wi_id (x := N + taxF N R) (by omega) (by omega)]
  simp only [decide_true, Bool.not_true, cond_false]
  by_cases hs2 : N + taxF N R ≤ 1000000000
  ·rw [if_pos hs2, show ltI 1000000000 (N + taxF N R) = false from decide_eq_false (by omega), cond_false]
  ·rw [if_neg hs2, show ltI 1000000000 (N + taxF N R) = true from decide_eq_true (by omega), cond_true]
 ·rw [if_neg hz, if_neg hz]
  rfl
end Go.Proofs
namespace Go.Proofs
open Go Go.Abs
set_option maxRecDepth 100000
set_option linter.unusedVariables false
theorem wi_range (x : Int) : i64b (wi x) := by
 unfold i64b
 simp [wi, IntKind.wrap, IntKind.signed, IntKind.bits]
 omega
theorem head35_big : g_law35_head 36893488147419103232 = some true := by kernel_rfl
theorem few35 (n : Nat) (t : GTariff) (k : GCalendar) (s : GSession) : ∃ b, g_ref35_Few n t k s = some b ∧ (b = true → t.Articles.length ≤ 20 ∧ s.Slices.length ≤ 60 ∧ k.Changes.length ≤ 30 ∧ k.Holidays.length ≤ 60 ∧ t.Name.length ≤ 40) := by
 unfold g_ref35_Few g_ref32_Few g_ref26_Few
 simp only [cond_some, Option.bind_some, lenI, List.length_map, leI]
 refine ⟨_, rfl, fun h => ?_⟩
 simp [Bool.cond_eq_ite] at h
 omega
theorem usable35 (n : Nat) (t : GTariff) (c : GCalendar) (f to e : Int) (hn : 10000 ≤ n) (hb : i64b to) : ∃ b, g_law35_usable n t c f to e = some b ∧ (b = true → tariffB t = true ∧ calB c = true ∧ limB f to e = true ∧ c.Changes.length ≤ 30 ∧ c.Holidays.length ≤ 60) := by
 unfold g_law35_usable
 obtain ⟨b, f1, f2⟩ := few35 n t c ⟨0, 0, 0, []⟩
 rw [f1, Option.bind_some]
 cases b
 ·exact ⟨false, rfl, fun h => by cases h⟩
 have f3 := f2 rfl
 rw [cond_true, r_tariff n t (by omega) (by omega), Option.bind_some]
 cases ht : tariffB t
 ·exact ⟨false, rfl, fun h => by cases h⟩
 rw [cond_true, r_cal n c (by omega) (by omega) (by omega), Option.bind_some]
 cases hc : calB c
 ·exact ⟨false, rfl, fun h => by cases h⟩
 rw [cond_true, r_limits n f to e hb, Option.bind_some]
 exact ⟨_, rfl, fun h => ⟨rfl, rfl, h, by omega, by omega⟩⟩
theorem taxE {N R : Int} (hN : 0 ≤ N ∧ N ≤ 1000000000) (hR : 0 ≤ R ∧ R ≤ 10000) : taxF N R = (2 * (N * R) + 10000) / 20000 ∧ 0 ≤ N * R := by
 have hb := mul_bound hN hR
 unfold taxF
 rw [wi_id (x := 2 * N) (by omega) (by omega), show 2 * N * R = 2 * (N * R) from Int.mul_assoc .., wi_id (x := 2 * (N * R)) (by omega) (by omega), wi_id (x := 2 * (N * R) + 10000) (by omega) (by omega), Int.tdiv_eq_ediv_of_nonneg (by omega), wi_id (by omega) (by omega)]
 exact ⟨rfl, hb.1⟩
theorem quo_val {t : GTariff} {c : GCalendar} {f to e : Int} (h1 : tariffB t = true) (h2 : calB c = true) (h3 : limB f to e = true) (h4 : sumQ c t.Articles (to - f).toNat f e ≤ 1000000000)
  (h5 : capF (sumQ c t.Articles (to - f).toNat f e) t.Articles + taxF (capF (sumQ c t.Articles (to - f).toNat f e) t.Articles) (rateF 0 t.Articles) ≤ 1000000000) :
  quoV t c f to e = (capF (sumQ c t.Articles (to - f).toNat f e) t.Articles + taxF (capF (sumQ c t.Articles (to - f).toNat f e) t.Articles) (rateF 0 t.Articles), 0) := by
 unfold quoV
 rw [h1, h2, h3, if_pos h4, if_pos h5]; rfl
end Go.Proofs
namespace Go.Proofs
open Go Go.Abs
set_option maxRecDepth 100000
set_option linter.unusedVariables false
theorem sumA_mem (c : GCalendar) (s : GSession) : ∀ (l : List GArticle), (∀ a ∈ l, 0 ≤ cosF c s a) → 0 ≤ sumA c s l ∧ ∀ a ∈ l, isLn a = true → cosF c s a ≤ sumA c s l
 | [], _ => ⟨Int.le_refl _, fun a ha => by cases ha⟩
 | x :: r, h => by
  obtain ⟨h1, h2⟩ := sumA_mem c s r (fun y hy => h y (List.mem_cons_of_mem _ hy))
  have hx := h x List.mem_cons_self
  rw [show sumA c s (x :: r) = (if isLn x then cosF c s x else 0) + sumA c s r from rfl]
  refine ⟨by split <;> omega, fun a ha hl => ?_⟩
  rcases List.mem_cons.1 ha with rfl | ha
  ·rw [hl, if_pos rfl]; omega
  ·have := h2 a ha hl
   split <;> omega
theorem bill_val (t : GTariff) (c : GCalendar) (s : GSession) (ht : tariffB t = true) (hc : calB c = true) (hv : valB s = true) (hcc : c.Changes.length ≤ 900) (hch : c.Holidays.length ≤ 900) (hsum : sumA c s t.Articles ≤ 1000000000)
  (htot : capF (sumA c s t.Articles) t.Articles + taxF (capF (sumA c s t.Articles) t.Articles) (rateF 0 t.Articles) ≤ 1000000000) :
  (bilV t c s).2 = 0 ∧ (bilV t c s).1.Total = capF (sumA c s t.Articles) t.Articles + taxF (capF (sumA c s t.Articles) t.Articles) (rateF 0 t.Articles) := by
 obtain ⟨hall, hlen⟩ := tariffB_spec ht
 have hp : ∀ a ∈ t.Articles, 0 ≤ cosF c s a := fun a ha => (r_line 10000 c a s (Nat.le_refl _) hcc hch hc (hall a ha) hv).2
 obtain ⟨m1, m2⟩ := sumA_mem c s t.Articles hp
 have hok : okA c s t.Articles = true := by
  unfold okA
  rw [List.all_eq_true]
  intro a ha
  cases hl : isLn a with
  | false => rfl
  | true =>
   have := m2 a ha hl
   rw [decide_eq_true (show cosF c s a ≤ 1000000000 by omega)]; rfl
 obtain ⟨g1, g2, g3⟩ := sumF_A c s t.Articles 0 0 hok hp (Int.le_refl _) (by omega)
 rw [Int.zero_add] at g1
 have hrt := rateQ hall
 have k1 := capF_range t.Articles _ (fun a ha => (artB_art (hall a ha)).price.1) m1
 have ht2 := (r_tax 0 (capF (sumA c s t.Articles) t.Articles) (rateF 0 t.Articles) (by omega) hrt).2
 have hnet : netF t 0 (linF c s 0 t.Articles) = capF (sumA c s t.Articles) t.Articles := by unfold netF; rw [g1]
 have hbil : bilF t (rateF 0 t.Articles) 0 (linF c s 0 t.Articles) = ⟨linF c s 0 t.Articles, capF (sumA c s t.Articles) t.Articles, taxF (capF (sumA c s t.Articles) t.Articles) (rateF 0 t.Articles), capF (sumA c s t.Articles) t.Articles + taxF (capF (sumA c s t.Articles) t.Articles) (rateF 0 t.Articles)⟩ := by
  unfold bilF
  rw [hnet, wi_id (by omega) (by omega)]
 have hB : bilB (bilF t (rateF 0 t.Articles) 0 (linF c s 0 t.Articles)) = true := by
  rw [hbil]
  simp only [bilB, Bool.and_eq_true, decide_eq_true_eq]
  omega
 unfold bilV
 rw [ht, hc, hv, linB_okA, hok, hB, hbil]
 exact ⟨rfl, rfl⟩
theorem minute35_plain (a : GArticle) (c : GCalendar) (f x : Int) (hf : i64b f) (hx : u16b x) : g_law35_QuoteMinute 36893488147419103232 a c f x = some true := by
 unfold g_law35_QuoteMinute
 generalize hn : (36893488147419103232 : Nat) = n
 have hh : g_law35_head n = some true := by rw [← hn]; exact head35_big
 unfold u16b at hx
 rw [hh, Option.bind_some, wi_id (x := x) (by omega) (by omega), Int.tmod_eq_emod_of_nonneg (by omega)]
 have hE : 0 ≤ x % 10001 ∧ x % 10001 ≤ 10000 := by omega
 generalize x % 10001 = E at hE
 generalize ha' : (⟨2, a.Days, a.From, a.To, a.Price, 0, 0⟩ : GArticle) = a'
 have hk2 : a'.Kind = 2 := by rw [← ha']
 obtain ⟨b, f1, f2⟩ := usable35 n ⟨[116], [a']⟩ c f (wi (f + 1)) E (by omega) (wi_range _)
 rw [f1, Option.bind_some]
 cases b
 ·rfl
 obtain ⟨ht, hc, hL, hc1, hc2⟩ := f2 rfl
 have Lm := limB_spec hL
 unfold i64b at hf
 have e1 : wi (f + 1) = f + 1 := by
  by_cases h : f + 1 ≤ 9223372036854775807
  ·exact wi_id (by omega) h
  ·obtain rfl : f = 9223372036854775807 := by omega
   have : wi (9223372036854775807 + 1) = -9223372036854775808 := by decide
   rw [this] at Lm
   omega
 rw [e1] at hL Lm ⊢
 obtain ⟨hall, hlen⟩ := tariffB_spec ht
 simp only at hall hlen
 have haa := hall a' (by simp)
 have hA := artB_art haa
 have hp := hA.price
 have hv : valB ⟨f, f + 1, f + 1, [⟨f, E⟩]⟩ = true := by
  simp only [valB, Bool.and_eq_true, decide_eq_true_eq, slB]
  exact ⟨⟨by omega, by omega, by omega, by omega, by omega, by omega, by simp⟩, ⟨by omega, by omega, by omega, by omega, by omega⟩, trivial⟩
 rw [Bool.not_true, cond_false, q_quote n _ c f (f + 1) E (by omega) (by omega) (by omega) (by unfold i64b; omega), Option.bind_some, b_billV n _ c _ (by omega) (by omega) (by omega) (by simp) (by unfold i64b; simp only; omega), Option.bind_some, cond_true]
 have hj : (f + 1 - f).toNat = 1 := by omega
 have hprS : ∀ m, prS c 2 m [a'] = if appB c a' m = true then a'.Price else 0 := by
  intro m
  show (if a'.Kind = 2 ∧ appB c a' m = true then a'.Price else 0) + 0 = _
  by_cases h : appB c a' m = true
  ·rw [if_pos ⟨hk2, h⟩, if_pos h]; omega
  ·rw [if_neg (fun q => h q.2), if_neg h]; omega
 have hpr1 : ∀ m, prS c 1 m [a'] = 0 := by
  intro m
  show (if a'.Kind = 1 ∧ appB c a' m = true then a'.Price else 0) + 0 = _
  rw [if_neg (fun q => by have := q.1; omega)]
  rfl
 have hG1 : grQ c [a'] 1 1 f = 0 := by
  unfold grQ
  rw [show gmx (fun m => prS c 1 m [a']) 1 f = maxI (prS c 1 f [a']) 0 from rfl, hpr1]
  rfl
 have hG2 : grQ c [a'] 2 1 f = if appB c a' f = true then a'.Price else 0 := by
  unfold grQ
  rw [show gmx (fun m => prS c 2 m [a']) 1 f = maxI (prS c 2 f [a']) 0 from rfl, hprS]
  unfold maxI
  rw [if_neg (by split <;> omega)]
 have hti : tiS c 1 f [a'] = 0 := by
  show (if a'.Kind = 3 ∨ a'.Kind = 4 then tiA c 1 f a' else 0) + 0 = 0
  rw [if_neg (by omega)]
  rfl
 have hen : enC c 1 f [a'] = if appB c a' f = true then 1 else 0 := by
  show (if a'.Kind = 2 ∧ 0 < ((if appB c a' f then 1 else 0) + (0 : Int)) then 1 else 0) + 0 = _
  by_cases h : appB c a' f = true
  ·rw [if_pos h, if_pos ⟨hk2, by omega⟩]; rfl
  ·rw [if_neg h, if_neg (fun q => by have := q.2; omega)]; rfl
 have henS : enS c a' [⟨f, E⟩] = if appB c a' f = true then E else 0 := by
  show (if appB c a' f then E else 0) + 0 = _
  split <;> omega
 have hsA : sumA c ⟨f, f + 1, f + 1, [⟨f, E⟩]⟩ [a'] = if appB c a' f = true then timE a'.Price E else 0 := by
  show (if isLn a' then cosF c ⟨f, f + 1, f + 1, [⟨f, E⟩]⟩ a' else 0) + 0 = _
  rw [(isLn_iff a').2 (by omega), if_pos rfl, (cosE c _ a' haa hv hk2).1]
  simp only
  rw [henS]
  by_cases h : appB c a' f = true
  ·rw [if_pos h, if_pos h]; unfold timE; omega
  ·rw [if_neg h, if_neg h, Int.mul_zero]; rfl
 have hsQ : sumQ c [a'] 1 f E = if E = 0 then 0 else (if appB c a' f = true then timE a'.Price E + 1 else 0) := by
  unfold sumQ eneQ
  rw [hG1, hG2, hti, hen]
  by_cases h : E = 0
  ·rw [if_pos h, if_pos h]; rfl
  ·rw [if_neg h, if_neg h]
   by_cases h2 : appB c a' f = true
   ·rw [if_pos h2, if_pos h2, if_pos h2]; omega
   ·rw [if_neg h2, if_neg h2, if_neg h2]
    unfold timE
    rw [Int.zero_mul]
    rfl
 have hT : 0 ≤ timE a'.Price E ∧ timE a'.Price E ≤ 10000001 := by
  have := mul_bound hp hE
  unfold timE
  omega
 have hT0 : E = 0 → timE a'.Price E = 0 := by
  intro h
  rw [h]
  unfold timE
  rw [Int.mul_zero]
  rfl
 have hcap : ∀ z, capF z [a'] = z := by
  intro z
  show (if a'.Kind = 5 then minI z a'.Price else z) = z
  rw [if_neg (by omega)]
 have hrate : rateF 0 [a'] = 0 := by
  show (if a'.Kind = 6 then a'.Price else 0) = 0
  rw [if_neg (by omega)]
 have htax : ∀ z, 0 ≤ z ∧ z ≤ 1000000000 → taxF z 0 = 0 := by
  intro z hz
  rw [(taxE hz (by omega)).1, Int.mul_zero]
  rfl
 have hsQ0 : 0 ≤ sumQ c [a'] 1 f E ∧ sumQ c [a'] 1 f E ≤ 10000002 := by
  rw [hsQ]
  split
  ·omega
  ·split <;> omega
 have hsA0 : 0 ≤ sumA c ⟨f, f + 1, f + 1, [⟨f, E⟩]⟩ [a'] ∧ sumA c ⟨f, f + 1, f + 1, [⟨f, E⟩]⟩ [a'] ≤ 10000002 := by
  rw [hsA]
  split <;> omega
 have hq := quo_val (t := ⟨[116], [a']⟩) (e := E) ht hc hL (by simp only; rw [hj]; omega) (by simp only; rw [hj, hcap, hrate, htax _ (by omega)]; omega)
 simp only at hq
 rw [hj, hcap, hrate, htax _ (by omega), Int.add_zero] at hq
 obtain ⟨q1, q2⟩ := bill_val ⟨[116], [a']⟩ c ⟨f, f + 1, f + 1, [⟨f, E⟩]⟩ ht hc hv (by omega) (by omega) (by simp only; omega) (by simp only; rw [hcap, hrate, htax _ (by omega)]; omega)
 simp only at q2
 rw [hcap, hrate, htax _ (by omega), Int.add_zero] at q2
 rw [hq, q1, q2, hsA, hsQ]
 simp only [eqI_d, decide_true, cond_true]
 have hfin : (if appB c a' f = true then timE a'.Price E else 0) ≤ (if E = 0 then 0 else (if appB c a' f = true then timE a'.Price E + 1 else 0)) ∧ (if E = 0 then 0 else (if appB c a' f = true then timE a'.Price E + 1 else 0)) ≤ (if appB c a' f = true then timE a'.Price E else 0) + 1 ∧ 0 ≤ (if appB c a' f = true then timE a'.Price E else 0) ∧ (if appB c a' f = true then timE a'.Price E else 0) ≤ 10000001 := by
  by_cases h : E = 0
  ·have := hT0 h
   rw [if_pos h]
   split <;> omega
  ·rw [if_neg h]
   split <;> omega
 generalize (if appB c a' f = true then timE a'.Price E else 0) = B at hfin
 generalize (if E = 0 then 0 else (if appB c a' f = true then timE a'.Price E + 1 else 0)) = Q at hfin
 rw [wi_id (x := B + 1) (by omega) (by omega), show leI B Q = true from decide_eq_true hfin.1, show leI Q (B + 1) = true from decide_eq_true hfin.2.1]
 rfl
end Go.Proofs
namespace Go.Proofs.Ytehocmildcedeaa
open Go Go.Abs Go.Proofs
theorem quoteMinute_holds : Rows.QuoteMinuteSaid :=
 quoteMinute_said (fun a c f x _ _ h2 h3 => ⟨_, minute35_plain a c f x h2 h3⟩)
end Go.Proofs.Ytehocmildcedeaa
