/-
  Proved: AuditorExactly. A claim is accepted if and only if its chain is right, its session has in each minute the energy of its readings, and package bill computes its bill. No conditions beyond those of the given statement.
-/
import Derived.Test.YtgehgobiibddaaaGreatExa05
namespace Go.Proofs
open Go Go.Abs
set_option maxRecDepth 100000
set_option linter.unusedVariables false
theorem b_session (n : Nat) (s : GSession) (hn : 1000 ≤ n) (hl : s.Slices.length ≤ 900) (hb : i64b s.To) : g_bill_Valid n s = some (valB s) := by
 unfold i64b at hb
 unfold g_bill_Valid valB
 simp only [ltI, leI, lenI, List.length_map]
 by_cases c1 : s.From < 0
 ·rw [decide_eq_true c1, cond_true, Option.bind_some, cond_true, decide_eq_false (by omega)]; rfl
 rw [decide_eq_false c1, cond_false]
 by_cases c2 : s.To ≤ s.From
 ·rw [decide_eq_true c2, cond_true, Option.bind_some, cond_true, decide_eq_false (by omega)]; rfl
 rw [decide_eq_false c2, cond_false, wi_id (x := s.To - s.From) (by omega) (by omega)]
 by_cases c4 : 2880 < s.To - s.From
 ·rw [decide_eq_true c4, cond_true, Option.bind_some, cond_true, decide_eq_false (by omega)]; rfl
 rw [decide_eq_false c4, cond_false, Option.bind_some]
 by_cases c3 : 52560000 < s.To
 ·rw [decide_eq_true c3, cond_true, decide_eq_false (by omega)]; rfl
 rw [decide_eq_false c3, cond_false]
 by_cases c5 : s.End < s.From
 ·rw [decide_eq_true c5, cond_true, Option.bind_some, cond_true, decide_eq_false (by omega)]; rfl
 rw [decide_eq_false c5, cond_false]
 by_cases c6 : s.To < s.End
 ·rw [decide_eq_true c6, cond_true, Option.bind_some, cond_true, decide_eq_false (by omega)]; rfl
 rw [decide_eq_false c6, cond_false, Option.bind_some]
 by_cases c7 : s.Slices.length ≤ 48
 rotate_left
 ·rw [decide_eq_true (show (48 : Int) < s.Slices.length by omega), cond_true, decide_eq_false (show ¬ (0 ≤ s.From ∧ s.From < s.To ∧ s.To ≤ 52560000 ∧ s.To - s.From ≤ 2880 ∧ s.From ≤ s.End ∧ s.End ≤ s.To ∧ s.Slices.length ≤ 48) by omega)]; rfl
 rw [decide_eq_false (show ¬ (48 : Int) < s.Slices.length by omega), cond_false, decide_eq_true (show 0 ≤ s.From ∧ s.From < s.To ∧ s.To ≤ 52560000 ∧ s.To - s.From ≤ 2880 ∧ s.From ≤ s.End ∧ s.End ≤ s.To ∧ s.Slices.length ≤ 48 by omega), Bool.true_and, wi_id (x := s.From - 1) (by omega) (by omega)]
 have := loop_gen (l := s.Slices) (fun (a : Int) i => (a, i)) (B := fun recl8 (v : Int × Int) => g_bill_Valid_l8 s recl8 v.1 v.2) (F := slB s.From s.End) (fun i a => s.From - 1 ≤ a) (by omega) ?_ ?_ (n := n) 0 (s.From - 1) (Int.le_refl _) (by omega) (by omega)
 ·exact this
 ·intro rec a ha
  simp only [g_bill_Valid_l8, lenI, List.length_map, ltI]
  rw [decide_eq_false (by omega), cond_false]
  rfl
 ·intro rec a i x r ha hd hx hi hw hr
  simp only [g_bill_Valid_l8, lenI, List.length_map, ltI, leI, getI_nat, hx, Option.bind_some, hw]
  rw [decide_eq_true (by omega), cond_true, slB]
  by_cases d1 : x.Minute ≤ a
  ·rw [decide_eq_true d1, cond_true, Option.bind_some, cond_true, decide_eq_false (by omega)]; rfl
  rw [decide_eq_false d1, cond_false]
  by_cases d2 : s.End ≤ x.Minute
  ·rw [decide_eq_true d2, cond_true, Option.bind_some, cond_true, decide_eq_false (by omega)]; rfl
  rw [decide_eq_false d2, cond_false]
  by_cases d3 : x.Energy < 0
  ·rw [decide_eq_true d3, cond_true, Option.bind_some, cond_true, decide_eq_false (by omega)]; rfl
  rw [decide_eq_false d3, cond_false, Option.bind_some]
  by_cases d4 : 10000 < x.Energy
  ·rw [decide_eq_true d4, cond_true, decide_eq_false (by omega)]; rfl
  rw [decide_eq_false d4, cond_false, hr x.Minute (by omega), decide_eq_true (by omega)]; rfl
theorem b_stretch (n : Nat) (c : GCalendar) (a : GArticle) (s : GSession) (f t : Int) (hn : 10000 ≤ n) (h1 : c.Changes.length ≤ 900) (h2 : c.Holidays.length ≤ 900) (hc : calB c = true) (ha : artB a = true) (hk34 : a.Kind = 3 ∨ a.Kind = 4) (hf : 0 ≤ f) (ht : t ≤ 52560000) (hk : t - f ≤ 2880) :
  g_bb_stretch n (⟨a, c, s⟩ : GBB) f t = some (amt (staF c a f t)) := by
 unfold g_bb_stretch
 have key : ∀ (k j : Nat) (z m : Int), (t - m).toNat = k → k < j → 0 ≤ m → k ≤ 2880 → 0 ≤ z ∧ z ≤ 3000 - k →
   loopN (fun recl3 (v : Int × Int) => g_bb_stretch_l3 n (⟨a, c, s⟩ : GBB) t recl3 v.1 v.2) j (m, z) = some (z + cN c a k m) := by
  intro k
  induction k with
  | zero =>
   intro j z m h3 h4 h5 h6 h7
   obtain ⟨j, rfl⟩ : ∃ j', j = j' + 1 := ⟨j - 1, by omega⟩
   unfold loopN
   simp only [g_bb_stretch_l3, ltI]
   rw [decide_eq_false (by omega), cond_false]
   simp [cN]
  | succ k ih =>
   intro j z m h3 h4 h5 h6 h7
   obtain ⟨j, rfl⟩ : ∃ j', j = j' + 1 := ⟨j - 1, by omega⟩
   have i0 := ih j z (m + 1) (by omega) (by omega) (by omega) (by omega) (by omega)
   have i1 := ih j (z + 1) (m + 1) (by omega) (by omega) (by omega) (by omega) (by omega)
   unfold loopN
   generalize loopN (fun recl3 (v : Int × Int) => g_bb_stretch_l3 n (⟨a, c, s⟩ : GBB) t recl3 v.1 v.2) j = L at i0 i1 ⊢
   show g_bb_stretch_l3 n (⟨a, c, s⟩ : GBB) t L m z = _
   unfold g_bb_stretch_l3 g_bb_applies
   simp only [ltI]
   rw [decide_eq_true (by omega), cond_true, b_applies n c a m (by omega) h1 h2 hc ha (by omega), Option.bind_some, Option.bind_some, wi_id (x := m + 1) (by omega) (by omega), wi_id (x := z + 1) (by omega) (by omega)]
   unfold cN
   cases appB c a m
   ·rw [cond_false, Option.bind_some, i0]
    simp
   ·rw [cond_true, Option.bind_some, i1]
    simp
    omega
 have hloop := key (t - f).toNat n 0 f rfl (by omega) hf (by omega) (by omega)
 rw [Int.zero_add] at hloop
 obtain ⟨g1, g2⟩ := r_sta n c a f t hn h1 h2 hc ha hk34 hf ht hk
 rw [r_minutes n c a f t hn h1 h2 hc ha hf ht hk, Option.bind_some] at g1
 simp only
 refine (congrArg (fun o => Option.bind o _) hloop).trans ?_
 rw [Option.bind_some, b_started]
 cases hS : g_ref31_Started n a.Price (maxI 0 (wi (cN c a (t - f).toNat f - a.Free))) a.Unit with
 | none => rw [hS] at g1; cases g1
 | some r =>
  rw [hS, Option.bind_some] at g1
  have hr : r = if staF c a f t ≤ 1000000000 then (staF c a f t, 0) else (0, 3) := Option.some.inj g1
  rw [Option.bind_some, hr]
  rw [b_must n (staF c a f t), Option.bind_some]
  unfold amt
  by_cases h : staF c a f t ≤ 1000000000
  ·rw [if_pos h]; rfl
  ·rw [if_neg h]; rfl
def endE (rate net : Int) (l : List GLine) : Except Int GBill :=
 if net ≤ 1000000000 ∧ wi (net + taxF net rate) ≤ 1000000000 then .ok ⟨l, net, taxF net rate, wi (net + taxF net rate)⟩ else .error 3
theorem b_sum1 (n : Nat) (rate cap : Int) (l : OL GLine) (z : Int) (hr : 0 ≤ rate ∧ rate ≤ 10000) (hz : 0 ≤ z) : g_bill_sum_j1 n rate cap l z = some (endE rate (capV cap z) l.toL) := by
 unfold g_bill_sum_j1
 have e : (bif leI 0 cap then some (minI z cap) else some z) = some (capV cap z) := by
  unfold capV leI minI
  by_cases c1 : 0 ≤ cap <;> by_cases c2 : cap < z <;> simp [c1, c2]
 rw [e, Option.bind_some]
 have hnet : 0 ≤ capV cap z := by unfold capV; split <;> omega
 generalize capV cap z = net at hnet
 unfold endE
 rw [b_tax]
 by_cases c : 1000000000 < net
 ·have : g_ref31_Tax n net rate = some (0, 1) := by
   unfold g_ref31_Tax
   rw [r_amount, decide_eq_false (show ¬ (0 ≤ net ∧ net ≤ 1000000000) by omega)]; rfl
  rw [this, if_neg (by omega)]; rfl
 ·obtain ⟨g1, g2, g3⟩ := r_tax n net rate (by omega) hr
  rw [g1, Option.bind_some]
  have hm : g_bill_must n (taxF net rate) 0 = some (.ok (taxF net rate)) := rfl
  simp only [hm, Option.bind_some, exc, ltI]
  by_cases c2 : 1000000000 < wi (net + taxF net rate)
  ·rw [decide_eq_true c2, cond_true, if_neg (by omega)]
  ·rw [decide_eq_false c2, cond_false, if_pos (by omega)]
theorem b_sum (n : Nat) (t : GTariff) (c : GCalendar) (s : GSession) (hn : 10000 ≤ n) (h1 : c.Changes.length ≤ 900) (h2 : c.Holidays.length ≤ 900) (hc : calB c = true) (ht : tariffB t = true) (hv : valB s = true) :
  g_bill_sum n t c s = some (if linB (linF c s 0 t.Articles) then (if bilB (bilF t (rateF 0 t.Articles) 0 (linF c s 0 t.Articles)) then .ok (bilF t (rateF 0 t.Articles) 0 (linF c s 0 t.Articles)) else .error 3) else .error 3) := by
 have ht' := ht
 simp only [tariffB, Bool.and_eq_true, decide_eq_true_eq] at ht'
 have hall := tarB_all ht'.2
 have hArt := fun a h => artB_art (hall a h)
 have hv' := hv
 simp only [valB, Bool.and_eq_true, decide_eq_true_eq] at hv'
 obtain ⟨hrng, hsl⟩ := hv'
 have hm := slB_mem hsl
 unfold g_bill_sum
 have := loop_gen (l := t.Articles) (fun (a : Int × Int × OL GLine × Int) i => (a.1, a.2.1, i, a.2.2.1, a.2.2.2)) (B := fun recl6 (v : Int × Int × Int × (OL GLine) × Int) => g_bill_sum_l6 n t c s recl6 v.1 v.2.1 v.2.2.1 v.2.2.2.1 v.2.2.2.2)
  (F := fun a r => if linB (linF c s (t.Articles.length - r.length) r) then endE (rateF a.1 r) (capV (capR a.2.1 r) (sumF a.2.2.2 (linF c s (t.Articles.length - r.length) r))) (a.2.2.1.toL ++ linF c s (t.Articles.length - r.length) r) else .error 3)
  (fun i a => (0 ≤ a.1 ∧ a.1 ≤ 10000) ∧ a.2.2.1.toL.length ≤ i ∧ 0 ≤ a.2.2.2 ∧ a.2.2.2 ≤ 1000000000 * i) (by omega) ?_ ?_ (n := n) 0 (0, -1, OL.nil, 0) (by simp) (by omega) (by omega)
 ·rw [show ((0 : Nat) : Int) = 0 from rfl] at this
  refine this.trans ?_
  simp only [OL.toL_nil, List.nil_append, List.drop_zero, Nat.sub_self]
  rw [← capF_R _ _ _ (fun a h => (hArt a h).price.1), show ∀ z, capV (-1) z = z from fun z => by unfold capV; rw [if_neg (by omega)]]
  unfold endE bilF bilB netF
  simp only [Bool.and_eq_true, decide_eq_true_eq]
 ·intro rec a ha
  have h : ltI ((t.Articles.length : Nat) : Int) (lenI (List.map GArticle.cs t.Articles)) = false := by simp [ltI, lenI]
  show g_bill_sum_l6 n t c s rec a.1 a.2.1 ((t.Articles.length : Nat) : Int) a.2.2.1 a.2.2.2 = _
  unfold g_bill_sum_l6
  rw [h, cond_false, b_sum1 n _ _ _ _ ha.1 ha.2.2.1]
  simp [linF, linB, rateF, capR, sumF]
 ·intro rec a i x r hi0 hd hx hi hw hr
  have h3 : ltI (i : Int) (lenI (List.map GArticle.cs t.Articles)) = true := by
   simp only [ltI, lenI, List.length_map]
   rw [decide_eq_true (by omega)]
  have hidx := drop_idx hd hi
  have hxa := hall x (List.mem_of_getElem? hx)
  have hA := artB_art hxa
  simp only [List.length_cons, hidx.1]
  simp only [hidx.2] at hr
  obtain ⟨rate, cap, acc, z⟩ := a
  simp only at hi0 ⊢
  show g_bill_sum_l6 n t c s rec rate cap (i : Int) acc z = _
  unfold g_bill_sum_l6
  rw [h3, cond_true, getI_nat, hx, Option.bind_some, hw]
  simp only [eqI_d]
  unfold linF rateF capR
  by_cases k5 : x.Kind = 5
  ·rw [decide_eq_true k5, cond_true, if_pos (Or.inl k5), if_neg (show ¬ x.Kind = 6 by omega), if_pos k5]
   have hcap := fun k => hr (rate, k, acc, z) ⟨hi0.1, by simp only; omega, hi0.2.2.1, by simp only; omega⟩
   simp only at hcap
   simp only [ltI, cond_some, Option.bind_some]
   rw [hcap, hcap]
   by_cases c1 : cap < 0
   ·simp [c1]
   ·by_cases c2 : x.Price < cap <;> simp [c1, c2]
  rw [decide_eq_false k5, cond_false]
  by_cases k6 : x.Kind = 6
  ·have := hr (x.Price, cap, acc, z) ⟨⟨hA.price.1, hA.rate k6⟩, by simp only; omega, by simp only; omega, by simp only; omega⟩
   simp only at this
   rw [decide_eq_true k6, cond_true, if_pos (Or.inr k6), if_pos k6, if_neg k5, this]
  rw [decide_eq_false k6, cond_false, if_neg (show ¬ (x.Kind = 5 ∨ x.Kind = 6) by omega), if_neg k6, if_neg k5]
  have g2 := (r_line n c x s hn h1 h2 hc hxa hv).2
  have hj : ∀ y, 0 ≤ y → y ≤ 1000000000 → g_bill_sum_j10 rate cap (i : Int) acc z rec y = some (if linB (linF c s (i + 1) r) then endE (rateF rate r) (capV (capR cap r) (sumF (z + y) (linF c s (i + 1) r))) (acc.toL ++ ⟨(i : Int), y⟩ :: linF c s (i + 1) r) else .error 3) := by
   intro y hy0 hy
   unfold g_bill_sum_j10
   have hroom : roomB (List.length (acc.toL ++ [(⟨(i : Int), y⟩ : GLine)])) 16 = true := by
    simp only [roomB, List.length_append, List.length_cons, List.length_nil]
    rw [decide_eq_true]
    omega
   have := hr (rate, cap, OL.own (acc.toL ++ [(⟨(i : Int), y⟩ : GLine)]), z + y) ⟨hi0.1, by simp only [OL.toL_own, List.length_append, List.length_cons, List.length_nil]; omega, by simp only; omega, by simp only; omega⟩
   simp only at this
   rw [hroom, cond_true, wi_id (x := z + y) (by omega) (by omega), hw, this]
   simp only [OL.toL_own, List.append_assoc, List.singleton_append]
  have hgoal : ∀ (y : Int), cosF c s x = y → 0 ≤ y → ∀ (p : Option (Except Int GBill)), p = (exc (fun y => g_bill_sum_j10 rate cap (i : Int) acc z rec y) (fun e => some (.error e)) (amt y)) →
    p = some (if linB (⟨(i : Int), cosF c s x⟩ :: linF c s (i + 1) r) then endE (rateF rate r) (capV (capR cap r) (sumF z (⟨(i : Int), cosF c s x⟩ :: linF c s (i + 1) r))) (acc.toL ++ ⟨(i : Int), cosF c s x⟩ :: linF c s (i + 1) r) else .error 3) := by
   rintro y rfl hy0 p rfl
   rw [linB_cons]
   unfold amt
   by_cases hb : cosF c s x ≤ 1000000000
   ·rw [if_pos hb, decide_eq_true hb]
    simp only [exc, Bool.true_and]
    rw [hj _ hy0 hb, show ∀ l, sumF z (⟨(i : Int), cosF c s x⟩ :: l) = sumF (wi (z + cosF c s x)) l from fun _ => rfl, wi_id (x := z + cosF c s x) (by omega) (by omega)]
   ·rw [if_neg hb, decide_eq_false hb]
    rfl
  have hcos : cosF c s x = if x.Kind = 1 then (if appB c x s.From then x.Price else 0) else if x.Kind = 2 then wi (Int.tdiv (wi (wi (wi (2 * x.Price) * eneF c x 0 s.Slices) + 1000)) 2000) else if x.Kind = 3 then staF c x s.From s.To else if x.Kind = 4 then staF c x s.End s.To else 0 := rfl
  by_cases k1 : x.Kind = 1
  ·rw [decide_eq_true k1, cond_true]
   rw [if_pos k1] at hcos
   unfold g_bb_applies
   have hp := hA.price
   rw [b_applies n c x s.From (by omega) h1 h2 hc hxa (by omega), Option.bind_some, Option.bind_some]
   cases happ : appB c x s.From
   ·rw [happ] at hcos
    refine hgoal 0 hcos (Int.le_refl _) _ ?_
    rfl
   ·rw [happ] at hcos
    refine hgoal x.Price hcos hp.1 _ ?_
    unfold amt
    rw [if_pos (by omega)]; rfl
  rw [decide_eq_false k1, cond_false]
  rw [if_neg k1] at hcos
  by_cases k2 : x.Kind = 2
  ·rw [decide_eq_true k2, cond_true]
   rw [if_pos k2] at hcos
   have hloop : loopN (fun recl13 (v : Int × Int) => g_bill_sum_l13 n c s x recl13 v.1 v.2) n (0, 0) = some (eneF c x 0 s.Slices) := by
    have := loop_acc (l := s.Slices) (B := fun recl13 (v : Int × Int) => g_bill_sum_l13 n c s x recl13 v.1 v.2) (F := eneF c x) (by omega) ?_ ?_ (n := n) 0 0 (by omega) (by omega)
    ·exact this
    ·intro rec z
     have h : ltI ((s.Slices.length : Nat) : Int) (lenI (List.map GSlice.cs s.Slices)) = false := by simp [ltI, lenI]
     show g_bill_sum_l13 n c s x rec z ((s.Slices.length : Nat) : Int) = some z
     unfold g_bill_sum_l13
     rw [h, cond_false]
    ·intro rec z i y q hd hy hi hw hr
     have h3 : ltI (i : Int) (lenI (List.map GSlice.cs s.Slices)) = true := by
      simp only [ltI, lenI, List.length_map]
      rw [decide_eq_true (by omega)]
     have hym := hm y (List.mem_of_getElem? hy)
     show g_bill_sum_l13 n c s x rec z (i : Int) = some (eneF c x z (y :: q))
     unfold g_bill_sum_l13 eneF g_bb_applies
     rw [h3, cond_true, getI_nat, hy, Option.bind_some, b_applies n c x y.Minute (by omega) h1 h2 hc hxa (by omega), Option.bind_some, Option.bind_some, hw, hr, hr]
     cases appB c x y.Minute
     ·rfl
     ·rfl
   have he := eneF_range c x s.Slices 0 (fun y hy => by have := hm y hy; omega) (by omega) (by omega)
   obtain ⟨g3, g4⟩ := r_times n x.Price (eneF c x 0 s.Slices) hA.price (by omega)
   refine hgoal _ hcos g4 _ ?_
   refine (congrArg (fun o => Option.bind o _) hloop).trans ?_
   rw [Option.bind_some, b_times, g3, Option.bind_some]
   refine (congrArg (fun o => Option.bind o _) (b_must n _)).trans ?_
   rw [Option.bind_some]
  rw [decide_eq_false k2, cond_false]
  rw [if_neg k2] at hcos
  by_cases k3 : x.Kind = 3
  ·rw [decide_eq_true k3, cond_true]
   rw [if_pos k3] at hcos
   refine hgoal _ hcos (by rw [← hcos]; exact g2) _ ?_
   rw [b_stretch n c x s s.From s.To hn h1 h2 hc hxa (Or.inl k3) hrng.1 (by omega) (by omega), Option.bind_some]
  rw [decide_eq_false k3, cond_false]
  rw [if_neg k3] at hcos
  by_cases k4 : x.Kind = 4
  ·rw [decide_eq_true k4, cond_true]
   rw [if_pos k4] at hcos
   refine hgoal _ hcos (by rw [← hcos]; exact g2) _ ?_
   rw [b_stretch n c x s s.End s.To hn h1 h2 hc hxa (Or.inr k4) (by omega) (by omega) (by omega), Option.bind_some]
  have := hA.kind
  omega
theorem b_bill (n : Nat) (t : GTariff) (c : GCalendar) (s : GSession) (hn : 10000 ≤ n) (h1 : c.Changes.length ≤ 900) (h2 : c.Holidays.length ≤ 900) (h3 : s.Slices.length ≤ 900) (hb : i64b s.To) :
  g_bill_Bill n t c s = some (if (tariffB t && calB c && valB s) = true then (if linB (linF c s 0 t.Articles) then (if bilB (bilF t (rateF 0 t.Articles) 0 (linF c s 0 t.Articles)) then (bilF t (rateF 0 t.Articles) 0 (linF c s 0 t.Articles), 0) else (zeroBill, 3)) else (zeroBill, 3)) else (zeroBill, 1)) := by
 unfold g_bill_Bill
 rw [b_tariff n t (by omega), b_cal n c (by omega) h1 h2, b_session n s (by omega) h3 hb]
 simp only [Option.bind_some, cond_some]
 cases ht : tariffB t
 ·rfl
 cases hc : calB c
 ·rfl
 cases hv : valB s
 ·rfl
 rw [b_sum n t c s hn h1 h2 hc ht hv]
 simp only [Bool.not_true, cond_false, Option.bind_some, Bool.and_self, if_true]
 cases linB (linF c s 0 t.Articles)
 ·rfl
 ·cases bilB (bilF t (rateF 0 t.Articles) 0 (linF c s 0 t.Articles))
  ·rfl
  ·rfl
end Go.Proofs
namespace Go.Proofs
open Go Go.Abs
set_option maxRecDepth 100000
set_option linter.unusedVariables false
theorem lst_min : ∀ (r : List GReading) (p : GReading), (0 ≤ p.Minute ∧ p.Minute ≤ 52560000) → OrdR p r → 0 ≤ (lst p r).Minute ∧ (lst p r).Minute ≤ 52560000
 | [], _, hp, _ => hp
 | y :: r, _, _, h => lst_min r y h.1 h.2.2.2
theorem lst_regU : ∀ (r : List GReading) (p : GReading), p.Register ≤ 1000000000 → OrdR p r → (lst p r).Register ≤ 1000000000
 | [], _, hp, _ => hp
 | y :: r, _, _, h => lst_regU r y h.2.1.2 h.2.2.2
theorem der_zero (m0 : Int) : ∀ (a : List GReading) (p : GReading), (∀ x ∈ a, x.Minute = m0) → derF m0 p m0 [] a = (m0, [])
 | [], _, _ => rfl
 | y :: r, p, h => by
  have hy := h y List.mem_cons_self
  unfold derF
  have : derS m0 p y m0 [] = (m0, []) := by
   unfold derS
   rw [if_neg (by omega)]
  rw [this]
  exact der_zero m0 r y (fun z hz => h z (List.mem_cons_of_mem _ hz))
theorem minute_ind (x0 : GReading) (rest : List GReading) (ho : OrdR x0 rest) (h0 : 0 ≤ x0.Minute ∧ x0.Minute ≤ 52560000) (hr0 : 0 ≤ x0.Register ∧ x0.Register ≤ 1000000000) (hlen : rest.length ≤ 900)
  (I : Int → List GReading → List GReading → Int → List GSlice → Prop)
  (hI : ∀ a post, rest = a ++ post → (∀ x ∈ a, x.Minute = x0.Minute) → (∀ x ∈ post, x0.Minute < x.Minute) → I x0.Minute a post x0.Minute [])
  (hS : ∀ (m : Int) (a g post : List GReading) (e : Int) (sl : List GSlice), rest = a ++ (g ++ post) → x0.Minute ≤ m → m < (lst x0 rest).Minute → (∀ x ∈ a, x.Minute ≤ m) → (∀ x ∈ g, x.Minute = m + 1) → (∀ x ∈ post, m + 1 < x.Minute) → I m a (g ++ post) e sl → Good x0.Minute m e sl →
   0 ≤ sumE (lst x0 a) g → sumE (lst x0 a) g ≤ 1000000000 * g.length → I (m + 1) (a ++ g) post (if sumE (lst x0 a) g = 0 then e else m + 1) (if sumE (lst x0 a) g = 0 then sl else sl ++ [⟨m, sumE (lst x0 a) g⟩])) :
  I (lst x0 rest).Minute rest [] (derF x0.Minute x0 x0.Minute [] rest).1 (derF x0.Minute x0 x0.Minute [] rest).2 ∧ Good x0.Minute (lst x0 rest).Minute (derF x0.Minute x0 x0.Minute [] rest).1 (derF x0.Minute x0 x0.Minute [] rest).2 := by
 have hto := ord_lst rest x0 ho
 have hT := lst_min rest x0 h0 ho
 have key : ∀ (k : Nat) (m e : Int) (sl : List GSlice) (a post : List GReading), rest = a ++ post → (∀ x ∈ a, x.Minute ≤ m) → (∀ x ∈ post, m < x.Minute) → derF x0.Minute x0 x0.Minute [] a = (e, sl) → Good x0.Minute m e sl → I m a post e sl → x0.Minute ≤ m → m ≤ (lst x0 rest).Minute → ((lst x0 rest).Minute - m).toNat = k →
   I (lst x0 rest).Minute rest [] (derF x0.Minute x0 x0.Minute [] rest).1 (derF x0.Minute x0 x0.Minute [] rest).2 ∧ Good x0.Minute (lst x0 rest).Minute (derF x0.Minute x0 x0.Minute [] rest).1 (derF x0.Minute x0 x0.Minute [] rest).2 := by
  intro k
  induction k with
  | zero =>
   intro m e sl a post hre ha hp hder hg hi hm1 hm2 hk
   have hpost : post = [] := by
    cases post with
    | nil => rfl
    | cons y r =>
     have h1 := hp y List.mem_cons_self
     have h2 := hto y (Or.inr (by rw [hre]; simp))
     omega
   subst hpost
   rw [List.append_nil] at hre
   have hmT : m = (lst x0 rest).Minute := by omega
   rw [← hre] at hder hi
   rw [hder, ← hmT]
   exact ⟨hi, hg⟩
  | succ k ih =>
   intro m e sl a post hre ha hp hder hg hi hm1 hm2 hk
   have hoa := (ord_app a post x0).1 (hre ▸ ho)
   obtain ⟨g, post', hpg, hg1, hg2⟩ := post_split m post (lst x0 a) hoa.2 hp
   subst hpg
   have hog := (ord_app g post' (lst x0 a)).1 hoa.2
   have hrl := lst_regU a x0 hr0.2 hoa.1
   have hrn := lst_reg a x0 hoa.1 hr0.1
   have hlens : a.length + (g.length + post'.length) ≤ 900 := by
    have := hlen
    rw [hre] at this
    simp only [List.length_append] at this
    omega
   have hdg := derG1 x0.Minute m e (by omega) sl (fun q hq => by have := (hg.all q hq).2.1; have := hg.hi; omega) g (lst x0 a) hog.1 hrn hrl hg1 (by omega)
   have hder' : derF x0.Minute x0 x0.Minute [] (a ++ g) = if sumE (lst x0 a) g = 0 then (e, sl) else (m + 1, sl ++ [⟨m, sumE (lst x0 a) g⟩]) := by
    rw [derF_app, hder]
    exact hdg
   have hsum := sumE_range g (lst x0 a) hog.1 hrn
   have hre' : rest = (a ++ g) ++ post' := by rw [hre, List.append_assoc]
   have hag : ∀ x ∈ a ++ g, x.Minute ≤ m + 1 := by
    intro x hx
    rcases List.mem_append.1 hx with hx | hx
    ·have := ha x hx; omega
    ·have := hg1 x hx; omega
   have hI' := hS m a g post' e sl hre hm1 (by omega) ha hg1 hg2 hi hg hsum.1 hsum.2
   have hgall := hg.all
   have hglo := hg.lo
   have hghi := hg.hi
   by_cases hz : sumE (lst x0 a) g = 0
   ·rw [if_pos hz, if_pos hz] at hI'
    exact ih (m + 1) e sl (a ++ g) post' hre' hag hg2 (by rw [hder', if_pos hz]) ⟨hgall, hg.pw, hglo, by omega⟩ hI' (by omega) (by omega) (by omega)
   ·rw [if_neg hz, if_neg hz] at hI'
    refine ih (m + 1) (m + 1) _ (a ++ g) post' hre' hag hg2 (by rw [hder', if_neg hz]) ⟨fun x hx => ?_, ?_, by omega, Int.le_refl _⟩ hI' (by omega) (by omega) (by omega)
    ·rcases List.mem_append.1 hx with hx | hx
     ·have := hgall x hx; omega
     ·rw [List.mem_singleton.1 hx]
      simp only
      omega
    ·rw [List.pairwise_append]
     refine ⟨hg.pw, List.pairwise_singleton _ _, fun x hx y hy => ?_⟩
     rw [List.mem_singleton.1 hy]
     have := hgall x hx
     simp only
     omega
 obtain ⟨a, post, hre, ha, hp⟩ : ∃ a post, rest = a ++ post ∧ (∀ x ∈ a, x.Minute = x0.Minute) ∧ ∀ x ∈ post, x0.Minute < x.Minute := by
  obtain ⟨g, q, e, h1, h2⟩ := post_split (x0.Minute - 1) rest x0 ho (fun x hx => by have := ord_min rest x0 ho x hx; omega)
  exact ⟨g, q, e, fun x hx => by have := h1 x hx; omega, fun x hx => by have := h2 x hx; omega⟩
 have hT0 := hto x0 (Or.inl rfl)
 exact key ((lst x0 rest).Minute - x0.Minute).toNat x0.Minute x0.Minute [] a post hre (fun x hx => by have := ha x hx; omega) hp (der_zero x0.Minute a x0 ha) ⟨fun x hx => by simp at hx, by simp, Int.le_refl _, Int.le_refl _⟩ (hI a post hre ha hp) (Int.le_refl _) hT0 rfl
theorem val_ses (seed : Int) (l : List GReading) (hc : chainOk seed l) : sesB (sesF l) = true → valB (sesF l) = true := by
 match l, hc with
 | [], hc => exact absurd hc.1.1 (by simp)
 | x0 :: rest, hc =>
  intro hb
  have h0 := hc.2 0 (by simp) x0 rfl
  have ho : OrdR x0 rest := chain_drop hc rest x0 0 rfl
  have hT := lst_min rest x0 h0.2.2.1 ho
  have hll := hc.1.2
  simp only [List.length_cons] at hll
  have hg := (minute_ind x0 rest ho h0.2.2.1 h0.2.2.2.1 (by omega) (fun _ _ _ _ _ => True) (fun _ _ _ _ _ => trivial) (fun _ _ _ _ _ _ _ _ _ _ _ _ _ _ _ _ => trivial)).2
  have hf : (sesF (x0 :: rest)).From = x0.Minute := rfl
  have ht : (sesF (x0 :: rest)).To = (lst x0 rest).Minute := by
   have : (sesF (x0 :: rest)).To = ((x0 :: rest).getLast (by simp)).Minute := rfl
   rw [this, getLast_lst]
  have he : (sesF (x0 :: rest)).End = (derF x0.Minute x0 x0.Minute [] rest).1 := rfl
  have hs : (sesF (x0 :: rest)).Slices = (derF x0.Minute x0 x0.Minute [] rest).2 := rfl
  unfold sesB at hb
  unfold valB
  rw [hf, ht] at hb ⊢
  rw [he, hs]
  rw [hs] at hb
  simp only [Bool.and_eq_true, decide_eq_true_eq] at hb
  rw [wi_id (x := (lst x0 rest).Minute - x0.Minute) (by omega) (by omega)] at hb
  have k1 := hg.lo
  have k2 := hg.hi
  rw [slB_of _ _ _ _ hg.all (fun x hx => by have := (hg.all x hx).1; omega) hg.pw, hb.2, Bool.and_true, decide_eq_true]
  omega
end Go.Proofs
namespace Go.Proofs
open Go Go.Abs
set_option maxRecDepth 100000
set_option linter.unusedVariables false
def mixC (s x k : Int) : Int := wu ((bXor .u64 s (wu (w8 (shrI .u64 (wu x) k)))) * 1099511628211)
def linkC (s : Int) (r : GReading) : Int := [r.Serial, r.Number, r.Minute, r.Register].foldl (fun s x => [56, 48, 40, 32, 24, 16, 8, 0].foldl (fun s k => mixC s x k) s) s
theorem c_link0 (n : Nat) (s : Int) (r : GReading) : g_chain_Link (n + 100) s r = some (linkC s r) := by kernel_rfl
theorem mixC_B (s x : Int) (k : Nat) (hk : k ≤ 56) : mixC s x (k : Int) = mixB s x (k : Int) := by
 unfold mixC mixB
 have hw := wu_range x
 rw [shrU (wu x) k (by omega)]
 have h0 : 0 ≤ wu x / 2 ^ k := Int.ediv_nonneg hw.1 (by exact_mod_cast Nat.zero_le _)
 have h1 : wu x / 2 ^ k ≤ 18446744073709551615 := by
  have := Int.ediv_le_self (a := wu x) (2 ^ k) hw.1
  omega
 generalize wu x / 2 ^ k = y at h0 h1
 rw [and255 y h0 h1]
 congr 2
 simp only [wu, w8, IntKind.wrap, IntKind.signed, IntKind.bits]
 simp
 congr 1
 omega
theorem mixC_W (x s : Int) : [56, 48, 40, 32, 24, 16, 8, 0].foldl (fun s k => mixC s x k) s = mixW s x := by
 unfold mixW
 simp only [List.foldl_cons, List.foldl_nil]
 have e := fun (s : Int) (k : Nat) hk => mixC_B s x k hk
 have e56 := fun s => e s 56 (by omega)
 have e48 := fun s => e s 48 (by omega)
 have e40 := fun s => e s 40 (by omega)
 have e32 := fun s => e s 32 (by omega)
 have e24 := fun s => e s 24 (by omega)
 have e16 := fun s => e s 16 (by omega)
 have e8 := fun s => e s 8 (by omega)
 have e0 := fun s => e s 0 (by omega)
 simp only [Int.cast_ofNat_Int] at e56 e48 e40 e32 e24 e16 e8 e0
 rw [e56, e48, e40, e32, e24, e16, e8, e0]
theorem linkC_F (s : Int) (r : GReading) : linkC s r = linkF s r := by
 unfold linkC linkF
 rw [show (fun s x => [56, 48, 40, 32, 24, 16, 8, 0].foldl (fun s k => mixC s x k) s) = mixW from by funext s x; exact mixC_W x s]
theorem c_link (n : Nat) (hn : 1000 ≤ n) (s : Int) (r : GReading) : g_chain_Link n s r = some (linkF s r) := by
 obtain ⟨m, rfl⟩ : ∃ m, n = m + 100 := ⟨n - 100, by omega⟩
 rw [c_link0, linkC_F]
theorem c_inside (n : Nat) (x a b : Int) : g_chain_inside n x a b = some (decide (a ≤ x ∧ x ≤ b)) := by
 unfold g_chain_inside leI
 by_cases h : a ≤ x <;> simp [h]
theorem and4 (p q r s : Prop) [Decidable p] [Decidable q] [Decidable r] [Decidable s] : (bif decide p then bif decide q then bif decide r then decide s else false else false else false) = decide (p ∧ q ∧ r ∧ s) := by
 by_cases h1 : p <;> by_cases h2 : q <;> by_cases h3 : r <;> by_cases h4 : s <;> simp [h1, h2, h3, h4]
theorem c_valid (n : Nat) (r : GReading) : g_chain_valid n r = some (decide ((1 ≤ r.Serial ∧ r.Serial ≤ 1000000) ∧ (1 ≤ r.Number ∧ r.Number ≤ 64) ∧ (0 ≤ r.Minute ∧ r.Minute ≤ 52560000) ∧ (0 ≤ r.Register ∧ r.Register ≤ 1000000000))) := by
 unfold g_chain_valid
 simp only [c_inside, Option.bind_some, cond_some]
 exact congrArg some (and4 _ _ _ _)
theorem c_old (n : Nat) (a r : GReading) : ((g_chain_isOld n a r).bind fun r11 => cond r11 (some true) ((g_chain_isLater n a r).bind fun r14 => some r14)) = some (!folB a r) := by
 unfold g_chain_isOld g_chain_isLater folB
 simp only [ltI, eqI_d, cond_some, Option.bind_some]
 by_cases h1 : r.Minute < a.Minute <;> by_cases h2 : r.Serial = a.Serial <;> by_cases h3 : r.Minute = a.Minute <;> by_cases h4 : r.Register < a.Register <;> simp [h1, h2, h3, h4] <;> omega
open Classical in
theorem c_fit (n : Nat) (l : List GReading) (i : Nat) (x : GReading) (hx : l[i]? = some x) (hl : l.length ≤ 80) :
  (((g_chain_valid n x).bind fun r6 => cond (!r6) (some true) (some (!eqI x.Number (wi ((i : Int) + 1))))).bind fun j5 => cond j5 (some false) ((cond (ltI 0 (i : Int)) ((getI l (wi ((i : Int) - 1))).bind fun x10 => (g_chain_isOld n x10 x).bind fun r11 => cond r11 (some true) ((getI l (wi ((i : Int) - 1))).bind fun x13 => (g_chain_isLater n x13 x).bind fun r14 => some r14)) (some false)).bind fun j8 => some (!j8))) = some (decide (fitP l i)) := by
 have hi := (List.getElem?_eq_some_iff.1 hx).1
 have hp : fitP l i ↔ i < 64 ∧ (1 ≤ x.Serial ∧ x.Serial ≤ 1000000) ∧ x.Number = i + 1 ∧ (0 ≤ x.Minute ∧ x.Minute ≤ 52560000) ∧ (0 ≤ x.Register ∧ x.Register ≤ 1000000000) ∧ (i ≠ 0 → ∀ a ∈ l[i - 1]?, folB a x = true) := by
  unfold fitP
  constructor
  ·intro h; exact ⟨h.1, h.2 x hx⟩
  ·intro h; exact ⟨h.1, fun r hr => by rw [hx] at hr; cases hr; exact h.2⟩
 rw [c_valid, Option.bind_some, wi_id (x := (i : Int) + 1) (by omega) (by omega), eqI_d]
 by_cases hv : (1 ≤ x.Serial ∧ x.Serial ≤ 1000000) ∧ (1 ≤ x.Number ∧ x.Number ≤ 64) ∧ (0 ≤ x.Minute ∧ x.Minute ≤ 52560000) ∧ (0 ≤ x.Register ∧ x.Register ≤ 1000000000)
 rotate_left
 ·have hnf : ¬ fitP l i := by
   intro h
   have := hp.1 h
   exact hv ⟨this.2.1, by omega, this.2.2.2.1, this.2.2.2.2.1⟩
  rw [decide_eq_false hv, decide_eq_false hnf]; rfl
 rw [decide_eq_true hv, Bool.not_true, cond_false, Option.bind_some]
 by_cases hnm : x.Number = (i : Int) + 1
 rotate_left
 ·rw [decide_eq_false hnm, decide_eq_false (show ¬ fitP l i from fun h => hnm (hp.1 h).2.2.1)]; rfl
 rw [decide_eq_true hnm, Bool.not_true, cond_false]
 simp only [ltI]
 by_cases h0 : i = 0
 ·rw [decide_eq_false (show ¬ (0 : Int) < i by omega), cond_false, Option.bind_some, decide_eq_true]
  ·rfl
  ·rw [hp]
   exact ⟨by omega, hv.1, hnm, hv.2.2.1, hv.2.2.2, fun h => absurd h0 h⟩
 ·have hw1 : wi ((i : Int) - 1) = ((i - 1 : Nat) : Int) := by rw [wi_id] <;> omega
  obtain ⟨a, ha⟩ : ∃ a, l[i - 1]? = some a := ⟨l[i - 1]'(by omega), by rw [List.getElem?_eq_getElem]⟩
  rw [decide_eq_true (show (0 : Int) < i by omega), cond_true, hw1, getI_nat, ha]
  simp only [Option.bind_some]
  rw [c_old, Option.bind_some, Bool.not_not]
  cases hf : folB a x
  ·rw [decide_eq_false]
   intro h
   have := (hp.1 h).2.2.2.2.2 h0 a ha
   rw [hf] at this; cases this
  ·rw [decide_eq_true]
   rw [hp]
   exact ⟨by omega, hv.1, hnm, hv.2.2.1, hv.2.2.2, fun _ a' ha' => by rw [ha] at ha'; cases ha'; exact hf⟩
theorem fit_use {R : Type} {A : Option Bool} {B : Option Bool} {d : Bool} {X Y : Option R} (h : (A.bind fun j5 => cond j5 (some false) (B.bind fun j8 => some (!j8))) = some d) :
  (A.bind fun j5 => cond j5 X (B.bind fun j8 => cond j8 X Y)) = cond d Y X := by
 cases A with
 | none => cases h
 | some a =>
  cases a
  ·cases B with
   | none => cases h
   | some b =>
    simp only [Option.bind_some, cond_false] at h ⊢
    cases h
    cases b <;> rfl
  ·simp only [Option.bind_some, cond_true] at h ⊢
   cases h
   rfl
open Classical in
theorem c_check (n : Nat) (seed : Int) (l : List GReading) (hn : 1000 ≤ n) (hl : l.length ≤ 80) : Does (g_chain_Check n seed l) (fun r => r = -1 ↔ ∀ j : Nat, j < l.length → j < 64 ∧ chainAt seed l j) := by
 unfold g_chain_Check
 have := does_loop (B := fun recl3 (v : Int × Int) => g_chain_Check_l3 n l recl3 v.1 v.2) (Q := fun v r => r = -1 ↔ ∀ j : Nat, v.1 ≤ (j : Int) → j < l.length → j < 64 ∧ chainAt seed l j)
  (fun v => l.length - v.1.toNat) (fun v => ∃ i : Nat, v.1 = (i : Int) ∧ i ≤ l.length ∧ v.2 = prevLink seed l i) ?_ (n := n) (v := (0, seed)) ⟨0, rfl, by omega, rfl⟩ (by simp only; omega)
 ·refine does_mono this (fun r h => h.trans ⟨fun h j hj => h j (by simp) hj, fun h j _ hj => h j hj⟩)
 ·rintro rec ⟨y, x⟩ ⟨i, rfl, hi, hxp⟩ ih
  simp only at hxp ⊢
  unfold g_chain_Check_l3
  simp only [lenI, List.length_map, ltI]
  by_cases hlt : i < l.length
  rotate_left
  ·rw [decide_eq_false (by omega), cond_false]
   unfold g_chain_Check_j1
   simp only [lenI, List.length_map, ltI]
   rw [decide_eq_false (by omega), cond_false]
   refine does_some ⟨fun _ j h1 h2 => ?_, fun _ => rfl⟩
   omega
  rw [decide_eq_true (by omega), cond_true]
  obtain ⟨r, hr⟩ : ∃ r, l[i]? = some r := ⟨l[i], by rw [List.getElem?_eq_getElem]⟩
  rw [getI_nat, hr, Option.bind_some]
  have hcf := chain_fit seed l i hlt
  have hj1 : g_chain_Check_j1 l (i : Int) = some (i : Int) := by
   unfold g_chain_Check_j1
   simp only [lenI, List.length_map, ltI]
   rw [decide_eq_true (by omega), cond_true]
  have hfit := c_fit n l i r hr hl
  simp only [ltI] at hfit
  rw [fit_use hfit]
  by_cases hf : fitP l i
  rotate_left
  ·rw [decide_eq_false hf, cond_false, hj1]
   refine does_some ⟨fun h => by omega, fun h => absurd (hcf.1 (h i (Int.le_refl _) hlt)).1 hf⟩
  rw [decide_eq_true hf, cond_true, c_link n hn, Option.bind_some, eqI_d]
  by_cases hk : r.Link = linkF x r
  rotate_left
  ·rw [decide_eq_false hk, Bool.not_false, cond_true]
   refine does_some ⟨fun h => by omega, fun h => absurd ((hcf.1 (h i (Int.le_refl _) hlt)).2 r hr) (by rw [← hxp]; exact hk)⟩
  rw [decide_eq_true hk, Bool.not_true, cond_false]
  have hw : wi ((i : Int) + 1) = ((i + 1 : Nat) : Int) := by rw [wi_id] <;> omega
  rw [hw]
  refine does_mono (ih (((i + 1 : Nat) : Int), r.Link) ⟨i + 1, rfl, by omega, ?_⟩ (by simp only [Int.toNat_natCast]; omega)) (fun y h => h.trans ⟨fun h j h1 h2 => ?_, fun h j h1 h2 => h j ?_ h2⟩)
  ·unfold prevLink
   simp [hr]
  ·by_cases hj : j = i
   ·subst hj
    exact hcf.2 ⟨hf, fun r' hr' => by rw [hr] at hr'; cases hr'; rw [← hxp]; exact hk⟩
   ·exact h j (by simp only; omega) h2
  ·simp only at h1; omega
open Classical in
theorem c_ordered (n : Nat) (l : List GReading) (hn : 1000 ≤ n) (hl : l.length ≤ 80) (h : ∀ i, i < l.length → fitP l i) : loopN (fun recl3 l3 => g_chain_Energy_l3 n l recl3 l3) n 0 = some (l.length : Int) := by
 have := loop_list (l := l) (B := fun recl3 l3 => g_chain_Energy_l3 n l recl3 l3) (F := fun _ => (l.length : Int)) (by omega) ?_ ?_ (n := n) 0 (by omega) (by omega)
 ·exact this
 ·intro rec
  unfold g_chain_Energy_l3
  simp only [lenI, List.length_map, ltI]
  rw [decide_eq_false (by omega), cond_false]
 ·intro rec i x r hd hx hi hw hr
  unfold g_chain_Energy_l3
  simp only [lenI, List.length_map, ltI]
  rw [decide_eq_true (by omega), cond_true, getI_nat, hx, Option.bind_some]
  have hfit := c_fit n l i x hx hl
  simp only [ltI] at hfit
  rw [fit_use hfit, decide_eq_true (h i hi), cond_true, hw, hr]
theorem c_energy (l : List GReading) (b : Nat) (hl : l.length ≤ 900) : ∀ (g post : List GReading) (p : GReading) (i j : Nat) (z : Int), l.drop i = p :: (g ++ post) → i + 1 + g.length = b → g.length < j → OrdR p g → 0 ≤ p.Register → p.Register ≤ 1000000000 → 0 ≤ z → z + 1000000000 * g.length ≤ 1000000000000000 →
  loopN (fun recl19 (v : Int × Int) => g_chain_Energy_l19 l (b : Int) recl19 v.1 v.2) j (((i + 1 : Nat) : Int), z) = some (z + sumE p g, 0)
 | [], post, p, i, j, z, hd, hb, hj, ho, hp, hp2, hz, hz2 => by
  obtain ⟨j, rfl⟩ : ∃ j', j = j' + 1 := ⟨j - 1, by omega⟩
  unfold loopN
  show g_chain_Energy_l19 l (b : Int) _ ((i + 1 : Nat) : Int) z = _
  unfold g_chain_Energy_l19 sumE
  rw [show ltI ((i + 1 : Nat) : Int) (b : Int) = false from by simp only [List.length_nil] at hb; simp only [ltI]; rw [decide_eq_false (by omega)], cond_false, Int.add_zero]
 | x :: r, post, p, i, j, z, hd, hb, hj, ho, hp, hp2, hz, hz2 => by
  obtain ⟨j, rfl⟩ : ∃ j', j = j' + 1 := ⟨j - 1, by omega⟩
  simp only [List.length_cons] at hb hj hz2
  have hlen : i + 1 < l.length := by
   have := congrArg List.length hd
   simp only [List.length_drop, List.length_cons, List.cons_append] at this
   omega
  have e0 : l[i]? = some p := by
   have := congrArg List.head? hd
   rw [List.head?_drop] at this
   exact this
  have hd1 : l.drop (i + 1) = x :: (r ++ post) := by
   rw [← List.tail_drop, hd]; rfl
  have e1 : l[i + 1]? = some x := by
   have := congrArg List.head? hd1
   rw [List.head?_drop] at this
   exact this
  have hdr := dE_range ho.2.2.1 hp ho.2.1.2
  have i0 := c_energy l b hl r post x (i + 1) j (z + dE p x) hd1 (by omega) (by omega) ho.2.2.2 ho.2.1.1 ho.2.1.2 (by omega) (by omega)
  unfold loopN
  generalize loopN (fun recl19 (v : Int × Int) => g_chain_Energy_l19 l (b : Int) recl19 v.1 v.2) j = L at i0 ⊢
  show g_chain_Energy_l19 l (b : Int) L ((i + 1 : Nat) : Int) z = some (z + (dE p x + sumE x r), 0)
  have hw1 : wi (((i + 1 : Nat) : Int) - 1) = (i : Int) := by rw [wi_id] <;> omega
  have hw2 : wi (((i + 1 : Nat) : Int) + 1) = ((i + 1 + 1 : Nat) : Int) := by rw [wi_id] <;> omega
  unfold g_chain_Energy_l19
  rw [show ltI ((i + 1 : Nat) : Int) (b : Int) = true from by simp only [ltI]; rw [decide_eq_true (by omega)], cond_true, hw1, hw2, getI_nat, getI_nat, e0, e1]
  simp only [Option.bind_some, eqI_d]
  rw [← Int.add_assoc, ← i0]
  have hr := ho.2.1
  by_cases hs : x.Serial = p.Serial
  ·have ed : dE p x = x.Register - p.Register := by unfold dE; rw [if_pos hs]
   rw [decide_eq_true hs, cond_true, wi_id (x := x.Register - p.Register) (by omega) (by omega), ← ed, wi_id (x := z + dE p x) (by omega) (by omega)]
  ·have ed : dE p x = 0 := by unfold dE; rw [if_neg hs]
   rw [decide_eq_false hs, cond_false, ed, Int.add_zero]
end Go.Proofs
namespace Go.Proofs
open Go Go.Abs
set_option maxRecDepth 100000
set_option linter.unusedVariables false
theorem der_prefix (x0 : GReading) (rest : List GReading) (ho : OrdR x0 rest) (h0 : 0 ≤ x0.Minute ∧ x0.Minute ≤ 52560000) (hr0 : 0 ≤ x0.Register ∧ x0.Register ≤ 1000000000) (hlen : rest.length ≤ 900) :
  ∀ (k : Nat) (m e : Int) (sl : List GSlice) (a post : List GReading), rest = a ++ post → (∀ x ∈ a, x.Minute ≤ m) → (∀ x ∈ post, m < x.Minute) → derF x0.Minute x0 x0.Minute [] a = (e, sl) → (∀ q ∈ sl, q.Minute < m) → x0.Minute ≤ m → m ≤ (lst x0 rest).Minute → ((lst x0 rest).Minute - m).toNat = k →
   ∃ q, (derF x0.Minute x0 x0.Minute [] rest).2 = sl ++ q := by
 have hto := ord_lst rest x0 ho
 have hT := lst_min rest x0 h0 ho
 intro k
 induction k with
 | zero =>
  intro m e sl a post hre ha hp hder hg hm1 hm2 hk
  have hpost : post = [] := by
   cases post with
   | nil => rfl
   | cons y r =>
    have h1 := hp y List.mem_cons_self
    have h2 := hto y (Or.inr (by rw [hre]; simp))
    omega
  subst hpost
  rw [List.append_nil] at hre
  rw [← hre] at hder
  exact ⟨[], by rw [hder]; simp⟩
 | succ k ih =>
  intro m e sl a post hre ha hp hder hg hm1 hm2 hk
  have hoa := (ord_app a post x0).1 (hre ▸ ho)
  obtain ⟨g, post', hpg, hg1, hg2⟩ := post_split m post (lst x0 a) hoa.2 hp
  subst hpg
  have hog := (ord_app g post' (lst x0 a)).1 hoa.2
  have hrl := lst_regU a x0 hr0.2 hoa.1
  have hrn := lst_reg a x0 hoa.1 hr0.1
  have hlens : a.length + (g.length + post'.length) ≤ 900 := by
   have := hlen
   rw [hre] at this
   simp only [List.length_append] at this
   omega
  have hdg := derG1 x0.Minute m e (by omega) sl hg g (lst x0 a) hog.1 hrn hrl hg1 (by omega)
  have hder' : derF x0.Minute x0 x0.Minute [] (a ++ g) = if sumE (lst x0 a) g = 0 then (e, sl) else (m + 1, sl ++ [⟨m, sumE (lst x0 a) g⟩]) := by
   rw [derF_app, hder]
   exact hdg
  have hre' : rest = (a ++ g) ++ post' := by rw [hre, List.append_assoc]
  have hag : ∀ x ∈ a ++ g, x.Minute ≤ m + 1 := by
   intro x hx
   rcases List.mem_append.1 hx with hx | hx
   ·have := ha x hx; omega
   ·have := hg1 x hx; omega
  by_cases hz : sumE (lst x0 a) g = 0
  ·rw [if_pos hz] at hder'
   exact ih (m + 1) e sl (a ++ g) post' hre' hag hg2 hder' (fun q hq => by have := hg q hq; omega) (by omega) (by omega) (by omega)
  ·rw [if_neg hz] at hder'
   obtain ⟨q, hq⟩ := ih (m + 1) (m + 1) _ (a ++ g) post' hre' hag hg2 hder' (fun q hq => by
    rcases List.mem_append.1 hq with hq | hq
    ·have := hg q hq; omega
    ·rw [List.mem_singleton.1 hq]
     simp only
     omega) (by omega) (by omega) (by omega)
   exact ⟨⟨m, sumE (lst x0 a) g⟩ :: q, by rw [hq, List.append_assoc]; rfl⟩
open Classical in
theorem c_follows (n : Nat) (seed : Int) (x0 : GReading) (rest : List GReading) (s : GSession) (hn : 10000 ≤ n) (hc : chainOk seed (x0 :: rest)) (hs60 : s.Slices.length ≤ 60) (hfrom : s.From = x0.Minute) (hto0 : s.To = (lst x0 rest).Minute) (hlen : (lst x0 rest).Minute - x0.Minute ≤ 2880) :
  loopN (fun recl9 (v : Int × Int × Int) => g_law43_follows_l9 n (x0 :: rest) s recl9 v.1 v.2.1 v.2.2) n (0, s.From, s.From) = some (decide (s.Slices = (derF x0.Minute x0 x0.Minute [] rest).2 ∧ s.End = (derF x0.Minute x0 x0.Minute [] rest).1)) := by
 have ho : OrdR x0 rest := chain_drop hc rest x0 0 rfl
 have h0 := hc.2 0 (by simp) x0 rfl
 have hll := hc.1.2
 have hto := ord_lst rest x0 ho
 have hT := lst_min rest x0 h0.2.2.1 ho
 have hord := c_ordered n (x0 :: rest) (by omega) (by omega) (fun i hi => by
  refine ⟨by omega, fun r hr => ?_⟩
  have := hc.2 i hi r hr
  exact ⟨this.1, this.2.1, this.2.2.1, this.2.2.2.1, this.2.2.2.2.1⟩)
 generalize hFull : derF x0.Minute x0 x0.Minute [] rest = full
 have key : ∀ (k j : Nat) (m e : Int) (sl : List GSlice) (a post : List GReading), rest = a ++ post → (∀ x ∈ a, x.Minute ≤ m) → (∀ x ∈ post, m < x.Minute) → derF x0.Minute x0 x0.Minute [] a = (e, sl) → Good x0.Minute m e sl → sl = s.Slices.take sl.length → x0.Minute ≤ m → m ≤ (lst x0 rest).Minute → ((lst x0 rest).Minute - m).toNat = k → k < j →
   loopN (fun recl9 (v : Int × Int × Int) => g_law43_follows_l9 n (x0 :: rest) s recl9 v.1 v.2.1 v.2.2) j ((sl.length : Int), e, m) = some (decide (s.Slices = full.2 ∧ s.End = full.1)) := by
  intro k
  induction k with
  | zero =>
   intro j m e sl a post hre ha hp hder hg hsl hm1 hm2 hk hj
   obtain ⟨j, rfl⟩ : ∃ j', j = j' + 1 := ⟨j - 1, by omega⟩
   have hpost : post = [] := by
    cases post with
    | nil => rfl
    | cons y r =>
     have h1 := hp y List.mem_cons_self
     have h2 := hto y (Or.inr (by rw [hre]; simp))
     omega
   subst hpost
   rw [List.append_nil] at hre
   rw [← hre, hFull] at hder
   subst hder
   unfold loopN
   show g_law43_follows_l9 n (x0 :: rest) s _ (sl.length : Int) e m = _
   unfold g_law43_follows_l9 g_law43_follows_j7
   rw [show ltI m s.To = false from by simp only [ltI]; rw [hto0, decide_eq_false (by omega)], cond_false]
   simp only [lenI, List.length_map, eqI_d, cond_some]
   by_cases hlen2 : sl.length = s.Slices.length
   ·have heq : s.Slices = sl := by
     rw [hsl, hlen2, List.take_length]
    rw [decide_eq_true (show (sl.length : Int) = s.Slices.length by omega), cond_true]
    by_cases he : s.End = e
    ·rw [decide_eq_true he, decide_eq_true ⟨heq, he⟩]
    ·rw [decide_eq_false he, decide_eq_false (fun h => he h.2)]
   ·rw [decide_eq_false (show ¬ (sl.length : Int) = s.Slices.length by omega), cond_false, decide_eq_false (fun h => hlen2 (by rw [h.1]))]
  | succ k ih =>
   intro j m e sl a post hre ha hp hder hg hsl hm1 hm2 hk hj
   obtain ⟨j, rfl⟩ : ∃ j', j = j' + 1 := ⟨j - 1, by omega⟩
   have hoa := (ord_app a post x0).1 (hre ▸ ho)
   obtain ⟨g, post', hpg, hg1, hg2⟩ := post_split m post (lst x0 a) hoa.2 hp
   subst hpg
   have hog := (ord_app g post' (lst x0 a)).1 hoa.2
   have hrl := lst_regU a x0 h0.2.2.2.1.2 hoa.1
   have hr0 := lst_reg a x0 hoa.1 h0.2.2.2.1.1
   have hlens : a.length + (g.length + post'.length) + 1 ≤ 64 := by
    have := hll
    rw [hre] at this
    simp only [List.length_cons, List.length_append] at this
    omega
   have hdg := derG1 x0.Minute m e (by omega) sl (fun q hq => by have := (hg.all q hq).2.1; have := hg.hi; omega) g (lst x0 a) hog.1 hr0 hrl hg1 (by omega)
   have hder' : derF x0.Minute x0 x0.Minute [] (a ++ g) = if sumE (lst x0 a) g = 0 then (e, sl) else (m + 1, sl ++ [⟨m, sumE (lst x0 a) g⟩]) := by
    rw [derF_app, hder]
    exact hdg
   have hsum := sumE_range g (lst x0 a) hog.1 hr0
   have hre' : rest = (a ++ g) ++ post' := by rw [hre, List.append_assoc]
   have hag : ∀ x ∈ a ++ g, x.Minute ≤ m + 1 := by
    intro x hx
    rcases List.mem_append.1 hx with hx | hx
    ·have := ha x hx; omega
    ·have := hg1 x hx; omega
   have hat1 : g_ref43_At n (x0 :: rest) m = some ((a.length + 1 : Nat) : Int) := by
    have := r_at n (x0 :: a) (g ++ post') m (by omega) (by simp only [List.length_append, List.length_cons]; omega) (fun x hx => by
     rcases List.mem_cons.1 hx with rfl | hx
     ·exact hm1
     ·exact ha x hx) hp
    rw [hre]
    exact this
   have hat2 : g_ref43_At n (x0 :: rest) (m + 1) = some ((a.length + 1 + g.length : Nat) : Int) := by
    have := r_at n (x0 :: (a ++ g)) post' (m + 1) (by omega) (by simp only [List.length_append, List.length_cons]; omega) (fun x hx => by
     rcases List.mem_cons.1 hx with rfl | hx
     ·omega
     ·exact hag x hx) hg2
    rw [hre']
    refine this.trans ?_
    simp only [List.length_cons, List.length_append]
    congr 2
    omega
   have hen : g_chain_Energy n (x0 :: rest) ((a.length + 1 : Nat) : Int) ((a.length + 1 + g.length : Nat) : Int) = some (sumE (lst x0 a) g, 0) := by
    unfold g_chain_Energy
    rw [hord]
    simp only [Option.bind_some, ltI, lenI, List.length_map, eqI_d, decide_true, Bool.not_true, cond_false]
    rw [decide_eq_false (show ¬ ((a.length + 1 : Nat) : Int) < 1 by omega), cond_false, decide_eq_false (show ¬ ((a.length + 1 + g.length : Nat) : Int) < ((a.length + 1 : Nat) : Int) by omega), cond_false, Option.bind_some,
     decide_eq_false (show ¬ (((x0 :: rest).length : Nat) : Int) < ((a.length + 1 + g.length : Nat) : Int) by rw [hre]; simp only [List.length_cons, List.length_append]; omega), cond_false]
    have := c_energy (x0 :: rest) (a.length + 1 + g.length) (by omega) g post' (lst x0 a) a.length n 0 (by rw [hre]; exact drop_lst a (g ++ post') x0) rfl (by omega) hog.1 hr0 hrl (by omega) (by omega)
    rw [Int.zero_add] at this
    exact this
   have hw : wi (m + 1) = m + 1 := wi_id (by omega) (by omega)
   have hgall := hg.all
   have hglo := hg.lo
   have hghi := hg.hi
   have hslen : sl.length ≤ s.Slices.length := by
    have := congrArg List.length hsl
    rw [List.length_take] at this
    omega
   by_cases hz : sumE (lst x0 a) g = 0
   ·have i0 := ih j (m + 1) e sl (a ++ g) post' hre' hag hg2 (by rw [hder', if_pos hz]) ⟨hgall, hg.pw, hglo, by omega⟩ hsl (by omega) (by omega) (by omega) (by omega)
    unfold loopN
    generalize loopN (fun recl9 (v : Int × Int × Int) => g_law43_follows_l9 n (x0 :: rest) s recl9 v.1 v.2.1 v.2.2) j = L at i0 ⊢
    show g_law43_follows_l9 n (x0 :: rest) s L (sl.length : Int) e m = _
    unfold g_law43_follows_l9
    rw [show ltI m s.To = true from by simp only [ltI]; rw [hto0, decide_eq_true (by omega)], cond_true, hat1, Option.bind_some, hw, hat2, Option.bind_some, hen, Option.bind_some]
    simp only [eqI_d]
    rw [decide_true, Bool.not_true, cond_false, decide_eq_true hz, cond_true, i0]
   ·by_cases hmat : s.Slices[sl.length]? = some ⟨m, sumE (lst x0 a) g⟩
    ·have hlt := (List.getElem?_eq_some_iff.1 hmat).1
     have htake : sl ++ [⟨m, sumE (lst x0 a) g⟩] = s.Slices.take (sl ++ [(⟨m, sumE (lst x0 a) g⟩ : GSlice)]).length := by
      simp only [List.length_append, List.length_cons, List.length_nil, Nat.zero_add]
      rw [List.take_add_one, hmat, ← hsl]; rfl
     have i1 := ih j (m + 1) (m + 1) (sl ++ [⟨m, sumE (lst x0 a) g⟩]) (a ++ g) post' hre' hag hg2 (by rw [hder', if_neg hz]) (by
       refine ⟨fun x hx => ?_, ?_, by omega, Int.le_refl _⟩
       ·rcases List.mem_append.1 hx with hx | hx
        ·have := hgall x hx; omega
        ·rw [List.mem_singleton.1 hx]
         simp only
         omega
       ·rw [List.pairwise_append]
        refine ⟨hg.pw, List.pairwise_singleton _ _, fun x hx y hy => ?_⟩
        rw [List.mem_singleton.1 hy]
        have := hgall x hx
        simp only
        omega) htake (by omega) (by omega) (by omega) (by omega)
     have el : (((sl ++ [(⟨m, sumE (lst x0 a) g⟩ : GSlice)]).length : Nat) : Int) = (sl.length : Int) + 1 := by
      simp only [List.length_append, List.length_cons, List.length_nil]; omega
     rw [el] at i1
     unfold loopN
     generalize loopN (fun recl9 (v : Int × Int × Int) => g_law43_follows_l9 n (x0 :: rest) s recl9 v.1 v.2.1 v.2.2) j = L at i1 ⊢
     show g_law43_follows_l9 n (x0 :: rest) s L (sl.length : Int) e m = _
     unfold g_law43_follows_l9
     rw [show ltI m s.To = true from by simp only [ltI]; rw [hto0, decide_eq_true (by omega)], cond_true, hat1, Option.bind_some, hw, hat2, Option.bind_some, hen, Option.bind_some]
     simp only [eqI_d, lenI, List.length_map, leI, getI_nat, hmat, Option.bind_some, opq]
     rw [decide_true, Bool.not_true, cond_false, decide_eq_false hz, cond_false, decide_eq_false (show ¬ (s.Slices.length : Int) ≤ sl.length by omega), cond_false, Option.bind_some]
     simp only [Bool.and_self, Bool.not_true, cond_false]
     rw [wi_id (x := (sl.length : Int) + 1) (by omega) (by omega), i1]
    ·have hne : ¬ (s.Slices = full.2 ∧ s.End = full.1) := by
      intro h
      have hsm : ∀ q ∈ sl ++ [(⟨m, sumE (lst x0 a) g⟩ : GSlice)], q.Minute < m + 1 := fun q hq => by
       rcases List.mem_append.1 hq with hq | hq
       ·have := hgall q hq; omega
       ·rw [List.mem_singleton.1 hq]
        simp only
        omega
      obtain ⟨q, hq⟩ := der_prefix x0 rest ho h0.2.2.1 h0.2.2.2.1 (by simp only [List.length_cons] at hll; omega) _ (m + 1) (m + 1) (sl ++ [⟨m, sumE (lst x0 a) g⟩]) (a ++ g) post' hre' hag hg2 (by rw [hder', if_neg hz]) hsm (by omega) (by omega) rfl
      rw [hFull] at hq
      apply hmat
      rw [h.1, hq]
      simp
     rw [decide_eq_false hne]
     unfold loopN
     generalize loopN (fun recl9 (v : Int × Int × Int) => g_law43_follows_l9 n (x0 :: rest) s recl9 v.1 v.2.1 v.2.2) j = L
     show g_law43_follows_l9 n (x0 :: rest) s L (sl.length : Int) e m = _
     unfold g_law43_follows_l9
     rw [show ltI m s.To = true from by simp only [ltI]; rw [hto0, decide_eq_true (by omega)], cond_true, hat1, Option.bind_some, hw, hat2, Option.bind_some, hen, Option.bind_some]
     simp only [eqI_d, lenI, List.length_map, leI, getI_nat, opq]
     rw [decide_true, Bool.not_true, cond_false, decide_eq_false hz, cond_false]
     by_cases hge : s.Slices.length ≤ sl.length
     ·rw [decide_eq_true (show (s.Slices.length : Int) ≤ sl.length by omega), cond_true, Option.bind_some, cond_true]
     ·rw [decide_eq_false (show ¬ (s.Slices.length : Int) ≤ sl.length by omega), cond_false]
      have hy : s.Slices[sl.length]? = some (s.Slices[sl.length]'(by omega)) := by rw [List.getElem?_eq_getElem]
      generalize s.Slices[sl.length]'(by omega) = y at hy
      rw [hy] at hmat ⊢
      obtain ⟨ym, ye⟩ := y
      have hyne : ¬ (ym = m ∧ ye = sumE (lst x0 a) g) := fun h => hmat (by rw [h.1, h.2])
      simp only [Option.bind_some]
      have : (!(decide (ym = m) && (decide (ye = sumE (lst x0 a) g) && true))) = true := by
       by_cases c1 : ym = m
       ·by_cases c2 : ye = sumE (lst x0 a) g
        ·exact absurd ⟨c1, c2⟩ hyne
        ·simp [c2]
       ·simp [c1]
      rw [this, cond_true]
 obtain ⟨a, post, hre, ha, hp⟩ : ∃ a post, rest = a ++ post ∧ (∀ x ∈ a, x.Minute = x0.Minute) ∧ ∀ x ∈ post, x0.Minute < x.Minute := by
  obtain ⟨g, q, e, h1, h2⟩ := post_split (x0.Minute - 1) rest x0 ho (fun x hx => by have := ord_min rest x0 ho x hx; omega)
  exact ⟨g, q, e, fun x hx => by have := h1 x hx; omega, fun x hx => by have := h2 x hx; omega⟩
 have hT0 := hto x0 (Or.inl rfl)
 rw [hfrom]
 exact key ((lst x0 rest).Minute - x0.Minute).toNat n x0.Minute x0.Minute [] a post hre (fun x hx => by have := ha x hx; omega) hp (der_zero x0.Minute a x0 ha) ⟨fun x hx => by simp at hx, by simp, Int.le_refl _, Int.le_refl _⟩ (by simp) (Int.le_refl _) hT0 rfl (by omega)
open Classical in
theorem c_follows' (n : Nat) (seed : Int) (l : List GReading) (s : GSession) (hn : 10000 ≤ n) (hc : chainOk seed l) (hs60 : s.Slices.length ≤ 60) : g_law43_follows n l s = some (decide (s = sesF l ∧ (sesF l).To - (sesF l).From ≤ 2880)) := by
 match l, hc with
 | [], hc => exact absurd hc.1.1 (by simp)
 | x0 :: rest, hc =>
  have h0 := hc.2 0 (by simp) x0 rfl
  have ho : OrdR x0 rest := chain_drop hc rest x0 0 rfl
  have hT := lst_min rest x0 h0.2.2.1 ho
  have hll := hc.1.2
  have hf : (sesF (x0 :: rest)).From = x0.Minute := rfl
  have ht : (sesF (x0 :: rest)).To = (lst x0 rest).Minute := by
   have : (sesF (x0 :: rest)).To = ((x0 :: rest).getLast (by simp)).Minute := rfl
   rw [this, getLast_lst]
  unfold g_law43_follows
  have hlast := getI_last (l := x0 :: rest) (by simp) (by omega)
  simp only [lenI, List.length_map, eqI_d]
  rw [decide_eq_false (show ¬ (((x0 :: rest).length : Nat) : Int) = 0 by simp only [List.length_cons]; omega), cond_false, show getI (x0 :: rest) 0 = some x0 from rfl, Option.bind_some, hlast, List.getLast?_eq_some_getLast (by simp), getLast_lst, Option.bind_some, ht, hf]
  by_cases c1 : s.From = x0.Minute
  rotate_left
  ·rw [decide_eq_false c1, Bool.not_false, cond_true, Option.bind_some, cond_true, decide_eq_false]
   intro h
   exact c1 (by rw [h.1]; rfl)
  rw [decide_eq_true c1, Bool.not_true, cond_false]
  by_cases c2 : s.To = (lst x0 rest).Minute
  rotate_left
  ·rw [decide_eq_false c2, Bool.not_false, cond_true, Option.bind_some, cond_true, decide_eq_false]
   intro h
   exact c2 (by rw [h.1, ht])
  rw [decide_eq_true c2, Bool.not_true, cond_false, Option.bind_some, c1, c2, wi_id (x := (lst x0 rest).Minute - x0.Minute) (by omega) (by omega)]
  simp only [ltI]
  by_cases c3 : 2880 < (lst x0 rest).Minute - x0.Minute
  ·rw [decide_eq_true c3, cond_true, decide_eq_false (fun h => by have := h.2; omega)]
  rw [decide_eq_false c3, cond_false]
  have := c_follows n seed x0 rest s hn hc hs60 c1 c2 (by omega)
  rw [c1] at this
  refine this.trans ?_
  congr 1
  rw [decide_eq_decide]
  constructor
  ·rintro ⟨h1, h2⟩
   refine ⟨?_, by omega⟩
   obtain ⟨sf, st, se, sl⟩ := s
   simp only at c1 c2 h1 h2
   subst c1 c2 h1 h2
   rw [← ht]
   rfl
  ·rintro ⟨h1, h2⟩
   rw [h1]
   exact ⟨rfl, rfl⟩
theorem ses_val (seed : Int) (l : List GReading) (hc : chainOk seed l) : valB (sesF l) = sesB (sesF l) := by
 cases hv : valB (sesF l)
 ·cases hs : sesB (sesF l)
  ·rfl
  ·rw [val_ses seed l hc hs] at hv; cases hv
 ·symm
  simp only [valB, Bool.and_eq_true, decide_eq_true_eq] at hv
  obtain ⟨hr, hs⟩ := hv
  have hm := slB_mem hs
  unfold sesB
  rw [wi_id (x := (sesF l).To - (sesF l).From) (by omega) (by omega), decide_eq_true hr.2.1, decide_eq_true hr.2.2.2.1, decide_eq_true hr.2.2.2.2.2.2]
  simp only [Bool.true_and]
  rw [List.all_eq_true]
  intro x hx
  rw [decide_eq_true]
  exact (hm x hx).2.2.2
open Classical in
theorem exactly_plain (c : GClaim) (hb : i64b c.Session.To) : g_law43_AuditorExactly 36893488147419103232 c = some true := by
 unfold g_law43_AuditorExactly
 generalize hn : (36893488147419103232 : Nat) = n
 have hh : g_law43_head n = some true := by rw [← hn]; exact head_big
 obtain ⟨b, f1, f2⟩ := a_few n c
 rw [hh, Option.bind_some, f1, Option.bind_some]
 cases b
 ·rfl
 have f3 := f2 rfl
 rw [Bool.not_true, cond_false, b_bill n _ _ _ (by omega) (by omega) (by omega) (by omega) hb, Option.bind_some, a_verify n c (by omega)]
 have hright : (bif ltI 0 (lenI (List.map GReading.cs c.Readings)) then (g_chain_Check n c.Seed c.Readings).bind fun r6 => some (eqI r6 (-1)) else some false) = some (decide (chainOk c.Seed c.Readings)) := by
  simp only [lenI, List.length_map, ltI]
  by_cases h0 : c.Readings.length = 0
  ·rw [decide_eq_false (by omega), cond_false, decide_eq_false]
   intro h
   have := h.1.1
   omega
  rw [decide_eq_true (by omega), cond_true]
  obtain ⟨r, e, h⟩ := c_check n c.Seed c.Readings (by omega) (by omega)
  rw [e, Option.bind_some, eqI_d]
  have : r = -1 ↔ chainOk c.Seed c.Readings := by
   rw [h]
   constructor
   ·intro h
    refine ⟨⟨by omega, ?_⟩, fun i hi => (h i hi).2⟩
    have := (h (c.Readings.length - 1) (by omega)).1
    omega
   ·intro h j hj
    exact ⟨by have := h.1.2; omega, h.2 j hj⟩
  by_cases hr : r = -1
  ·rw [decide_eq_true hr, decide_eq_true (this.1 hr)]
  ·rw [decide_eq_false hr, decide_eq_false (fun h => hr (this.2 h))]
 rw [hright, Option.bind_some, cond_true, Option.bind_some]
 simp only [eqI_d, opq]
 by_cases h1 : chainOk c.Seed c.Readings
 rotate_left
 ·rw [decide_eq_false h1, cond_false, decide_eq_false (show ¬ exa c true = 0 from fun h => h1 (exa_zero h).h1)]; rfl
 rw [decide_eq_true h1, cond_true, c_follows' n c.Seed c.Readings c.Session (by omega) h1 (by omega), Option.bind_some]
 by_cases h5 : c.Session = sesF c.Readings ∧ (sesF c.Readings).To - (sesF c.Readings).From ≤ 2880
 rotate_left
 ·have : ¬ exa c true = 0 := by
   intro h
   have z := exa_zero h
   have hv := val_ses _ _ z.h1 z.h4
   simp only [valB, Bool.and_eq_true, decide_eq_true_eq] at hv
   exact h5 ⟨z.h5, by omega⟩
  rw [decide_eq_false h5, cond_false, decide_eq_false this]; rfl
 rw [decide_eq_true h5, cond_true]
 have hses := h5.1
 have hval := ses_val c.Seed c.Readings h1
 have e1 : linesOf c = linF c.Calendar c.Session 0 c.Tariff.Articles := by rw [hses]; rfl
 have e2 : billOf c = bilF c.Tariff (rateF 0 c.Tariff.Articles) 0 (linF c.Calendar c.Session 0 c.Tariff.Articles) := by rw [hses]; rfl
 rw [← e1] at e2
 rw [← e1, ← e2]
 have hBL : (billOf c).Lines = linesOf c := rfl
 have hz : exa c true = 0 ↔ (tariffB c.Tariff = true ∧ calB c.Calendar = true ∧ valB c.Session = true ∧ linB (linesOf c) = true ∧ bilB (billOf c) = true) ∧ billOf c = c.Bill := by
  constructor
  ·intro h
   have z := exa_zero h
   refine ⟨⟨z.h2, z.h3, by rw [hses, hval]; exact z.h4, z.h6, z.h8⟩, ?_⟩
   have h7 := z.h7
   have h9 := z.h9
   rw [← hBL] at h7
   generalize billOf c = B at h7 h9
   obtain ⟨bl, bn, bt, bo⟩ := B
   obtain ⟨tt, kk, rr, sd, ss, ⟨xl, xn, xt, xo⟩⟩ := c
   simp only at h7 h9
   rw [h7, h9.1, h9.2.1, h9.2.2]
  ·rintro ⟨⟨a2, a3, a4, a6, a8⟩, a9⟩
   rw [hses, hval] at a4
   unfold exa
   rw [if_neg (not_not_intro h1), if_neg (by rw [a2]; decide), if_neg (by rw [a3]; decide), if_neg (by rw [a4]; decide), if_neg (fun h => h.2 hses), if_neg (by rw [a6]; decide), if_neg (fun h => h.2 (by rw [← a9]; exact hBL)), if_neg (by rw [a8]; decide), if_neg]
   rintro ⟨_, h⟩
   apply h
   rw [← a9]
   exact ⟨rfl, rfl, rfl⟩
 by_cases hv : tariffB c.Tariff = true ∧ calB c.Calendar = true ∧ valB c.Session = true
 rotate_left
 ·have : ¬ exa c true = 0 := fun h => hv ⟨(hz.1 h).1.1, (hz.1 h).1.2.1, (hz.1 h).1.2.2.1⟩
  rw [decide_eq_false this, if_neg (by simpa [Bool.and_eq_true, and_assoc] using hv)]; rfl
 rw [if_pos (by simp [hv])]
 cases h6 : linB (linesOf c)
 ·have : ¬ exa c true = 0 := fun h => by have := (hz.1 h).1.2.2.2.1; rw [h6] at this; cases this
  rw [decide_eq_false this]; rfl
 cases h8 : bilB (billOf c)
 ·have : ¬ exa c true = 0 := fun h => by have := (hz.1 h).1.2.2.2.2; rw [h8] at this; cases this
  rw [decide_eq_false this]; rfl
 simp only [if_true, decide_true, cond_true]
 rw [a_sameBill n _ _ (by omega) (by omega), Option.bind_some]
 by_cases h9 : billOf c = c.Bill
 ·rw [decide_eq_true h9, decide_eq_true (hz.2 ⟨⟨hv.1, hv.2.1, hv.2.2, h6, h8⟩, h9⟩)]; rfl
 ·rw [decide_eq_false h9, decide_eq_false (show ¬ exa c true = 0 from fun h => h9 (hz.1 h).2)]; rfl
end Go.Proofs
namespace Go.Proofs.YtgehgobiibddaaaGreat
open Go Go.Abs Go.Proofs
theorem auditorExactly_holds : Rows.AuditorExactlySaid :=
 auditorExactly_said (fun c hc => ⟨_, exactly_plain c hc.Session.To⟩)
end Go.Proofs.YtgehgobiibddaaaGreat
