/-
  Proved: BillMatchesReference. For all articles, tariffs, calendars and sessions that are small enough, the functions return what the reference implementation returns. No conditions beyond those of the given statement.
-/
import Derived.Test.YtlpflajahcpfkaaMat04
namespace Go.Proofs
open Go Go.Abs
set_option maxRecDepth 100000
set_option linter.unusedVariables false
theorem b_session (n : Nat) (s : GSession) (hn : 1000 ≤ n) (hl : s.Slices.length ≤ 900) (hb : i64b s.To) : g_bill_Valid n s = some (valB s) := by
 unfold i64b at hb
 unfold g_bill_Valid valB
 simp only [ltI, leI, lenI, List.length_map]
 by_cases c1 : s.From < 0
 ·rw [decide_eq_true c1, cond_true, Option.bind_some, cond_true, decide_eq_false (by omega)]; rfl
 rw [decide_eq_false c1, cond_false]
 by_cases c2 : s.To ≤ s.From
 ·rw [decide_eq_true c2, cond_true, Option.bind_some, cond_true, decide_eq_false (by omega)]; rfl
 rw [decide_eq_false c2, cond_false, wi_id (x := s.To - s.From) (by omega) (by omega)]
 by_cases c4 : 2880 < s.To - s.From
 ·rw [decide_eq_true c4, cond_true, Option.bind_some, cond_true, decide_eq_false (by omega)]; rfl
 rw [decide_eq_false c4, cond_false, Option.bind_some]
 by_cases c3 : 52560000 < s.To
 ·rw [decide_eq_true c3, cond_true, decide_eq_false (by omega)]; rfl
 rw [decide_eq_false c3, cond_false]
 by_cases c5 : s.End < s.From
 ·rw [decide_eq_true c5, cond_true, Option.bind_some, cond_true, decide_eq_false (by omega)]; rfl
 rw [decide_eq_false c5, cond_false]
 by_cases c6 : s.To < s.End
 ·rw [decide_eq_true c6, cond_true, Option.bind_some, cond_true, decide_eq_false (by omega)]; rfl
 rw [decide_eq_false c6, cond_false, Option.bind_some]
 by_cases c7 : s.Slices.length ≤ 48
 rotate_left
 ·rw [decide_eq_true (show (48 : Int) < s.Slices.length by omega), cond_true, decide_eq_false (show ¬ (0 ≤ s.From ∧ s.From < s.To ∧ s.To ≤ 52560000 ∧ s.To - s.From ≤ 2880 ∧ s.From ≤ s.End ∧ s.End ≤ s.To ∧ s.Slices.length ≤ 48) by omega)]; rfl
 rw [decide_eq_false (show ¬ (48 : Int) < s.Slices.length by omega), cond_false, decide_eq_true (show 0 ≤ s.From ∧ s.From < s.To ∧ s.To ≤ 52560000 ∧ s.To - s.From ≤ 2880 ∧ s.From ≤ s.End ∧ s.End ≤ s.To ∧ s.Slices.length ≤ 48 by omega), Bool.true_and, wi_id (x := s.From - 1) (by omega) (by omega)]
 have := loop_gen (l := s.Slices) (fun (a : Int) i => (a, i)) (B := fun recl8 (v : Int × Int) => g_bill_Valid_l8 s recl8 v.1 v.2) (F := slB s.From s.End) (fun i a => s.From - 1 ≤ a) (by omega) ?_ ?_ (n := n) 0 (s.From - 1) (Int.le_refl _) (by omega) (by omega)
 ·exact this
 ·intro rec a ha
  simp only [g_bill_Valid_l8, lenI, List.length_map, ltI]
  rw [decide_eq_false (by omega), cond_false]
  rfl
 ·intro rec a i x r ha hd hx hi hw hr
  simp only [g_bill_Valid_l8, lenI, List.length_map, ltI, leI, getI_nat, hx, Option.bind_some, hw]
  rw [decide_eq_true (by omega), cond_true, slB]
  by_cases d1 : x.Minute ≤ a
  ·rw [decide_eq_true d1, cond_true, Option.bind_some, cond_true, decide_eq_false (by omega)]; rfl
  rw [decide_eq_false d1, cond_false]
  by_cases d2 : s.End ≤ x.Minute
  ·rw [decide_eq_true d2, cond_true, Option.bind_some, cond_true, decide_eq_false (by omega)]; rfl
  rw [decide_eq_false d2, cond_false]
  by_cases d3 : x.Energy < 0
  ·rw [decide_eq_true d3, cond_true, Option.bind_some, cond_true, decide_eq_false (by omega)]; rfl
  rw [decide_eq_false d3, cond_false, Option.bind_some]
  by_cases d4 : 10000 < x.Energy
  ·rw [decide_eq_true d4, cond_true, decide_eq_false (by omega)]; rfl
  rw [decide_eq_false d4, cond_false, hr x.Minute (by omega), decide_eq_true (by omega)]; rfl
theorem b_stretch (n : Nat) (c : GCalendar) (a : GArticle) (s : GSession) (f t : Int) (hn : 10000 ≤ n) (h1 : c.Changes.length ≤ 900) (h2 : c.Holidays.length ≤ 900) (hc : calB c = true) (ha : artB a = true) (hk34 : a.Kind = 3 ∨ a.Kind = 4) (hf : 0 ≤ f) (ht : t ≤ 52560000) (hk : t - f ≤ 2880) :
  g_bb_stretch n (⟨a, c, s⟩ : GBB) f t = some (amt (staF c a f t)) := by
 unfold g_bb_stretch
 have key : ∀ (k j : Nat) (z m : Int), (t - m).toNat = k → k < j → 0 ≤ m → k ≤ 2880 → 0 ≤ z ∧ z ≤ 3000 - k →
   loopN (fun recl3 (v : Int × Int) => g_bb_stretch_l3 n (⟨a, c, s⟩ : GBB) t recl3 v.1 v.2) j (m, z) = some (z + cN c a k m) := by
  intro k
  induction k with
  | zero =>
   intro j z m h3 h4 h5 h6 h7
   obtain ⟨j, rfl⟩ : ∃ j', j = j' + 1 := ⟨j - 1, by omega⟩
   unfold loopN
   simp only [g_bb_stretch_l3, ltI]
   rw [decide_eq_false (by omega), cond_false]
   simp [cN]
  | succ k ih =>
   intro j z m h3 h4 h5 h6 h7
   obtain ⟨j, rfl⟩ : ∃ j', j = j' + 1 := ⟨j - 1, by omega⟩
   have i0 := ih j z (m + 1) (by omega) (by omega) (by omega) (by omega) (by omega)
   have i1 := ih j (z + 1) (m + 1) (by omega) (by omega) (by omega) (by omega) (by omega)
   unfold loopN
   generalize loopN (fun recl3 (v : Int × Int) => g_bb_stretch_l3 n (⟨a, c, s⟩ : GBB) t recl3 v.1 v.2) j = L at i0 i1 ⊢
   show g_bb_stretch_l3 n (⟨a, c, s⟩ : GBB) t L m z = _
   unfold g_bb_stretch_l3 g_bb_applies
   simp only [ltI]
   rw [decide_eq_true (by omega), cond_true, b_applies n c a m (by omega) h1 h2 hc ha (by omega), Option.bind_some, Option.bind_some, wi_id (x := m + 1) (by omega) (by omega), wi_id (x := z + 1) (by omega) (by omega)]
   unfold cN
   cases appB c a m
   ·rw [cond_false, Option.bind_some, i0]
    simp
   ·rw [cond_true, Option.bind_some, i1]
    simp
    omega
 have hloop := key (t - f).toNat n 0 f rfl (by omega) hf (by omega) (by omega)
 rw [Int.zero_add] at hloop
 obtain ⟨g1, g2⟩ := r_sta n c a f t hn h1 h2 hc ha hk34 hf ht hk
 rw [r_minutes n c a f t hn h1 h2 hc ha hf ht hk, Option.bind_some] at g1
 simp only
 refine (congrArg (fun o => Option.bind o _) hloop).trans ?_
 rw [Option.bind_some, b_started]
 cases hS : g_ref31_Started n a.Price (maxI 0 (wi (cN c a (t - f).toNat f - a.Free))) a.Unit with
 | none => rw [hS] at g1; cases g1
 | some r =>
  rw [hS, Option.bind_some] at g1
  have hr : r = if staF c a f t ≤ 1000000000 then (staF c a f t, 0) else (0, 3) := Option.some.inj g1
  rw [Option.bind_some, hr]
  rw [b_must n (staF c a f t), Option.bind_some]
  unfold amt
  by_cases h : staF c a f t ≤ 1000000000
  ·rw [if_pos h]; rfl
  ·rw [if_neg h]; rfl
def endE (rate net : Int) (l : List GLine) : Except Int GBill :=
 if net ≤ 1000000000 ∧ wi (net + taxF net rate) ≤ 1000000000 then .ok ⟨l, net, taxF net rate, wi (net + taxF net rate)⟩ else .error 3
theorem b_sum1 (n : Nat) (rate cap : Int) (l : OL GLine) (z : Int) (hr : 0 ≤ rate ∧ rate ≤ 10000) (hz : 0 ≤ z) : g_bill_sum_j1 n rate cap l z = some (endE rate (capV cap z) l.toL) := by
 unfold g_bill_sum_j1
 have e : (bif leI 0 cap then some (minI z cap) else some z) = some (capV cap z) := by
  unfold capV leI minI
  by_cases c1 : 0 ≤ cap <;> by_cases c2 : cap < z <;> simp [c1, c2]
 rw [e, Option.bind_some]
 have hnet : 0 ≤ capV cap z := by unfold capV; split <;> omega
 generalize capV cap z = net at hnet
 unfold endE
 rw [b_tax]
 by_cases c : 1000000000 < net
 ·have : g_ref31_Tax n net rate = some (0, 1) := by
   unfold g_ref31_Tax
   rw [r_amount, decide_eq_false (show ¬ (0 ≤ net ∧ net ≤ 1000000000) by omega)]; rfl
  rw [this, if_neg (by omega)]; rfl
 ·obtain ⟨g1, g2, g3⟩ := r_tax n net rate (by omega) hr
  rw [g1, Option.bind_some]
  have hm : g_bill_must n (taxF net rate) 0 = some (.ok (taxF net rate)) := rfl
  simp only [hm, Option.bind_some, exc, ltI]
  by_cases c2 : 1000000000 < wi (net + taxF net rate)
  ·rw [decide_eq_true c2, cond_true, if_neg (by omega)]
  ·rw [decide_eq_false c2, cond_false, if_pos (by omega)]
theorem b_sum (n : Nat) (t : GTariff) (c : GCalendar) (s : GSession) (hn : 10000 ≤ n) (h1 : c.Changes.length ≤ 900) (h2 : c.Holidays.length ≤ 900) (hc : calB c = true) (ht : tariffB t = true) (hv : valB s = true) :
  g_bill_sum n t c s = some (if linB (linF c s 0 t.Articles) then (if bilB (bilF t (rateF 0 t.Articles) 0 (linF c s 0 t.Articles)) then .ok (bilF t (rateF 0 t.Articles) 0 (linF c s 0 t.Articles)) else .error 3) else .error 3) := by
 have ht' := ht
 simp only [tariffB, Bool.and_eq_true, decide_eq_true_eq] at ht'
 have hall := tarB_all ht'.2
 have hArt := fun a h => artB_art (hall a h)
 have hv' := hv
 simp only [valB, Bool.and_eq_true, decide_eq_true_eq] at hv'
 obtain ⟨hrng, hsl⟩ := hv'
 have hm := slB_mem hsl
 unfold g_bill_sum
 have := loop_gen (l := t.Articles) (fun (a : Int × Int × OL GLine × Int) i => (a.1, a.2.1, i, a.2.2.1, a.2.2.2)) (B := fun recl6 (v : Int × Int × Int × (OL GLine) × Int) => g_bill_sum_l6 n t c s recl6 v.1 v.2.1 v.2.2.1 v.2.2.2.1 v.2.2.2.2)
  (F := fun a r => if linB (linF c s (t.Articles.length - r.length) r) then endE (rateF a.1 r) (capV (capR a.2.1 r) (sumF a.2.2.2 (linF c s (t.Articles.length - r.length) r))) (a.2.2.1.toL ++ linF c s (t.Articles.length - r.length) r) else .error 3)
  (fun i a => (0 ≤ a.1 ∧ a.1 ≤ 10000) ∧ a.2.2.1.toL.length ≤ i ∧ 0 ≤ a.2.2.2 ∧ a.2.2.2 ≤ 1000000000 * i) (by omega) ?_ ?_ (n := n) 0 (0, -1, OL.nil, 0) (by simp) (by omega) (by omega)
 ·rw [show ((0 : Nat) : Int) = 0 from rfl] at this
  refine this.trans ?_
  simp only [OL.toL_nil, List.nil_append, List.drop_zero, Nat.sub_self]
  rw [← capF_R _ _ _ (fun a h => (hArt a h).price.1), show ∀ z, capV (-1) z = z from fun z => by unfold capV; rw [if_neg (by omega)]]
  unfold endE bilF bilB netF
  simp only [Bool.and_eq_true, decide_eq_true_eq]
 ·intro rec a ha
  have h : ltI ((t.Articles.length : Nat) : Int) (lenI (List.map GArticle.cs t.Articles)) = false := by simp [ltI, lenI]
  show g_bill_sum_l6 n t c s rec a.1 a.2.1 ((t.Articles.length : Nat) : Int) a.2.2.1 a.2.2.2 = _
  unfold g_bill_sum_l6
  rw [h, cond_false, b_sum1 n _ _ _ _ ha.1 ha.2.2.1]
  simp [linF, linB, rateF, capR, sumF]
 ·intro rec a i x r hi0 hd hx hi hw hr
  have h3 : ltI (i : Int) (lenI (List.map GArticle.cs t.Articles)) = true := by
   simp only [ltI, lenI, List.length_map]
   rw [decide_eq_true (by omega)]
  have hidx := drop_idx hd hi
  have hxa := hall x (List.mem_of_getElem? hx)
  have hA := artB_art hxa
  simp only [List.length_cons, hidx.1]
  simp only [hidx.2] at hr
  obtain ⟨rate, cap, acc, z⟩ := a
  simp only at hi0 ⊢
  show g_bill_sum_l6 n t c s rec rate cap (i : Int) acc z = _
  unfold g_bill_sum_l6
  rw [h3, cond_true, getI_nat, hx, Option.bind_some, hw]
  simp only [eqI_d]
  unfold linF rateF capR
  by_cases k5 : x.Kind = 5
  ·rw [decide_eq_true k5, cond_true, if_pos (Or.inl k5), if_neg (show ¬ x.Kind = 6 by omega), if_pos k5]
   have hcap := fun k => hr (rate, k, acc, z) ⟨hi0.1, by simp only; omega, hi0.2.2.1, by simp only; omega⟩
   simp only at hcap
   simp only [ltI, cond_some, Option.bind_some]
   rw [hcap, hcap]
   by_cases c1 : cap < 0
   ·simp [c1]
   ·by_cases c2 : x.Price < cap <;> simp [c1, c2]
  rw [decide_eq_false k5, cond_false]
  by_cases k6 : x.Kind = 6
  ·have := hr (x.Price, cap, acc, z) ⟨⟨hA.price.1, hA.rate k6⟩, by simp only; omega, by simp only; omega, by simp only; omega⟩
   simp only at this
   rw [decide_eq_true k6, cond_true, if_pos (Or.inr k6), if_pos k6, if_neg k5, this]
  rw [decide_eq_false k6, cond_false, if_neg (show ¬ (x.Kind = 5 ∨ x.Kind = 6) by omega), if_neg k6, if_neg k5]
  have g2 := (r_line n c x s hn h1 h2 hc hxa hv).2
  have hj : ∀ y, 0 ≤ y → y ≤ 1000000000 → g_bill_sum_j10 rate cap (i : Int) acc z rec y = some (if linB (linF c s (i + 1) r) then endE (rateF rate r) (capV (capR cap r) (sumF (z + y) (linF c s (i + 1) r))) (acc.toL ++ ⟨(i : Int), y⟩ :: linF c s (i + 1) r) else .error 3) := by
   intro y hy0 hy
   unfold g_bill_sum_j10
   have hroom : roomB (List.length (acc.toL ++ [(⟨(i : Int), y⟩ : GLine)])) 16 = true := by
    simp only [roomB, List.length_append, List.length_cons, List.length_nil]
    rw [decide_eq_true]
    omega
   have := hr (rate, cap, OL.own (acc.toL ++ [(⟨(i : Int), y⟩ : GLine)]), z + y) ⟨hi0.1, by simp only [OL.toL_own, List.length_append, List.length_cons, List.length_nil]; omega, by simp only; omega, by simp only; omega⟩
   simp only at this
   rw [hroom, cond_true, wi_id (x := z + y) (by omega) (by omega), hw, this]
   simp only [OL.toL_own, List.append_assoc, List.singleton_append]
  have hgoal : ∀ (y : Int), cosF c s x = y → 0 ≤ y → ∀ (p : Option (Except Int GBill)), p = (exc (fun y => g_bill_sum_j10 rate cap (i : Int) acc z rec y) (fun e => some (.error e)) (amt y)) →
    p = some (if linB (⟨(i : Int), cosF c s x⟩ :: linF c s (i + 1) r) then endE (rateF rate r) (capV (capR cap r) (sumF z (⟨(i : Int), cosF c s x⟩ :: linF c s (i + 1) r))) (acc.toL ++ ⟨(i : Int), cosF c s x⟩ :: linF c s (i + 1) r) else .error 3) := by
   rintro y rfl hy0 p rfl
   rw [linB_cons]
   unfold amt
   by_cases hb : cosF c s x ≤ 1000000000
   ·rw [if_pos hb, decide_eq_true hb]
    simp only [exc, Bool.true_and]
    rw [hj _ hy0 hb, show ∀ l, sumF z (⟨(i : Int), cosF c s x⟩ :: l) = sumF (wi (z + cosF c s x)) l from fun _ => rfl, wi_id (x := z + cosF c s x) (by omega) (by omega)]
   ·rw [if_neg hb, decide_eq_false hb]
    rfl
  have hcos : cosF c s x = if x.Kind = 1 then (if appB c x s.From then x.Price else 0) else if x.Kind = 2 then wi (Int.tdiv (wi (wi (wi (2 * x.Price) * eneF c x 0 s.Slices) + 1000)) 2000) else if x.Kind = 3 then staF c x s.From s.To else if x.Kind = 4 then staF c x s.End s.To else 0 := rfl
  by_cases k1 : x.Kind = 1
  ·rw [decide_eq_true k1, cond_true]
   rw [if_pos k1] at hcos
   unfold g_bb_applies
   have hp := hA.price
   rw [b_applies n c x s.From (by omega) h1 h2 hc hxa (by omega), Option.bind_some, Option.bind_some]
   cases happ : appB c x s.From
   ·rw [happ] at hcos
    refine hgoal 0 hcos (Int.le_refl _) _ ?_
    rfl
   ·rw [happ] at hcos
    refine hgoal x.Price hcos hp.1 _ ?_
    unfold amt
    rw [if_pos (by omega)]; rfl
  rw [decide_eq_false k1, cond_false]
  rw [if_neg k1] at hcos
  by_cases k2 : x.Kind = 2
  ·rw [decide_eq_true k2, cond_true]
   rw [if_pos k2] at hcos
   have hloop : loopN (fun recl13 (v : Int × Int) => g_bill_sum_l13 n c s x recl13 v.1 v.2) n (0, 0) = some (eneF c x 0 s.Slices) := by
    have := loop_acc (l := s.Slices) (B := fun recl13 (v : Int × Int) => g_bill_sum_l13 n c s x recl13 v.1 v.2) (F := eneF c x) (by omega) ?_ ?_ (n := n) 0 0 (by omega) (by omega)
    ·exact this
    ·intro rec z
     have h : ltI ((s.Slices.length : Nat) : Int) (lenI (List.map GSlice.cs s.Slices)) = false := by simp [ltI, lenI]
     show g_bill_sum_l13 n c s x rec z ((s.Slices.length : Nat) : Int) = some z
     unfold g_bill_sum_l13
     rw [h, cond_false]
    ·intro rec z i y q hd hy hi hw hr
     have h3 : ltI (i : Int) (lenI (List.map GSlice.cs s.Slices)) = true := by
      simp only [ltI, lenI, List.length_map]
      rw [decide_eq_true (by omega)]
     have hym := hm y (List.mem_of_getElem? hy)
     show g_bill_sum_l13 n c s x rec z (i : Int) = some (eneF c x z (y :: q))
     unfold g_bill_sum_l13 eneF g_bb_applies
     rw [h3, cond_true, getI_nat, hy, Option.bind_some, b_applies n c x y.Minute (by omega) h1 h2 hc hxa (by omega), Option.bind_some, Option.bind_some, hw, hr, hr]
     cases appB c x y.Minute
     ·rfl
     ·rfl
   have he := eneF_range c x s.Slices 0 (fun y hy => by have := hm y hy; omega) (by omega) (by omega)
   obtain ⟨g3, g4⟩ := r_times n x.Price (eneF c x 0 s.Slices) hA.price (by omega)
   refine hgoal _ hcos g4 _ ?_
   refine (congrArg (fun o => Option.bind o _) hloop).trans ?_
   rw [Option.bind_some, b_times, g3, Option.bind_some]
   refine (congrArg (fun o => Option.bind o _) (b_must n _)).trans ?_
   rw [Option.bind_some]
  rw [decide_eq_false k2, cond_false]
  rw [if_neg k2] at hcos
  by_cases k3 : x.Kind = 3
  ·rw [decide_eq_true k3, cond_true]
   rw [if_pos k3] at hcos
   refine hgoal _ hcos (by rw [← hcos]; exact g2) _ ?_
   rw [b_stretch n c x s s.From s.To hn h1 h2 hc hxa (Or.inl k3) hrng.1 (by omega) (by omega), Option.bind_some]
  rw [decide_eq_false k3, cond_false]
  rw [if_neg k3] at hcos
  by_cases k4 : x.Kind = 4
  ·rw [decide_eq_true k4, cond_true]
   rw [if_pos k4] at hcos
   refine hgoal _ hcos (by rw [← hcos]; exact g2) _ ?_
   rw [b_stretch n c x s s.End s.To hn h1 h2 hc hxa (Or.inr k4) (by omega) (by omega) (by omega), Option.bind_some]
  have := hA.kind
  omega
theorem b_bill (n : Nat) (t : GTariff) (c : GCalendar) (s : GSession) (hn : 10000 ≤ n) (h1 : c.Changes.length ≤ 900) (h2 : c.Holidays.length ≤ 900) (h3 : s.Slices.length ≤ 900) (hb : i64b s.To) :
  g_bill_Bill n t c s = some (if (tariffB t && calB c && valB s) = true then (if linB (linF c s 0 t.Articles) then (if bilB (bilF t (rateF 0 t.Articles) 0 (linF c s 0 t.Articles)) then (bilF t (rateF 0 t.Articles) 0 (linF c s 0 t.Articles), 0) else (zeroBill, 3)) else (zeroBill, 3)) else (zeroBill, 1)) := by
 unfold g_bill_Bill
 rw [b_tariff n t (by omega), b_cal n c (by omega) h1 h2, b_session n s (by omega) h3 hb]
 simp only [Option.bind_some, cond_some]
 cases ht : tariffB t
 ·rfl
 cases hc : calB c
 ·rfl
 cases hv : valB s
 ·rfl
 rw [b_sum n t c s hn h1 h2 hc ht hv]
 simp only [Bool.not_true, cond_false, Option.bind_some, Bool.and_self, if_true]
 cases linB (linF c s 0 t.Articles)
 ·rfl
 ·cases bilB (bilF t (rateF 0 t.Articles) 0 (linF c s 0 t.Articles))
  ·rfl
  ·rfl
end Go.Proofs
namespace Go.Proofs
open Go Go.Abs
set_option maxRecDepth 100000
set_option linter.unusedVariables false
theorem head33_big : g_law33_head 36893488147419103232 = some true := by kernel_rfl
def linV (c : GCalendar) (s : GSession) (a : GArticle) : Int × Int := if (artB a && calB c && valB s) = true then (if cosF c s a ≤ 1000000000 then (cosF c s a, 0) else (0, 3)) else (0, 1)
def bilV (t : GTariff) (c : GCalendar) (s : GSession) : GBill × Int := if (tariffB t && calB c && valB s) = true then (if linB (linF c s 0 t.Articles) then (if bilB (bilF t (rateF 0 t.Articles) 0 (linF c s 0 t.Articles)) then (bilF t (rateF 0 t.Articles) 0 (linF c s 0 t.Articles), 0) else (zeroBill, 3)) else (zeroBill, 3)) else (zeroBill, 1)
theorem b_billV (n : Nat) (t : GTariff) (c : GCalendar) (s : GSession) (hn : 10000 ≤ n) (h1 : c.Changes.length ≤ 900) (h2 : c.Holidays.length ≤ 900) (h3 : s.Slices.length ≤ 900) (hb : i64b s.To) : g_bill_Bill n t c s = some (bilV t c s) := b_bill n t c s hn h1 h2 h3 hb
theorem r_lineV (n : Nat) (a : GArticle) (c : GCalendar) (s : GSession) (hn : 10000 ≤ n) (h1 : c.Changes.length ≤ 900) (h2 : c.Holidays.length ≤ 900) (h3 : s.Slices.length ≤ 900) (hb : i64b s.From) : g_ref33_Line n a c s = some (linV c s a) := by
 unfold linV
 cases ha : artB a
 ·unfold g_ref33_Line
  rw [r_article, r_cal n c (by omega) h1 h2, r_session_valid n s (by omega) h3 hb, ha]; rfl
 cases hc : calB c
 ·unfold g_ref33_Line
  rw [r_article, r_cal n c (by omega) h1 h2, r_session_valid n s (by omega) h3 hb, ha, hc]; rfl
 cases hv : valB s
 ·unfold g_ref33_Line
  rw [r_article, r_cal n c (by omega) h1 h2, r_session_valid n s (by omega) h3 hb, ha, hc, hv]; rfl
 rw [(r_line n c a s hn h1 h2 hc ha hv).1]; rfl
theorem r_billV (n : Nat) (t : GTariff) (c : GCalendar) (s : GSession) (hn : 10000 ≤ n) (h1 : c.Changes.length ≤ 900) (h2 : c.Holidays.length ≤ 900) (h3 : s.Slices.length ≤ 900) (h4 : t.Name.length ≤ 900) (hb : i64b s.From) : g_ref33_Bill n t c s = some (bilV t c s) := by
 unfold bilV
 cases ht : tariffB t
 ·unfold g_ref33_Bill
  rw [r_tariff n t (by omega) h4, r_cal n c (by omega) h1 h2, r_session_valid n s (by omega) h3 hb, ht]; rfl
 cases hc : calB c
 ·unfold g_ref33_Bill
  rw [r_tariff n t (by omega) h4, r_cal n c (by omega) h1 h2, r_session_valid n s (by omega) h3 hb, ht, hc]; rfl
 cases hv : valB s
 ·unfold g_ref33_Bill
  rw [r_tariff n t (by omega) h4, r_cal n c (by omega) h1 h2, r_session_valid n s (by omega) h3 hb, ht, hc, hv]; rfl
 rw [r_bill n t c s hn h1 h2 hc ht hv]; rfl
theorem alone_ok (a : GArticle) : tariffB ⟨[97, 108, 111, 110, 101], [a]⟩ = artB a := by
 unfold tariffB
 rw [show nameB (⟨[97, 108, 111, 110, 101], [a]⟩ : GTariff).Name = true from (by decide : nameB [97, 108, 111, 110, 101] = true)]
 show (true && true && (artB a && decide ((if a.Kind = 6 then (0 : Int) + 1 else 0) ≤ 1))) = artB a
 rw [decide_eq_true (by split <;> omega)]
 simp
theorem b_lineV (n : Nat) (a : GArticle) (c : GCalendar) (s : GSession) (hn : 10000 ≤ n) (h1 : c.Changes.length ≤ 900) (h2 : c.Holidays.length ≤ 900) (h3 : s.Slices.length ≤ 900) (hb : i64b s.To) : g_bill_Line n a c s = some (linV c s a) := by
 unfold g_bill_Line linV
 rw [b_tariff n _ (by omega), alone_ok, b_cal n c (by omega) h1 h2, b_session n s (by omega) h3 hb]
 simp only [Option.bind_some, cond_some]
 cases ha : artB a
 ·rfl
 cases hc : calB c
 ·rfl
 cases hv : valB s
 ·rfl
 simp only [Bool.not_true, cond_false, Bool.and_self, if_true, eqI_d]
 have hA := artB_art ha
 have hv' := hv
 simp only [valB, Bool.and_eq_true, decide_eq_true_eq] at hv'
 obtain ⟨hrng, hsl⟩ := hv'
 have hm := slB_mem hsl
 have g2 := (r_line n c a s hn h1 h2 hc ha hv).2
 have hcos : cosF c s a = if a.Kind = 1 then (if appB c a s.From then a.Price else 0) else if a.Kind = 2 then wi (Int.tdiv (wi (wi (wi (2 * a.Price) * eneF c a 0 s.Slices) + 1000)) 2000) else if a.Kind = 3 then staF c a s.From s.To else if a.Kind = 4 then staF c a s.End s.To else 0 := rfl
 have hend : ∀ (y : Int), cosF c s a = y → ∀ (p : Option (Int × Int)), p = (exc (fun y => g_bill_Line_j8 n y) (fun e => (g_bill_caught_2 n e 0).bind fun r => some (0, r)) (amt y)) → p = some (if cosF c s a ≤ 1000000000 then (cosF c s a, 0) else (0, 3)) := by
  rintro y rfl p rfl
  unfold amt
  by_cases hb : cosF c s a ≤ 1000000000
  ·rw [if_pos hb, if_pos hb]; rfl
  ·rw [if_neg hb, if_neg hb]; rfl
 by_cases k1 : a.Kind = 1
 ·rw [decide_eq_true k1, cond_true]
  rw [if_pos k1] at hcos
  unfold g_bb_applies
  have hp := hA.price
  rw [b_applies n c a s.From (by omega) h1 h2 hc ha (by omega), Option.bind_some, Option.bind_some]
  cases happ : appB c a s.From
  ·rw [happ] at hcos
   exact hend 0 hcos _ rfl
  ·rw [happ] at hcos
   refine hend a.Price hcos _ ?_
   unfold amt
   rw [if_pos (by omega)]; rfl
 rw [decide_eq_false k1, cond_false]
 rw [if_neg k1] at hcos
 by_cases k2 : a.Kind = 2
 ·rw [decide_eq_true k2, cond_true]
  rw [if_pos k2] at hcos
  have hloop : loopN (fun recl12 (v : Int × Int) => g_bill_Line_l12 n a c s recl12 v.1 v.2) n (0, 0) = some (eneF c a 0 s.Slices) := by
   have := loop_acc (l := s.Slices) (B := fun recl12 (v : Int × Int) => g_bill_Line_l12 n a c s recl12 v.1 v.2) (F := eneF c a) (by omega) ?_ ?_ (n := n) 0 0 (by omega) (by omega)
   ·exact this
   ·intro rec z
    have h : ltI ((s.Slices.length : Nat) : Int) (lenI (List.map GSlice.cs s.Slices)) = false := by simp [ltI, lenI]
    show g_bill_Line_l12 n a c s rec z ((s.Slices.length : Nat) : Int) = some z
    unfold g_bill_Line_l12
    rw [h, cond_false]
   ·intro rec z i y q hd hy hi hw hr
    have h3 : ltI (i : Int) (lenI (List.map GSlice.cs s.Slices)) = true := by
     simp only [ltI, lenI, List.length_map]
     rw [decide_eq_true (by omega)]
    have hym := hm y (List.mem_of_getElem? hy)
    show g_bill_Line_l12 n a c s rec z (i : Int) = some (eneF c a z (y :: q))
    unfold g_bill_Line_l12 eneF g_bb_applies
    rw [h3, cond_true, getI_nat, hy, Option.bind_some, b_applies n c a y.Minute (by omega) h1 h2 hc ha (by omega), Option.bind_some, Option.bind_some, hw, hr, hr]
    cases appB c a y.Minute
    ·rfl
    ·rfl
  have he := eneF_range c a s.Slices 0 (fun y hy => by have := hm y hy; omega) (by omega) (by omega)
  obtain ⟨g3, g4⟩ := r_times n a.Price (eneF c a 0 s.Slices) hA.price (by omega)
  refine hend _ hcos _ ?_
  refine (congrArg (fun o => Option.bind o _) hloop).trans ?_
  rw [Option.bind_some, b_times, g3, Option.bind_some]
  refine (congrArg (fun o => Option.bind o _) (b_must n _)).trans ?_
  rw [Option.bind_some]
 rw [decide_eq_false k2, cond_false]
 rw [if_neg k2] at hcos
 by_cases k3 : a.Kind = 3
 ·rw [decide_eq_true k3, cond_true]
  rw [if_pos k3] at hcos
  refine hend _ hcos _ ?_
  rw [b_stretch n c a s s.From s.To hn h1 h2 hc ha (Or.inl k3) hrng.1 (by omega) (by omega), Option.bind_some]
 rw [decide_eq_false k3, cond_false]
 rw [if_neg k3] at hcos
 by_cases k4 : a.Kind = 4
 ·rw [decide_eq_true k4, cond_true]
  rw [if_pos k4] at hcos
  refine hend _ hcos _ ?_
  rw [b_stretch n c a s s.End s.To hn h1 h2 hc ha (Or.inr k4) (by omega) (by omega) (by omega), Option.bind_some]
 rw [decide_eq_false k4, cond_false]
 rw [if_neg k4] at hcos
 exact hend 0 hcos _ rfl
theorem few33 (n : Nat) (t : GTariff) (k : GCalendar) (s : GSession) : ∃ b, g_ref33_Few n t k s = some b ∧ (b = true → t.Articles.length ≤ 20 ∧ s.Slices.length ≤ 60 ∧ k.Changes.length ≤ 30 ∧ k.Holidays.length ≤ 60 ∧ t.Name.length ≤ 50) := by
 unfold g_ref33_Few g_ref26_Few
 simp only [cond_some, Option.bind_some, lenI, List.length_map, leI]
 refine ⟨_, rfl, fun h => ?_⟩
 simp [Bool.cond_eq_ite] at h
 omega
theorem bilV_len (t : GTariff) (c : GCalendar) (s : GSession) (h : t.Articles.length ≤ 900) : (bilV t c s).1.Lines.length ≤ 900 := by
 have := linF_len c s t.Articles 0
 unfold bilV
 split
 ·split
  ·split
   ·show (linF c s 0 t.Articles).length ≤ 900
    omega
   ·exact Nat.zero_le _
  ·exact Nat.zero_le _
 ·exact Nat.zero_le _
theorem matches33_plain (t : GTariff) (a : GArticle) (c : GCalendar) (s : GSession) (hf : i64b s.From) (hb : i64b s.To) : g_law33_BillMatchesReference 36893488147419103232 t a c s = some true := by
 unfold g_law33_BillMatchesReference
 generalize hn : (36893488147419103232 : Nat) = n
 have hh : g_law33_head n = some true := by rw [← hn]; exact head33_big
 obtain ⟨b, f1, f2⟩ := few33 n t c s
 rw [hh, Option.bind_some, f1, Option.bind_some]
 cases b
 ·rfl
 have f3 := f2 rfl
 rw [Bool.not_true, cond_false, b_billV n t c s (by omega) (by omega) (by omega) (by omega) hb, Option.bind_some, r_billV n t c s (by omega) (by omega) (by omega) (by omega) (by omega) hf, Option.bind_some, b_lineV n a c s (by omega) (by omega) (by omega) (by omega) hb, Option.bind_some, r_lineV n a c s (by omega) (by omega) (by omega) (by omega) hf, Option.bind_some, cond_true]
 rw [a_sameBill n _ _ (by omega) (bilV_len t c s (by omega)), Option.bind_some, decide_eq_true rfl, cond_true, b_session n s (by omega) (by omega) hb, r_session_valid n s (by omega) (by omega) hf]
 simp only [eqI_d, decide_true, cond_true, Option.bind_some, opq]
 cases valB s <;> rfl
end Go.Proofs
namespace Go.Proofs.Ytlpflajahcpfkaa
open Go Go.Abs Go.Proofs
theorem billMatchesReference_holds : Rows.BillMatchesReferenceSaid :=
 billMatchesReference_said (fun t a c s _ _ _ hs => ⟨_, matches33_plain t a c s hs.From hs.To⟩)
end Go.Proofs.Ytlpflajahcpfkaa
