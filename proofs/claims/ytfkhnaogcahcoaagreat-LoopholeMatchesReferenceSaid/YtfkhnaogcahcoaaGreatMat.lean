/-
  Proved: LoopholeMatchesReference. For any tariff, calendar, session, cuts and numbers all functions of package loophole return what the reference implementation returns. No conditions beyond those of the given statement.
-/
import Derived.Test.YtfkhnaogcahcoaaGreatMat05
namespace Go.Proofs
open Go Go.Abs
set_option maxRecDepth 100000
set_option linter.unusedVariables false
def segS (t : GTf) (c : GCl) (s : GSs) : Int → List Int → Int
 | f, [] => ptV t c s f s.To
 | f, m :: r => ptV t c s f m + segS t c s m r
theorem segS_range (t : GTf) (c : GCl) (s : GSs) (hcc : c.Changes.length ≤ 900) (hch : c.Holidays.length ≤ 900) : ∀ (l : List Int) (f : Int), 0 ≤ segS t c s f l ∧ segS t c s f l ≤ 1000000001 * (l.length + 1)
 | [], f => by
  have := ptV_range t c s f s.To hcc hch
  simp only [segS, List.length_nil]
  omega
 | m :: r, f => by
  have h1 := ptV_range t c s f m hcc hch
  have h2 := segS_range t c s hcc hch r m
  simp only [segS, List.length_cons]
  omega
def alB (t : GTf) (c : GCl) (s : GSs) : Bool := tariffB t && calB c && valB s
def prcV (t : GTf) (c : GCl) (s : GSs) (l : List Int) : Int × Int := if (alB t c s && cutsB s l) = true then (if segS t c s s.From l ≤ 1000000000 then (segS t c s s.From l, 0) else (0, 3)) else (0, 1)
theorem l_valid (n : Nat) (t : GTf) (c : GCl) (s : GSs) (hn : 10000 ≤ n) (h1 : c.Changes.length ≤ 900) (h2 : c.Holidays.length ≤ 900) (hb : i64b s.To) : g_l_valid n t c s = some (alB t c s) := by
 unfold g_l_valid alB
 rw [b_tariff n t (by omega), obs, b_cal n c (by omega) h1 h2, obs, l_session n s (by omega) hb, obs]
 cases tariffB t <;> cases calB c <;> cases valB s <;> rfl
theorem l_pay (n : Nat) (t : GTf) (c : GCl) (s : GSs) (f e : Int) (hn : 10000 ≤ n) (h1 : c.Changes.length ≤ 900) (h2 : c.Holidays.length ≤ 900) (hl : s.Slices.length ≤ 900) (he : i64b e) :
  (g_l_part n s f e).bind (g_bill_Bill n t c) = some (bilV t c (parV s f e)) := by
 rw [l_part n s f e (by omega) hl, obs, b_billV n t c _ hn h1 h2 (by have := parL_len f e s.Slices; unfold parV; simp only; omega) he]
def endL (s : GSs) (l : List Int) : List Int := l ++ [s.To]
theorem cutB_mem {e : Int} : ∀ (l : List Int) (b : Int), cutB e b l = true → ∀ x ∈ l, b < x ∧ x < e
 | [], _, _, x, hx => by cases hx
 | y :: l, b, h, x, hx => by
  simp only [cutB, bae, decide_eq_true_eq] at h
  rcases List.mem_cons.1 hx with rfl | hx
  ·exact h.1
  ·have := cutB_mem l _ h.2 x hx
   omega
def segE (t : GTf) (c : GCl) (s : GSs) : Int → Int → List Int → Int × Int
 | z, _, [] => if 1000000000 < z then (0, 3) else (z, 0)
 | z, f, m :: r => if (bilV t c (parV s f m)).2 = 0 then segE t c s (z + (bilV t c (parV s f m)).1.Total) m r else (0, (bilV t c (parV s f m)).2)
theorem segE_S (t : GTf) (c : GCl) (s : GSs) (hcc : c.Changes.length ≤ 900) (hch : c.Holidays.length ≤ 900) (ht : tariffB t = true) (hc : calB c = true) (hv : valB s = true) : ∀ (l : List Int) (z f : Int), 0 ≤ z → s.From ≤ f → cutB s.To f l = true → f < s.To →
  segE t c s z f (endL s l) = if z + segS t c s f l ≤ 1000000000 then (z + segS t c s f l, 0) else (0, 3)
 | [], z, f, hz, hf, hl, hft => by
  show (if (bilV t c (parV s f s.To)).2 = 0 then (if 1000000000 < z + (bilV t c (parV s f s.To)).1.Total then ((0 : Int), (3 : Int)) else (z + (bilV t c (parV s f s.To)).1.Total, 0)) else (0, (bilV t c (parV s f s.To)).2)) = if z + ptV t c s f s.To ≤ 1000000000 then (z + ptV t c s f s.To, 0) else (0, 3)
  unfold ptV
  by_cases h0 : (bilV t c (parV s f s.To)).2 = 0
  ·rw [if_pos h0, if_pos h0]
   by_cases h3 : 1000000000 < z + (bilV t c (parV s f s.To)).1.Total
   ·rw [if_pos h3, if_neg (by omega)]
   ·rw [if_neg h3, if_pos (by omega)]
  ·rw [if_neg h0, if_neg h0, bil_err ht hc (parV_val hv hf hft (Int.le_refl _)) h0, if_neg (by omega)]
 | m :: r, z, f, hz, hf, hl, hft => by
  simp only [cutB, bae, decide_eq_true_eq] at hl
  show (if (bilV t c (parV s f m)).2 = 0 then segE t c s (z + (bilV t c (parV s f m)).1.Total) m (endL s r) else (0, (bilV t c (parV s f m)).2)) = if z + (ptV t c s f m + segS t c s m r) ≤ 1000000000 then (z + (ptV t c s f m + segS t c s m r), 0) else (0, 3)
  have hr := segS_range t c s hcc hch r m
  unfold ptV
  by_cases h0 : (bilV t c (parV s f m)).2 = 0
  ·have hb := bil_ok hcc hch h0
   rw [if_pos h0, if_pos h0, segE_S t c s hcc hch ht hc hv r _ m (by omega) (by omega) hl.2 hl.1.2, Int.add_assoc]
  ·rw [if_neg h0, if_neg h0, bil_err ht hc (parV_val hv hf hl.1.1 (by omega)) h0, if_neg (by omega)]
theorem l_price (n : Nat) (t : GTf) (c : GCl) (s : GSs) (l : List Int) (hn : 10000 ≤ n) (h1 : c.Changes.length ≤ 900) (h2 : c.Holidays.length ≤ 900) (hb : i64b s.To) : g_l_Price n t c s l = some (prcV t c s l) := by
 unfold g_l_Price prcV
 rw [l_valid n t c s hn h1 h2 hb, obs]
 cases ha : alB t c s
 ·rfl
 rw [Bool.not_true, cond_false, l_cuts n s l (by omega), obs]
 cases hcu : cutsB s l
 ·rfl
 simp only [obs, Bool.not_true, cond_false, Bool.and_true, if_true]
 have ha' : tariffB t = true ∧ calB c = true ∧ valB s = true := by
  simp only [alB, bae] at ha; exact ⟨ha.1.1, ha.1.2, ha.2⟩
 have hs := valB_spec ha'.2.2
 have hc' : l.length ≤ 4 ∧ cutB s.To s.From l = true := by simpa [cutsB] using hcu
 have key := loop_gen (l := endL s l) (fun (a : Int × Int) i => (a.1, a.2, i)) (B := fun recl6 (v : Int × Int × Int) => g_l_Price_l6 n t c s l recl6 v.1 v.2.1 v.2.2) (F := fun a r => segE t c s a.1 a.2 r) (fun i a => 0 ≤ a.1 ∧ a.1 ≤ 1000000000 * i) (by simp [endL]; omega) ?_ ?_ (n := n) 0 (0, s.From) (by simp) (by omega) (by simp [endL]; omega)
 ·refine Eq.trans key ?_
  rw [List.drop_zero]
  show some (segE t c s 0 s.From (endL s l)) = _
  rw [segE_S t c s h1 h2 ha'.1 ha'.2.1 ha'.2.2 l 0 s.From (Int.le_refl _) (Int.le_refl _) hc'.2 hs.2.1, Int.zero_add]
 ·intro rec a ha0
  have e1 : (endL s l).length = l.length + 1 := by simp [endL]
  simp only [g_l_Price_l6, ltI, lenI, List.length_map]
  rw [wi_id (x := (l.length : Int) + 1) (by omega) (by omega), dzF (show ¬ (((endL s l).length : Nat) : Int) < (l.length : Int) + 1 by omega), cond_false]
  unfold g_l_Price_j5 segE
  simp only [ltI]
  by_cases h3 : 1000000000 < a.1
  ·rw [dzT h3, if_pos h3]; rfl
  ·rw [dzF h3, if_neg h3]; rfl
 ·intro rec a i x r ha0 hd hx hi hw hr
  have e1 : (endL s l).length = l.length + 1 := by simp [endL]
  simp only [g_l_Price_l6, ltI, lenI, List.length_map]
  rw [wi_id (x := (l.length : Int) + 1) (by omega) (by omega), dzT (show (i : Int) < (l.length : Int) + 1 by omega), cond_true]
  have hj : (bif decide ((i : Int) < (l.length : Int)) then (getI l (i : Int)).bind fun x8 => some x8 else some s.To) = some x := by
   by_cases c1 : i < l.length
   ·rw [dzT (by omega), cond_true, getI_nat]
    rw [show (endL s l)[i]? = l[i]? from by simp [endL, List.getElem?_append, c1]] at hx
    rw [hx]; rfl
   ·have : i = l.length := by omega
    subst this
    rw [dzF (by omega), cond_false]
    simpa [endL] using hx
  rw [hj, obs]
  have hx64 : i64b x := by
   have : x ∈ endL s l := List.mem_of_getElem? hx
   rcases List.mem_append.1 this with h | h
   ·have := cutB_mem l _ hc'.2 x h
    unfold i64b; omega
   ·rw [List.mem_singleton] at h; rw [h]; exact hb
  have hp := l_pay n t c s a.2 x hn h1 h2 (by omega) hx64
  have hp2 : ∀ (k : GBill × Int → Option (Int × Int)), ((g_l_part n s a.2 x).bind fun r9 => (g_bill_Bill n t c r9).bind k) = k (bilV t c (parV s a.2 x)) := by
   intro k
   rw [← Option.bind_assoc, hp, obs]
  rw [hp2, eqI_d]
  show _ = some (if (bilV t c (parV s a.2 x)).2 = 0 then segE t c s (a.1 + (bilV t c (parV s a.2 x)).1.Total) x r else (0, (bilV t c (parV s a.2 x)).2))
  by_cases h0 : (bilV t c (parV s a.2 x)).2 = 0
  ·have hbk := bil_ok h1 h2 h0
   rw [dzT h0, Bool.not_true, cond_false, if_pos h0, hw, wi_id (x := a.1 + (bilV t c (parV s a.2 x)).1.Total) (by omega) (by omega)]
   exact hr (a.1 + (bilV t c (parV s a.2 x)).1.Total, x) ⟨by omega, by omega⟩
  ·rw [dzF h0, Bool.not_false, cond_true, if_neg h0]
end Go.Proofs
namespace Go.Proofs
open Go Go.Abs
set_option maxRecDepth 100000
set_option linter.unusedVariables false
def scanM {R : Type} (hit : Int → Option R) : Nat → Int → Option R
 | 0, _ => none
 | k + 1, m => match hit m with
  | some r => some r
  | none => scanM hit k (m + 1)
def orK {R : Type} (o k : Option R) : Option R := match o with | some r => some r | none => k
theorem scan_loop {A R : Type} {lo to : Int} {Inv : A → Prop} {hit : Int → Option R} {K : A → Option R} {B : (Int × A → Option R) → Int × A → Option R}
  (hstep : ∀ rec m a, Inv a → lo ≤ m → m < to → ∃ a', Inv a' ∧ B rec (m, a) = orK (hit m) (rec (m + 1, a')))
  (hend : ∀ rec m a, Inv a → ¬ m < to → B rec (m, a) = K a) :
  ∀ (k j : Nat) (m : Int) (a : A), (to - m).toNat = k → k < j → lo ≤ m → Inv a → ∃ a', Inv a' ∧ loopN B j (m, a) = orK (scanM hit k m) (K a') := by
 intro k
 induction k with
 | zero =>
  intro j m a h1 h2 h3 h4
  obtain ⟨j, rfl⟩ : ∃ j', j = j' + 1 := ⟨j - 1, by omega⟩
  unfold loopN
  exact ⟨a, h4, by rw [hend _ _ _ h4 (by omega)]; rfl⟩
 | succ k ih =>
  intro j m a h1 h2 h3 h4
  obtain ⟨j, rfl⟩ : ∃ j', j = j' + 1 := ⟨j - 1, by omega⟩
  have hi := fun a' => ih j (m + 1) a' (by omega) (by omega) (by omega)
  unfold loopN
  generalize loopN B j = L at hi ⊢
  obtain ⟨a', g1, g2⟩ := hstep L m a h4 h3 (by omega)
  unfold scanM
  cases hm : hit m with
  | some r => rw [hm] at g2; exact ⟨a', g1, g2⟩
  | none =>
   rw [hm] at g2
   obtain ⟨a2, g3, g4⟩ := hi a' g1
   exact ⟨a2, g3, g2.trans g4⟩
theorem scanM_some {R : Type} {hit : Int → Option R} : ∀ {k : Nat} {m : Int} {r : R}, scanM hit k m = some r → ∃ x, m ≤ x ∧ x < m + k ∧ hit x = some r ∧ ∀ y, m ≤ y → y < x → hit y = none
 | 0, m, r, h => by cases h
 | k + 1, m, r, h => by
  unfold scanM at h
  cases hm : hit m with
  | some q =>
   rw [hm] at h
   exact ⟨m, Int.le_refl _, by omega, by rw [hm]; exact h, fun y h1 h2 => by omega⟩
  | none =>
   rw [hm] at h
   obtain ⟨x, h1, h2, h3, h4⟩ := scanM_some h
   refine ⟨x, by omega, by omega, h3, fun y h5 h6 => ?_⟩
   by_cases e : y = m
   ·rw [e]; exact hm
   ·exact h4 y (by omega) h6
theorem scanM_none {R : Type} {hit : Int → Option R} : ∀ {k : Nat} {m : Int}, scanM hit k m = none → ∀ y, m ≤ y → y < m + k → hit y = none
 | 0, m, h, y, h1, h2 => by omega
 | k + 1, m, h, y, h1, h2 => by
  unfold scanM at h
  cases hm : hit m with
  | some q => rw [hm] at h; cases h
  | none =>
   rw [hm] at h
   by_cases e : y = m
   ·rw [e]; exact hm
   ·exact scanM_none h y (by omega) (by omega)
theorem me_iff (a b : GLs) : me_mls a b = true ↔ a = b := by
 cases a; cases b
 simp [me_mls, eqI]
theorem mget_mset {K V : Type} {eq : K → K → Bool} (he : ∀ a b, eq a b = true ↔ a = b) (k k' : K) (v : V) : ∀ m : List (K × V), mget eq k' (mset eq k v m) = bif eq k' k then some v else mget eq k' m
 | [] => by
  unfold mset
  rfl
 | (q, w) :: m => by
  have ih := mget_mset he k k' v m
  unfold mset
  cases h1 : eq k q with
  | true =>
   have := (he _ _).1 h1
   subst this
   rw [cond_true]
   show (bif eq k' k then some v else mget eq k' m) = bif eq k' k then some v else (bif eq k' k then some w else mget eq k' m)
   cases eq k' k <;> rfl
  | false =>
   rw [cond_false]
   show (bif eq k' q then some w else mget eq k' (mset eq k v m)) = bif eq k' k then some v else (bif eq k' q then some w else mget eq k' m)
   rw [ih]
   cases h2 : eq k' q with
   | true =>
    have e2 := (he _ _).1 h2
    cases h3 : eq k' k with
    | true =>
     have e3 := (he _ _).1 h3
     rw [← e3, h2] at h1
     cases h1
    | false => rfl
   | false => cases eq k' k <;> rfl
def TabOk (t : GTf) (c : GCl) (s : GSs) (m : List (GLs × Int)) : Prop := ∀ k v, mget me_mls k m = some v → v = ptV t c s k.from_ k.to_
theorem tab_set {t : GTf} {c : GCl} {s : GSs} {m : List (GLs × Int)} (h : TabOk t c s m) (f e : Int) : TabOk t c s (mset me_mls ⟨f, e⟩ (ptV t c s f e) m) := by
 intro k v hk
 rw [mget_mset me_iff] at hk
 cases q : me_mls k ⟨f, e⟩ with
 | true =>
  rw [q, cond_true] at hk
  rw [(me_iff _ _).1 q]
  exact (Option.some.inj hk).symm
 | false =>
  rw [q, cond_false] at hk
  exact h k v hk
theorem tab_step {n : Nat} {t : GTf} {c : GCl} {s : GSs} {m : List (GLs × Int)} (hn : 10000 ≤ n) (h1 : c.Changes.length ≤ 900) (h2 : c.Holidays.length ≤ 900) (hl : s.Slices.length ≤ 900) (f e : Int) (he : i64b e) (h : TabOk t c s m) :
  ∃ m', TabOk t c s m' ∧ (bif (!(mhas me_mls (⟨f, e⟩ : GLs) m)) then
   ((g_l_part n s f e).bind fun r11 =>
   (g_bill_Bill n t c r11).bind fun r12 =>
   bif (!eqI r12.2 0) then
    (some ((1000000001 : Int), mset me_mls (⟨f, e⟩ : GLs) 1000000001 m))
   else
    (some (r12.1.Total, mset me_mls (⟨f, e⟩ : GLs) r12.1.Total m)))
   else (some (mgetD me_mls (⟨f, e⟩ : GLs) 0 m, m))) = some (ptV t c s f e, m') := by
 unfold mhas mgetD
 cases hg : mget me_mls (⟨f, e⟩ : GLs) m with
 | some v =>
  refine ⟨m, h, ?_⟩
  rw [← h _ _ hg]
  rfl
 | none =>
  refine ⟨mset me_mls ⟨f, e⟩ (ptV t c s f e) m, tab_set h f e, ?_⟩
  have hp2 : ∀ (k : GBill × Int → Option (Int × List (GLs × Int))), ((g_l_part n s f e).bind fun r9 => (g_bill_Bill n t c r9).bind k) = k (bilV t c (parV s f e)) := by
   intro k
   rw [← Option.bind_assoc, l_pay n t c s f e hn h1 h2 hl he, obs]
  rw [show (!Option.isSome (none : Option Int)) = true from rfl, cond_true, hp2, eqI_d]
  unfold ptV
  by_cases h0 : (bilV t c (parV s f e)).2 = 0
  ·rw [dzT h0, Bool.not_true, cond_false, if_pos h0]
  ·rw [dzF h0, Bool.not_false, cond_true, if_neg h0]
abbrev FR := List Int × Bool × Int
def hit1 (t : GTf) (c : GCl) (s : GSs) (a : Int) : Option FR := if segS t c s s.From [a] < segS t c s s.From [] then some ([a], true, 0) else none
def hit2 (t : GTf) (c : GCl) (s : GSs) (a b : Int) : Option FR := if segS t c s s.From [a, b] < segS t c s s.From [] then some ([a, b], true, 0) else none
def hitP (t : GTf) (c : GCl) (s : GSs) (a : Int) : Option FR := scanM (hit2 t c s a) (s.To - (a + 1)).toNat (a + 1)
def fndV (t : GTf) (c : GCl) (s : GSs) (most : Int) : FR :=
 match scanM (hit1 t c s) (s.To - (s.From + 1)).toNat (s.From + 1) with
 | some r => r
 | none => if most < 2 then ([], false, 0) else match scanM (hitP t c s) (s.To - (s.From + 1)).toNat (s.From + 1) with
  | some r => r
  | none => ([], false, 0)
def finV (t : GTf) (c : GCl) (s : GSs) (most : Int) : FR :=
 if (alB t c s && decide (s.To - s.From ≤ 60 ∧ 1 ≤ most ∧ most ≤ 2)) = true then (if segS t c s s.From [] ≤ 1000000000 then fndV t c s most else ([], false, 3)) else ([], false, 1)
section
variable {n : Nat} {t : GTf} {c : GCl} {s : GSs} {most : Int} (hn : 10000 ≤ n) (h1 : c.Changes.length ≤ 900) (h2 : c.Holidays.length ≤ 900) (hv : valB s = true) (hd : s.To - s.From ≤ 60)
theorem l_find9 (hn : 10000 ≤ n) (h1 : c.Changes.length ≤ 900) (h2 : c.Holidays.length ≤ 900) (hv : valB s = true) (a : Int) (ha : s.From < a ∧ a < s.To) (recl8 : (Int × (List (GLs × Int))) → Option FR) (m : List (GLs × Int)) (hm : TabOk t c s m) :
  ∃ m', TabOk t c s m' ∧ loopN (fun recl9 (v : Int × List (GLs × Int)) => g_l_Find_l9 n t c s (segS t c s s.From [], 0) a recl8 recl9 v.1 v.2) n (a + 1, m) = orK (hitP t c s a) (recl8 (a + 1, m')) := by
 have hs := valB_spec hv
 have hw : ∀ (x : Int) (z : List (GLs × Int)), recl8 (wi (a + 1), z) = recl8 (a + 1, z) := fun x z => by rw [wi_id (x := a + 1) (by omega) (by omega)]
 unfold hitP
 refine scan_loop (lo := s.From) (to := s.To) (Inv := TabOk t c s) (hit := hit2 t c s a) (K := fun m' => recl8 (a + 1, m')) (B := fun recl9 (v : Int × List (GLs × Int)) => g_l_Find_l9 n t c s (segS t c s s.From [], 0) a recl8 recl9 v.1 v.2) ?_ ?_ _ n (a + 1) m rfl (by omega) (by omega) hm
 ·intro rec b z hz hb1 hb2
  obtain ⟨m1, k1, g1⟩ := tab_step (n := n) hn h1 h2 (by omega) s.From a (by unfold i64b; omega) hz
  obtain ⟨m2, k2, g2⟩ := tab_step (n := n) hn h1 h2 (by omega) a b (by unfold i64b; omega) k1
  obtain ⟨m3, k3, g3⟩ := tab_step (n := n) hn h1 h2 (by omega) b s.To (by unfold i64b; omega) k2
  refine ⟨m3, k3, ?_⟩
  have r1 := ptV_range t c s s.From a h1 h2
  have r2 := ptV_range t c s a b h1 h2
  have r3 := ptV_range t c s b s.To h1 h2
  show g_l_Find_l9 n t c s (segS t c s s.From [], 0) a recl8 rec b z = _
  unfold g_l_Find_l9
  simp only [ltI]
  rw [dzT hb2, cond_true, g1, obs]
  simp only
  rw [g2, obs]
  simp only
  rw [g3, obs]
  simp only
  rw [wi_id (x := ptV t c s s.From a + ptV t c s a b) (by omega) (by omega), wi_id (x := ptV t c s s.From a + ptV t c s a b + ptV t c s b s.To) (by omega) (by omega), wi_id (x := b + 1) (by omega) (by omega)]
  unfold hit2
  rw [show segS t c s s.From [a, b] = ptV t c s s.From a + (ptV t c s a b + ptV t c s b s.To) from rfl, ← Int.add_assoc]
  by_cases q : ptV t c s s.From a + ptV t c s a b + ptV t c s b s.To < segS t c s s.From []
  ·rw [dzT q, cond_true, if_pos q]; rfl
  ·rw [dzF q, cond_false, if_neg q]; rfl
 ·intro rec b z hz hb
  show g_l_Find_l9 n t c s (segS t c s s.From [], 0) a recl8 rec b z = _
  unfold g_l_Find_l9
  simp only [ltI]
  rw [dzF hb, cond_false, wi_id (x := a + 1) (by omega) (by omega)]
theorem l_find8 (hn : 10000 ≤ n) (h1 : c.Changes.length ≤ 900) (h2 : c.Holidays.length ≤ 900) (hv : valB s = true) (m : List (GLs × Int)) (hm : TabOk t c s m) :
  g_l_Find_j7 n t c s most (segS t c s s.From [], 0) m = some (if most < 2 then ([], false, 0) else match scanM (hitP t c s) (s.To - (s.From + 1)).toNat (s.From + 1) with | some r => r | none => ([], false, 0)) := by
 have hs := valB_spec hv
 unfold g_l_Find_j7
 simp only [ltI]
 by_cases q : most < 2
 ·rw [dzT q, cond_true, if_pos q]
 rw [dzF q, cond_false, if_neg q, wi_id (x := s.From + 1) (by omega) (by omega)]
 have key := scan_loop (lo := s.From + 1) (to := s.To) (Inv := TabOk t c s) (hit := hitP t c s) (K := fun _ => some ([], false, 0)) (B := fun recl8 (v : Int × List (GLs × Int)) => g_l_Find_l8 n t c s (segS t c s s.From [], 0) recl8 v.1 v.2) ?_ ?_ _ n (s.From + 1) m rfl (by omega) (Int.le_refl _) hm
 ·obtain ⟨m', k, g⟩ := key
  refine g.trans ?_
  cases scanM (hitP t c s) (s.To - (s.From + 1)).toNat (s.From + 1) <;> rfl
 ·intro rec a z hz ha1 ha2
  show ∃ m', TabOk t c s m' ∧ g_l_Find_l8 n t c s (segS t c s s.From [], 0) rec a z = _
  unfold g_l_Find_l8
  simp only [ltI]
  rw [dzT ha2, cond_true, wi_id (x := a + 1) (by omega) (by omega)]
  exact l_find9 hn h1 h2 hv a ⟨by omega, ha2⟩ rec z hz
 ·intro rec a z hz ha
  show g_l_Find_l8 n t c s (segS t c s s.From [], 0) rec a z = _
  unfold g_l_Find_l8
  simp only [ltI]
  rw [dzF ha, cond_false]
theorem l_find (hn : 10000 ≤ n) (h1 : c.Changes.length ≤ 900) (h2 : c.Holidays.length ≤ 900) (hb : i64b s.To) : g_l_Find n t c s most = some (finV t c s most) := by
 unfold g_l_Find finV
 rw [l_valid n t c s hn h1 h2 hb, obs]
 cases ha : alB t c s
 ·rfl
 have ha' : tariffB t = true ∧ calB c = true ∧ valB s = true := by
  simp only [alB, bae] at ha; exact ⟨ha.1.1, ha.1.2, ha.2⟩
 have hs := valB_spec ha'.2.2
 simp only [Bool.not_true, cond_false, Bool.true_and, ltI]
 rw [wi_id (x := s.To - s.From) (by omega) (by omega)]
 have ej : (bif decide (60 < s.To - s.From) then some true else bif decide (most < 1) then some true else some (decide (2 < most))) = some (!decide (s.To - s.From ≤ 60 ∧ 1 ≤ most ∧ most ≤ 2)) := by
  by_cases c1 : 60 < s.To - s.From
  ·rw [dzT c1, dzF (show ¬ (s.To - s.From ≤ 60 ∧ 1 ≤ most ∧ most ≤ 2) by omega)]; rfl
  rw [dzF c1, cond_false]
  by_cases c2 : most < 1
  ·rw [dzT c2, dzF (show ¬ (s.To - s.From ≤ 60 ∧ 1 ≤ most ∧ most ≤ 2) by omega)]; rfl
  rw [dzF c2, cond_false]
  by_cases c3 : 2 < most
  ·rw [dzT c3, dzF (show ¬ (s.To - s.From ≤ 60 ∧ 1 ≤ most ∧ most ≤ 2) by omega)]; rfl
  ·rw [dzF c3, dzT (show (s.To - s.From ≤ 60 ∧ 1 ≤ most ∧ most ≤ 2) by omega)]; rfl
 rw [ej, obs]
 by_cases hd : s.To - s.From ≤ 60 ∧ 1 ≤ most ∧ most ≤ 2
 ·rw [dzT hd, Bool.not_true, cond_false, if_pos rfl, l_price n t c s [] hn h1 h2 hb, obs]
  unfold prcV
  rw [ha, show cutsB s [] = true from rfl]
  simp only [Bool.and_true, if_true]
  by_cases hW : segS t c s s.From [] ≤ 1000000000
  ·rw [if_pos hW, if_pos hW, show (!eqI (segS t c s s.From [], (0 : Int)).2 0) = false from rfl, cond_false, wi_id (x := s.From + 1) (by omega) (by omega)]
   have key := scan_loop (lo := s.From + 1) (to := s.To) (Inv := TabOk t c s) (hit := hit1 t c s) (K := fun _ => some (if most < 2 then ([], false, 0) else match scanM (hitP t c s) (s.To - (s.From + 1)).toNat (s.From + 1) with | some r => r | none => ([], false, 0))) (B := fun recl19 (v : Int × List (GLs × Int)) => g_l_Find_l19 n t c s most (segS t c s s.From [], 0) recl19 v.1 v.2) ?_ ?_ _ n (s.From + 1) [] rfl (by omega) (Int.le_refl _) (fun k v hk => by cases hk)
   ·obtain ⟨m', k, g⟩ := key
    refine g.trans ?_
    unfold fndV
    cases scanM (hit1 t c s) (s.To - (s.From + 1)).toNat (s.From + 1) <;> rfl
   ·intro rec a z hz ha1 ha2
    obtain ⟨m1, k1, g1⟩ := tab_step (n := n) hn h1 h2 (by omega) s.From a (by unfold i64b; omega) hz
    obtain ⟨m2, k2, g2⟩ := tab_step (n := n) hn h1 h2 (by omega) a s.To (by unfold i64b; omega) k1
    refine ⟨m2, k2, ?_⟩
    have r1 := ptV_range t c s s.From a h1 h2
    have r2 := ptV_range t c s a s.To h1 h2
    show g_l_Find_l19 n t c s most (segS t c s s.From [], 0) rec a z = _
    unfold g_l_Find_l19
    simp only [ltI]
    rw [dzT ha2, cond_true, g1, obs]
    simp only
    rw [g2, obs]
    simp only
    rw [wi_id (x := ptV t c s s.From a + ptV t c s a s.To) (by omega) (by omega), wi_id (x := a + 1) (by omega) (by omega)]
    unfold hit1
    rw [show segS t c s s.From [a] = ptV t c s s.From a + ptV t c s a s.To from rfl]
    by_cases q : ptV t c s s.From a + ptV t c s a s.To < segS t c s s.From []
    ·rw [dzT q, cond_true, if_pos q]; rfl
    ·rw [dzF q, cond_false, if_neg q]; rfl
   ·intro rec a z hz ha
    show g_l_Find_l19 n t c s most (segS t c s s.From [], 0) rec a z = _
    unfold g_l_Find_l19
    simp only [ltI]
    rw [dzF ha, cond_false]
    exact l_find8 hn h1 h2 ha'.2.2 z hz
  ·rw [if_neg hW, if_neg hW]; rfl
 ·rw [dzF hd, Bool.not_false, cond_true, if_neg (by simp)]
end
end Go.Proofs
namespace Go.Proofs
open Go Go.Abs
set_option maxRecDepth 100000
theorem head34_big : g_law34_head 36893488147419103232 = some true := by kernel_rfl
end Go.Proofs
namespace Go.Proofs
open Go Go.Abs
set_option maxRecDepth 100000
set_option linter.unusedVariables false
theorem l_ints (n : Nat) (al bl : List Int) (hn : 1000 ≤ n) (hl : bl.length ≤ 900) : g_ref34_Ints n al bl = some (decide (al = bl)) := by
 unfold g_ref34_Ints
 simp only [lenI, List.length_map, eqI_d]
 by_cases h : al.length = bl.length
 rotate_left
 ·have h' : ¬ (al.length : Int) = bl.length := by omega
  have h2 : ¬ al = bl := fun h3 => h (by rw [h3])
  simp [h', h2]
 ·rw [dzT (show (al.length : Int) = bl.length from by omega)]
  simp only [Bool.not_true, cond_false]
  have := loop_gen (l := al) (fun (_ : List Int) i => i) (B := fun recl5 l5 => g_ref34_Ints_l1 al bl recl5 l5) (F := fun q r => decide (r = q)) (fun i q => bl.drop i = q) (by omega) ?_ ?_ (n := n) 0 bl (by simp) (by omega) (by omega)
  ·rw [show (((0 : Nat) : Int)) = 0 from rfl] at this
   rw [this]
   simp
  ·intro rec q hq
   simp only [g_ref34_Ints_l1, lenI, List.length_map, ltI]
   rw [dzF (by omega), cond_false]
   rw [h, List.drop_length] at hq
   subst hq
   simp
  ·intro rec q i x r hq hd hx hi hw hr
   have hb : bl[i]? = some bl[i] := by rw [List.getElem?_eq_getElem]
   have hq2 : q = bl[i] :: bl.drop (i + 1) := by rw [← hq, List.drop_eq_getElem_cons (by omega)]
   simp only [g_ref34_Ints_l1, lenI, List.length_map, ltI, getI_nat, hx, hb, obs, eqI_d, hw]
   rw [dzT (by omega), cond_true, hr _ rfl, hq2]
   generalize bl[i] = y
   by_cases h1 : x = y <;> simp [h1]
theorem l_same (n : Nat) (a b : GSs) (hn : 1000 ≤ n) (hl : b.Slices.length ≤ 900) : g_ref34_Same n a b = some (decide (a = b)) := by
 obtain ⟨af, at', ae, al⟩ := a
 obtain ⟨bf, bt, be, bl⟩ := b
 unfold g_ref34_Same
 simp only [lenI, List.length_map, eqI_d, cond_some, obs] at hl ⊢
 by_cases c1 : af = bf
 rotate_left
 ·simp [c1]
 by_cases c2 : at' = bt
 rotate_left
 ·simp [c1, c2]
 by_cases c3 : ae = be
 rotate_left
 ·simp [c1, c2, c3]
 subst c1 c2 c3
 by_cases h : al.length = bl.length
 rotate_left
 ·have h' : ¬ (al.length : Int) = bl.length := by omega
  have h2 : ¬ al = bl := fun h3 => h (by rw [h3])
  simp [h', h2]
 ·rw [dzT (show (al.length : Int) = bl.length from by omega)]
  simp only [decide_true, Bool.not_true, cond_false]
  have := loop_gen (l := al) (fun (_ : List GSl) i => i) (B := fun recl5 l5 => g_ref34_Same_l5 ⟨af, at', ae, al⟩ ⟨af, at', ae, bl⟩ recl5 l5) (F := fun q r => decide (r = q)) (fun i q => bl.drop i = q) (by omega) ?_ ?_ (n := n) 0 bl (by simp) (by omega) (by omega)
  ·rw [show (((0 : Nat) : Int)) = 0 from rfl] at this
   rw [this]
   simp
  ·intro rec q hq
   simp only [g_ref34_Same_l5, lenI, List.length_map, ltI]
   rw [dzF (by omega), cond_false]
   rw [h, List.drop_length] at hq
   subst hq
   simp
  ·intro rec q i x r hq hd hx hi hw hr
   have hb : bl[i]? = some bl[i] := by rw [List.getElem?_eq_getElem]
   have hq2 : q = bl[i] :: bl.drop (i + 1) := by rw [← hq, List.drop_eq_getElem_cons (by omega)]
   simp only [g_ref34_Same_l5, lenI, List.length_map, ltI, getI_nat, hx, hb, obs, eqI_d, opq, hw]
   rw [dzT (by omega), cond_true, hr _ rfl, hq2]
   obtain ⟨xm, xe⟩ := x
   generalize bl[i] = y
   obtain ⟨ym, ye⟩ := y
   by_cases h1 : xm = ym <;> by_cases h2 : xe = ye <;> simp [h1, h2]
theorem fin_ok {t : GTf} {c : GCl} {s : GSs} {most : Int} (h : (finV t c s most).2.2 = 0) : alB t c s = true ∧ s.To - s.From ≤ 60 ∧ 1 ≤ most ∧ most ≤ 2 ∧ segS t c s s.From [] ≤ 1000000000 ∧ finV t c s most = fndV t c s most := by
 unfold finV at h ⊢
 by_cases q : (alB t c s && decide (s.To - s.From ≤ 60 ∧ 1 ≤ most ∧ most ≤ 2)) = true
 ·rw [if_pos q] at h ⊢
  simp only [bae, decide_eq_true_eq] at q
  by_cases w : segS t c s s.From [] ≤ 1000000000
  ·rw [if_pos w]
   exact ⟨q.1, q.2.1, q.2.2.1, q.2.2.2, w, rfl⟩
  ·rw [if_neg w] at h; cases h
 ·rw [if_neg q] at h; cases h
theorem hit1_some {t : GTf} {c : GCl} {s : GSs} {a : Int} {r : FR} (h : hit1 t c s a = some r) : segS t c s s.From [a] < segS t c s s.From [] ∧ r = ([a], true, 0) := by
 unfold hit1 at h
 split at h
 ·rename_i q; exact ⟨q, (Option.some.inj h).symm⟩
 ·cases h
theorem hit1_none {t : GTf} {c : GCl} {s : GSs} {a : Int} (h : hit1 t c s a = none) : segS t c s s.From [] ≤ segS t c s s.From [a] := by
 unfold hit1 at h
 split at h
 ·cases h
 ·omega
theorem hit2_some {t : GTf} {c : GCl} {s : GSs} {a b : Int} {r : FR} (h : hit2 t c s a b = some r) : segS t c s s.From [a, b] < segS t c s s.From [] ∧ r = ([a, b], true, 0) := by
 unfold hit2 at h
 split at h
 ·rename_i q; exact ⟨q, (Option.some.inj h).symm⟩
 ·cases h
theorem hit2_none {t : GTf} {c : GCl} {s : GSs} {a b : Int} (h : hit2 t c s a b = none) : segS t c s s.From [] ≤ segS t c s s.From [a, b] := by
 unfold hit2 at h
 split at h
 ·cases h
 ·omega
inductive Fnd (t : GTf) (c : GCl) (s : GSs) (most : Int) : FR → Prop
 | one (a : Int) (h1 : s.From < a ∧ a < s.To) (h2 : segS t c s s.From [a] < segS t c s s.From []) (h3 : ∀ b, s.From < b → b < a → segS t c s s.From [] ≤ segS t c s s.From [b]) : Fnd t c s most ([a], true, 0)
 | two (a b : Int) (hm : ¬ most < 2) (h1 : s.From < a ∧ a < b ∧ b < s.To) (h2 : segS t c s s.From [a, b] < segS t c s s.From []) (h3 : ∀ x, s.From < x → x < s.To → segS t c s s.From [] ≤ segS t c s s.From [x])
   (h4 : ∀ x y, s.From < x → x < y → y < s.To → x < a ∨ x = a ∧ y < b → segS t c s s.From [] ≤ segS t c s s.From [x, y]) : Fnd t c s most ([a, b], true, 0)
 | no (h3 : ∀ x, s.From < x → x < s.To → segS t c s s.From [] ≤ segS t c s s.From [x]) (h4 : ¬ most < 2 → ∀ x y, s.From < x → x < y → y < s.To → segS t c s s.From [] ≤ segS t c s s.From [x, y]) : Fnd t c s most ([], false, 0)
theorem fnd_spec (t : GTf) (c : GCl) (s : GSs) (most : Int) (hs : s.From < s.To) : Fnd t c s most (fndV t c s most) := by
 unfold fndV
 cases h1 : scanM (hit1 t c s) (s.To - (s.From + 1)).toNat (s.From + 1) with
 | some r =>
  obtain ⟨a, g1, g2, g3, g4⟩ := scanM_some h1
  obtain ⟨k1, rfl⟩ := hit1_some g3
  exact .one a ⟨by omega, by omega⟩ k1 fun b hb1 hb2 => hit1_none (g4 b (by omega) hb2)
 | none =>
  have n1 : ∀ x, s.From < x → x < s.To → segS t c s s.From [] ≤ segS t c s s.From [x] := fun x hx1 hx2 => hit1_none (scanM_none h1 x (by omega) (by omega))
  show Fnd t c s most (if most < 2 then ([], false, 0) else match scanM (hitP t c s) (s.To - (s.From + 1)).toNat (s.From + 1) with
   | some r => r
   | none => ([], false, 0))
  by_cases hm : most < 2
  ·rw [if_pos hm]
   exact .no n1 fun h => absurd hm h
  ·rw [if_neg hm]
   cases h2 : scanM (hitP t c s) (s.To - (s.From + 1)).toNat (s.From + 1) with
   | some r =>
    obtain ⟨a, g1, g2, g3, g4⟩ := scanM_some h2
    unfold hitP at g3
    obtain ⟨b, k1, k2, k3, k4⟩ := scanM_some g3
    obtain ⟨k5, rfl⟩ := hit2_some k3
    refine .two a b hm ⟨by omega, by omega, by omega⟩ k5 n1 fun x y q1 q2 q3 q4 => ?_
    rcases q4 with q4 | ⟨rfl, q4⟩
    ·have := g4 x (by omega) q4
     unfold hitP at this
     exact hit2_none (scanM_none this y (by omega) (by omega))
    ·exact hit2_none (k4 y (by omega) q4)
   | none =>
    refine .no n1 fun _ x y q1 q2 q3 => ?_
    have := scanM_none h2 x (by omega) (by omega)
    unfold hitP at this
    exact hit2_none (scanM_none this y (by omega) (by omega))
end Go.Proofs
namespace Go.Proofs
open Go Go.Abs
set_option maxRecDepth 100000
set_option linter.unusedVariables false
theorem fin_list {t : GTf} {c : GCl} {s : GSs} {most : Int} (h : (finV t c s most).2.2 ≠ 0) : (finV t c s most).1 = [] := by
 unfold finV at h ⊢
 by_cases q : (alB t c s && decide (s.To - s.From ≤ 60 ∧ 1 ≤ most ∧ most ≤ 2)) = true
 ·rw [if_pos q] at h ⊢
  by_cases w : segS t c s s.From [] ≤ 1000000000
  ·rw [if_pos w] at h
   exfalso
   have hv : s.From < s.To := by
    simp only [bae, alB] at q
    exact (valB_spec q.1.2).2.1
   have hF := fnd_spec t c s most hv
   generalize fndV t c s most = X at hF h
   cases hF <;> exact h rfl
  ·rw [if_neg w]
 ·rw [if_neg q]
end Go.Proofs
namespace Go.Proofs
open Go Go.Abs
set_option maxRecDepth 100000
set_option linter.unusedVariables false
theorem minmax_swap (a f t : Int) : minI t (maxI f a) = minI (maxI a f) t := by
 unfold minI maxI; split <;> split <;> (try split) <;> (try split) <;> omega
theorem z_part (n : Nat) (s : GSs) (f t : Int) (hn : 1000 ≤ n) (hl : s.Slices.length ≤ 900) : g_ref34_Part n s f t = some (parV s f t) := by
 unfold g_ref34_Part
 have := loop_gen (l := s.Slices) (fun (a : OL GSl) i => (i, a)) (B := fun recl1 (v : Int × OL GSl) => g_ref34_Part_l1 s f t recl1 v.1 v.2) (F := fun a r => (⟨f, t, minI t (maxI f s.End), a.toL ++ parL f t r⟩ : GSs)) (fun i a => a.toL.length ≤ i) (by omega) ?_ ?_ (n := n) 0 OL.nil (Nat.le_refl _) (by omega) (by omega)
 ·refine Eq.trans this ?_
  simp [parV, OL.toL, minmax_swap]
 ·intro rec a ha
  simp only [g_ref34_Part_l1, lenI, List.length_map, ltI]
  rw [dzF (by omega), cond_false]
  simp [parL]
 ·intro rec a i x r ha hd hx hi hw hr
  simp only [g_ref34_Part_l1, lenI, List.length_map, ltI, leI, getI_nat, hx, obs, hw]
  rw [dzT (by omega), cond_true]
  have e1 : (bif decide (f ≤ x.Minute) then some (decide (x.Minute < t)) else some false) = some (inP f t x) := by
   unfold inP
   cases decide (f ≤ x.Minute) <;> cases decide (x.Minute < t) <;> rfl
  rw [e1, obs]
  have e2 : roomB (List.length (a.toL ++ [x])) 16 = true := by
   simp only [roomB, List.length_append, List.length_cons, List.length_nil, decide_eq_true_eq]
   omega
  rw [e2, cond_true]
  have e3 : parL f t (x :: r) = bif inP f t x then x :: parL f t r else parL f t r := by
   unfold parL
   rw [List.filter_cons]
   cases inP f t x <;> rfl
  rw [e3]
  cases inP f t x
  ·rw [cond_false, cond_false]
   exact hr a (by omega)
  ·rw [cond_true, cond_true]
   refine (hr (OL.own (a.toL ++ [x])) ?_).trans ?_
   ·show (a.toL ++ [x]).length ≤ i + 1
    simp only [List.length_append, List.length_cons, List.length_nil]; omega
   ·simp [OL.toL]
theorem z_split (n : Nat) (s : GSs) (m : Int) (hn : 1000 ≤ n) (hl : s.Slices.length ≤ 900) (hb : i64b s.From) : g_ref34_Split n s m = some (splV s m) := by
 unfold g_ref34_Split splV
 rw [r_session_valid n s hn hl hb, obs]
 cases hv : valB s
 ·rfl
 have hs := valB_spec hv
 simp only [Bool.not_true, cond_false, leI, Bool.true_and]
 by_cases c1 : m ≤ s.From
 ·rw [dzT c1, cond_true, obs, cond_true, dzF (show ¬ s.From < m by omega)]; rfl
 rw [dzF c1, cond_false, obs]
 by_cases c2 : s.To ≤ m
 ·rw [dzT c2, cond_true, dzF (show ¬ m < s.To by omega), Bool.and_false]; rfl
 rw [dzF c2, cond_false, z_part n s s.From m hn (by omega), obs, z_part n s m s.To hn (by omega), obs, dzT (show s.From < m by omega), dzT (show m < s.To by omega)]
 rfl
theorem z_valid (n : Nat) (t : GTf) (c : GCl) (s : GSs) (hn : 10000 ≤ n) (h1 : c.Changes.length ≤ 900) (h2 : c.Holidays.length ≤ 900) (h3 : s.Slices.length ≤ 900) (h4 : t.Name.length ≤ 900) (hb : i64b s.From) : g_ref34_valid n t c s = some (alB t c s) := by
 unfold g_ref34_valid alB
 rw [r_tariff n t (by omega) h4, obs, r_cal n c (by omega) h1 h2, obs, r_session_valid n s (by omega) h3 hb, obs]
 cases tariffB t <;> cases calB c <;> cases valB s <;> rfl
theorem z_pay (n : Nat) (t : GTf) (c : GCl) (s : GSs) (f e : Int) (hn : 10000 ≤ n) (h1 : c.Changes.length ≤ 900) (h2 : c.Holidays.length ≤ 900) (hl : s.Slices.length ≤ 900) (h4 : t.Name.length ≤ 900) (hf : i64b f) :
  (g_ref34_Part n s f e).bind (g_ref33_Bill n t c) = some (bilV t c (parV s f e)) := by
 rw [z_part n s f e (by omega) hl, obs, r_billV n t c _ hn h1 h2 (by have := parL_len f e s.Slices; unfold parV; simp only; omega) h4 hf]
theorem z_price4 (n : Nat) (t : GTf) (c : GCl) (s : GSs) (l : List Int) (hn : 10000 ≤ n) (h1 : c.Changes.length ≤ 900) (h2 : c.Holidays.length ≤ 900) (h4 : t.Name.length ≤ 900) (ht : tariffB t = true) (hc : calB c = true) (hv : valB s = true) (hl : l.length ≤ 4) (hcut : cutB s.To s.From l = true) :
  g_ref34_Price_j4 n t c s l = some (if segS t c s s.From l ≤ 1000000000 then (segS t c s s.From l, 0) else (0, 3)) := by
 have hs := valB_spec hv
 unfold g_ref34_Price_j4
 have key := loop_gen (l := endL s l) (fun (a : Int × Int) i => (a.1, a.2, i)) (B := fun recl6 (v : Int × Int × Int) => g_ref34_Price_l6 n t c s l recl6 v.1 v.2.1 v.2.2) (F := fun a r => segE t c s a.1 a.2 r) (fun i a => 0 ≤ a.1 ∧ a.1 ≤ 1000000000 * i ∧ s.From ≤ a.2 ∧ a.2 ≤ s.To ∧ (i ≤ l.length → a.2 < s.To ∧ cutB s.To a.2 (l.drop i) = true)) (by simp [endL]; omega) ?_ ?_ (n := n) 0 (0, s.From) ⟨by omega, by omega, by omega, by simp only; omega, fun _ => ⟨hs.2.1, hcut⟩⟩ (by omega) (by simp [endL]; omega)
 ·refine Eq.trans key ?_
  rw [List.drop_zero]
  show some (segE t c s 0 s.From (endL s l)) = _
  rw [segE_S t c s h1 h2 ht hc hv l 0 s.From (Int.le_refl _) (Int.le_refl _) hcut hs.2.1, Int.zero_add]
 ·intro rec a ha0
  have e1 : (endL s l).length = l.length + 1 := by simp [endL]
  simp only [g_ref34_Price_l6, leI, lenI, List.length_map]
  rw [dzF (show ¬ (((endL s l).length : Nat) : Int) ≤ (l.length : Int) by omega), cond_false]
  unfold g_ref34_Price_j5 segE
  simp only [ltI]
  by_cases h3 : 1000000000 < a.1
  ·rw [dzT h3, if_pos h3]; rfl
  ·rw [dzF h3, if_neg h3]; rfl
 ·intro rec a i x r ha0 hd hx hi hw hr
  have e1 : (endL s l).length = l.length + 1 := by simp [endL]
  obtain ⟨i1, i2, i3, i4, i5⟩ := ha0
  obtain ⟨i6, i7⟩ := i5 (by omega)
  simp only [g_ref34_Price_l6, ltI, leI, lenI, List.length_map]
  rw [dzT (show (i : Int) ≤ (l.length : Int) by omega), cond_true]
  have hj : (bif decide ((i : Int) < (l.length : Int)) then (getI l (i : Int)).bind fun x8 => some x8 else some s.To) = some x := by
   by_cases c1 : i < l.length
   ·rw [dzT (by omega), cond_true, getI_nat]
    rw [show (endL s l)[i]? = l[i]? from by simp [endL, List.getElem?_append, c1]] at hx
    rw [hx]; rfl
   ·have : i = l.length := by omega
    subst this
    rw [dzF (by omega), cond_false]
    simpa [endL] using hx
  have hxr : a.2 < x ∧ x ≤ s.To ∧ (i + 1 ≤ l.length → x < s.To ∧ cutB s.To x (l.drop (i + 1)) = true) := by
   by_cases c1 : i < l.length
   ·rw [show (endL s l)[i]? = l[i]? from by simp [endL, List.getElem?_append, c1]] at hx
    have e2 : l.drop i = x :: l.drop (i + 1) := by
     rw [List.drop_eq_getElem_cons c1]
     rw [List.getElem?_eq_getElem c1] at hx
     rw [Option.some.inj hx]
    rw [e2] at i7
    simp only [cutB, bae, decide_eq_true_eq] at i7
    exact ⟨i7.1.1, by omega, fun _ => ⟨i7.1.2, i7.2⟩⟩
   ·have : i = l.length := by omega
    subst this
    have : s.To = x := by simpa [endL] using hx
    exact ⟨by omega, by omega, fun h => by omega⟩
  rw [hj, obs]
  have hp := z_pay n t c s a.2 x hn h1 h2 (by omega) h4 (by unfold i64b; omega)
  have hp2 : ∀ (k : GBill × Int → Option (Int × Int)), ((g_ref34_Part n s a.2 x).bind fun r9 => (g_ref33_Bill n t c r9).bind k) = k (bilV t c (parV s a.2 x)) := by
   intro k
   rw [← Option.bind_assoc, hp, obs]
  rw [hp2, eqI_d]
  show _ = some (if (bilV t c (parV s a.2 x)).2 = 0 then segE t c s (a.1 + (bilV t c (parV s a.2 x)).1.Total) x r else (0, (bilV t c (parV s a.2 x)).2))
  by_cases h0 : (bilV t c (parV s a.2 x)).2 = 0
  ·have hbk := bil_ok h1 h2 h0
   rw [dzT h0, Bool.not_true, cond_false, if_pos h0, hw, wi_id (x := a.1 + (bilV t c (parV s a.2 x)).1.Total) (by omega) (by omega)]
   exact hr (a.1 + (bilV t c (parV s a.2 x)).1.Total, x) ⟨by omega, by omega, by show s.From ≤ x; omega, hxr.2.1, hxr.2.2⟩
  ·rw [dzF h0, Bool.not_false, cond_true, if_neg h0, bil_err ht hc (parV_val hv i3 hxr.1 hxr.2.1) h0]
theorem z_price (n : Nat) (t : GTf) (c : GCl) (s : GSs) (l : List Int) (hn : 10000 ≤ n) (h1 : c.Changes.length ≤ 900) (h2 : c.Holidays.length ≤ 900) (h3 : s.Slices.length ≤ 900) (h4 : t.Name.length ≤ 900) (hb : i64b s.From) : g_ref34_Price n t c s l = some (prcV t c s l) := by
 unfold g_ref34_Price prcV
 rw [z_valid n t c s hn h1 h2 h3 h4 hb, obs]
 cases ha : alB t c s
 ·rfl
 simp only [Bool.not_true, cond_false, Bool.true_and, ltI, lenI, List.length_map]
 have ha' : tariffB t = true ∧ calB c = true ∧ valB s = true := by
  simp only [alB, bae] at ha; exact ⟨ha.1.1, ha.1.2, ha.2⟩
 have hs := valB_spec ha'.2.2
 unfold cutsB
 by_cases hl : l.length ≤ 4
 rotate_left
 ·rw [dzT (show (4 : Int) < l.length by omega), dzF hl]; rfl
 rw [dzF (show ¬ (4 : Int) < l.length by omega), dzT hl, obs, cond_false, Bool.true_and]
 have key := loop_gen (l := l) (fun (_ : Int) i => i) (B := fun recl11 l11 => g_ref34_Price_l11 n t c s l recl11 l11) (F := fun a r => if cutB s.To a r = true then (if segS t c s s.From l ≤ 1000000000 then (segS t c s s.From l, (0 : Int)) else (0, 3)) else (0, 1))
  (fun i a => cutB s.To s.From l = cutB s.To a (l.drop i) ∧ s.From ≤ a ∧ (i = 0 → a = s.From) ∧ (0 < i → l[i - 1]? = some a)) (by omega) ?_ ?_ (n := n) 0 s.From ⟨rfl, Int.le_refl _, fun _ => rfl, fun h => by omega⟩ (by omega) (by omega)
 ·exact key
 ·intro rec a ⟨q2, q3, q4, q5⟩
  simp only [g_ref34_Price_l11, ltI, lenI, List.length_map]
  rw [dzF (by omega), cond_false]
  rw [List.drop_length] at q2
  rw [z_price4 n t c s l hn h1 h2 h4 ha'.1 ha'.2.1 ha'.2.2 hl q2]
  simp [cutB]
 ·intro rec a i x r ⟨q2, q3, q4, q5⟩ hd hx hi hw hr
  simp only [g_ref34_Price_l11, ltI, leI, lenI, List.length_map, getI_nat, hx, obs, hw]
  rw [dzT (by omega), cond_true]
  rw [hd] at q2
  have hprev : (bif decide ((0 : Int) < (i : Int)) then (getI l (wi ((i : Int) - 1))).bind fun x19 => some (decide (x ≤ x19)) else some false) = some (decide (0 < i ∧ x ≤ a)) := by
   by_cases i0 : i = 0
   ·subst i0
    rw [dzF (by omega), dzF (by omega)]; rfl
   ·rw [dzT (by omega), cond_true, wi_id (x := (i : Int) - 1) (by omega) (by omega), show (i : Int) - 1 = ((i - 1 : Nat) : Int) by omega, getI_nat, q5 (by omega), obs]
    congr 1
    simp [show 0 < i by omega]
  rw [hprev]
  have hbad : (bif decide (x ≤ s.From) then some true else bif decide (s.To ≤ x) then some true else some (decide (0 < i ∧ x ≤ a))) = some (!decide (a < x ∧ x < s.To)) := by
   by_cases k1 : x ≤ s.From
   ·rw [dzT k1, dzF (show ¬ (a < x ∧ x < s.To) by omega)]; rfl
   rw [dzF k1, cond_false]
   by_cases k2 : s.To ≤ x
   ·rw [dzT k2, dzF (show ¬ (a < x ∧ x < s.To) by omega)]; rfl
   rw [dzF k2, cond_false]
   by_cases k3 : a < x
   ·rw [dzF (by omega), dzT (show (a < x ∧ x < s.To) by omega)]; rfl
   ·have : 0 < i := by
     rcases Nat.eq_zero_or_pos i with e | e
     ·have := q4 e
      omega
     ·exact e
    rw [dzT (by omega), dzF (show ¬ (a < x ∧ x < s.To) by omega)]; rfl
  rw [hbad, obs]
  have hcx : cutB s.To a (x :: r) = (decide (a < x ∧ x < s.To) && cutB s.To x r) := rfl
  by_cases k : a < x ∧ x < s.To
  ·rw [dzT k, Bool.not_true, cond_false]
   refine (hr x ⟨?_, by omega, fun h => by omega, fun _ => by simpa using hx⟩).trans ?_
   ·rw [q2, hcx, dzT k, Bool.true_and]
    have : l.drop (i + 1) = r := by
     rw [← List.drop_drop, hd]; rfl
    rw [this]
   ·rw [hcx, dzT k, Bool.true_and]
  ·rw [dzF k, Bool.not_false, cond_true, hcx, dzF k, Bool.false_and, if_neg (by simp)]
end Go.Proofs
namespace Go.Proofs
open Go Go.Abs
set_option maxRecDepth 100000
set_option linter.unusedVariables false
theorem build_loop {α R : Type} (f : Nat → α) (N : Nat) {B : (OL α × Int → Option R) → OL α × Int → Option R} {K : List α → Option R} (hN : N ≤ 4611686018427387904)
  (hstep : ∀ rec (a : OL α) (i : Nat), i < N → a.toL = (List.range i).map f → wi ((i : Int) + 1) = ((i + 1 : Nat) : Int) → B rec (a, (i : Int)) = rec (OL.own (a.toL ++ [f i]), ((i + 1 : Nat) : Int)))
  (hend : ∀ rec (a : OL α), a.toL = (List.range N).map f → B rec (a, (N : Int)) = K ((List.range N).map f)) :
  ∀ (k j i : Nat) (a : OL α), N - i = k → i ≤ N → k < j → a.toL = (List.range i).map f → loopN B j (a, (i : Int)) = K ((List.range N).map f) := by
 intro k
 induction k with
 | zero =>
  intro j i a h1 h2 h3 h4
  obtain ⟨j, rfl⟩ : ∃ j', j = j' + 1 := ⟨j - 1, by omega⟩
  have : i = N := by omega
  subst this
  unfold loopN
  exact hend _ a h4
 | succ k ih =>
  intro j i a h1 h2 h3 h4
  obtain ⟨j, rfl⟩ : ∃ j', j = j' + 1 := ⟨j - 1, by omega⟩
  have hi := ih j (i + 1) (OL.own (a.toL ++ [f i])) (by omega) (by omega) (by omega) (by
   show a.toL ++ [f i] = _
   rw [h4, List.range_succ, List.map_append]; rfl)
  unfold loopN
  generalize loopN B j = L at hi ⊢
  rw [hstep L a i (by omega) h4 (wi_id (by omega) (by omega))]
  exact hi
def tbV (t : GTf) (c : GCl) (s : GSs) (i k : Nat) : Int := if i < k then (if (bilV t c (parV s (s.From + i) (s.From + k))).2 = 0 then (bilV t c (parV s (s.From + i) (s.From + k))).1.Total else -1) else -1
def rowV (t : GTf) (c : GCl) (s : GSs) (N i : Nat) : List Int := (List.range (N + 1)).map (tbV t c s i)
def tabV (t : GTf) (c : GCl) (s : GSs) (N : Nat) : List (List Int) := (List.range N).map (rowV t c s N)
theorem roomS {α : Type} (l : List α) (x : α) (b : Nat) (hb : b ≤ 24) (h : l.length ≤ 900) : roomB (List.length (l ++ [x])) b = true := by
 simp only [roomB, decide_eq_true_eq, List.length_append, List.length_cons, List.length_nil]
 have : (l.length + (0 + 1)) * b ≤ 901 * 24 := Nat.mul_le_mul (by omega) hb
 omega
theorem z_table (n : Nat) (t : GTf) (c : GCl) (s : GSs) (N : Nat) (hn : 10000 ≤ n) (h1 : c.Changes.length ≤ 900) (h2 : c.Holidays.length ≤ 900) (h4 : t.Name.length ≤ 900) (hv : valB s = true) (hN : s.To = s.From + N) (h60 : N ≤ 60) : g_ref34_table n t c s = some (tabV t c s N) := by
 have hs := valB_spec hv
 unfold g_ref34_table
 have key := build_loop (rowV t c s N) N (B := fun recl1 (v : OL (List Int) × Int) => g_ref34_table_l1 n t c s recl1 v.1 v.2) (K := some) (by omega) ?_ ?_ N n 0 OL.nil (by omega) (by omega) (by omega) rfl
 ·exact key
 ·intro rec a i hi ha hw
  show g_ref34_table_l1 n t c s rec a (i : Int) = _
  have hal : a.toL.length ≤ 900 := by rw [ha, List.length_map, List.length_range]; omega
  unfold g_ref34_table_l1
  simp only [ltI]
  rw [wi_id (x := s.To - s.From) (by omega) (by omega), dzT (show (i : Int) < s.To - s.From by omega), cond_true]
  have inner := build_loop (tbV t c s i) (N + 1) (B := fun recl2 (v : OL Int × Int) => g_ref34_table_l2 n t c s a (i : Int) rec recl2 v.1 v.2) (K := fun row => rec (OL.own (a.toL ++ [row]), ((i + 1 : Nat) : Int))) (by omega) ?_ ?_ (N + 1) n 0 OL.nil (by omega) (by omega) (by omega) rfl
  ·exact inner
  ·intro rec2 b k hk hb hw2
   have hbl : b.toL.length ≤ 900 := by rw [hb, List.length_map, List.length_range]; omega
   show g_ref34_table_l2 n t c s a (i : Int) rec rec2 b (k : Int) = _
   unfold g_ref34_table_l2
   simp only [ltI, leI]
   rw [wi_id (x := s.To - s.From) (by omega) (by omega), dzT (show (k : Int) ≤ s.To - s.From by omega), cond_true, hw2]
   unfold tbV
   by_cases q : i < k
   ·rw [dzT (show (i : Int) < k by omega), cond_true, if_pos q, wi_id (x := s.From + (i : Int)) (by omega) (by omega), wi_id (x := s.From + (k : Int)) (by omega) (by omega)]
    have hp := z_pay n t c s (s.From + i) (s.From + k) hn h1 h2 (by omega) h4 (by unfold i64b; omega)
    have hp2 : ∀ (f : GBill × Int → Option (List (List Int))), ((g_ref34_Part n s (s.From + i) (s.From + k)).bind fun r9 => (g_ref33_Bill n t c r9).bind f) = f (bilV t c (parV s (s.From + i) (s.From + k))) := by
     intro f
     rw [← Option.bind_assoc, hp, obs]
    rw [hp2, eqI_d]
    by_cases h0 : (bilV t c (parV s (s.From + i) (s.From + k))).2 = 0
    ·rw [dzT h0, cond_true, if_pos h0, roomS _ _ 8 (by omega) hbl, cond_true]
    ·rw [dzF h0, cond_false, if_neg h0, roomS _ _ 8 (by omega) hbl, cond_true]
   ·rw [dzF (show ¬ (i : Int) < k by omega), cond_false, if_neg q, roomS _ _ 8 (by omega) hbl, cond_true]
  ·intro rec2 b hb
   show g_ref34_table_l2 n t c s a (i : Int) rec rec2 b ((N + 1 : Nat) : Int) = _
   unfold g_ref34_table_l2
   simp only [leI]
   rw [wi_id (x := s.To - s.From) (by omega) (by omega), dzF (show ¬ ((N + 1 : Nat) : Int) ≤ s.To - s.From by omega), cond_false, hb, roomS _ _ 24 (by omega) hal, cond_true, hw]
 ·intro rec a ha
  show g_ref34_table_l1 n t c s rec a (N : Int) = _
  unfold g_ref34_table_l1
  simp only [ltI]
  rw [wi_id (x := s.To - s.From) (by omega) (by omega), dzF (show ¬ (N : Int) < s.To - s.From by omega), cond_false, ha]
theorem tab_get (t : GTf) (c : GCl) (s : GSs) (N i k : Nat) (hi : i < N) (hk : k ≤ N) {R : Type} (f : Int → Option R) : ((getI (tabV t c s N) (i : Int)).bind fun r => (getI r (k : Int)).bind f) = f (tbV t c s i k) := by
 have e1 : (tabV t c s N)[i]? = some (rowV t c s N i) := by
  unfold tabV
  rw [List.getElem?_map, List.getElem?_range hi]; rfl
 have e2 : (rowV t c s N i)[k]? = some (tbV t c s i k) := by
  unfold rowV
  rw [List.getElem?_map, List.getElem?_range (by omega)]; rfl
 rw [getI_nat, e1, obs, getI_nat, e2, obs]
theorem scan_loop1 {R : Type} {lo to : Int} {hit : Int → Option R} {K : Option R} {B : (Int → Option R) → Int → Option R}
  (hstep : ∀ rec m, lo ≤ m → m < to → B rec m = orK (hit m) (rec (m + 1))) (hend : ∀ rec m, ¬ m < to → B rec m = K) :
  ∀ (k j : Nat) (m : Int), (to - m).toNat = k → k < j → lo ≤ m → loopN B j m = orK (scanM hit k m) K := by
 intro k
 induction k with
 | zero =>
  intro j m h1 h2 h3
  obtain ⟨j, rfl⟩ : ∃ j', j = j' + 1 := ⟨j - 1, by omega⟩
  unfold loopN
  rw [hend _ _ (by omega)]; rfl
 | succ k ih =>
  intro j m h1 h2 h3
  obtain ⟨j, rfl⟩ : ∃ j', j = j' + 1 := ⟨j - 1, by omega⟩
  have hi := ih j (m + 1) (by omega) (by omega) (by omega)
  unfold loopN
  generalize loopN B j = L at hi ⊢
  rw [hstep L m h3 (by omega), hi, show scanM hit (k + 1) m = orK (hit m) (scanM hit k (m + 1)) from rfl]
  cases hit m <;> rfl
theorem scanM_shift {R : Type} (hit : Int → Option R) (F : Int) : ∀ (k : Nat) (m : Int), scanM (fun i => hit (F + i)) k m = scanM hit k (F + m)
 | 0, m => rfl
 | k + 1, m => by
  unfold scanM
  rw [scanM_shift hit F k (m + 1), Int.add_assoc]
theorem tb_pt (t : GTf) (c : GCl) (s : GSs) (i k : Nat) (h : i < k) (h1 : c.Changes.length ≤ 900) (h2 : c.Holidays.length ≤ 900) :
  (0 ≤ tbV t c s i k ∧ ptV t c s (s.From + i) (s.From + k) = tbV t c s i k ∧ tbV t c s i k ≤ 1000000000) ∨ (tbV t c s i k = -1 ∧ ptV t c s (s.From + i) (s.From + k) = 1000000001) := by
 unfold tbV ptV
 rw [if_pos h]
 by_cases q : (bilV t c (parV s (s.From + i) (s.From + k))).2 = 0
 ·have := bil_ok h1 h2 q
  rw [if_pos q, if_pos q]
  exact .inl ⟨by omega, rfl, by omega⟩
 ·rw [if_neg q, if_neg q]
  exact .inr ⟨rfl, rfl⟩
theorem z_find (n : Nat) (t : GTf) (c : GCl) (s : GSs) (most : Int) (hn : 10000 ≤ n) (h1 : c.Changes.length ≤ 900) (h2 : c.Holidays.length ≤ 900) (h3 : s.Slices.length ≤ 900) (h4 : t.Name.length ≤ 900) (hb : i64b s.From) : g_ref34_Find n t c s most = some (finV t c s most) := by
 unfold g_ref34_Find finV
 rw [z_valid n t c s hn h1 h2 h3 h4 hb, obs]
 cases ha : alB t c s
 ·rfl
 have ha' : tariffB t = true ∧ calB c = true ∧ valB s = true := by
  simp only [alB, bae] at ha; exact ⟨ha.1.1, ha.1.2, ha.2⟩
 have hs := valB_spec ha'.2.2
 simp only [Bool.not_true, cond_false, Bool.true_and, ltI]
 rw [wi_id (x := s.To - s.From) (by omega) (by omega)]
 have ej : (bif decide (60 < s.To - s.From) then some true else bif decide (most < 1) then some true else some (decide (2 < most))) = some (!decide (s.To - s.From ≤ 60 ∧ 1 ≤ most ∧ most ≤ 2)) := by
  by_cases c1 : 60 < s.To - s.From
  ·rw [dzT c1, dzF (show ¬ (s.To - s.From ≤ 60 ∧ 1 ≤ most ∧ most ≤ 2) by omega)]; rfl
  rw [dzF c1, cond_false]
  by_cases c2 : most < 1
  ·rw [dzT c2, dzF (show ¬ (s.To - s.From ≤ 60 ∧ 1 ≤ most ∧ most ≤ 2) by omega)]; rfl
  rw [dzF c2, cond_false]
  by_cases c3 : 2 < most
  ·rw [dzT c3, dzF (show ¬ (s.To - s.From ≤ 60 ∧ 1 ≤ most ∧ most ≤ 2) by omega)]; rfl
  ·rw [dzF c3, dzT (show (s.To - s.From ≤ 60 ∧ 1 ≤ most ∧ most ≤ 2) by omega)]; rfl
 rw [ej, obs]
 by_cases hd : s.To - s.From ≤ 60 ∧ 1 ≤ most ∧ most ≤ 2
 rotate_left
 ·rw [dzF hd, Bool.not_false, cond_true, if_neg (by simp)]
 rw [dzT hd, Bool.not_true, cond_false, if_pos rfl, z_price n t c s [] hn h1 h2 h3 h4 hb, obs]
 unfold prcV
 rw [ha, show cutsB s [] = true from rfl]
 simp only [Bool.and_true, if_true]
 by_cases hW : segS t c s s.From [] ≤ 1000000000
 rotate_left
 ·rw [if_neg hW, if_neg hW]; rfl
 obtain ⟨N, hN⟩ : ∃ N : Nat, s.To = s.From + N := ⟨(s.To - s.From).toNat, by omega⟩
 rw [if_pos hW, if_pos hW, show (!eqI (segS t c s s.From [], (0 : Int)).2 0) = false from rfl, cond_false, z_table n t c s N hn h1 h2 h4 ha'.2.2 hN (by omega), obs]
 have wD : wi (s.To - s.From) = (N : Int) := by rw [wi_id (by omega) (by omega)]; omega
 have hj8 : g_ref34_Find_j8 n s most (segS t c s s.From [], 0) (tabV t c s N) = some (if most < 2 then ([], false, 0) else match scanM (hitP t c s) (s.To - (s.From + 1)).toNat (s.From + 1) with | some r => r | none => ([], false, 0)) := by
  unfold g_ref34_Find_j8
  by_cases q : most < 2
  ·rw [if_pos q]
   obtain ⟨n', rfl⟩ : ∃ m, n = m + 1 := ⟨n - 1, by omega⟩
   show g_ref34_Find_l9 (n' + 1) s most _ _ _ 1 = _
   unfold g_ref34_Find_l9
   rw [eqI_d, dzF (show ¬ most = 2 by omega)]
   cases ltI 1 (wi (s.To - s.From)) <;> rfl
  rw [if_neg q]
  have key := scan_loop1 (lo := 1) (to := N) (hit := fun i => hitP t c s (s.From + i)) (K := some ([], false, 0)) (B := fun recl9 l9 => g_ref34_Find_l9 n s most (segS t c s s.From [], 0) (tabV t c s N) recl9 l9) ?_ ?_ _ n 1 rfl (by omega) (Int.le_refl _)
  ·refine key.trans ?_
   rw [scanM_shift, show ((N : Int) - 1).toNat = (s.To - (s.From + 1)).toNat by omega]
   cases scanM (hitP t c s) (s.To - (s.From + 1)).toNat (s.From + 1) <;> rfl
  ·intro rec i hi1 hi2
   obtain ⟨i, rfl⟩ : ∃ j : Nat, i = (j : Int) := ⟨i.toNat, by omega⟩
   unfold g_ref34_Find_l9
   simp only [ltI]
   rw [wD, dzT hi2, cond_true, eqI_d, dzT (show most = 2 by omega), obs, cond_true, wi_id (x := (i : Int) + 1) (by omega) (by omega)]
   have key2 := scan_loop1 (lo := (i : Int) + 1) (to := N) (hit := fun k => hit2 t c s (s.From + i) (s.From + k)) (K := rec ((i : Int) + 1)) (B := fun recl12 l12 => g_ref34_Find_l12 s (segS t c s s.From [], 0) (tabV t c s N) (i : Int) rec recl12 l12) ?_ ?_ _ n ((i : Int) + 1) rfl (by omega) (Int.le_refl _)
   ·refine key2.trans ?_
    rw [scanM_shift (hit2 t c s (s.From + i)), show ((N : Int) - ((i : Int) + 1)).toNat = (s.To - (s.From + i + 1)).toNat by omega]
    unfold hitP
    rw [show s.From + ((i : Int) + 1) = s.From + i + 1 by omega]
   ·intro rec2 k hk1 hk2
    obtain ⟨k, rfl⟩ : ∃ j : Nat, k = (j : Int) := ⟨k.toNat, by omega⟩
    unfold g_ref34_Find_l12
    simp only [ltI, leI]
    rw [wD, dzT hk2, cond_true, wi_id (x := (k : Int) + 1) (by omega) (by omega), wi_id (x := s.From + (i : Int)) (by omega) (by omega), wi_id (x := s.From + (k : Int)) (by omega) (by omega)]
    have g0 := fun {R : Type} (f : Int → Option R) => tab_get t c s N 0 i (by omega) (by omega) f
    have g1 := fun {R : Type} (f : Int → Option R) => tab_get t c s N i k (by omega) (by omega) f
    have g2 := fun {R : Type} (f : Int → Option R) => tab_get t c s N k N (by omega) (by omega) f
    simp only [show ((0 : Nat) : Int) = 0 from rfl] at g0
    simp only [g0, g1, g2]
    have p0 := tb_pt t c s 0 i (by omega) h1 h2
    have p1 := tb_pt t c s i k (by omega) h1 h2
    have p2 := tb_pt t c s k N (by omega) h1 h2
    rw [show s.From + ((0 : Nat) : Int) = s.From by omega] at p0
    rw [← hN] at p2
    unfold hit2
    rw [show segS t c s s.From [s.From + i, s.From + k] = ptV t c s s.From (s.From + i) + (ptV t c s (s.From + i) (s.From + k) + ptV t c s (s.From + k) s.To) from rfl]
    have r0 := ptV_range t c s s.From (s.From + i) h1 h2
    have r1 := ptV_range t c s (s.From + i) (s.From + k) h1 h2
    have r2 := ptV_range t c s (s.From + k) s.To h1 h2
    rcases p0 with ⟨a1, a2, a3⟩ | ⟨a1, a2⟩
    rotate_left
    ·rw [a1, dzF (show ¬ (0 : Int) ≤ -1 by omega), if_neg (by omega)]; rfl
    rw [dzT a1, cond_true]
    rcases p1 with ⟨b1, b2, b3⟩ | ⟨b1, b2⟩
    rotate_left
    ·rw [b1, dzF (show ¬ (0 : Int) ≤ -1 by omega), if_neg (by omega)]; rfl
    rw [dzT b1, cond_true]
    rcases p2 with ⟨d1, d2, d3⟩ | ⟨d1, d2⟩
    rotate_left
    ·rw [d1, dzF (show ¬ (0 : Int) ≤ -1 by omega), if_neg (by omega)]; rfl
    rw [dzT d1, cond_true, obs, wi_id (x := tbV t c s 0 i + tbV t c s i k) (by omega) (by omega), wi_id (x := tbV t c s 0 i + tbV t c s i k + tbV t c s k N) (by omega) (by omega), a2, b2, d2]
    by_cases w : tbV t c s 0 i + (tbV t c s i k + tbV t c s k N) < segS t c s s.From []
    ·rw [dzT (by omega), if_pos w]; rfl
    ·rw [dzF (by omega), if_neg w]; rfl
   ·intro rec2 k hk
    unfold g_ref34_Find_l12
    simp only [ltI]
    rw [wD, dzF hk, cond_false, wi_id (x := (i : Int) + 1) (by omega) (by omega)]
  ·intro rec i hi
   unfold g_ref34_Find_l9
   simp only [ltI]
   rw [wD, dzF hi]; rfl
 have key := scan_loop1 (lo := 1) (to := N) (hit := fun i => hit1 t c s (s.From + i)) (K := some (if most < 2 then ([], false, 0) else match scanM (hitP t c s) (s.To - (s.From + 1)).toNat (s.From + 1) with | some r => r | none => ([], false, 0))) (B := fun recl29 l29 => g_ref34_Find_l29 n s most (segS t c s s.From [], 0) (tabV t c s N) recl29 l29) ?_ ?_ _ n 1 rfl (by omega) (Int.le_refl _)
 ·refine key.trans ?_
  rw [scanM_shift, show ((N : Int) - 1).toNat = (s.To - (s.From + 1)).toNat by omega]
  unfold fndV
  cases scanM (hit1 t c s) (s.To - (s.From + 1)).toNat (s.From + 1) <;> rfl
 ·intro rec i hi1 hi2
  obtain ⟨i, rfl⟩ : ∃ j : Nat, i = (j : Int) := ⟨i.toNat, by omega⟩
  unfold g_ref34_Find_l29
  simp only [ltI, leI]
  rw [wD, dzT hi2, cond_true, wi_id (x := (i : Int) + 1) (by omega) (by omega), wi_id (x := s.From + (i : Int)) (by omega) (by omega)]
  have g0 := fun {R : Type} (f : Int → Option R) => tab_get t c s N 0 i (by omega) (by omega) f
  have g2 := fun {R : Type} (f : Int → Option R) => tab_get t c s N i N (by omega) (by omega) f
  simp only [show ((0 : Nat) : Int) = 0 from rfl] at g0
  simp only [g0, g2]
  have p0 := tb_pt t c s 0 i (by omega) h1 h2
  have p2 := tb_pt t c s i N (by omega) h1 h2
  rw [show s.From + ((0 : Nat) : Int) = s.From by omega] at p0
  rw [← hN] at p2
  unfold hit1
  rw [show segS t c s s.From [s.From + i] = ptV t c s s.From (s.From + i) + ptV t c s (s.From + i) s.To from rfl]
  have r0 := ptV_range t c s s.From (s.From + i) h1 h2
  have r2 := ptV_range t c s (s.From + i) s.To h1 h2
  rcases p0 with ⟨a1, a2, a3⟩ | ⟨a1, a2⟩
  rotate_left
  ·rw [a1, dzF (show ¬ (0 : Int) ≤ -1 by omega), if_neg (by omega)]; rfl
  rw [dzT a1, cond_true]
  rcases p2 with ⟨d1, d2, d3⟩ | ⟨d1, d2⟩
  rotate_left
  ·rw [d1, dzF (show ¬ (0 : Int) ≤ -1 by omega), if_neg (by omega)]; rfl
  rw [dzT d1, cond_true, obs, wi_id (x := tbV t c s 0 i + tbV t c s i N) (by omega) (by omega), a2, d2]
  by_cases w : tbV t c s 0 i + tbV t c s i N < segS t c s s.From []
  ·rw [dzT w, if_pos w]; rfl
  ·rw [dzF w, if_neg w]; rfl
 ·intro rec i hi
  unfold g_ref34_Find_l29
  simp only [ltI]
  rw [wD, dzF hi, cond_false]
  exact hj8
theorem fin_len (t : GTf) (c : GCl) (s : GSs) (most : Int) : (finV t c s most).1.length ≤ 2 := by
 by_cases h : (finV t c s most).2.2 = 0
 ·obtain ⟨k1, k2, k3, k4, k5, k6⟩ := fin_ok h
  have hv : valB s = true := by simp only [alB, bae] at k1; exact k1.2
  have hF := fnd_spec t c s most (valB_spec hv).2.1
  rw [k6]
  generalize fndV t c s most = X at hF
  cases hF <;> simp
 ·rw [fin_list h]; simp
theorem matches34_plain (t : GTf) (c : GCl) (s : GSs) (l : List Int) (m most : Int) (hb : i64b s.To) (hbf : i64b s.From) : g_law34_LoopholeMatchesReference 36893488147419103232 t c s l m most = some true := by
 unfold g_law34_LoopholeMatchesReference
 rw [head34_big, obs]
 obtain ⟨b, hf, hb2⟩ := few33 36893488147419103232 t c s
 rw [hf, obs]
 cases b with
 | false => rfl
 | true =>
 obtain ⟨f1, f2, f3, f4, f5⟩ := hb2 rfl
 rw [Bool.not_true, cond_false, obs]
 cases ltI 10 (lenI (List.map ci l)) with
 | true => rfl
 | false =>
 rw [cond_false, l_split _ s m (by omega) hb, obs, z_split _ s m (by omega) (by omega) hbf, obs, l_price _ t c s l (by omega) (by omega) (by omega) hb, obs, z_price _ t c s l (by omega) (by omega) (by omega) (by omega) (by omega) hbf, obs, l_find (by omega) (by omega) (by omega) hb, obs, z_find _ t c s most (by omega) (by omega) (by omega) (by omega) (by omega) hbf, obs, cond_true]
 have hsl : (splV s m).1.Slices.length ≤ 900 ∧ (splV s m).2.1.Slices.length ≤ 900 := by
  unfold splV
  split
  ·have := parL_len s.From m s.Slices
   have := parL_len m s.To s.Slices
   exact ⟨by show (parL s.From m s.Slices).length ≤ 900; omega, by show (parL m s.To s.Slices).length ≤ 900; omega⟩
  ·exact ⟨Nat.zero_le _, Nat.zero_le _⟩
 have hfl := fin_len t c s most
 rw [l_same _ _ _ (by omega) hsl.1, obs, dzT rfl, cond_true, l_same _ _ _ (by omega) hsl.2, obs, dzT rfl, cond_true, l_ints _ _ _ (by omega) (by omega), obs, dzT rfl, cond_true]
 simp [eqI_d, opq]
end Go.Proofs
namespace Go.Proofs.YtfkhnaogcahcoaaGreat
open Go Go.Abs Go.Proofs
theorem loopholeMatchesReference_holds : Rows.LoopholeMatchesReferenceSaid :=
 loopholeMatchesReference_said (fun t c s l m most _ _ hs _ _ _ => ⟨_, matches34_plain t c s l m most hs.To hs.From⟩)
end Go.Proofs.YtfkhnaogcahcoaaGreat
