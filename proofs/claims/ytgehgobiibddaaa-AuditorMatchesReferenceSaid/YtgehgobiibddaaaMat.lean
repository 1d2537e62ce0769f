/-
  Proved: AuditorMatchesReference. For any claim both functions return what the reference implementation returns. No conditions beyond those of the given statement.
-/
import Derived.Test.YtgehgobiibddaaaMat05
namespace Go.Proofs
open Go Go.Abs
set_option maxRecDepth 100000
set_option linter.unusedVariables false
theorem atF_post (m : Int) : ∀ (post : List GReading) (i : Nat) (a : Int), (∀ x ∈ post, m < x.Minute) → atF m i a post = a
 | [], _, _, _ => rfl
 | x :: r, i, a, h => by
  have := h x List.mem_cons_self
  unfold atF
  rw [if_neg (by omega)]
  exact atF_post m r (i + 1) a (fun y hy => h y (List.mem_cons_of_mem _ hy))
theorem atF_pre (m : Int) : ∀ (pre post : List GReading) (i : Nat), (∀ x ∈ pre, x.Minute ≤ m) → (∀ x ∈ post, m < x.Minute) → atF m i (i : Int) (pre ++ post) = ((i + pre.length : Nat) : Int)
 | [], post, i, _, h => atF_post m post i _ h
 | x :: r, post, i, h, h2 => by
  have := h x List.mem_cons_self
  rw [List.cons_append]
  unfold atF
  rw [if_pos this, show (i : Int) + 1 = ((i + 1 : Nat) : Int) from by omega, atF_pre m r post (i + 1) (fun y hy => h y (List.mem_cons_of_mem _ hy)) h2]
  simp only [List.length_cons]
  congr 1
  omega
theorem r_at (n : Nat) (pre post : List GReading) (m : Int) (hn : 1000 ≤ n) (hl : (pre ++ post).length ≤ 900) (h1 : ∀ x ∈ pre, x.Minute ≤ m) (h2 : ∀ x ∈ post, m < x.Minute) : g_ref43_At n (pre ++ post) m = some (pre.length : Int) := by
 unfold g_ref43_At
 have := loop_gen (l := pre ++ post) (fun (a : Int) i => (a, i)) (B := fun recl1 (v : Int × Int) => g_ref43_At_l1 (pre ++ post) m recl1 v.1 v.2) (F := fun a r => atF m ((pre ++ post).length - r.length) a r) (fun _ _ => True) (by omega) ?_ ?_ (n := n) 0 0 trivial (by omega) (by omega)
 ·refine this.trans ?_
  rw [List.drop_zero, Nat.sub_self]
  have := atF_pre m pre post 0 h1 h2
  rw [Nat.zero_add] at this
  rw [← this]; rfl
 ·intro rec a _
  have h : ltI (((pre ++ post).length : Nat) : Int) (lenI (List.map GReading.cs (pre ++ post))) = false := by
   simp only [ltI, lenI, List.length_map]
   rw [decide_eq_false (by omega)]
  show g_ref43_At_l1 (pre ++ post) m rec a (((pre ++ post).length : Nat) : Int) = some (atF m _ a [])
  unfold g_ref43_At_l1 atF
  rw [h, cond_false]
 ·intro rec a i x r _ hd hx hi hw hr
  have h : ltI (i : Int) (lenI (List.map GReading.cs (pre ++ post))) = true := by
   simp only [ltI, lenI, List.length_map]
   rw [decide_eq_true (by omega)]
  have hidx := drop_idx hd hi
  simp only [List.length_cons, hidx.1]
  simp only [hidx.2] at hr
  show g_ref43_At_l1 (pre ++ post) m rec a (i : Int) = _
  unfold g_ref43_At_l1 atF
  rw [h, cond_true, getI_nat, hx, Option.bind_some, hw, hr _ trivial, hr _ trivial]
  simp only [leI]
  by_cases c : x.Minute ≤ m
  ·rw [decide_eq_true c, cond_true, if_pos c]; rfl
  ·rw [decide_eq_false c, cond_false, if_neg c]
theorem r_energy40 (n : Nat) (l : List GReading) (b : Nat) (hl : l.length ≤ 900) : ∀ (g post : List GReading) (p : GReading) (i j : Nat) (z : Int), l.drop i = p :: (g ++ post) → i + 1 + g.length = b → g.length < j → OrdR p g → 0 ≤ p.Register → p.Register ≤ 1000000000 → 0 ≤ z → z + 1000000000 * g.length ≤ 1000000000000000 →
  loopN (fun recl6 (v : Int × Int) => g_ref40_Energy_l6 l (b : Int) recl6 v.1 v.2) j (z, ((i + 1 : Nat) : Int)) = some (z + sumE p g, 0)
 | [], post, p, i, j, z, hd, hb, hj, ho, hp, hp2, hz, hz2 => by
  obtain ⟨j, rfl⟩ : ∃ j', j = j' + 1 := ⟨j - 1, by omega⟩
  unfold loopN
  show g_ref40_Energy_l6 l (b : Int) _ z ((i + 1 : Nat) : Int) = _
  unfold g_ref40_Energy_l6 sumE
  rw [show ltI ((i + 1 : Nat) : Int) (b : Int) = false from by simp only [List.length_nil] at hb; simp only [ltI]; rw [decide_eq_false (by omega)], cond_false, Int.add_zero]
 | x :: r, post, p, i, j, z, hd, hb, hj, ho, hp, hp2, hz, hz2 => by
  obtain ⟨j, rfl⟩ : ∃ j', j = j' + 1 := ⟨j - 1, by omega⟩
  simp only [List.length_cons] at hb hj hz2
  have hlen : i + 1 < l.length := by
   have := congrArg List.length hd
   simp only [List.length_drop, List.length_cons, List.cons_append] at this
   omega
  have e0 : l[i]? = some p := by
   have := congrArg List.head? hd
   rw [List.head?_drop] at this
   exact this
  have hd1 : l.drop (i + 1) = x :: (r ++ post) := by
   rw [← List.tail_drop, hd]; rfl
  have e1 : l[i + 1]? = some x := by
   have := congrArg List.head? hd1
   rw [List.head?_drop] at this
   exact this
  have hdr := dE_range ho.2.2.1 hp ho.2.1.2
  have i0 := r_energy40 n l b hl r post x (i + 1) j (z + dE p x) hd1 (by omega) (by omega) ho.2.2.2 ho.2.1.1 ho.2.1.2 (by omega) (by omega)
  unfold loopN
  generalize loopN (fun recl6 (v : Int × Int) => g_ref40_Energy_l6 l (b : Int) recl6 v.1 v.2) j = L at i0 ⊢
  show g_ref40_Energy_l6 l (b : Int) L z ((i + 1 : Nat) : Int) = some (z + (dE p x + sumE x r), 0)
  have hw1 : wi (((i + 1 : Nat) : Int) - 1) = (i : Int) := by rw [wi_id] <;> omega
  have hw2 : wi (((i + 1 : Nat) : Int) + 1) = ((i + 1 + 1 : Nat) : Int) := by rw [wi_id] <;> omega
  unfold g_ref40_Energy_l6
  rw [show ltI ((i + 1 : Nat) : Int) (b : Int) = true from by simp only [ltI]; rw [decide_eq_true (by omega)], cond_true, hw1, hw2, getI_nat, getI_nat, e0, e1]
  simp only [Option.bind_some, eqI_d]
  rw [← Int.add_assoc, ← i0]
  have hr := ho.2.1
  by_cases hs : x.Serial = p.Serial
  ·have ed : dE p x = x.Register - p.Register := by unfold dE; rw [if_pos hs]
   rw [decide_eq_true hs, cond_true, wi_id (x := z + x.Register) (by omega) (by omega), wi_id (x := z + x.Register - p.Register) (by omega) (by omega), ed, show z + x.Register - p.Register = z + (x.Register - p.Register) from by omega]
  ·have ed : dE p x = 0 := by unfold dE; rw [if_neg hs]
   rw [decide_eq_false hs, cond_false, ed, Int.add_zero]
end Go.Proofs
namespace Go.Proofs
open Go Go.Abs
set_option maxRecDepth 100000
set_option linter.unusedVariables false
theorem chain_drop {seed : Int} {l : List GReading} (h : chainOk seed l) : ∀ (r : List GReading) (p : GReading) (i : Nat), l.drop i = p :: r → OrdR p r
 | [], _, _, _ => trivial
 | x :: r, p, i, hd => by
  have hlen : i + 1 < l.length := by
   have := congrArg List.length hd
   simp only [List.length_drop, List.length_cons] at this
   omega
  have e0 : l[i]? = some p := by
   have := congrArg List.head? hd
   rw [List.head?_drop] at this
   exact this
  have hd1 : l.drop (i + 1) = x :: r := by
   rw [← List.tail_drop, hd]; rfl
  have e1 : l[i + 1]? = some x := by
   have := congrArg List.head? hd1
   rw [List.head?_drop] at this
   exact this
  have hc := h.2 (i + 1) hlen x e1
  exact ⟨hc.2.2.1, hc.2.2.2.1, hc.2.2.2.2.1 (by omega) p (by simpa using e0), chain_drop h r x (i + 1) hd1⟩
theorem post_split (m : Int) : ∀ (post : List GReading) (p : GReading), OrdR p post → (∀ x ∈ post, m < x.Minute) → ∃ g post', post = g ++ post' ∧ (∀ x ∈ g, x.Minute = m + 1) ∧ ∀ x ∈ post', m + 1 < x.Minute
 | [], _, _, _ => ⟨[], [], rfl, (fun _ h => by cases h), (fun _ h => by cases h)⟩
 | x :: r, p, h, hp => by
  have hx := hp x List.mem_cons_self
  by_cases c : x.Minute = m + 1
  ·obtain ⟨g, q, e, h1, h2⟩ := post_split m r x h.2.2.2 (fun y hy => hp y (List.mem_cons_of_mem _ hy))
   refine ⟨x :: g, q, by rw [e]; rfl, fun y hy => ?_, h2⟩
   rcases List.mem_cons.1 hy with rfl | hy
   ·exact c
   ·exact h1 y hy
  ·refine ⟨[], x :: r, rfl, (fun _ h => by cases h), fun y hy => ?_⟩
   rcases List.mem_cons.1 hy with rfl | hy
   ·omega
   ·have := ord_min r x h.2.2.2 y hy
    omega
structure Good (f t e : Int) (sl : List GSlice) : Prop where
 all : ∀ x ∈ sl, f ≤ x.Minute ∧ x.Minute < e ∧ 0 ≤ x.Energy
 pw : sl.Pairwise (fun a b => a.Minute < b.Minute)
 lo : f ≤ e
 hi : e ≤ t
open Classical in
theorem r_session (n : Nat) (seed : Int) (x0 : GReading) (rest : List GReading) (hn : 10000 ≤ n) (hc : chainOk seed (x0 :: rest)) (hlen : (lst x0 rest).Minute - x0.Minute ≤ 2880) :
  g_ref43_Session n (x0 :: rest) = some (sesF (x0 :: rest)) ∧ Good (sesF (x0 :: rest)).From (sesF (x0 :: rest)).To (sesF (x0 :: rest)).End (sesF (x0 :: rest)).Slices := by
 have ho : OrdR x0 rest := chain_drop hc rest x0 0 rfl
 have h0 := hc.2 0 (by simp) x0 rfl
 have hll := hc.1.2
 have hto := ord_lst rest x0 ho
 have hT : 0 ≤ (lst x0 rest).Minute ∧ (lst x0 rest).Minute ≤ 52560000 := by
  have : ∀ (r : List GReading) (p : GReading), (0 ≤ p.Minute ∧ p.Minute ≤ 52560000) → OrdR p r → 0 ≤ (lst p r).Minute ∧ (lst p r).Minute ≤ 52560000 := by
   intro r
   induction r with
   | nil => intro p hp _; exact hp
   | cons y r ih => intro p hp h; exact ih y h.1 h.2.2.2
  exact this rest x0 h0.2.2.1 ho
 have hord : g_ref40_Ordered n (x0 :: rest) = some true := r_ordered n _ (by omega) (by omega) (fun i hi => by
  refine ⟨by omega, fun r hr => ?_⟩
  have := hc.2 i hi r hr
  exact ⟨this.1, this.2.1, this.2.2.1, this.2.2.2.1, this.2.2.2.2.1⟩)
 have hsesF : sesF (x0 :: rest) = ⟨x0.Minute, (lst x0 rest).Minute, (derF x0.Minute x0 x0.Minute [] rest).1, (derF x0.Minute x0 x0.Minute [] rest).2⟩ := by
  have : sesF (x0 :: rest) = ⟨x0.Minute, ((x0 :: rest).getLast (by simp)).Minute, (derF x0.Minute x0 x0.Minute [] rest).1, (derF x0.Minute x0 x0.Minute [] rest).2⟩ := rfl
  rw [this, getLast_lst]
 rw [hsesF]
 simp only
 have key : ∀ (k j : Nat) (m e : Int) (sl : OL GSlice) (a post : List GReading), rest = a ++ post → (∀ x ∈ a, x.Minute ≤ m) → (∀ x ∈ post, m < x.Minute) → derF x0.Minute x0 x0.Minute [] a = (e, sl.toL) → Good x0.Minute m e sl.toL → (sl.toL.length : Int) ≤ m - x0.Minute → x0.Minute ≤ m → m ≤ (lst x0 rest).Minute → ((lst x0 rest).Minute - m).toNat = k → k < j →
   loopN (fun recl3 (v : Int × Int × (OL GSlice)) => g_ref43_Session_l3 n (x0 :: rest) x0 (lst x0 rest) recl3 v.1 v.2.1 v.2.2) j (m, e, sl) = some ⟨x0.Minute, (lst x0 rest).Minute, (derF x0.Minute x0 x0.Minute [] rest).1, (derF x0.Minute x0 x0.Minute [] rest).2⟩ ∧
   Good x0.Minute (lst x0 rest).Minute (derF x0.Minute x0 x0.Minute [] rest).1 (derF x0.Minute x0 x0.Minute [] rest).2 := by
  intro k
  induction k with
  | zero =>
   intro j m e sl a post hre ha hp hder hg hsl hm1 hm2 hk hj
   obtain ⟨j, rfl⟩ : ∃ j', j = j' + 1 := ⟨j - 1, by omega⟩
   have hpost : post = [] := by
    cases post with
    | nil => rfl
    | cons y r =>
     have h1 := hp y List.mem_cons_self
     have h2 := hto y (Or.inr (by rw [hre]; simp))
     omega
   subst hpost
   rw [List.append_nil] at hre
   have hmT : m = (lst x0 rest).Minute := by omega
   rw [← hre] at hder
   rw [hder]
   refine ⟨?_, by rw [← hmT]; exact hg⟩
   unfold loopN
   show g_ref43_Session_l3 n (x0 :: rest) x0 (lst x0 rest) _ m e sl = _
   unfold g_ref43_Session_l3
   rw [show ltI m (lst x0 rest).Minute = false from by simp only [ltI]; rw [decide_eq_false (by omega)], cond_false]
  | succ k ih =>
   intro j m e sl a post hre ha hp hder hg hsl hm1 hm2 hk hj
   obtain ⟨j, rfl⟩ : ∃ j', j = j' + 1 := ⟨j - 1, by omega⟩
   have hoa := (ord_app a post x0).1 (hre ▸ ho)
   obtain ⟨g, post', hpg, hg1, hg2⟩ := post_split m post (lst x0 a) hoa.2 hp
   subst hpg
   have hog := (ord_app g post' (lst x0 a)).1 hoa.2
   have hrl : (lst x0 a).Register ≤ 1000000000 := by
    have : ∀ (r : List GReading) (p : GReading), p.Register ≤ 1000000000 → OrdR p r → (lst p r).Register ≤ 1000000000 := by
     intro r
     induction r with
     | nil => intro p hp _; exact hp
     | cons y r ih => intro p hp h; exact ih y h.2.1.2 h.2.2.2
    exact this a x0 h0.2.2.2.1.2 hoa.1
   have hr0 := lst_reg a x0 hoa.1 h0.2.2.2.1.1
   have hlens : a.length + (g.length + post'.length) + 1 ≤ 64 := by
    have := hll
    rw [hre] at this
    simp only [List.length_cons, List.length_append] at this
    omega
   have hdg := derG1 x0.Minute m e (by omega) sl.toL (fun q hq => by have := (hg.all q hq).2.1; have := hg.hi; omega) g (lst x0 a) hog.1 hr0 hrl hg1 (by omega)
   have hder' : derF x0.Minute x0 x0.Minute [] (a ++ g) = if sumE (lst x0 a) g = 0 then (e, sl.toL) else (m + 1, sl.toL ++ [⟨m, sumE (lst x0 a) g⟩]) := by
    rw [derF_app, hder]
    exact hdg
   have hsum := sumE_range g (lst x0 a) hog.1 hr0
   have hre' : rest = (a ++ g) ++ post' := by rw [hre, List.append_assoc]
   have hag : ∀ x ∈ a ++ g, x.Minute ≤ m + 1 := by
    intro x hx
    rcases List.mem_append.1 hx with hx | hx
    ·have := ha x hx; omega
    ·have := hg1 x hx; omega
   have hat1 : g_ref43_At n (x0 :: rest) m = some ((a.length + 1 : Nat) : Int) := by
    have := r_at n (x0 :: a) (g ++ post') m (by omega) (by simp only [List.length_append, List.length_cons]; omega) (fun x hx => by
     rcases List.mem_cons.1 hx with rfl | hx
     ·exact hm1
     ·exact ha x hx) hp
    rw [hre]
    exact this
   have hat2 : g_ref43_At n (x0 :: rest) (m + 1) = some ((a.length + 1 + g.length : Nat) : Int) := by
    have := r_at n (x0 :: (a ++ g)) post' (m + 1) (by omega) (by simp only [List.length_append, List.length_cons]; omega) (fun x hx => by
     rcases List.mem_cons.1 hx with rfl | hx
     ·omega
     ·exact hag x hx) hg2
    rw [hre']
    refine this.trans ?_
    simp only [List.length_cons, List.length_append]
    congr 2
    omega
   have hen : g_ref40_Energy n (x0 :: rest) ((a.length + 1 : Nat) : Int) ((a.length + 1 + g.length : Nat) : Int) = some (sumE (lst x0 a) g, 0) := by
    unfold g_ref40_Energy
    rw [hord]
    simp only [Option.bind_some, Bool.not_true, cond_false, ltI, lenI, List.length_map]
    rw [decide_eq_false (show ¬ ((a.length + 1 : Nat) : Int) < 1 by omega), cond_false, decide_eq_false (show ¬ ((a.length + 1 + g.length : Nat) : Int) < ((a.length + 1 : Nat) : Int) by omega), cond_false, Option.bind_some,
     decide_eq_false (show ¬ (((x0 :: rest).length : Nat) : Int) < ((a.length + 1 + g.length : Nat) : Int) by rw [hre]; simp only [List.length_cons, List.length_append]; omega), cond_false]
    have := r_energy40 n (x0 :: rest) (a.length + 1 + g.length) (by omega) g post' (lst x0 a) a.length n 0 (by rw [hre]; exact drop_lst a (g ++ post') x0) rfl (by omega) hog.1 hr0 hrl (by omega) (by omega)
    rw [Int.zero_add] at this
    exact this
   have hw : wi (m + 1) = m + 1 := wi_id (by omega) (by omega)
   have hgall := hg.all
   have hglo := hg.lo
   have hghi := hg.hi
   have i0 := fun (hz : sumE (lst x0 a) g = 0) => ih j (m + 1) e sl (a ++ g) post' hre' hag hg2 (by rw [hder', if_pos hz]) ⟨hgall, hg.pw, hglo, by omega⟩ (by omega) (by omega) (by omega) (by omega) (by omega)
   have i1 := fun (hz : ¬ sumE (lst x0 a) g = 0) => ih j (m + 1) (m + 1) (OL.own (sl.toL ++ [⟨m, sumE (lst x0 a) g⟩])) (a ++ g) post' hre' hag hg2 (by rw [hder', if_neg hz]; rfl) (by
     refine ⟨fun x hx => ?_, ?_, by omega, Int.le_refl _⟩
     ·rw [OL.toL_own] at hx
      rcases List.mem_append.1 hx with hx | hx
      ·have := hgall x hx; omega
      ·rw [List.mem_singleton.1 hx]
       simp only
       omega
     ·rw [OL.toL_own, List.pairwise_append]
      refine ⟨hg.pw, List.pairwise_singleton _ _, fun x hx y hy => ?_⟩
      rw [List.mem_singleton.1 hy]
      have := hgall x hx
      simp only
      omega) (by rw [OL.toL_own]; simp only [List.length_append, List.length_cons, List.length_nil]; omega) (by omega) (by omega) (by omega) (by omega)
   by_cases hz : sumE (lst x0 a) g = 0
   ·have i0 := i0 hz
    refine ⟨?_, i0.2⟩
    have i0 := i0.1
    unfold loopN
    generalize loopN (fun recl3 (v : Int × Int × (OL GSlice)) => g_ref43_Session_l3 n (x0 :: rest) x0 (lst x0 rest) recl3 v.1 v.2.1 v.2.2) j = L at i0 ⊢
    show g_ref43_Session_l3 n (x0 :: rest) x0 (lst x0 rest) L m e sl = _
    unfold g_ref43_Session_l3
    rw [show ltI m (lst x0 rest).Minute = true from by simp only [ltI]; rw [decide_eq_true (by omega)], cond_true, hat1, Option.bind_some, hw, hat2, Option.bind_some, hen, Option.bind_some]
    simp only [eqI_d]
    rw [decide_eq_true hz, Bool.not_true, cond_false, i0]
   ·have i1 := i1 hz
    refine ⟨?_, i1.2⟩
    have i1 := i1.1
    unfold loopN
    generalize loopN (fun recl3 (v : Int × Int × (OL GSlice)) => g_ref43_Session_l3 n (x0 :: rest) x0 (lst x0 rest) recl3 v.1 v.2.1 v.2.2) j = L at i1 ⊢
    show g_ref43_Session_l3 n (x0 :: rest) x0 (lst x0 rest) L m e sl = _
    have hroom : roomB (List.length (sl.toL ++ [(⟨m, sumE (lst x0 a) g⟩ : GSlice)])) 16 = true := by
     simp only [roomB, List.length_append, List.length_cons, List.length_nil]
     rw [decide_eq_true]
     omega
    unfold g_ref43_Session_l3
    rw [show ltI m (lst x0 rest).Minute = true from by simp only [ltI]; rw [decide_eq_true (by omega)], cond_true, hat1, Option.bind_some, hw, hat2, Option.bind_some, hen, Option.bind_some]
    simp only [eqI_d]
    rw [decide_eq_false hz, Bool.not_false, cond_true, hroom, cond_true, i1]
 obtain ⟨a, post, hre, ha, hp⟩ : ∃ a post, rest = a ++ post ∧ (∀ x ∈ a, x.Minute = x0.Minute) ∧ ∀ x ∈ post, x0.Minute < x.Minute := by
  obtain ⟨g, q, e, h1, h2⟩ := post_split (x0.Minute - 1) rest x0 ho (fun x hx => by have := ord_min rest x0 ho x hx; omega)
  exact ⟨g, q, e, fun x hx => by have := h1 x hx; omega, fun x hx => by have := h2 x hx; omega⟩
 have hder0 : ∀ (a : List GReading) (p : GReading), (∀ x ∈ a, x.Minute = x0.Minute) → derF x0.Minute p x0.Minute [] a = (x0.Minute, []) := by
  intro a
  induction a with
  | nil => intro p _; rfl
  | cons y r ih =>
   intro p h
   have hy := h y List.mem_cons_self
   unfold derF
   have : derS x0.Minute p y x0.Minute [] = (x0.Minute, []) := by
    unfold derS
    rw [if_neg (by omega)]
   rw [this]
   exact ih y (fun z hz => h z (List.mem_cons_of_mem _ hz))
 have hT0 := hto x0 (Or.inl rfl)
 have hk := key ((lst x0 rest).Minute - x0.Minute).toNat n x0.Minute x0.Minute OL.nil a post hre (fun x hx => by have := ha x hx; omega) hp (hder0 a x0 ha) ⟨fun x hx => by simp at hx, by simp, Int.le_refl _, Int.le_refl _⟩ (by simp) (Int.le_refl _) hT0 rfl (by omega)
 refine ⟨?_, hk.2⟩
 unfold g_ref43_Session
 rw [show getI (x0 :: rest) 0 = some x0 from rfl, Option.bind_some]
 have hlast := getI_last (l := x0 :: rest) (by simp) (by omega)
 simp only [lenI, List.length_map]
 rw [hlast, List.getLast?_eq_some_getLast (by simp), getLast_lst, Option.bind_some, wi_id (x := (lst x0 rest).Minute - x0.Minute) (by omega) (by omega)]
 rw [show ltI 2880 ((lst x0 rest).Minute - x0.Minute) = false from by simp only [ltI]; rw [decide_eq_false (by omega)], cond_false]
 exact hk.1
end Go.Proofs
namespace Go.Proofs
open Go Go.Abs
set_option maxRecDepth 100000
set_option linter.unusedVariables false
theorem slB_of (f e : Int) : ∀ (l : List GSlice) (p : Int), (∀ x ∈ l, f ≤ x.Minute ∧ x.Minute < e ∧ 0 ≤ x.Energy) → (∀ x ∈ l, p < x.Minute) → l.Pairwise (fun a b => a.Minute < b.Minute) → slB f e p l = l.all (fun x => decide (x.Energy ≤ 10000))
 | [], _, _, _, _ => rfl
 | x :: r, p, h1, h2, h3 => by
  have a1 := h1 x List.mem_cons_self
  have a2 := h2 x List.mem_cons_self
  rw [List.pairwise_cons] at h3
  unfold slB
  rw [List.all_cons, slB_of f e r x.Minute (fun y hy => h1 y (List.mem_cons_of_mem _ hy)) (fun y hy => h3.1 y hy) h3.2]
  congr 1
  by_cases c : x.Energy ≤ 10000
  ·rw [decide_eq_true c, decide_eq_true (by omega)]
  ·rw [decide_eq_false c, decide_eq_false (by omega)]
theorem r_ses (n : Nat) (seed : Int) (l : List GReading) (hn : 10000 ≤ n) (hc : chainOk seed l) : ∃ s, g_ref43_Session n l = some s ∧ g_ref33_Valid n s = some (sesB (sesF l)) ∧ (sesB (sesF l) = true → s = sesF l ∧ valB (sesF l) = true) := by
 match l, hc with
 | [], hc => exact absurd hc.1.1 (by simp)
 | x0 :: rest, hc =>
  have h0 := hc.2 0 (by simp) x0 rfl
  have ho : OrdR x0 rest := chain_drop hc rest x0 0 rfl
  have hT : 0 ≤ (lst x0 rest).Minute ∧ (lst x0 rest).Minute ≤ 52560000 := by
   have : ∀ (r : List GReading) (p : GReading), (0 ≤ p.Minute ∧ p.Minute ≤ 52560000) → OrdR p r → 0 ≤ (lst p r).Minute ∧ (lst p r).Minute ≤ 52560000 := by
    intro r
    induction r with
    | nil => intro p hp _; exact hp
    | cons y r ih => intro p hp h; exact ih y h.1 h.2.2.2
   exact this rest x0 h0.2.2.1 ho
  have hf : (sesF (x0 :: rest)).From = x0.Minute := rfl
  have ht : (sesF (x0 :: rest)).To = (lst x0 rest).Minute := by
   have : (sesF (x0 :: rest)).To = ((x0 :: rest).getLast (by simp)).Minute := rfl
   rw [this, getLast_lst]
  have hll := hc.1.2
  by_cases hlen : (lst x0 rest).Minute - x0.Minute ≤ 2880
  ·obtain ⟨g1, g2⟩ := r_session n seed x0 rest hn hc hlen
   have hval : valB (sesF (x0 :: rest)) = sesB (sesF (x0 :: rest)) := by
    have g3 := g2
    rw [hf, ht] at g3
    unfold valB sesB
    rw [slB_of _ _ _ _ g2.all (fun x hx => by have := (g2.all x hx).1; omega) g2.pw, hf, ht, wi_id (x := (lst x0 rest).Minute - x0.Minute) (by omega) (by omega)]
    have k1 := g3.lo
    have k2 := g3.hi
    generalize (sesF (x0 :: rest)).Slices.all (fun x => decide (x.Energy ≤ 10000)) = q
    by_cases c1 : x0.Minute < (lst x0 rest).Minute
    ·by_cases c2 : (sesF (x0 :: rest)).Slices.length ≤ 48
     ·rw [decide_eq_true c1, decide_eq_true c2, decide_eq_true hlen, decide_eq_true (by omega)]; rfl
     ·rw [decide_eq_true c1, decide_eq_false c2, decide_eq_true hlen, decide_eq_false (by omega)]; rfl
    ·rw [decide_eq_false c1, decide_eq_false (by omega)]; rfl
   refine ⟨_, g1, ?_, fun h => ⟨rfl, by rw [hval, h]⟩⟩
   by_cases hs : (sesF (x0 :: rest)).Slices.length ≤ 900
   ·rw [r_session_valid n _ (by omega) hs (by rw [hf]; unfold i64b; omega), hval]
   ·exfalso
    have : ∀ (r : List GReading) (p : GReading) (e : Int) (sl : List GSlice), (derF x0.Minute p e sl r).2.length ≤ sl.length + r.length := by
     intro r
     induction r with
     | nil => intro p e sl; exact Nat.le_refl _
     | cons y r ih =>
      intro p e sl
      unfold derF
      have h1 := ih y (derS x0.Minute p y e sl).1 (derS x0.Minute p y e sl).2
      have h2 : (derS x0.Minute p y e sl).2.length ≤ sl.length + 1 := by
       unfold derS addS
       split
       ·split
        ·simp
        ·split
         ·split
          ·simp
          ·simp
         ·simp
       ·simp
      simp only [List.length_cons]
      omega
    have h3 := this rest x0 x0.Minute []
    have h4 : (sesF (x0 :: rest)).Slices = (derF x0.Minute x0 x0.Minute [] rest).2 := rfl
    rw [h4] at hs
    simp only [List.length_cons, List.length_nil] at hll h3
    omega
  ·have hb : sesB (sesF (x0 :: rest)) = false := by
    unfold sesB
    rw [hf, ht, wi_id (x := (lst x0 rest).Minute - x0.Minute) (by omega) (by omega), decide_eq_false hlen]
    simp
   refine ⟨⟨x0.Minute, (lst x0 rest).Minute, x0.Minute, []⟩, ?_, ?_, fun h => by rw [hb] at h; cases h⟩
   ·unfold g_ref43_Session
    rw [show getI (x0 :: rest) 0 = some x0 from rfl, Option.bind_some]
    have hlast := getI_last (l := x0 :: rest) (by simp) (by omega)
    simp only [lenI, List.length_map]
    rw [hlast, List.getLast?_eq_some_getLast (by simp), getLast_lst, Option.bind_some, wi_id (x := (lst x0 rest).Minute - x0.Minute) (by omega) (by omega)]
    rw [show ltI 2880 ((lst x0 rest).Minute - x0.Minute) = true from by simp only [ltI]; rw [decide_eq_true (by omega)], cond_true]
   ·rw [r_session_valid n _ (by omega) (by simp) (by unfold i64b; simp only; omega), hb]
    unfold valB
    rw [decide_eq_false (by simp only; omega)]; rfl
theorem r_same (n : Nat) (a b : GSession) (hn : 1000 ≤ n) (hl : b.Slices.length ≤ 900) : g_ref43_same n a b = some (decide (a = b)) := by
 obtain ⟨af, at', ae, al⟩ := a
 obtain ⟨bf, bt, be, bl⟩ := b
 unfold g_ref43_same
 simp only [lenI, List.length_map, eqI_d, cond_some, Option.bind_some] at hl ⊢
 by_cases c1 : af = bf
 rotate_left
 ·simp [c1]
 by_cases c2 : at' = bt
 rotate_left
 ·simp [c1, c2]
 by_cases c3 : ae = be
 rotate_left
 ·simp [c1, c2, c3]
 subst c1 c2 c3
 by_cases h : al.length = bl.length
 rotate_left
 ·have h' : ¬ (al.length : Int) = bl.length := by omega
  have h2 : ¬ al = bl := fun h3 => h (by rw [h3])
  simp [h', h2]
 ·rw [decide_eq_true (show (al.length : Int) = bl.length from by omega)]
  simp only [decide_true, Bool.not_true, cond_false]
  have := loop_gen (l := al) (fun (_ : List GSlice) i => i) (B := fun recl5 l5 => g_ref43_same_l5 ⟨af, at', ae, al⟩ ⟨af, at', ae, bl⟩ recl5 l5) (F := fun q r => decide (r = q)) (fun i q => bl.drop i = q) (by omega) ?_ ?_ (n := n) 0 bl (by simp) (by omega) (by omega)
  ·rw [show (((0 : Nat) : Int)) = 0 from rfl] at this
   rw [this]
   simp
  ·intro rec q hq
   simp only [g_ref43_same_l5, lenI, List.length_map, ltI]
   rw [decide_eq_false (by omega), cond_false]
   rw [h, List.drop_length] at hq
   subst hq
   simp
  ·intro rec q i x r hq hd hx hi hw hr
   have hb : bl[i]? = some bl[i] := by rw [List.getElem?_eq_getElem]
   have hq2 : q = bl[i] :: bl.drop (i + 1) := by rw [← hq, List.drop_eq_getElem_cons (by omega)]
   simp only [g_ref43_same_l5, lenI, List.length_map, ltI, getI_nat, hx, hb, Option.bind_some, eqI_d, opq, hw]
   rw [decide_eq_true (by omega), cond_true, hr _ rfl, hq2]
   obtain ⟨xm, xe⟩ := x
   generalize bl[i] = y
   obtain ⟨ym, ye⟩ := y
   by_cases h1 : xm = ym <;> by_cases h2 : xe = ye <;> simp [h1, h2]
theorem r_sameLines (n : Nat) (a b : List GLine) (hn : 1000 ≤ n) (hl : b.length ≤ 900) : g_ref43_sameLines n a b = some (decide (a = b)) := by
 unfold g_ref43_sameLines
 simp only [lenI, List.length_map, eqI_d]
 by_cases h : a.length = b.length
 rotate_left
 ·have h' : ¬ (a.length : Int) = b.length := by omega
  have h2 : ¬ a = b := fun h3 => h (by rw [h3])
  simp [h', h2]
 ·rw [decide_eq_true (show (a.length : Int) = b.length from by omega), Bool.not_true, cond_false]
  have := loop_gen (l := a) (fun (_ : List GLine) i => i) (B := fun recl1 l1 => g_ref43_sameLines_l1 a b recl1 l1) (F := fun q r => decide (r = q)) (fun i q => b.drop i = q) (by omega) ?_ ?_ (n := n) 0 b (by simp) (by omega) (by omega)
  ·rw [show (((0 : Nat) : Int)) = 0 from rfl] at this
   rw [this]
   simp
  ·intro rec q hq
   simp only [g_ref43_sameLines_l1, lenI, List.length_map, ltI]
   rw [decide_eq_false (by omega), cond_false]
   rw [h, List.drop_length] at hq
   subst hq; simp
  ·intro rec q i x r hq hd hx hi hw hr
   have hb : b[i]? = some b[i] := by rw [List.getElem?_eq_getElem]
   have hq2 : q = b[i] :: b.drop (i + 1) := by rw [← hq, List.drop_eq_getElem_cons (by omega)]
   simp only [g_ref43_sameLines_l1, lenI, List.length_map, ltI, getI_nat, hx, hb, Option.bind_some, eqI_d, opq, hw]
   rw [decide_eq_true (by omega), cond_true, hr _ rfl, hq2]
   obtain ⟨xm, xe⟩ := x
   generalize b[i] = y
   obtain ⟨ym, ye⟩ := y
   by_cases h1 : xm = ym <;> by_cases h2 : xe = ye <;> simp [h1, h2]
open Classical in
theorem r_verify (n : Nat) (c : GClaim) (hn : 10000 ≤ n) (hs : c.Session.Slices.length ≤ 60) (hr : c.Readings.length ≤ 80) (hb : c.Bill.Lines.length ≤ 40) (hch : c.Calendar.Changes.length ≤ 30) (hh : c.Calendar.Holidays.length ≤ 60) (hnm : c.Tariff.Name.length ≤ 50) :
  g_ref43_Verify n c = some (exa c true) := by
 unfold g_ref43_Verify exa
 rw [r_right n c (by omega) hr, Option.bind_some]
 by_cases h1 : chainOk c.Seed c.Readings
 rotate_left
 ·rw [decide_eq_false h1, if_pos h1]; rfl
 rw [decide_eq_true h1, if_neg (not_not_intro h1), r_tariff n _ (by omega) (by omega), r_cal n _ (by omega) (by omega) (by omega)]
 simp only [Bool.not_true, cond_false, Option.bind_some, cond_some]
 cases h2 : tariffB c.Tariff
 ·rfl
 cases h3 : calB c.Calendar
 ·rfl
 obtain ⟨s, g1, g2, g3⟩ := r_ses n c.Seed c.Readings hn h1
 rw [g1, Option.bind_some, g2]
 simp only [Bool.not_true, cond_false, Option.bind_some, if_false, Bool.true_eq_false]
 cases h4 : sesB (sesF c.Readings)
 ·rfl
 obtain ⟨rfl, hv⟩ := g3 h4
 rw [r_same n _ _ (by omega) (by omega)]
 simp only [Bool.not_true, cond_false, Option.bind_some, if_false, Bool.true_eq_false, true_and]
 by_cases h5 : c.Session = sesF c.Readings
 rotate_left
 ·rw [decide_eq_false (fun h => h5 h.symm), if_pos h5]; rfl
 rw [decide_eq_true h5.symm, if_neg (not_not_intro h5)]
 simp only [Bool.not_true, cond_false]
 have ht' := h2
 simp only [tariffB, Bool.and_eq_true, decide_eq_true_eq] at ht'
 rw [r_lines n c _ hn (by omega) (by omega) h3 (tarB_all ht'.2) hv (by omega), Option.bind_some]
 change (Option.bind (cond (!(if linB (linesOf c) then (linesOf c, true) else ([], false)).2) _ _) _) = _
 cases h6 : linB (linesOf c)
 ·rfl
 simp only [if_true, Bool.not_true, cond_false, Bool.true_eq_false, if_false]
 rw [show linF c.Calendar (sesF c.Readings) 0 c.Tariff.Articles = linesOf c from rfl, h6, if_pos rfl]
 rw [r_sameLines n _ _ (by omega) (by omega)]
 simp only [Option.bind_some]
 by_cases h7 : c.Bill.Lines = linesOf c
 rotate_left
 ·rw [decide_eq_false (fun h => h7 h.symm), if_pos h7]; rfl
 rw [decide_eq_true h7.symm, if_neg (not_not_intro h7)]
 simp only [Bool.not_true, cond_false]
 rw [r_bill n _ _ _ hn (by omega) (by omega) h3 h2 hv, Option.bind_some, show linF c.Calendar (sesF c.Readings) 0 c.Tariff.Articles = linesOf c from rfl, h6, if_pos rfl, show bilF c.Tariff (rateF 0 c.Tariff.Articles) 0 (linesOf c) = billOf c from rfl]
 cases h8 : bilB (billOf c)
 ·rfl
 simp only [if_true, show eqI 0 0 = true from rfl, Bool.not_true, cond_false, Bool.true_eq_false, if_false]
 rw [a_sameBill n _ _ (by omega) (by omega)]
 simp only [Option.bind_some]
 by_cases h9 : billOf c = c.Bill
 ·rw [decide_eq_true h9, if_neg (by rw [h9]; simp)]; rfl
 ·rw [decide_eq_false h9, if_pos]
  ·rfl
  ·intro h
   apply h9
   have e3 : (billOf c).Lines = linesOf c := rfl
   generalize billOf c = b at h e3
   rw [← e3] at h7
   obtain ⟨bl, bn, bt, bo⟩ := b
   obtain ⟨t, k, rr, sd, ss, ⟨xl, xn, xt, xo⟩⟩ := c
   simp only at h7 h
   rw [h7, h.1, h.2.1, h.2.2]
def repV (c : GClaim) (e : Int) : GBill × Int := if e = 0 then (billOf c, 0) else if e = 1 then (zeroBill, 11) else if e = 2 then (zeroBill, 1) else if e = 3 then (zeroBill, 6) else (zeroBill, 3)
theorem a_replay2 (n : Nat) (c : GClaim) (hn : 36893488147419103232 ≤ n) : g_auditor_Replay n c = some (repV c (exa c false)) := by
 obtain ⟨e, g, g2⟩ := a_examine n c false hn
 unfold g_auditor_Replay repV
 simp only [g, Option.bind_some, eqI_d]
 by_cases h0 : exa c false = 0
 ·rw [decide_eq_true h0, if_pos h0, g2 h0]; rfl
 rw [decide_eq_false h0, cond_false, if_neg h0]
 by_cases h1 : exa c false = 1
 ·rw [decide_eq_true h1, if_pos h1]; rfl
 rw [decide_eq_false h1, cond_false, if_neg h1]
 by_cases h2 : exa c false = 2
 ·rw [decide_eq_true h2, if_pos h2]; rfl
 rw [decide_eq_false h2, cond_false, if_neg h2]
 by_cases h3 : exa c false = 3
 ·rw [decide_eq_true h3, if_pos h3]; rfl
 rw [decide_eq_false h3, cond_false, if_neg h3]; rfl
open Classical in
theorem r_replay (n : Nat) (c : GClaim) (hn : 10000 ≤ n) (hr : c.Readings.length ≤ 80) (hch : c.Calendar.Changes.length ≤ 30) (hh : c.Calendar.Holidays.length ≤ 60) (hnm : c.Tariff.Name.length ≤ 50) :
  g_ref43_Replay n c = some (repV c (exa c false)) := by
 unfold g_ref43_Replay exa
 simp only [Bool.false_eq_true, false_and, if_false]
 rw [r_right n c (by omega) hr, Option.bind_some]
 by_cases h1 : chainOk c.Seed c.Readings
 rotate_left
 ·rw [decide_eq_false h1, if_pos h1]; rfl
 rw [decide_eq_true h1, if_neg (not_not_intro h1), r_tariff n _ (by omega) (by omega), r_cal n _ (by omega) (by omega) (by omega)]
 simp only [Bool.not_true, cond_false, Option.bind_some, cond_some]
 cases h2 : tariffB c.Tariff
 ·rfl
 cases h3 : calB c.Calendar
 ·rfl
 obtain ⟨s, g1, g2, g3⟩ := r_ses n c.Seed c.Readings hn h1
 rw [g1, Option.bind_some, g2]
 simp only [Bool.not_true, cond_false, Option.bind_some, if_false, Bool.true_eq_false]
 cases h4 : sesB (sesF c.Readings)
 ·rfl
 obtain ⟨rfl, hv⟩ := g3 h4
 simp only [Bool.not_true, cond_false, if_false, Bool.true_eq_false]
 rw [r_bill n _ _ _ hn (by omega) (by omega) h3 h2 hv, Option.bind_some, show linF c.Calendar (sesF c.Readings) 0 c.Tariff.Articles = linesOf c from rfl, show bilF c.Tariff (rateF 0 c.Tariff.Articles) 0 (linesOf c) = billOf c from rfl]
 cases h6 : linB (linesOf c)
 ·rfl
 cases h8 : bilB (billOf c)
 ·rfl
 rfl
theorem matches_plain (c : GClaim) : g_law43_AuditorMatchesReference 36893488147419103232 c = some true := by
 unfold g_law43_AuditorMatchesReference
 generalize hn : (36893488147419103232 : Nat) = n
 have hh : g_law43_head n = some true := by rw [← hn]; exact head_big
 obtain ⟨b, f1, f2⟩ := a_few n c
 rw [hh, Option.bind_some, f1, Option.bind_some]
 cases b
 ·rfl
 have f3 := f2 rfl
 rw [Bool.not_true, cond_false, a_replay2 n c (by omega), Option.bind_some, r_replay n c (by omega) (by omega) (by omega) (by omega) (by omega), Option.bind_some, cond_true, a_verify n c (by omega), Option.bind_some, r_verify n c (by omega) (by omega) (by omega) (by omega) (by omega) (by omega) (by omega), Option.bind_some]
 rw [eqI_d, decide_eq_true rfl, cond_true]
 have hl : (repV c (exa c false)).1.Lines.length ≤ 900 := by
  have := linF_len c.Calendar (sesF c.Readings) c.Tariff.Articles 0
  unfold repV
  split
  ·show (linF c.Calendar (sesF c.Readings) 0 c.Tariff.Articles).length ≤ 900
   omega
  ·split
   ·exact Nat.zero_le _
   ·split
    ·exact Nat.zero_le _
    ·split <;> exact Nat.zero_le _
 rw [a_sameBill n _ _ (by omega) hl, Option.bind_some, decide_eq_true rfl, cond_true, eqI_d, decide_eq_true rfl]
end Go.Proofs
namespace Go.Proofs.Ytgehgobiibddaaa
open Go Go.Abs Go.Proofs
theorem auditorMatchesReference_holds : Rows.AuditorMatchesReferenceSaid :=
 auditorMatchesReference_said (fun c _ => ⟨_, matches_plain c⟩)
end Go.Proofs.Ytgehgobiibddaaa
