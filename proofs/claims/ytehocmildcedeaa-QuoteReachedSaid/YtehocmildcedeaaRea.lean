/-
  A part of the proof of a statement of the seat Ytehocmildcedeaa.
-/
import Derived.Test.YtehocmildcedeaaRea04
namespace Go.Proofs
open Go Go.Abs
set_option maxRecDepth 100000
set_option linter.unusedVariables false
theorem loop_does {α R A V : Type} {l : List α} (S : A → Int → V) {B : (V → Option R) → V → Option R} {Q : A → List α → R → Prop} (Inv : Nat → A → Prop) (hlen : l.length ≤ 4611686018427387904)
  (hend : ∀ rec a, Inv l.length a → Does (B rec (S a (l.length : Int))) (Q a []))
  (hstep : ∀ (rec : V → Option R) (a : A) (i : Nat) (x : α) (r : List α), Inv i a → l.drop i = x :: r → l[i]? = some x → i < l.length → wi ((i : Int) + 1) = ((i + 1 : Nat) : Int) → (∀ a, Inv (i + 1) a → Does (rec (S a ((i + 1 : Nat) : Int))) (Q a r)) → Does (B rec (S a (i : Int))) (Q a (x :: r))) :
  ∀ {n : Nat} (i : Nat) (a : A), Inv i a → i ≤ l.length → l.length - i < n → Does (loopN B n (S a (i : Int))) (Q a (l.drop i))
 | 0, _, _, _, _, h => absurd h (Nat.not_lt_zero _)
 | n + 1, i, a, ha, hi, h => by
  unfold loopN
  by_cases he : i = l.length
  ·subst he; simpa using hend _ _ ha
  ·have hlt : i < l.length := by omega
   have hd : l.drop i = l[i] :: l.drop (i + 1) := by rw [List.drop_eq_getElem_cons hlt]
   rw [hd]
   exact hstep _ a i _ _ ha hd (by simp [hlt]) hlt (by rw [wi_id] <;> omega) (fun a ha => loop_does S Inv hlen hend hstep (i + 1) a ha (by omega) (by omega))
def linF (c : GCl) (s : GSs) : Nat → List GAr → List GLine
 | _, [] => []
 | i, a :: r => if a.Kind = 5 ∨ a.Kind = 6 then linF c s (i + 1) r else ⟨i, cosF c s a⟩ :: linF c s (i + 1) r
def linB (l : List GLine) : Bool := l.all (fun x => decide (x.Amount ≤ 1000000000))
def sumF : Int → List GLine → Int
 | z, [] => z
 | z, x :: r => sumF (wi (z + x.Amount)) r
def capF : Int → List GAr → Int
 | z, [] => z
 | z, a :: r => capF (if a.Kind = 5 then minI z a.Price else z) r
def taxF (net rate : Int) : Int := wi (Int.tdiv (wi (wi (wi (2 * net) * rate) + 10000)) 20000)
def netF (t : GTf) (z : Int) (l : List GLine) : Int := capF (sumF z l) t.Articles
def bilF (t : GTf) (rate z : Int) (l : List GLine) : GBill := ⟨l, netF t z l, taxF (netF t z l) rate, wi (netF t z l + taxF (netF t z l) rate)⟩
def bilB (b : GBill) : Bool := decide (b.Net ≤ 1000000000) && decide (b.Total ≤ 1000000000)
end Go.Proofs
namespace Go.Proofs
open Go Go.Abs
set_option maxRecDepth 100000
set_option linter.unusedVariables false
theorem tarB_all : ∀ {l : List GAr} {k : Int}, tarB k l = true → ∀ a ∈ l, artB a = true
 | [], _, _, a, ha => by cases ha
 | x :: r, k, h, a, ha => by
  simp only [tarB, bae] at h
  rcases List.mem_cons.1 ha with rfl | ha
  ·exact h.1
  ·exact tarB_all h.2 a ha
end Go.Proofs
namespace Go.Proofs
open Go Go.Abs
set_option maxRecDepth 100000
set_option linter.unusedVariables false
theorem r_in (n : Nat) (l : List (List UInt8)) (s : List UInt8) (hn : 1000 ≤ n) (hl : l.length ≤ 900) : Does (g_ref02_In n l s) (fun r => leI 0 r = l.contains s) := by
 unfold g_ref02_In
 have := loop_does (l := l) (fun (_ : Unit) i => i) (B := fun recl1 l1 => g_ref02_In_l1 l s recl1 l1) (Q := fun _ r x => leI 0 x = r.contains s) (fun _ _ => True) (by omega) ?_ ?_ (n := n) 0 () trivial (by omega) (by omega)
 ·exact this
 ·intro rec a _
  simp only [g_ref02_In_l1, lenI, List.length_map, ltI]
  rw [dzF (by omega), cond_false]
  exact does_some rfl
 ·intro rec a i x r _ hd hx hi hw hr
  simp only [g_ref02_In_l1, lenI, List.length_map, ltI, getI_nat, hx, obs, eqS]
  rw [dzT (by omega), cond_true]
  by_cases h : x = s
  ·subst h
   rw [beq_self_eq_true, cond_true]
   refine does_some ?_
   simp [leI]
  ·rw [show (x == s) = false from by simpa using h, cond_false, hw]
   refine does_mono (hr () trivial) (fun y hy => ?_)
   rw [hy, List.contains_cons, show (s == x) = false from by simpa using fun e => h e.symm, Bool.false_or]
def keyL : List (List UInt8) := ((g_ref02_Kinds 0).getD []) ++ (((g_ref02_Attrs 0).getD []) ++ (((g_ref02_Articles 0).getD []) ++ ((g_ref02_Words 0).getD [])))
theorem cse (b c : Bool) : (bif b then b else c) = (b || c) := by cases b <;> rfl
theorem cst (b c : Bool) : (bif b then true else c) = (b || c) := by cases b <;> rfl
def keyA : List (List UInt8) := [[102, 101, 101, 100, 101, 114], [99, 97, 98, 108, 101], [111, 119, 110, 101, 114], [99, 111, 110, 116, 114, 97, 99, 116], [99, 104, 97, 114, 103, 101, 114], [98, 97, 121], [116, 97, 114, 105, 102, 102], [108, 105, 109, 105, 116], [110, 101, 117, 116, 114, 97, 108], [102, 117, 115, 101], [116, 104, 101, 114, 109, 97, 108], [102, 114, 111, 109], [97, 116], [112, 104, 97, 115, 101, 115], [97, 109, 112, 115], [102, 97, 108, 108, 98, 97, 99, 107], [99, 97, 114, 100], [114, 97, 110, 107], [115, 116, 97, 114, 116], [101, 110, 101, 114, 103, 121], [116, 105, 109, 101], [105, 100, 108, 101], [99, 97, 112], [116, 97, 120], [111, 110], [119, 111, 114, 107], [115, 97, 116, 117, 114, 100, 97, 121], [115, 117, 110, 100, 97, 121], [98, 101, 116, 119, 101, 101, 110], [112, 101, 114], [102, 114, 101, 101]]
theorem keyB_any (s : List UInt8) : keyB s = keyA.contains s := by
 unfold keyB g_a_isKey keyA
 simp only [cond_some, obs, Option.getD_some, cse, cst, eqS, List.contains_cons, List.contains_nil, Bool.or_assoc, Bool.or_false]
theorem keyB_mem (s : List UInt8) : keyB s = keyL.contains s := by
 rw [keyB_any, Bool.eq_iff_iff, List.contains_iff_mem, List.contains_iff_mem]
 have h1 : ∀ x ∈ keyA, x ∈ keyL := by decide
 have h2 : ∀ x ∈ keyL, x ∈ keyA := by decide
 exact ⟨h1 s, h2 s⟩
theorem r_namej (n : Nat) (s : List UInt8) (hn : 1000 ≤ n) : g_ref02_Name_j1 n s = some (decide (1 ≤ s.length ∧ s.length ≤ 12) && !keyB s) := by
 unfold g_ref02_Name_j1 g_ref02_Kinds g_ref02_Attrs g_ref02_Articles g_ref02_Words
 simp only [obs]
 rw [keyB_mem]
 unfold keyL g_ref02_Kinds g_ref02_Attrs g_ref02_Articles g_ref02_Words
 simp only [Option.getD_some]
 have e := fun (l : List (List UInt8)) (hl : l.length ≤ 900) => r_in n l s hn hl
 obtain ⟨r1, e1, h1⟩ := e [[102, 101, 101, 100, 101, 114], [99, 97, 98, 108, 101], [111, 119, 110, 101, 114], [99, 111, 110, 116, 114, 97, 99, 116], [99, 104, 97, 114, 103, 101, 114], [98, 97, 121], [116, 97, 114, 105, 102, 102]] (by decide)
 obtain ⟨r2, e2, h2⟩ := e [[108, 105, 109, 105, 116], [110, 101, 117, 116, 114, 97, 108], [102, 117, 115, 101], [116, 104, 101, 114, 109, 97, 108], [102, 114, 111, 109], [97, 116], [112, 104, 97, 115, 101, 115], [97, 109, 112, 115], [102, 97, 108, 108, 98, 97, 99, 107], [111, 119, 110, 101, 114], [99, 97, 114, 100], [114, 97, 110, 107], [99, 104, 97, 114, 103, 101, 114]] (by decide)
 obtain ⟨r3, e3, h3⟩ := e [[115, 116, 97, 114, 116], [101, 110, 101, 114, 103, 121], [116, 105, 109, 101], [105, 100, 108, 101], [99, 97, 112], [116, 97, 120]] (by decide)
 obtain ⟨r4, e4, h4⟩ := e [[111, 110], [119, 111, 114, 107], [115, 97, 116, 117, 114, 100, 97, 121], [115, 117, 110, 100, 97, 121], [98, 101, 116, 119, 101, 101, 110], [112, 101, 114], [102, 114, 101, 101]] (by decide)
 rw [e1, obs, e2, obs, e3, obs, e4, obs, h1, h2, h3, h4]
 have ha : ∀ (a b : List (List UInt8)), (a ++ b).contains s = (a.contains s || b.contains s) := by intro a b; simp
 rw [ha, ha, ha]
 simp only [cond_some, obs, leI, lenI, cst]
 generalize ((_ : Bool) || _) = k
 by_cases c1 : 1 ≤ s.length
 ·by_cases c2 : s.length ≤ 12
  ·rw [dzT (show (1 : Int) ≤ s.length by omega), dzT (show (s.length : Int) ≤ 12 by omega), dzT (show 1 ≤ s.length ∧ s.length ≤ 12 from ⟨c1, c2⟩)]; rfl
  ·rw [dzT (show (1 : Int) ≤ s.length by omega), dzF (show ¬ (s.length : Int) ≤ 12 by omega), dzF (show ¬ (1 ≤ s.length ∧ s.length ≤ 12) from fun h => c2 h.2)]; rfl
 ·rw [dzF (show ¬ (1 : Int) ≤ s.length by omega), dzF (show ¬ (1 ≤ s.length ∧ s.length ≤ 12) from fun h => c1 h.1)]; rfl
theorem chr_ref (c : Int) (z : Bool) : (bif decide (c < 97) then bif z then true else bif decide (c < 48) then !decide (c = 95) else bif decide (57 < c) then !decide (c = 95) else false
  else bif decide (122 < c) then bif z then true else bif decide (c < 48) then !decide (c = 95) else bif decide (57 < c) then !decide (c = 95) else false else false) = !(bif z then decide (97 ≤ c ∧ c ≤ 122) else decide ((97 ≤ c ∧ c ≤ 122) ∨ (48 ≤ c ∧ c ≤ 57) ∨ c = 95)) := by
 cases z <;> by_cases h1 : c < 97 <;> by_cases h2 : 122 < c <;> by_cases h3 : c < 48 <;> by_cases h4 : 57 < c <;> by_cases h5 : c = 95 <;> simp [h1, h2, h3, h4, h5] <;> omega
theorem r_name (n : Nat) (s : List UInt8) (hn : 1000 ≤ n) (hl : s.length ≤ 900) : g_ref02_Name n s = some (nameB s) := by
 unfold g_ref02_Name
 have h1 : ∀ (rec : Int → Option Bool) (a : Unit), (1 ≤ s.length ∨ s.length = 0) → g_ref02_Name_l16 n s rec (s.length : Int) = some (([] : List UInt8).all chrB && (decide (1 ≤ s.length ∧ s.length ≤ 12) && !keyB s)) := by
  intro rec a ha
  simp only [g_ref02_Name_l16, lenI, ltI]
  rw [dzF (by omega), cond_false, r_namej n s hn]
  rfl
 have h2 : ∀ (rec : Int → Option Bool) (a : Unit) (i : Nat) (x : UInt8) (r : List UInt8), (1 ≤ i ∨ s.length = 0) → s.drop i = x :: r → s[i]? = some x → i < s.length → wi ((i : Int) + 1) = ((i + 1 : Nat) : Int) →
   (∀ a : Unit, (1 ≤ i + 1 ∨ s.length = 0) → rec ((i + 1 : Nat) : Int) = some (r.all chrB && (decide (1 ≤ s.length ∧ s.length ≤ 12) && !keyB s))) → g_ref02_Name_l16 n s rec (i : Int) = some ((x :: r).all chrB && (decide (1 ≤ s.length ∧ s.length ≤ 12) && !keyB s)) := by
  intro rec a i x r ha hd hx hi hw hr
  simp only [g_ref02_Name_l16, lenI, ltI, getI_nat, hx, obs, hw, cond_some, eqI_d, chr_ref]
  rw [dzT (by omega), cond_true, dzF (show ¬ (i : Int) = 0 by omega), cond_false, hr () (Or.inl (by omega)), List.all_cons]
  show (bif !chrB x then some false else _) = _
  cases chrB x <;> rfl
 cases s with
 | nil =>
  have := loop_gen (l := []) (fun (_ : Unit) i => i) (F := fun _ r => r.all chrB && (decide (1 ≤ ([] : List UInt8).length ∧ ([] : List UInt8).length ≤ 12) && !keyB [])) (fun i _ => 1 ≤ i ∨ ([] : List UInt8).length = 0) (by simp) h1 h2 (n := n) 0 () (Or.inr rfl) (by simp) (by simp; omega)
  rw [show ((0 : Nat) : Int) = 0 from rfl] at this
  rw [this]; rfl
 | cons x r =>
  obtain ⟨m, rfl⟩ : ∃ m, n = m + 1 := ⟨n - 1, by omega⟩
  have hs := loop_gen (l := x :: r) (fun (_ : Unit) i => i) (F := fun _ q => q.all chrB && (decide (1 ≤ (x :: r).length ∧ (x :: r).length ≤ 12) && !keyB (x :: r))) (fun i _ => 1 ≤ i ∨ (x :: r).length = 0) (by omega) h1 h2 (n := m) 1 () (Or.inl (Nat.le_refl _)) (by simp) (by simp at hl ⊢; omega)
  rw [show ((1 : Nat) : Int) = 1 from rfl] at hs
  unfold loopN
  show g_ref02_Name_l16 (m + 1) (x :: r) (loopN (g_ref02_Name_l16 (m + 1) (x :: r)) m) 0 = _
  generalize loopN (g_ref02_Name_l16 (m + 1) (x :: r)) m = L at hs ⊢
  unfold g_ref02_Name_l16
  rw [show getI (x :: r) 0 = some x from rfl]
  simp only [lenI, ltI, obs, cond_some, eqI_d, chr_ref, show wi (0 + 1) = 1 from rfl]
  rw [hs, dzT (show (0 : Int) < ((x :: r).length : Nat) by simp), cond_true, decide_true, cond_true]
  unfold nameB
  simp only [List.head?_cons, Option.mem_def, sie, forall_eq', List.drop_succ_cons, List.drop_zero, List.all_cons]
  by_cases hx : 97 ≤ b2i x ∧ b2i x ≤ 122
  ·rw [dzT hx]
   have : chrB x = true := by unfold chrB; rw [dzT]; exact Or.inl hx
   rw [this]
   cases decide (1 ≤ (x :: r).length ∧ (x :: r).length ≤ 12) <;> cases keyB (x :: r) <;> cases r.all chrB <;> rfl
  ·rw [dzF hx]
   cases decide (1 ≤ (x :: r).length ∧ (x :: r).length ≤ 12) <;> rfl
theorem r_article (n : Nat) (a : GAr) : g_ref32_Article n a = some (artB a) := by
 unfold g_ref32_Article artB g_a_validArticle
 simp only [a_inside, cond_some, obs, Option.getD_some, eqI_d, ltI, leI]
 rw [sie, Bool.eq_iff_iff]
 obtain ⟨k, d, f, t, p, u, v⟩ := a
 simp only [Bool.cond_eq_ite]
 by_cases k1 : k = 1
 ·subst k1; simp; omega
 by_cases k2 : k = 2
 ·subst k2; simp; omega
 by_cases k3 : k = 3
 ·subst k3; simp; omega
 by_cases k4 : k = 4
 ·subst k4; simp; omega
 by_cases k5 : k = 5
 ·subst k5; simp; omega
 by_cases k6 : k = 6
 ·subst k6; simp; omega
 simp [k1, k2, k3, k4, k5, k6]
 omega
theorem r_tariff (n : Nat) (t : GTf) (hn : 1000 ≤ n) (h1 : t.Name.length ≤ 900) : g_ref32_Valid n t = some (tariffB t) := by
 unfold g_ref32_Valid tariffB
 simp only [r_name n _ hn h1, obs, cond_some, lenI, List.length_map, ltI]
 cases hname : nameB t.Name
 ·rfl
 by_cases h2 : t.Articles.length ≤ 12
 rotate_left
 ·rw [dzT (show (12 : Int) < t.Articles.length by omega), dzF h2]; rfl
 rw [dzF (show ¬ (12 : Int) < t.Articles.length by omega), dzT h2]
 simp only [Bool.not_true, cond_false, Bool.true_and]
 have := loop_gen (l := t.Articles) (fun (a : Int) i => (a, i)) (B := fun recl4 (v : Int × Int) => g_ref32_Valid_l4 n t recl4 v.1 v.2) (F := tarB) (fun i a => 0 ≤ a ∧ a ≤ i) (by omega) ?_ ?_ (n := n) 0 0 (by omega) (by omega) (by omega)
 ·exact this
 ·intro rec a ha
  simp only [g_ref32_Valid_l4, lenI, List.length_map, ltI, leI]
  rw [dzF (by omega), cond_false]
  rfl
 ·intro rec a i x r ha hd hx hi hw hr
  simp only [g_ref32_Valid_l4, lenI, List.length_map, ltI, getI_nat, hx, obs, r_article, hw, eqI_d]
  rw [dzT (by omega), cond_true, tarB]
  cases hb : artB x
  ·rfl
  ·have hw2 : wi (a + 1) = a + 1 := wi_id (by omega) (by omega)
   simp only [Bool.not_true, cond_false, Bool.true_and]
   by_cases h6 : x.Kind = 6
   ·rw [dzT h6, cond_true, if_pos h6, hw2, hr _ (by omega)]
   ·rw [dzF h6, cond_false, if_neg h6, hr _ (by omega)]
theorem r_off (n : Nat) (x : Int) : g_ref26_offset n x = some (decide (-1440 ≤ x ∧ x ≤ 1440)) := by
 unfold g_ref26_offset
 by_cases h : -1440 ≤ x <;> simp [leI, h]
theorem r_cal5 (n : Nat) (c : GCl) (hn : 1000 ≤ n) (hl : c.Holidays.length ≤ 900) : g_ref26_Valid_j5 n c = some (holB (-1) c.Holidays) := by
 unfold g_ref26_Valid_j5
 have := loop_gen (l := c.Holidays) (fun (_ : Int) i => i) (B := fun recl6 l6 => g_ref26_Valid_l6 c recl6 l6) (F := holB) (fun i a => -1 ≤ a ∧ (i = 0 → a = -1) ∧ (i ≠ 0 → c.Holidays[i - 1]? = some a)) (by omega) ?_ ?_ (n := n) 0 (-1) (by simp) (by omega) (by omega)
 ·exact this
 ·intro rec a ha
  simp only [g_ref26_Valid_l6, lenI, List.length_map, ltI]
  rw [dzF (by omega), cond_false]
  rfl
 ·intro rec a i x r ha hd hx hi hw hr
  simp only [g_ref26_Valid_l6, lenI, List.length_map, ltI, leI, getI_nat, hx, obs, hw]
  rw [dzT (by omega), cond_true, holB]
  by_cases c1 : x < 0
  ·rw [dzT c1]
   simp only [cond_true, obs]
   rw [dzF (show ¬ (a < x ∧ x ≤ 36500) by omega)]; rfl
  rw [dzF c1, cond_false]
  by_cases c2 : 36500 < x
  ·rw [dzT c2]
   simp only [cond_true, obs]
   rw [dzF (show ¬ (a < x ∧ x ≤ 36500) by omega)]; rfl
  rw [dzF c2, cond_false]
  have hrr := hr x ⟨by omega, by omega, fun _ => by simpa using hx⟩
  by_cases c3 : i = 0
  ·rw [dzF (show ¬ (0 : Int) < i by omega)]
   simp only [cond_false, obs]
   rw [hrr, dzT (show a < x ∧ x ≤ 36500 by have := ha.2.1 c3; omega)]; rfl
  ·rw [dzT (show (0 : Int) < i by omega), cond_true, show wi ((i : Int) - 1) = ((i - 1 : Nat) : Int) from by rw [wi_id] <;> omega, getI_nat, ha.2.2 c3]
   simp only [obs]
   by_cases c4 : x ≤ a
   ·rw [dzT c4, cond_true, dzF (show ¬ (a < x ∧ x ≤ 36500) by omega)]; rfl
   ·rw [dzF c4, cond_false, hrr, dzT (show a < x ∧ x ≤ 36500 by omega)]; rfl
theorem r_cal (n : Nat) (c : GCl) (hn : 1000 ≤ n) (h1 : c.Changes.length ≤ 900) (h2 : c.Holidays.length ≤ 900) : g_ref26_Valid n c = some (calB c) := by
 have key : loopN (fun recl13 l13 => g_ref26_Valid_l13 n c recl13 l13) n 0 = some (chgB (-1) c.Changes && holB (-1) c.Holidays) := by
  have := loop_gen (l := c.Changes) (fun (_ : Int) i => i) (B := fun recl13 l13 => g_ref26_Valid_l13 n c recl13 l13) (F := fun a r => chgB a r && holB (-1) c.Holidays) (fun i a => -1 ≤ a ∧ (i = 0 → a = -1) ∧ (i ≠ 0 → ∃ x, c.Changes[i - 1]? = some x ∧ x.At = a)) (by omega) ?_ ?_ (n := n) 0 (-1) (by simp) (by omega) (by omega)
  ·exact this
  ·intro rec a ha
   simp only [g_ref26_Valid_l13, lenI, List.length_map, ltI]
   rw [dzF (by omega), cond_false, r_cal5 n c hn h2]
   rfl
  ·intro rec a i x r ha hd hx hi hw hr
   simp only [g_ref26_Valid_l13, lenI, List.length_map, ltI, leI, getI_nat, hx, obs, hw, r_off]
   rw [dzT (by omega), cond_true, chgB]
   by_cases c0 : -1440 ≤ x.Offset ∧ x.Offset ≤ 1440
   rotate_left
   ·rw [dzF c0]
    simp only [Bool.not_false, cond_true, obs]
    rw [dzF (show ¬ (a < x.At ∧ x.At ≤ 52560000 ∧ -1440 ≤ x.Offset ∧ x.Offset ≤ 1440) by omega)]; rfl
   rw [dzT c0, Bool.not_true, cond_false]
   by_cases c1 : x.At < 0
   ·rw [dzT c1]
    simp only [cond_true, obs]
    rw [dzF (show ¬ (a < x.At ∧ x.At ≤ 52560000 ∧ -1440 ≤ x.Offset ∧ x.Offset ≤ 1440) by omega)]; rfl
   rw [dzF c1, cond_false]
   by_cases c2 : 52560000 < x.At
   ·rw [dzT c2]
    simp only [cond_true, obs]
    rw [dzF (show ¬ (a < x.At ∧ x.At ≤ 52560000 ∧ -1440 ≤ x.Offset ∧ x.Offset ≤ 1440) by omega)]; rfl
   rw [dzF c2, cond_false]
   have hrr := hr x.At ⟨by omega, by omega, fun _ => ⟨x, by simpa using hx, rfl⟩⟩
   by_cases c3 : i = 0
   ·rw [dzF (show ¬ (0 : Int) < i by omega)]
    simp only [cond_false, obs]
    rw [hrr, dzT (show a < x.At ∧ x.At ≤ 52560000 ∧ -1440 ≤ x.Offset ∧ x.Offset ≤ 1440 by have := ha.2.1 c3; omega)]; rfl
   ·obtain ⟨y, hy, hya⟩ := ha.2.2 c3
    rw [dzT (show (0 : Int) < i by omega), cond_true, show wi ((i : Int) - 1) = ((i - 1 : Nat) : Int) from by rw [wi_id] <;> omega, getI_nat, hy]
    simp only [obs, hya]
    by_cases c4 : x.At ≤ a
    ·rw [dzT c4, cond_true, dzF (show ¬ (a < x.At ∧ x.At ≤ 52560000 ∧ -1440 ≤ x.Offset ∧ x.Offset ≤ 1440) by omega)]; rfl
    ·rw [dzF c4, cond_false, hrr, dzT (show a < x.At ∧ x.At ≤ 52560000 ∧ -1440 ≤ x.Offset ∧ x.Offset ≤ 1440 by omega)]; rfl
 unfold g_ref26_Valid calB
 rw [key]
 simp only [r_off, obs, cond_some, lenI, List.length_map, ltI]
 by_cases c0 : -1440 ≤ c.Offset ∧ c.Offset ≤ 1440
 rotate_left
 ·rw [dzF c0]; rfl
 rw [dzT c0]
 by_cases c1 : c.Changes.length ≤ 16
 rotate_left
 ·rw [dzT (show (16 : Int) < c.Changes.length by omega), dzF c1]; rfl
 rw [dzF (show ¬ (16 : Int) < c.Changes.length by omega), dzT c1]
 by_cases c2 : c.Holidays.length ≤ 32
 rotate_left
 ·rw [dzT (show (32 : Int) < c.Holidays.length by omega), dzF c2]; rfl
 rw [dzF (show ¬ (32 : Int) < c.Holidays.length by omega), dzT c2]
 rfl
end Go.Proofs
namespace Go.Proofs
open Go Go.Abs
set_option maxRecDepth 100000
set_option linter.unusedVariables false
structure Art (a : GAr) : Prop where
 days : 1 ≤ a.Days ∧ a.Days ≤ 7
 from_ : 0 ≤ a.From ∧ a.From ≤ 1439
 to_ : a.From < a.To ∧ a.To ≤ 1440
 price : 0 ≤ a.Price ∧ a.Price ≤ 1000000
 kind : 1 ≤ a.Kind ∧ a.Kind ≤ 6
 unit : a.Kind = 3 ∨ a.Kind = 4 → 1 ≤ a.Unit ∧ a.Unit ≤ 1440 ∧ 0 ≤ a.Free ∧ a.Free ≤ 1440
 rate : a.Kind = 6 → a.Price ≤ 10000
theorem artB_art {a : GAr} (h : artB a = true) : Art a := by
 unfold artB g_a_validArticle at h
 simp only [a_inside, cond_some, obs, Option.getD_some, eqI_d, ltI, leI] at h
 obtain ⟨k, d, f, t, p, u, v⟩ := a
 simp only [Bool.cond_eq_ite] at h
 by_cases k1 : k = 1
 ·subst k1; simp at h; constructor <;> simp <;> omega
 by_cases k2 : k = 2
 ·subst k2; simp at h; constructor <;> simp <;> omega
 by_cases k3 : k = 3
 ·subst k3; simp at h; constructor <;> simp <;> omega
 by_cases k4 : k = 4
 ·subst k4; simp at h; constructor <;> simp <;> omega
 by_cases k5 : k = 5
 ·subst k5; simp at h; constructor <;> simp <;> omega
 by_cases k6 : k = 6
 ·subst k6; simp at h; constructor <;> simp <;> omega
 exfalso
 simp [k3, k4, k5, k6] at h
 omega
theorem offF_range (m : Int) : ∀ (l : List GCh) (p o : Int), chgB p l = true → (-1440 ≤ o ∧ o ≤ 1440) → -1440 ≤ offF m o l ∧ offF m o l ≤ 1440
 | [], _, o, _, h => h
 | x :: r, p, o, hc, h => by
  simp only [chgB, bae, decide_eq_true_eq] at hc
  unfold offF
  refine offF_range m r x.At _ hc.2 ?_
  split
  ·exact ⟨hc.1.2.2.1, hc.1.2.2.2⟩
  ·exact h
theorem cal_off {c : GCl} (m : Int) (h : calB c = true) : -1440 ≤ offF m c.Offset c.Changes ∧ offF m c.Offset c.Changes ≤ 1440 := by
 simp only [calB, bae, decide_eq_true_eq] at h
 exact offF_range m _ _ _ h.1.2 h.1.1.1.1
theorem r_offset (n : Nat) (c : GCl) (m : Int) (hn : 1000 ≤ n) (hl : c.Changes.length ≤ 900) : g_ref26_Offset n c m = some (offF m c.Offset c.Changes) := by
 unfold g_ref26_Offset
 have := loop_acc (l := c.Changes) (B := fun recl1 (v : Int × Int) => g_ref26_Offset_l1 c m recl1 v.1 v.2) (F := offF m) (by omega) ?_ ?_ (n := n) 0 c.Offset (by omega) (by omega)
 ·exact this
 ·intro rec a; simp [g_ref26_Offset_l1, ltI, lenI, offF]
 ·intro rec a i x r hd hx hi hw hr
  simp only [g_ref26_Offset_l1, lenI, List.length_map, getI_nat, hx, obs, hw, hr, ltI, leI, offF]
  rw [dzT (by omega), cond_true]
  by_cases h : x.At ≤ m <;> simp [h]
theorem r_type (n : Nat) (c : GCl) (d : Int) (hn : 1000 ≤ n) (h1 : c.Changes.length ≤ 900) (h2 : c.Holidays.length ≤ 900) (hc : calB c = true) (hd : -1 ≤ d ∧ d ≤ 36501) : g_ref26_Type n c d = some (typF d c.Holidays, 0) := by
 unfold g_ref26_Type
 rw [r_cal n c hn h1 h2, hc]
 simp only [obs, Bool.not_true, cond_false, ltI]
 rw [dzF (show ¬ d < -1 by omega), cond_false, obs, dzF (show ¬ 36501 < d by omega), cond_false]
 have := loop_list (l := c.Holidays) (B := fun recl6 l6 => g_ref26_Type_l6 c d recl6 l6) (F := fun r => (typF d r, (0 : Int))) (by omega) ?_ ?_ (n := n) 0 (by omega) (by omega)
 ·exact this
 ·intro rec
  simp only [g_ref26_Type_l6, g_ref26_Type_j5, lenI, List.length_map, ltI, eqI_d, typF, wkF]
  rw [dzF (by omega), cond_false]
  by_cases k1 : Int.tmod (wi (d + 7)) 7 = 5
  ·simp [k1]
  ·by_cases k2 : Int.tmod (wi (d + 7)) 7 = 6 <;> simp [k1, k2]
 ·intro rec i x r hd hx hi hw hr
  simp only [g_ref26_Type_l6, lenI, List.length_map, getI_nat, hx, obs, hw, hr, ltI, eqI_d, typF]
  rw [dzT (by omega), cond_true]
  by_cases h : x = d <;> simp [h]
theorem days_lem (d t : Int) (hd : 1 ≤ d ∧ d ≤ 7) (ht : 0 ≤ t ∧ t ≤ 2) :
  (bif decide (t = 2) then decide (Int.tmod (wi (Int.tdiv d 4)) 2 = 1) else bif decide (t = 1) then decide (Int.tmod (wi (Int.tdiv d 2)) 2 = 1) else decide (Int.tmod d 2 = 1)) = !decide (bAnd .i64 d (shlI .i64 1 t) = 0) := by
 have hd' : d = 1 ∨ d = 2 ∨ d = 3 ∨ d = 4 ∨ d = 5 ∨ d = 6 ∨ d = 7 := by omega
 have ht' : t = 0 ∨ t = 1 ∨ t = 2 := by omega
 rcases hd' with rfl | rfl | rfl | rfl | rfl | rfl | rfl <;> rcases ht' with rfl | rfl | rfl <;> decide
theorem r_applies (n : Nat) (c : GCl) (a : GAr) (m : Int) (hn : 1000 ≤ n) (h1 : c.Changes.length ≤ 900) (h2 : c.Holidays.length ≤ 900) (hc : calB c = true) (ha : artB a = true) (hm : 0 ≤ m ∧ m ≤ 52560000) :
  g_ref32_Applies n a c m = some (appB c a m) := by
 have ho := cal_off m hc
 have hA := artB_art ha
 have hloc : g_ref26_Local n c m = some ((m + offF m c.Offset c.Changes + 1440) / 1440 - 1, (m + offF m c.Offset c.Changes + 1440) % 1440, 0) := by
  unfold g_ref26_Local
  rw [r_cal n c hn h1 h2, hc]
  simp only [obs, Bool.not_true, cond_false, ltI]
  rw [dzF (show ¬ m < 0 by omega), cond_false, obs, dzF (show ¬ 52560000 < m by omega), cond_false, r_offset n c m hn h1, obs]
  generalize offF m c.Offset c.Changes = o at ho
  rw [wi_id (x := m + o) (by omega) (by omega)]
  by_cases hneg : m + o < 0
  ·rw [dzT hneg, cond_true, wi_id (x := m + o - -1440) (by omega) (by omega)]
   congr 2
   ·omega
   ·congr 1
    omega
  ·rw [dzF hneg, cond_false, Int.tdiv_eq_ediv_of_nonneg (by omega)]
   rw [wi_id (x := (m + o) / 1440) (by omega) (by omega), wi_id (x := 1440 * ((m + o) / 1440)) (by omega) (by omega), wi_id (by omega) (by omega)]
   congr 2
   ·omega
   ·congr 1
    omega
 unfold g_ref32_Applies appB
 rw [r_article, ha, hloc]
 simp only [obs, Bool.not_true, cond_false, eqI_d, decide_true]
 generalize offF m c.Offset c.Changes = o at ho
 rw [wi_id (x := m + o) (by omega) (by omega), wi_id (x := m + o + 1440) (by omega) (by omega)]
 rw [Int.tdiv_eq_ediv_of_nonneg (a := m + o + 1440) (by omega), Int.tmod_eq_emod_of_nonneg (a := m + o + 1440) (by omega)]
 rw [wi_id (x := (m + o + 1440) / 1440) (by omega) (by omega), wi_id (x := (m + o + 1440) / 1440 - 1) (by omega) (by omega)]
 rw [r_type n c _ hn h1 h2 hc (by omega)]
 simp only [obs, cond_some, leI, ltI]
 rw [days_lem _ _ hA.days (typF_range _ _)]
 generalize decide (bAnd .i64 a.Days (shlI .i64 1 (typF ((m + o + 1440) / 1440 - 1) c.Holidays)) = 0) = b
 generalize decide (a.From ≤ (m + o + 1440) % 1440) = b1
 generalize decide ((m + o + 1440) % 1440 < a.To) = b2
 cases b <;> cases b1 <;> cases b2 <;> rfl
def cN (c : GCl) (a : GAr) : Nat → Int → Int
 | 0, _ => 0
 | k + 1, m => (if appB c a m then 1 else 0) + cN c a k (m + 1)
theorem cN_range (c : GCl) (a : GAr) : ∀ (k : Nat) (m : Int), 0 ≤ cN c a k m ∧ cN c a k m ≤ k
 | 0, _ => by simp [cN]
 | k + 1, m => by
  have := cN_range c a k (m + 1)
  unfold cN
  split <;> omega
theorem cntF_cN (c : GCl) (a : GAr) : ∀ (k : Nat) (m z : Int), k ≤ 1000000 → -1000000 ≤ z ∧ z ≤ 2000000 - k → cntF c a k m z = z + cN c a k m
 | 0, m, z, _, _ => by simp [cntF, cN]
 | k + 1, m, z, hk, hz => by
  unfold cntF cN
  split
  ·rw [wi_id (by omega) (by omega), cntF_cN c a k (m + 1) (z + 1) (by omega) (by omega)]
   omega
  ·rw [cntF_cN c a k (m + 1) z (by omega) (by omega)]
   omega
theorem r_minutes (n : Nat) (c : GCl) (a : GAr) (f t : Int) (hn : 10000 ≤ n) (h1 : c.Changes.length ≤ 900) (h2 : c.Holidays.length ≤ 900) (hc : calB c = true) (ha : artB a = true) (hf : 0 ≤ f) (ht : t ≤ 52560000) (hk : t - f ≤ 2880) :
  g_ref33_Minutes n a c f t = some (cN c a (t - f).toNat f) := by
 unfold g_ref33_Minutes
 have key : ∀ (k j : Nat) (z m : Int), (t - m).toNat = k → k < j → 0 ≤ m → k ≤ 2880 → 0 ≤ z ∧ z ≤ 3000 - k →
   loopN (fun recl1 (v : Int × Int) => g_ref33_Minutes_l1 n a c t recl1 v.1 v.2) j (z, m) = some (z + cN c a k m) := by
  intro k
  induction k with
  | zero =>
   intro j z m h3 h4 h5 h6 h7
   obtain ⟨j, rfl⟩ : ∃ j', j = j' + 1 := ⟨j - 1, by omega⟩
   unfold loopN
   simp only [g_ref33_Minutes_l1, ltI]
   rw [dzF (by omega), cond_false]
   simp [cN]
  | succ k ih =>
   intro j z m h3 h4 h5 h6 h7
   obtain ⟨j, rfl⟩ : ∃ j', j = j' + 1 := ⟨j - 1, by omega⟩
   have i0 := ih j z (m + 1) (by omega) (by omega) (by omega) (by omega) (by omega)
   have i1 := ih j (z + 1) (m + 1) (by omega) (by omega) (by omega) (by omega) (by omega)
   unfold loopN
   generalize loopN (fun recl1 (v : Int × Int) => g_ref33_Minutes_l1 n a c t recl1 v.1 v.2) j = L at i0 i1 ⊢
   show g_ref33_Minutes_l1 n a c t L z m = _
   unfold g_ref33_Minutes_l1
   simp only [ltI]
   rw [dzT (by omega), cond_true, r_applies n c a m (by omega) h1 h2 hc ha (by omega), obs, wi_id (x := m + 1) (by omega) (by omega), wi_id (x := z + 1) (by omega) (by omega)]
   unfold cN
   cases appB c a m
   ·rw [cond_false, i0]
    simp
   ·rw [cond_true, i1]
    simp
    omega
 have := key (t - f).toNat n 0 f rfl (by omega) hf (by omega) (by omega)
 rw [Int.zero_add] at this
 exact this
def slB (f e : Int) : Int → List GSl → Bool
 | _, [] => true
 | p, x :: r => decide (f ≤ x.Minute ∧ x.Minute < e ∧ 0 ≤ x.Energy ∧ x.Energy ≤ 10000 ∧ p < x.Minute) && slB f e x.Minute r
def valB (s : GSs) : Bool := decide (0 ≤ s.From ∧ s.From < s.To ∧ s.To ≤ 52560000 ∧ s.To - s.From ≤ 2880 ∧ s.From ≤ s.End ∧ s.End ≤ s.To ∧ s.Slices.length ≤ 48) && slB s.From s.End (s.From - 1) s.Slices
theorem r_session_valid (n : Nat) (s : GSs) (hn : 1000 ≤ n) (hl : s.Slices.length ≤ 900) (hb : i64b s.From) : g_ref33_Valid n s = some (valB s) := by
 unfold i64b at hb
 unfold g_ref33_Valid valB
 simp only [ltI, leI, lenI, List.length_map]
 have key : loopN (fun recl8 l8 => g_ref33_Valid_l8 s recl8 l8) n 0 = some (slB s.From s.End (s.From - 1) s.Slices) := by
  have := loop_gen (l := s.Slices) (fun (_ : Int) i => i) (B := fun recl8 l8 => g_ref33_Valid_l8 s recl8 l8) (F := slB s.From s.End) (fun i a => s.From - 1 ≤ a ∧ (i = 0 → a = s.From - 1) ∧ (i ≠ 0 → ∃ x, s.Slices[i - 1]? = some x ∧ x.Minute = a)) (by omega) ?_ ?_ (n := n) 0 (s.From - 1) (by simp) (by omega) (by omega)
  ·exact this
  ·intro rec a ha
   simp only [g_ref33_Valid_l8, lenI, List.length_map, ltI]
   rw [dzF (by omega), cond_false]
   rfl
  ·intro rec a i x r ha hd hx hi hw hr
   simp only [g_ref33_Valid_l8, lenI, List.length_map, ltI, leI, getI_nat, hx, obs, hw]
   rw [dzT (by omega), cond_true, slB]
   by_cases c1 : x.Minute < s.From
   ·rw [dzT c1, cond_true, obs, cond_true, dzF (by omega)]; rfl
   rw [dzF c1, cond_false]
   by_cases c2 : s.End ≤ x.Minute
   ·rw [dzT c2, cond_true, obs, cond_true, dzF (by omega)]; rfl
   rw [dzF c2, cond_false]
   by_cases c3 : x.Energy < 0
   ·rw [dzT c3, cond_true, obs, cond_true, dzF (by omega)]; rfl
   rw [dzF c3, cond_false]
   by_cases c4 : 10000 < x.Energy
   ·rw [dzT c4, cond_true, obs, cond_true, dzF (by omega)]; rfl
   rw [dzF c4, cond_false]
   have hrr := hr x.Minute ⟨by omega, by omega, fun _ => ⟨x, by simpa using hx, rfl⟩⟩
   by_cases c5 : i = 0
   ·rw [dzF (show ¬ (0 : Int) < i by omega), cond_false, obs, cond_false, hrr, dzT (show s.From ≤ x.Minute ∧ x.Minute < s.End ∧ 0 ≤ x.Energy ∧ x.Energy ≤ 10000 ∧ a < x.Minute by have := ha.2.1 c5; omega)]; rfl
   ·obtain ⟨y, hy, hya⟩ := ha.2.2 c5
    rw [dzT (show (0 : Int) < i by omega), cond_true, show wi ((i : Int) - 1) = ((i - 1 : Nat) : Int) from by rw [wi_id] <;> omega, getI_nat, hy]
    simp only [obs, hya]
    by_cases c6 : x.Minute ≤ a
    ·rw [dzT c6, cond_true, dzF (show ¬ (s.From ≤ x.Minute ∧ x.Minute < s.End ∧ 0 ≤ x.Energy ∧ x.Energy ≤ 10000 ∧ a < x.Minute) by omega)]; rfl
    ·rw [dzF c6, cond_false, hrr, dzT (show s.From ≤ x.Minute ∧ x.Minute < s.End ∧ 0 ≤ x.Energy ∧ x.Energy ≤ 10000 ∧ a < x.Minute by omega)]; rfl
 rw [key]
 by_cases c1 : s.From < 0
 ·rw [dzT c1, cond_true, obs, cond_true, dzF (by omega)]; rfl
 rw [dzF c1, cond_false]
 by_cases c2 : s.To ≤ s.From
 ·rw [dzT c2, cond_true, obs, cond_true, dzF (by omega)]; rfl
 rw [dzF c2, cond_false]
 by_cases c3 : 52560000 < s.To
 ·rw [dzT c3, cond_true, obs, cond_true, dzF (by omega)]; rfl
 rw [dzF c3, cond_false, wi_id (x := s.To - s.From) (by omega) (by omega)]
 by_cases c4 : 2880 < s.To - s.From
 ·rw [dzT c4, cond_true, obs, cond_true, dzF (by omega)]; rfl
 rw [dzF c4, cond_false]
 by_cases c5 : s.End < s.From
 ·rw [dzT c5, cond_true, obs, cond_true, dzF (by omega)]; rfl
 rw [dzF c5, cond_false]
 by_cases c6 : s.To < s.End
 ·rw [dzT c6, cond_true, obs, cond_true, dzF (by omega)]; rfl
 rw [dzF c6, cond_false, obs]
 by_cases c7 : s.Slices.length ≤ 48
 ·rw [dzF (show ¬ (48 : Int) < s.Slices.length by omega), cond_false, dzT (show 0 ≤ s.From ∧ s.From < s.To ∧ s.To ≤ 52560000 ∧ s.To - s.From ≤ 2880 ∧ s.From ≤ s.End ∧ s.End ≤ s.To ∧ s.Slices.length ≤ 48 by omega)]; rfl
 ·rw [dzT (show (48 : Int) < s.Slices.length by omega), cond_true, dzF (show ¬ (0 ≤ s.From ∧ s.From < s.To ∧ s.To ≤ 52560000 ∧ s.To - s.From ≤ 2880 ∧ s.From ≤ s.End ∧ s.End ≤ s.To ∧ s.Slices.length ≤ 48) by omega)]; rfl
end Go.Proofs
namespace Go.Proofs
open Go Go.Abs
set_option maxRecDepth 100000
set_option linter.unusedVariables false
theorem slB_mem {f e : Int} : ∀ {l : List GSl} {p : Int}, slB f e p l = true → ∀ x ∈ l, f ≤ x.Minute ∧ x.Minute < e ∧ 0 ≤ x.Energy ∧ x.Energy ≤ 10000
 | [], _, _, x, hx => by cases hx
 | y :: r, p, h, x, hx => by
  simp only [slB, bae, decide_eq_true_eq] at h
  rcases List.mem_cons.1 hx with rfl | hx
  ·omega
  ·exact slB_mem h.2 x hx
theorem eneF_range (c : GCl) (a : GAr) : ∀ (l : List GSl) (z : Int), (∀ x ∈ l, 0 ≤ x.Energy ∧ x.Energy ≤ 10000) → 0 ≤ z → z + 10000 * l.length ≤ 10000000 → 0 ≤ eneF c a z l ∧ eneF c a z l ≤ z + 10000 * l.length
 | [], z, _, h0, h1 => by
  show 0 ≤ z ∧ z ≤ z + 10000 * ((0 : Nat) : Int)
  omega
 | x :: r, z, h, h0, h1 => by
  have hx := h x List.mem_cons_self
  simp only [List.length_cons] at h1 ⊢
  unfold eneF
  split
  ·rw [wi_id (by omega) (by omega)]
   have := eneF_range c a r (z + x.Energy) (fun y hy => h y (List.mem_cons_of_mem _ hy)) (by omega) (by omega)
   omega
  ·have := eneF_range c a r z (fun y hy => h y (List.mem_cons_of_mem _ hy)) (by omega) (by omega)
   omega
theorem r_energy (n : Nat) (c : GCl) (a : GAr) (s : GSs) (hn : 1000 ≤ n) (h1 : c.Changes.length ≤ 900) (h2 : c.Holidays.length ≤ 900) (hc : calB c = true) (ha : artB a = true) (hl : s.Slices.length ≤ 900) (hs : ∀ x ∈ s.Slices, 0 ≤ x.Minute ∧ x.Minute ≤ 52560000) :
  g_ref33_Energy n a c s = some (eneF c a 0 s.Slices) := by
 unfold g_ref33_Energy
 have := loop_acc (l := s.Slices) (B := fun recl1 (v : Int × Int) => g_ref33_Energy_l1 n a c s recl1 v.1 v.2) (F := eneF c a) (by omega) ?_ ?_ (n := n) 0 0 (by omega) (by omega)
 ·exact this
 ·intro rec z
  have h : ltI ((s.Slices.length : Nat) : Int) (lenI (List.map GSl.cs s.Slices)) = false := by simp [ltI, lenI]
  show g_ref33_Energy_l1 n a c s rec z ((s.Slices.length : Nat) : Int) = some z
  unfold g_ref33_Energy_l1
  rw [h, cond_false]
 ·intro rec z i x r hd hx hi hw hr
  have h3 : ltI (i : Int) (lenI (List.map GSl.cs s.Slices)) = true := by
   simp only [ltI, lenI, List.length_map]
   rw [dzT (by omega)]
  show g_ref33_Energy_l1 n a c s rec z (i : Int) = some (eneF c a z (x :: r))
  unfold g_ref33_Energy_l1 eneF
  rw [h3, cond_true, getI_nat, hx, obs, r_applies n c a x.Minute hn h1 h2 hc ha (hs x (List.mem_of_getElem? hx)), obs, obs, hw, hr, hr]
  cases appB c a x.Minute
  ·rfl
  ·rfl
theorem r_amount (n : Nat) (x : Int) : g_ref31_amount n x = some (decide (0 ≤ x ∧ x ≤ 1000000000)) := by
 unfold g_ref31_amount
 by_cases h : 0 ≤ x <;> simp [leI, h]
theorem r_checked (n : Nat) (x : Int) (h : 0 ≤ x) : g_ref31_checked n x = some (if x ≤ 1000000000 then (x, 0) else (0, 3)) := by
 unfold g_ref31_checked
 rw [r_amount, obs]
 by_cases h1 : x ≤ 1000000000
 ·rw [dzT ⟨h, h1⟩, if_pos h1]; rfl
 ·rw [dzF (fun h => h1 h.2), if_neg h1]; rfl
theorem mul_bound {x y X Y : Int} (hx : 0 ≤ x ∧ x ≤ X) (hy : 0 ≤ y ∧ y ≤ Y) : 0 ≤ x * y ∧ x * y ≤ X * Y :=
 ⟨Int.mul_nonneg hx.1 hy.1, Int.mul_le_mul hx.2 hy.2 hy.1 (Int.le_trans hx.1 hx.2)⟩
theorem r_times (n : Nat) (p q : Int) (hp : 0 ≤ p ∧ p ≤ 1000000) (hq : 0 ≤ q ∧ q ≤ 480000) :
  g_ref31_Times n p q 1000 = some (if wi (Int.tdiv (wi (wi (wi (2 * p) * q) + 1000)) 2000) ≤ 1000000000 then (wi (Int.tdiv (wi (wi (wi (2 * p) * q) + 1000)) 2000), 0) else (0, 3)) ∧ 0 ≤ wi (Int.tdiv (wi (wi (wi (2 * p) * q) + 1000)) 2000) := by
 have hb := mul_bound hp hq
 have e1 : wi (p * q) = p * q := wi_id (by omega) (by omega)
 have e2 : wi (2 * p) = 2 * p := wi_id (by omega) (by omega)
 have e3 : 2 * p * q = 2 * (p * q) := Int.mul_assoc ..
 have e4 : wi (2 * (p * q)) = 2 * (p * q) := wi_id (by omega) (by omega)
 have e5 : wi (2 * (p * q) + 1000) = 2 * (p * q) + 1000 := wi_id (by omega) (by omega)
 have e6 : Int.tdiv (2 * (p * q) + 1000) 2000 = (2 * (p * q) + 1000) / 2000 := Int.tdiv_eq_ediv_of_nonneg (by omega)
 have e7 : wi ((2 * (p * q) + 1000) / 2000) = (2 * (p * q) + 1000) / 2000 := wi_id (by omega) (by omega)
 rw [e2, e3, e4, e5, e6, e7]
 refine ⟨?_, by omega⟩
 unfold g_ref31_Times g_ref31_divided
 simp only [r_amount, obs]
 rw [dzT (show 0 ≤ p ∧ p ≤ 1000000000 by omega), dzT (show 0 ≤ q ∧ q ≤ 1000000000 by omega)]
 simp only [Bool.not_true, cond_false, obs, show ltI 1000 1 = false from rfl, show ltI 1000000000 1000 = false from rfl]
 rw [show wi (2 * 1000) = 2000 from rfl, show (!eqI 2000 0) = true from rfl, cond_true, obs, e1, e4, e5, e6, e7, r_checked n _ (by omega), obs]
theorem r_started (n : Nat) (p q u : Int) (hp : 0 ≤ p ∧ p ≤ 1000000) (hq : 0 ≤ q ∧ q ≤ 3000) (hu : 1 ≤ u ∧ u ≤ 1440) :
  g_ref31_Started n p q u = some (if wi (p * wi (Int.tdiv (wi (wi (q + u) - 1)) u)) ≤ 1000000000 then (wi (p * wi (Int.tdiv (wi (wi (q + u) - 1)) u)), 0) else (0, 3)) ∧ 0 ≤ wi (p * wi (Int.tdiv (wi (wi (q + u) - 1)) u)) := by
 have e1 : wi (q + u) = q + u := wi_id (by omega) (by omega)
 have e2 : wi (q + u - 1) = q + u - 1 := wi_id (by omega) (by omega)
 have e3 : Int.tdiv (q + u - 1) u = (q + u - 1) / u := Int.tdiv_eq_ediv_of_nonneg (by omega)
 have hd : 0 ≤ (q + u - 1) / u ∧ (q + u - 1) / u ≤ 5000 := by
  constructor
  ·exact Int.ediv_nonneg (by omega) (by omega)
  ·have := Int.ediv_le_self (a := q + u - 1) u (by omega)
   omega
 have e4 : wi ((q + u - 1) / u) = (q + u - 1) / u := wi_id (by omega) (by omega)
 have hb := mul_bound hp hd
 have e5 : wi (p * ((q + u - 1) / u)) = p * ((q + u - 1) / u) := wi_id (by omega) (by omega)
 rw [e1, e2, e3, e4, e5]
 refine ⟨?_, hb.1⟩
 unfold g_ref31_Started
 simp only [r_amount, obs]
 rw [dzT (show 0 ≤ p ∧ p ≤ 1000000000 by omega), dzT (show 0 ≤ q ∧ q ≤ 1000000000 by omega)]
 simp only [Bool.not_true, cond_false, ltI, eqI_d]
 rw [dzF (show ¬ u < 1 by omega), cond_false, obs, dzF (show ¬ 1000000000 < u by omega), cond_false, dzF (show ¬ u = 0 by omega), Bool.not_false, cond_true, e1, e2, e3, e4, e5, r_checked n _ hb.1, obs]
theorem r_sta (n : Nat) (c : GCl) (a : GAr) (f t : Int) (hn : 10000 ≤ n) (h1 : c.Changes.length ≤ 900) (h2 : c.Holidays.length ≤ 900) (hc : calB c = true) (ha : artB a = true) (hk34 : a.Kind = 3 ∨ a.Kind = 4) (hf : 0 ≤ f) (ht : t ≤ 52560000) (hk : t - f ≤ 2880) :
  ((g_ref33_Minutes n a c f t).bind fun r => (g_ref31_Started n a.Price (maxI 0 (wi (r - a.Free))) a.Unit).bind fun r => some (r.1, r.2)) = some (if staF c a f t ≤ 1000000000 then (staF c a f t, 0) else (0, 3)) ∧ 0 ≤ staF c a f t := by
 have hA := artB_art ha
 have hU := hA.unit hk34
 have hcn := cN_range c a (t - f).toNat f
 have eq : maxI 0 (wi (cN c a (t - f).toNat f - a.Free)) = maxI 0 (cntF c a (t - f).toNat f (wi (0 - a.Free))) := by
  rw [wi_id (x := 0 - a.Free) (by omega) (by omega), cntF_cN c a _ _ _ (by omega) (by omega), wi_id (by omega) (by omega)]
  congr 1
  omega
 have hq : 0 ≤ maxI 0 (wi (cN c a (t - f).toNat f - a.Free)) ∧ maxI 0 (wi (cN c a (t - f).toNat f - a.Free)) ≤ 3000 := by
  rw [wi_id (by omega) (by omega)]
  unfold maxI
  split <;> omega
 have hs := r_started n a.Price _ a.Unit hA.price hq ⟨hU.1, hU.2.1⟩
 rw [eq] at hs
 unfold staF
 refine ⟨?_, hs.2⟩
 rw [r_minutes n c a f t hn h1 h2 hc ha hf ht hk, obs, eq, hs.1, obs]
theorem r_line (n : Nat) (c : GCl) (a : GAr) (s : GSs) (hn : 10000 ≤ n) (h1 : c.Changes.length ≤ 900) (h2 : c.Holidays.length ≤ 900) (hc : calB c = true) (ha : artB a = true) (hv : valB s = true) :
  g_ref33_Line n a c s = some (if cosF c s a ≤ 1000000000 then (cosF c s a, 0) else (0, 3)) ∧ 0 ≤ cosF c s a := by
 have hA := artB_art ha
 have hv' := hv
 simp only [valB, bae, decide_eq_true_eq] at hv'
 obtain ⟨hr, hs⟩ := hv'
 unfold g_ref33_Line cosF
 rw [r_article, r_cal n c (by omega) h1 h2, r_session_valid n s (by omega) (by omega) (by unfold i64b; omega), ha, hc, hv]
 simp only [obs, Bool.not_true, cond_false, eqI_d]
 by_cases k1 : a.Kind = 1
 ·rw [dzT k1, cond_true, if_pos k1, wi_id (x := s.From + 1) (by omega) (by omega), r_minutes n c a s.From (s.From + 1) hn h1 h2 hc ha hr.1 (by omega) (by omega), obs]
  rw [show (s.From + 1 - s.From).toNat = 1 from by omega]
  unfold cN cN
  have := hA.price
  cases appB c a s.From
  ·refine ⟨?_, by simp⟩
   simp
   rfl
  ·rw [if_pos rfl, if_pos rfl, if_pos (by omega), show (1 : Int) + 0 = 1 from rfl, Int.mul_one, wi_id (by omega) (by omega)]
   exact ⟨rfl, this.1⟩
 rw [dzF k1, cond_false, if_neg k1]
 by_cases k2 : a.Kind = 2
 ·rw [dzT k2, cond_true, if_pos k2]
  have hm := slB_mem hs
  rw [r_energy n c a s (by omega) h1 h2 hc ha (by omega) (fun x hx => by have := hm x hx; omega), obs]
  have he := eneF_range c a s.Slices 0 (fun x hx => by have := hm x hx; omega) (by omega) (by omega)
  have ht := r_times n a.Price (eneF c a 0 s.Slices) hA.price (by omega)
  refine ⟨?_, ht.2⟩
  rw [ht.1, obs]
 rw [dzF k2, cond_false, if_neg k2]
 by_cases k3 : a.Kind = 3
 ·rw [dzT k3, cond_true, if_pos k3]
  exact r_sta n c a s.From s.To hn h1 h2 hc ha (Or.inl k3) hr.1 (by omega) (by omega)
 rw [dzF k3, cond_false, if_neg k3]
 by_cases k4 : a.Kind = 4
 ·rw [dzT k4, cond_true, if_pos k4]
  exact r_sta n c a s.End s.To hn h1 h2 hc ha (Or.inr k4) (by omega) (by omega) (by omega)
 rw [dzF k4, cond_false, if_neg k4]
 exact ⟨rfl, by omega⟩
end Go.Proofs
namespace Go.Proofs
open Go Go.Abs
set_option maxRecDepth 100000
set_option linter.unusedVariables false
theorem drop_idx {α : Type} {l : List α} {i : Nat} {x : α} {r : List α} (h : l.drop i = x :: r) (hi : i < l.length) : l.length - (r.length + 1) = i ∧ l.length - r.length = i + 1 := by
 have := congrArg List.length h
 simp only [List.length_drop, List.length_cons] at this
 omega
theorem linB_cons (x : GLine) (r : List GLine) : linB (x :: r) = (decide (x.Amount ≤ 1000000000) && linB r) := by
 unfold linB
 rw [List.all_cons]
def capR : Int → List GAr → Int
 | k, [] => k
 | k, a :: r => capR (if a.Kind = 5 then (if k < 0 ∨ a.Price < k then a.Price else k) else k) r
def capV (k z : Int) : Int := if 0 ≤ k ∧ k < z then k else z
theorem capF_R : ∀ (l : List GAr) (k z : Int), (∀ a ∈ l, 0 ≤ a.Price) → capF (capV k z) l = capV (capR k l) z
 | [], k, z, _ => rfl
 | a :: r, k, z, h => by
  have ha := h a List.mem_cons_self
  unfold capF capR
  by_cases h5 : a.Kind = 5
  ·rw [if_pos h5, if_pos h5, ← capF_R r _ z (fun x hx => h x (List.mem_cons_of_mem _ hx))]
   congr 1
   unfold capV minI
   by_cases c1 : 0 ≤ k ∧ k < z
   ·rw [if_pos c1]
    by_cases c2 : k < 0 ∨ a.Price < k
    ·rw [if_pos c2]
     split <;> first | omega | (split <;> omega)
    ·rw [if_neg c2]
     split <;> first | omega | (split <;> omega)
   ·rw [if_neg c1]
    by_cases c2 : k < 0 ∨ a.Price < k
    ·rw [if_pos c2]
     split <;> first | omega | (split <;> omega)
    ·rw [if_neg c2]
     split <;> first | omega | (split <;> omega)
  ·rw [if_neg h5, if_neg h5]
   exact capF_R r k z (fun x hx => h x (List.mem_cons_of_mem _ hx))
theorem rateF_range : ∀ (l : List GAr) (z : Int), (∀ a ∈ l, 0 ≤ a.Price ∧ (a.Kind = 6 → a.Price ≤ 10000)) → (0 ≤ z ∧ z ≤ 10000) → 0 ≤ rateF z l ∧ rateF z l ≤ 10000
 | [], z, _, hz => hz
 | a :: r, z, h, hz => by
  have ha := h a List.mem_cons_self
  unfold rateF
  refine rateF_range r _ (fun x hx => h x (List.mem_cons_of_mem _ hx)) ?_
  split
  ·rename_i h6
   exact ⟨ha.1, ha.2 h6⟩
  ·exact hz
theorem r_tax (n : Nat) (net rate : Int) (hn : 0 ≤ net ∧ net ≤ 1000000000) (hr : 0 ≤ rate ∧ rate ≤ 10000) : g_ref31_Tax n net rate = some (taxF net rate, 0) ∧ 0 ≤ taxF net rate ∧ taxF net rate ≤ net + 1 := by
 have hb := mul_bound hn hr
 have hb2 : net * rate ≤ net * 10000 := Int.mul_le_mul_of_nonneg_left hr.2 hn.1
 have e1 : wi (net * rate) = net * rate := wi_id (by omega) (by omega)
 have e2 : wi (2 * net) = 2 * net := wi_id (by omega) (by omega)
 have e3 : 2 * net * rate = 2 * (net * rate) := Int.mul_assoc ..
 have e4 : wi (2 * (net * rate)) = 2 * (net * rate) := wi_id (by omega) (by omega)
 have e5 : wi (2 * (net * rate) + 10000) = 2 * (net * rate) + 10000 := wi_id (by omega) (by omega)
 have e6 : Int.tdiv (2 * (net * rate) + 10000) 20000 = (2 * (net * rate) + 10000) / 20000 := Int.tdiv_eq_ediv_of_nonneg (by omega)
 have e7 : wi ((2 * (net * rate) + 10000) / 20000) = (2 * (net * rate) + 10000) / 20000 := wi_id (by omega) (by omega)
 unfold taxF
 rw [e2, e3, e4, e5, e6, e7]
 refine ⟨?_, by omega, by omega⟩
 unfold g_ref31_Tax g_ref31_divided
 simp only [r_amount, obs, ltI]
 rw [dzT (show 0 ≤ net ∧ net ≤ 1000000000 by omega), Bool.not_true, cond_false, dzF (show ¬ rate < 0 by omega), cond_false, obs, dzF (show ¬ 100000 < rate by omega), cond_false]
 rw [show wi (2 * 10000) = 20000 from rfl, show (!eqI 20000 0) = true from rfl, cond_true, obs, e1, e4, e5, e6, e7, r_checked n _ (by omega), obs, if_pos (by omega)]
def zeroBill : GBill := ⟨[], 0, 0, 0⟩
end Go.Proofs
namespace Go.Proofs
open Go Go.Abs
set_option maxRecDepth 100000
set_option linter.unusedVariables false
theorem b_goodWord (n : Nat) (s : List UInt8) (hn : 1000 ≤ n) : g_p_goodWord n s = some (decide (1 ≤ s.length ∧ s.length ≤ 12) && decide (∀ x ∈ s.head?, 97 ≤ b2i x ∧ b2i x ≤ 122) && s.all chrB) := by
 unfold g_p_goodWord
 simp only [lenI, ltI]
 cases s with
 | nil => simp
 | cons x r =>
  rw [dzF (show ¬ (((x :: r).length : Nat) : Int) < 1 by simp only [List.length_cons]; omega), cond_false]
  by_cases hl : (x :: r).length ≤ 12
  rotate_left
  ·rw [dzT (show (12 : Int) < (((x :: r).length : Nat) : Int) by omega), dzF (show ¬ (1 ≤ (x :: r).length ∧ (x :: r).length ≤ 12) by omega)]; rfl
  rw [dzF (show ¬ (12 : Int) < (((x :: r).length : Nat) : Int) by omega), cond_false, dzT (show 1 ≤ (x :: r).length ∧ (x :: r).length ≤ 12 by simp only [List.length_cons] at hl ⊢; omega)]
  rw [show getI (x :: r) 0 = some x from rfl]
  have hloop : loopN (fun recl7 l7 => g_p_goodWord_l7 (x :: r) recl7 l7) n 1 = some (r.all chrB) := by
   have := loop_list (l := x :: r) (B := fun recl7 l7 => g_p_goodWord_l7 (x :: r) recl7 l7) (F := fun r => r.all chrB) (by omega) ?_ ?_ (n := n) 1 (by simp) (by omega)
   ·simpa using this
   ·intro rec; simp [g_p_goodWord_l7, ltI, lenI]
   ·intro rec i y q hd hx hi hw hr
    unfold g_p_goodWord_l7
    simp only [lenI, getI_nat, hx, obs, hw, hr, ltI, leI, eqI, cond_some]
    rw [dzT (by omega), cond_true, List.all_cons]
    rw [chr_lem, chrB]
    cases decide ((97 ≤ b2i y ∧ b2i y ≤ 122) ∨ (48 ≤ b2i y ∧ b2i y ≤ 57) ∨ b2i y = 95) <;> simp
  rw [hloop]
  simp only [obs, cond_some, List.head?_cons, Option.mem_def, sie, forall_eq', Bool.true_and, List.all_cons]
  by_cases h1 : b2i x < 97
  ·rw [dzT h1, dzF (show ¬ (97 ≤ b2i x ∧ b2i x ≤ 122) by omega)]; rfl
  ·rw [dzF h1, cond_false]
   by_cases h2 : 122 < b2i x
   ·rw [dzT h2, dzF (show ¬ (97 ≤ b2i x ∧ b2i x ≤ 122) by omega)]; rfl
   ·have h3 : 97 ≤ b2i x ∧ b2i x ≤ 122 := by omega
    have h4 : chrB x = true := by unfold chrB; rw [dzT]; exact Or.inl h3
    rw [dzF h2, dzT h3, h4]; rfl
theorem cnz (b : Bool) (k r : Int) (hk : k ≠ 0) : (!eqI (bif b then k else r) 0) = (b || !eqI r 0) := by
 cases b
 ·rfl
 ·simp [eqI, hk]
theorem b_isKey (n : Nat) (s : List UInt8) : g_p_isKey n s = some (keyB s) := by
 unfold g_p_isKey g_p_kindOf g_p_isAttr g_p_isArticle g_p_isWord
 rw [keyB_mem]
 simp only [cond_some, obs, cse, cst, keyL, g_ref02_Kinds, g_ref02_Attrs, g_ref02_Articles, g_ref02_Words, Option.getD_some, List.cons_append, List.nil_append, List.contains_cons, List.contains_nil, Bool.or_false, eqS]
 rw [cnz _ 1 _ (by decide), cnz _ 2 _ (by decide), cnz _ 3 _ (by decide), cnz _ 4 _ (by decide), cnz _ 5 _ (by decide), cnz _ 6 _ (by decide), cnz _ 7 _ (by decide), show (!eqI 0 0) = false from rfl]
 simp only [Bool.or_assoc, Bool.or_false]
theorem b_goodName (n : Nat) (s : List UInt8) (hn : 1000 ≤ n) : g_p_goodName n s = some (nameB s) := by
 unfold g_p_goodName nameB
 rw [b_goodWord n s hn, obs, b_isKey, obs, cond_some]
 generalize decide (1 ≤ s.length ∧ s.length ≤ 12) = a
 generalize decide (∀ x ∈ s.head?, 97 ≤ b2i x ∧ b2i x ≤ 122) = b
 generalize s.all chrB = c
 generalize keyB s = d
 cases a <;> cases b <;> cases c <;> cases d <;> rfl
theorem of_cs' (k : Int) (s : List UInt8) (m t : Int) (l : List (List PV)) : GNode.of (GNode.cs ⟨k, s, m, t, l⟩) = some ⟨k, s, m, t, l⟩ := by
 unfold GNode.cs GNode.of
 simp only [map_idc, byt_mkS, if_true]
theorem b_parser (n : Nat) (s : List UInt8) (hn : 1000 ≤ n) : g_p_Valid n (⟨1, [], 0, 0, [GNode.cs (⟨2, s, 3, 0, []⟩ : GNode)]⟩ : GNode) = some (nameB s) := by
 obtain ⟨m, rfl⟩ : ∃ m, n = m + 2 := ⟨n - 2, by omega⟩
 have hitem : g_p_validItem (m + 2) (⟨2, s, 3, 0, []⟩ : GNode) 1498 = some (nameB s, 1498) := by
  unfold g_p_validItem
  rw [b_goodName (m + 2) s hn]
  simp only [show (!eqI 2 2) = false from rfl, show ltI 3 1 = false from rfl, show ltI 7 3 = false from rfl, cond_false, obs]
  cases nameB s
  ·rfl
  ·unfold loopN; rfl
 unfold g_p_Valid
 have e1 : ((bif !eqI 1 1 then some true else bif !eqS [] [] then some true else bif !eqI 0 0 then some true else some (ltI (wi (1499 - lenI (List.map idc [GNode.cs (⟨2, s, 3, 0, []⟩ : GNode)]))) 0))) = some false := rfl
 have e2 : wi (1499 - lenI (List.map idc [GNode.cs (⟨2, s, 3, 0, []⟩ : GNode)])) = 1498 := rfl
 simp only
 rw [e1, obs, cond_false, e2]
 unfold loopN
 simp only [g_p_Valid_l5]
 rw [show ltI 0 (lenI (List.map idc [GNode.cs (⟨2, s, 3, 0, []⟩ : GNode)])) = true from rfl, cond_true, show getI [GNode.cs (⟨2, s, 3, 0, []⟩ : GNode)] 0 = some (GNode.cs (⟨2, s, 3, 0, []⟩ : GNode)) from rfl, obs, of_cs', obs, hitem, obs]
 cases nameB s
 ·rfl
 ·unfold loopN; rfl
theorem b_inside (n : Nat) (x a b : Int) : g_t_inside n x a b = some (decide (a ≤ x ∧ x ≤ b)) := by
 unfold g_t_inside leI
 by_cases h : a ≤ x <;> simp [h]
theorem b_article (n : Nat) (a : GAr) : g_t_validArticle n a = some (artB a) := by
 have bad : ¬ Art a → some false = some (artB a) := by
  intro h
  cases hb : artB a
  ·rfl
  ·exact absurd (artB_art hb) h
 unfold g_t_validArticle g_t_isWhole g_t_isTime
 simp only [b_inside, obs]
 by_cases c2 : 1 ≤ a.Kind ∧ a.Kind ≤ 6
 rotate_left
 ·rw [dzF c2]; exact bad (fun h => c2 h.kind)
 rw [dzT c2]
 by_cases c4 : 0 ≤ a.From ∧ a.From ≤ 1439
 rotate_left
 ·rw [dzF c4]; exact bad (fun h => c4 h.from_)
 rw [dzT c4, wi_id (x := a.From + 1) (by omega) (by omega)]
 by_cases c6 : a.From + 1 ≤ a.To ∧ a.To ≤ 1440
 rotate_left
 ·rw [dzF c6]; exact bad (fun h => by have := h.to_; omega)
 rw [dzT c6]
 by_cases c8 : 1 ≤ a.Days ∧ a.Days ≤ 7
 rotate_left
 ·rw [dzF c8]; exact bad (fun h => c8 h.days)
 rw [dzT c8]
 unfold artB g_a_validArticle
 simp only [a_inside, cond_some, obs, Option.getD_some, eqI_d, Bool.not_true, cond_false]
 rw [sie, Bool.eq_iff_iff]
 obtain ⟨k, d, f, t, p, u, v⟩ := a
 simp only at c2 c4 c6 c8
 simp only [Bool.cond_eq_ite]
 have hk : k = 1 ∨ k = 2 ∨ k = 3 ∨ k = 4 ∨ k = 5 ∨ k = 6 := by omega
 rcases hk with rfl | rfl | rfl | rfl | rfl | rfl <;> simp [leI, ltI] <;> omega
theorem b_tariff (n : Nat) (t : GTf) (hn : 1000 ≤ n) : g_t_Valid n t = some (tariffB t) := by
 unfold g_t_Valid tariffB
 rw [b_parser n t.Name hn]
 simp only [obs, cond_some, lenI, List.length_map, ltI]
 cases hname : nameB t.Name
 ·rfl
 by_cases h2 : t.Articles.length ≤ 12
 rotate_left
 ·rw [dzT (show (12 : Int) < t.Articles.length by omega), dzF h2]; rfl
 rw [dzF (show ¬ (12 : Int) < t.Articles.length by omega), dzT h2]
 simp only [Bool.not_true, cond_false, Bool.true_and]
 have := loop_gen (l := t.Articles) (fun (a : Int) i => (a, i)) (B := fun recl4 (v : Int × Int) => g_t_Valid_l4 n t recl4 v.1 v.2) (F := tarB) (fun i a => 0 ≤ a ∧ a ≤ i) (by omega) ?_ ?_ (n := n) 0 0 (by omega) (by omega) (by omega)
 ·exact this
 ·intro rec a ha
  simp only [g_t_Valid_l4, lenI, List.length_map, ltI, leI]
  rw [dzF (by omega), cond_false]
  rfl
 ·intro rec a i x r ha hd hx hi hw hr
  simp only [g_t_Valid_l4, lenI, List.length_map, ltI, getI_nat, hx, obs, b_article, hw, eqI_d]
  rw [dzT (by omega), cond_true, tarB]
  cases hb : artB x
  ·rfl
  ·have hw2 : wi (a + 1) = a + 1 := wi_id (by omega) (by omega)
   simp only [Bool.not_true, cond_false, Bool.true_and]
   by_cases h6 : x.Kind = 6
   ·rw [dzT h6, cond_true, if_pos h6, hw2, hr _ (by omega)]
   ·rw [dzF h6, cond_false, if_neg h6, hr _ (by omega)]
def chK : Int → List GCh → Bool
 | _, [] => true
 | a, x :: r => decide (a < x.At ∧ x.At ≤ 52560000) && chK x.At r
def chO (l : List GCh) : Bool := l.all (fun x => decide (-1440 ≤ x.Offset ∧ x.Offset ≤ 1440))
theorem chgB_KO : ∀ (l : List GCh) (a : Int), chgB a l = (chO l && chK a l)
 | [], _ => rfl
 | x :: r, a => by
  unfold chgB chK
  rw [chgB_KO r x.At, show chO (x :: r) = (decide (-1440 ≤ x.Offset ∧ x.Offset ≤ 1440) && chO r) from List.all_cons]
  by_cases c1 : a < x.At ∧ x.At ≤ 52560000
  ·by_cases c2 : -1440 ≤ x.Offset ∧ x.Offset ≤ 1440
   ·rw [dzT (show a < x.At ∧ x.At ≤ 52560000 ∧ -1440 ≤ x.Offset ∧ x.Offset ≤ 1440 by omega), dzT c1, dzT c2]; rfl
   ·rw [dzF (show ¬ (a < x.At ∧ x.At ≤ 52560000 ∧ -1440 ≤ x.Offset ∧ x.Offset ≤ 1440) by omega), dzF c2]; rfl
  ·rw [dzF (show ¬ (a < x.At ∧ x.At ≤ 52560000 ∧ -1440 ≤ x.Offset ∧ x.Offset ≤ 1440) by omega), dzF c1]
   simp
theorem b_dinside (n : Nat) (x a b : Int) : g_days_inside n x a b = some (decide (a ≤ x ∧ x ≤ b)) := by
 unfold g_days_inside leI
 by_cases h : a ≤ x <;> simp [h]
theorem b_listC (n : Nat) (l : List GCh) (hn : 1000 ≤ n) (hl : l.length ≤ 900) : g_dv_api_Change n l 52560000 = some (chK (-1) l) := by
 unfold g_dv_api_Change
 have := loop_acc (l := l) (B := fun recl1 (v : Int × Int) => g_dv_api_Change_l1 n l 52560000 recl1 v.1 v.2) (F := chK) (by omega) ?_ ?_ (n := n) 0 (-1) (by omega) (by omega)
 ·exact this
 ·intro rec a; simp [g_dv_api_Change_l1, ltI, lenI, chK]
 ·intro rec a i x r hd hx hi hw hr
  simp only [g_dv_api_Change_l1, g_days_keys_1, lenI, List.length_map, getI_nat, hx, obs, hw, hr, ltI, leI, chK, cond_some]
  rw [dzT (by omega), cond_true]
  by_cases h1 : x.At ≤ a
  ·rw [dzT h1, dzF (show ¬ (a < x.At ∧ x.At ≤ 52560000) by omega)]; rfl
  ·rw [dzF h1]
   by_cases h2 : 52560000 < x.At
   ·rw [dzT h2, dzF (show ¬ (a < x.At ∧ x.At ≤ 52560000) by omega)]; rfl
   ·rw [dzF h2, dzT (show a < x.At ∧ x.At ≤ 52560000 by omega)]; rfl
theorem b_listI (n : Nat) (l : List Int) (hn : 1000 ≤ n) (hl : l.length ≤ 900) : g_dv_int n l 36500 = some (holB (-1) l) := by
 unfold g_dv_int
 have := loop_acc (l := l) (B := fun recl1 (v : Int × Int) => g_dv_int_l1 n l 36500 recl1 v.1 v.2) (F := holB) (by omega) ?_ ?_ (n := n) 0 (-1) (by omega) (by omega)
 ·exact this
 ·intro rec a; simp [g_dv_int_l1, ltI, lenI, holB]
 ·intro rec a i x r hd hx hi hw hr
  simp only [g_dv_int_l1, g_days_keys_2, lenI, List.length_map, getI_nat, hx, obs, hw, hr, ltI, leI, holB, cond_some]
  rw [dzT (by omega), cond_true]
  by_cases h1 : x ≤ a
  ·rw [dzT h1, dzF (show ¬ (a < x ∧ x ≤ 36500) by omega)]; rfl
  ·rw [dzF h1]
   by_cases h2 : 36500 < x
   ·rw [dzT h2, dzF (show ¬ (a < x ∧ x ≤ 36500) by omega)]; rfl
   ·rw [dzF h2, dzT (show a < x ∧ x ≤ 36500 by omega)]; rfl
theorem b_cal (n : Nat) (c : GCl) (hn : 1000 ≤ n) (h1 : c.Changes.length ≤ 900) (h2 : c.Holidays.length ≤ 900) : g_days_Valid n c = some (calB c) := by
 have key : loopN (fun recl9 l9 => g_days_Valid_l9 n c recl9 l9) n 0 = some (chO c.Changes && (chK (-1) c.Changes && holB (-1) c.Holidays)) := by
  have := loop_list (l := c.Changes) (B := fun recl9 l9 => g_days_Valid_l9 n c recl9 l9) (F := fun r => chO r && (chK (-1) c.Changes && holB (-1) c.Holidays)) (by omega) ?_ ?_ (n := n) 0 (by omega) (by omega)
  ·exact this
  ·intro rec
   simp only [g_days_Valid_l9, g_days_Valid_j5, lenI, List.length_map, ltI, b_listC n _ hn h1, b_listI n _ hn h2, obs, cond_some]
   rw [dzF (by omega), cond_false]
   cases chK (-1) c.Changes <;> rfl
  ·intro rec i x r hd hx hi hw hr
   simp only [g_days_Valid_l9, lenI, List.length_map, getI_nat, hx, obs, hw, hr, ltI, b_dinside]
   rw [dzT (by omega), cond_true, show chO (x :: r) = (decide (-1440 ≤ x.Offset ∧ x.Offset ≤ 1440) && chO r) from List.all_cons]
   cases decide (-1440 ≤ x.Offset ∧ x.Offset ≤ 1440) <;> rfl
 unfold g_days_Valid calB
 rw [key, chgB_KO]
 simp only [b_dinside, obs, cond_some, lenI, List.length_map, ltI]
 by_cases c1 : c.Changes.length ≤ 16
 rotate_left
 ·rw [dzT (show (16 : Int) < c.Changes.length by omega), dzF c1]; simp
 rw [dzF (show ¬ (16 : Int) < c.Changes.length by omega), dzT c1]
 by_cases c2 : c.Holidays.length ≤ 32
 rotate_left
 ·rw [dzT (show (32 : Int) < c.Holidays.length by omega), dzF c2]; simp
 rw [dzF (show ¬ (32 : Int) < c.Holidays.length by omega), dzT c2]
 generalize decide (-1440 ≤ c.Offset ∧ c.Offset ≤ 1440) = b0
 generalize chO c.Changes = b1
 generalize chK (-1) c.Changes = b2
 generalize holB (-1) c.Holidays = b3
 cases b0 <;> cases b1 <;> cases b2 <;> cases b3 <;> rfl
end Go.Proofs
namespace Go.Proofs
open Go Go.Abs
set_option maxRecDepth 100000
set_option linter.unusedVariables false
theorem chK_lt : ∀ (l : List GCh) (a : Int), chK a l = true → (∀ x ∈ l, a < x.At) ∧ l.Pairwise (fun x y => x.At < y.At)
 | [], _, _ => ⟨(fun x h => by cases h), List.Pairwise.nil⟩
 | x :: r, a, h => by
  simp only [chK, bae, decide_eq_true_eq] at h
  obtain ⟨h1, h2⟩ := chK_lt r x.At h.2
  refine ⟨fun y hy => ?_, List.pairwise_cons.2 ⟨h1, h2⟩⟩
  rcases List.mem_cons.1 hy with rfl | hy
  ·exact h.1.1
  ·have := h1 y hy; omega
theorem holB_lt : ∀ (l : List Int) (a : Int), holB a l = true → (∀ x ∈ l, a < x) ∧ l.Pairwise (fun x y => x < y)
 | [], _, _ => ⟨(fun x h => by cases h), List.Pairwise.nil⟩
 | x :: r, a, h => by
  simp only [holB, bae, decide_eq_true_eq] at h
  obtain ⟨h1, h2⟩ := holB_lt r x h.2
  refine ⟨fun y hy => ?_, List.pairwise_cons.2 ⟨h1, h2⟩⟩
  rcases List.mem_cons.1 hy with rfl | hy
  ·exact h.1.1
  ·have := h1 y hy; omega
structure LastOf {α : Type} (key : α → Int) (l : List α) (m r : Int) : Prop where
 lo : -1 ≤ r
 hi : r < l.length
 le : ∀ (i : Nat) (x : α), (i : Int) ≤ r → l[i]? = some x → key x ≤ m
 gt : ∀ (i : Nat) (x : α), r < (i : Int) → l[i]? = some x → m < key x
theorem last_gen {α : Type} {key : α → Int} {l : List α} {m : Int} {B : (Int × Int → Option Int) → Int × Int → Option Int} (hl : l.length ≤ 900) (hs : l.Pairwise (fun x y => key x < key y))
  (hB : ∀ rec lo hi, B rec (lo, hi) = cond (ltI lo hi) ((getI l (wi (lo + wi (Int.tdiv (wi (wi (hi - lo) + 1)) 2)))).bind fun x => cond (leI (key x) m) (rec (wi (lo + wi (Int.tdiv (wi (wi (hi - lo) + 1)) 2)), hi)) (rec (lo, wi (wi (lo + wi (Int.tdiv (wi (wi (hi - lo) + 1)) 2)) - 1)))) (some lo))
  {n : Nat} (hn : 1000 ≤ n) : Does (loopN B n (-1, (l.length : Int) - 1)) (LastOf key l m) := by
 have := does_loop (B := B) (Q := fun _ r => LastOf key l m r) (fun v => (v.2 - v.1).toNat) (fun v => -1 ≤ v.1 ∧ v.1 ≤ v.2 ∧ v.2 < l.length ∧ (∀ (i : Nat) (x : α), (i : Int) ≤ v.1 → l[i]? = some x → key x ≤ m) ∧ (∀ (i : Nat) (x : α), v.2 < (i : Int) → l[i]? = some x → m < key x)) ?_ (n := n) (v := (-1, (l.length : Int) - 1)) ⟨by simp, by simp; omega, by simp; omega, fun i x h => by simp only at h; omega, fun i x h hx => by
  have := (List.getElem?_eq_some_iff.1 hx).1
  simp only at h
  omega⟩ (by simp only; omega)
 ·exact this
 ·rintro rec ⟨lo, hi⟩ ⟨h1, h2, h3, h4, h5⟩ ih
  simp only at h1 h2 h3 h4 h5 ih
  rw [hB]
  by_cases hlt : lo < hi
  rotate_left
  ·rw [show ltI lo hi = false from by simp only [ltI]; rw [dzF hlt], cond_false]
   exact does_some ⟨h1, by omega, h4, fun i x hi' hx => h5 i x (by omega) hx⟩
  rw [show ltI lo hi = true from by simp only [ltI]; rw [dzT hlt], cond_true]
  rw [wi_id (x := hi - lo) (by omega) (by omega), wi_id (x := hi - lo + 1) (by omega) (by omega), Int.tdiv_eq_ediv_of_nonneg (by omega), wi_id (x := (hi - lo + 1) / 2) (by omega) (by omega), wi_id (x := lo + (hi - lo + 1) / 2) (by omega) (by omega), wi_id (x := lo + (hi - lo + 1) / 2 - 1) (by omega) (by omega)]
  generalize hmid : lo + (hi - lo + 1) / 2 = mid
  have hm : lo < mid ∧ mid ≤ hi := by omega
  obtain ⟨j, rfl⟩ : ∃ j : Nat, mid = (j : Int) := ⟨mid.toNat, by omega⟩
  have hx : l[j]? = some (l[j]'(by omega)) := by rw [List.getElem?_eq_getElem]
  generalize l[j]'(by omega) = x at hx
  rw [getI_nat, hx, obs]
  refine does_cond (fun hc => ?_) (fun hc => ?_)
  ·simp only [leI, decide_eq_true_eq] at hc
   refine ih (j, hi) ⟨by simp only; omega, by simp only; omega, h3, fun i y hi' hy => ?_, h5⟩ (by simp only; omega)
   simp only at hi'
   by_cases e : i = j
   ·subst e
    rw [hx] at hy; cases hy
    exact hc
   ·have hij : i < j := by omega
    have hy' := List.getElem?_eq_some_iff.1 hy
    have hx' := List.getElem?_eq_some_iff.1 hx
    have := List.pairwise_iff_getElem.1 hs i j hy'.1 hx'.1 hij
    rw [hy'.2, hx'.2] at this
    omega
  ·simp only [leI, decide_eq_false_iff_not] at hc
   refine ih (lo, (j : Int) - 1) ⟨h1, by simp only; omega, by simp only; omega, h4, fun i y hi' hy => ?_⟩ (by simp only; omega)
   simp only at hi'
   by_cases e : i = j
   ·subst e
    rw [hx] at hy; cases hy
    omega
   ·have hij : j < i := by omega
    have hy' := List.getElem?_eq_some_iff.1 hy
    have hx' := List.getElem?_eq_some_iff.1 hx
    have := List.pairwise_iff_getElem.1 hs j i hx'.1 hy'.1 hij
    rw [hy'.2, hx'.2] at this
    omega
theorem b_lastC (n : Nat) (l : List GCh) (m : Int) (hn : 1000 ≤ n) (hl : l.length ≤ 900) (hs : chK (-1) l = true) : Does (g_days_last_api_Change n l m) (LastOf GCh.At l m) := by
 unfold g_days_last_api_Change
 simp only [lenI, List.length_map]
 rw [wi_id (x := (l.length : Int) - 1) (by omega) (by omega)]
 exact last_gen (B := fun recl1 (v : Int × Int) => g_days_last_api_Change_l1 n l m recl1 v.1 v.2) hl (chK_lt l _ hs).2 (fun rec lo hi => rfl) hn
theorem b_lastI (n : Nat) (l : List Int) (m : Int) (hn : 1000 ≤ n) (hl : l.length ≤ 900) (hs : holB (-1) l = true) : Does (g_days_last_int n l m) (LastOf (fun x => x) l m) := by
 unfold g_days_last_int
 simp only [lenI, List.length_map]
 rw [wi_id (x := (l.length : Int) - 1) (by omega) (by omega)]
 exact last_gen (key := fun x => x) (B := fun recl1 (v : Int × Int) => g_days_last_int_l1 n l m recl1 v.1 v.2) hl (holB_lt l _ hs).2 (fun rec lo hi => rfl) hn
theorem offF_gt (m : Int) : ∀ (l : List GCh) (o : Int), (∀ x ∈ l, m < x.At) → offF m o l = o
 | [], _, _ => rfl
 | x :: r, o, h => by
  have := h x List.mem_cons_self
  unfold offF
  rw [if_neg (by omega)]
  exact offF_gt m r o (fun y hy => h y (List.mem_cons_of_mem _ hy))
theorem offF_at (m : Int) : ∀ (l : List GCh) (o : Int) (k : Nat) (x : GCh), l[k]? = some x → (∀ (i : Nat) (y : GCh), i ≤ k → l[i]? = some y → y.At ≤ m) → (∀ (i : Nat) (y : GCh), k < i → l[i]? = some y → m < y.At) → offF m o l = x.Offset
 | [], _, _, _, h, _, _ => by simp at h
 | z :: r, o, 0, x, h, h1, h2 => by
  simp at h
  subst h
  unfold offF
  rw [if_pos (h1 0 z (Nat.le_refl _) rfl)]
  exact offF_gt m r _ (fun y hy => by
   obtain ⟨i, hi⟩ := List.mem_iff_getElem?.1 hy
   exact h2 (i + 1) y (by omega) (by simpa using hi))
 | z :: r, o, k + 1, x, h, h1, h2 => by
  unfold offF
  exact offF_at m r _ k x (by simpa using h) (fun i y hi hy => h1 (i + 1) y (by omega) (by simpa using hy)) (fun i y hi hy => h2 (i + 1) y (by omega) (by simpa using hy))
theorem typF_mem (d : Int) : ∀ (l : List Int), typF d l = if d ∈ l then 2 else wkF d
 | [] => by simp [typF]
 | x :: r => by
  unfold typF
  rw [typF_mem d r]
  by_cases h : x = d
  ·simp [h]
  ·simp [h, Ne.symm h]
theorem tdiv_neg' (x : Int) (b : Int) (h : x ≤ 0) : Int.tdiv x b = -((-x) / b) ∧ Int.tmod x b = -((-x) % b) := by
 obtain ⟨y, rfl⟩ : ∃ y : Int, x = -y := ⟨-x, by omega⟩
 rw [Int.neg_tdiv, Int.neg_tmod, Int.neg_neg, Int.tdiv_eq_ediv_of_nonneg (by omega), Int.tmod_eq_emod_of_nonneg (by omega)]
 exact ⟨rfl, rfl⟩
theorem b_split1440 (n : Nat) (x : Int) (h : -1440 ≤ x ∧ x ≤ 100000000) : g_days_split n x 1440 = some ((x + 1440) / 1440 - 1, (x + 1440) % 1440) := by
 unfold g_days_split
 rw [show (!eqI 1440 0) = true from rfl, cond_true, cond_true]
 simp only [ltI]
 by_cases hx : 0 ≤ x
 ·rw [Int.tdiv_eq_ediv_of_nonneg hx, Int.tmod_eq_emod_of_nonneg hx, dzF (by omega), cond_false, wi_id (x := x / 1440) (by omega) (by omega)]
  congr 2
  ·omega
  ·omega
 ·obtain ⟨e1, e2⟩ := tdiv_neg' x 1440 (by omega)
  rw [e1, e2]
  by_cases hm : -((-x) % 1440) < 0
  ·rw [dzT hm, cond_true, wi_id (x := -((-x) / 1440)) (by omega) (by omega), wi_id (by omega) (by omega), wi_id (by omega) (by omega)]
   congr 2
   ·omega
   ·omega
  ·rw [dzF hm, cond_false, wi_id (x := -((-x) / 1440)) (by omega) (by omega)]
   congr 2
   ·omega
   ·omega
theorem b_local (n : Nat) (c : GCl) (m : Int) (hn : 1000 ≤ n) (h1 : c.Changes.length ≤ 900) (h2 : c.Holidays.length ≤ 900) (hc : calB c = true) (hm : 0 ≤ m ∧ m ≤ 52560000) :
  g_days_Local n c m = some ((m + offF m c.Offset c.Changes + 1440) / 1440 - 1, (m + offF m c.Offset c.Changes + 1440) % 1440, 0) := by
 have ho := cal_off m hc
 have hc' := hc
 simp only [calB, bae] at hc'
 have hK : chK (-1) c.Changes = true := by
  have := hc'.1.2
  rw [chgB_KO, bae] at this
  exact this.2
 unfold g_days_Local
 rw [b_cal n c hn h1 h2, hc, b_dinside, dzT hm]
 simp only [obs, Bool.not_true, cond_false]
 obtain ⟨r, e, L⟩ := b_lastC n c.Changes m hn h1 hK
 rw [e]
 simp only [obs]
 have hoff : (bif leI 0 r then (getI c.Changes r).bind fun x7 => some x7.Offset else some c.Offset) = some (offF m c.Offset c.Changes) := by
  by_cases h0 : 0 ≤ r
  ·obtain ⟨k, rfl⟩ : ∃ k : Nat, r = (k : Int) := ⟨r.toNat, by omega⟩
   have hk := L.hi
   have hx : c.Changes[k]? = some (c.Changes[k]'(by omega)) := by rw [List.getElem?_eq_getElem]
   rw [show leI 0 (k : Int) = true from by simp only [leI]; rw [dzT h0], cond_true, getI_nat, hx, obs]
   rw [offF_at m c.Changes c.Offset k _ hx (fun i y hi hy => L.le i y (by omega) hy) (fun i y hi hy => L.gt i y (by omega) hy)]
  ·rw [show leI 0 r = false from by simp only [leI]; rw [dzF h0], cond_false]
   rw [offF_gt m c.Changes c.Offset (fun x hx => by
    obtain ⟨i, hi⟩ := List.mem_iff_getElem?.1 hx
    exact L.gt i x (by omega) hi)]
 rw [hoff, obs]
 generalize offF m c.Offset c.Changes = o at ho
 rw [wi_id (x := m + o) (by omega) (by omega), b_split1440 n (m + o) (by omega), obs]
theorem b_split7 (n : Nat) (d : Int) (h : -1 ≤ d ∧ d ≤ 36501) : g_days_split n d 7 = some ((d + 7) / 7 - 1, (d + 7) % 7) := by
 unfold g_days_split
 rw [show (!eqI 7 0) = true from rfl, cond_true, cond_true]
 simp only [ltI]
 by_cases hx : 0 ≤ d
 ·rw [Int.tdiv_eq_ediv_of_nonneg hx, Int.tmod_eq_emod_of_nonneg hx, dzF (by omega), cond_false, wi_id (x := d / 7) (by omega) (by omega)]
  congr 2
  ·omega
  ·omega
 ·have : d = -1 := by omega
  subst this
  rfl
theorem b_type (n : Nat) (c : GCl) (d : Int) (hn : 1000 ≤ n) (h1 : c.Changes.length ≤ 900) (h2 : c.Holidays.length ≤ 900) (hc : calB c = true) (hd : -1 ≤ d ∧ d ≤ 36501) : g_days_Type n c d = some (typF d c.Holidays, 0) := by
 have hc' := hc
 simp only [calB, bae] at hc'
 unfold g_days_Type
 rw [b_cal n c hn h1 h2, hc, b_dinside, dzT hd]
 simp only [obs, Bool.not_true, cond_false]
 obtain ⟨r, e, L⟩ := b_lastI n c.Holidays d hn h2 hc'.2
 have hpw := (holB_lt _ _ hc'.2).2
 rw [e]
 simp only [obs]
 have hj : (bif leI 0 r then (getI c.Holidays r).bind fun x8 => some (eqI x8 d) else some false) = some (decide (d ∈ c.Holidays)) := by
  by_cases h0 : 0 ≤ r
  ·obtain ⟨k, rfl⟩ : ∃ k : Nat, r = (k : Int) := ⟨r.toNat, by omega⟩
   have hk := L.hi
   have hx : c.Holidays[k]? = some (c.Holidays[k]'(by omega)) := by rw [List.getElem?_eq_getElem]
   rw [show leI 0 (k : Int) = true from by simp only [leI]; rw [dzT h0], cond_true, getI_nat, hx, obs, eqI_d]
   generalize c.Holidays[k]'(by omega) = x at hx
   by_cases hxd : x = d
   ·rw [dzT hxd, dzT]
    rw [← hxd]
    exact List.mem_of_getElem? hx
   ·rw [dzF hxd, dzF]
    intro hmem
    obtain ⟨i, hi⟩ := List.mem_iff_getElem?.1 hmem
    have hik : (i : Int) ≤ k := by
     apply Classical.byContradiction
     intro h
     have := L.gt i d (by omega) hi
     omega
    by_cases e : i = k
    ·subst e
     rw [hx] at hi; cases hi
     exact hxd rfl
    ·have hi' := List.getElem?_eq_some_iff.1 hi
     have hx' := List.getElem?_eq_some_iff.1 hx
     have := List.pairwise_iff_getElem.1 hpw i k hi'.1 hx'.1 (by omega)
     rw [hi'.2, hx'.2] at this
     have := L.le k x (Int.le_refl _) hx
     omega
  ·rw [show leI 0 r = false from by simp only [leI]; rw [dzF h0], cond_false, dzF]
   intro hmem
   obtain ⟨i, hi⟩ := List.mem_iff_getElem?.1 hmem
   have := L.gt i d (by omega) hi
   omega
 rw [hj, obs, typF_mem]
 by_cases hmem : d ∈ c.Holidays
 ·rw [dzT hmem, if_pos hmem]; rfl
 ·rw [dzF hmem, if_neg hmem, cond_false, b_split7 n d hd]
  unfold g_days_week wkF
  simp only [obs]
  rw [wi_id (x := d + 7) (by omega) (by omega), Int.tmod_eq_emod_of_nonneg (a := d + 7) (by omega)]
  have hr : 0 ≤ (d + 7) % 7 ∧ (d + 7) % 7 < 7 := by omega
  generalize (d + 7) % 7 = w at hr
  have hw : w = 0 ∨ w = 1 ∨ w = 2 ∨ w = 3 ∨ w = 4 ∨ w = 5 ∨ w = 6 := by omega
  rcases hw with rfl | rfl | rfl | rfl | rfl | rfl | rfl <;> rfl
theorem b_applies (n : Nat) (c : GCl) (a : GAr) (m : Int) (hn : 1000 ≤ n) (h1 : c.Changes.length ≤ 900) (h2 : c.Holidays.length ≤ 900) (hc : calB c = true) (ha : artB a = true) (hm : 0 ≤ m ∧ m ≤ 52560000) :
  g_t_Applies n a c m = some (appB c a m) := by
 have ho := cal_off m hc
 unfold g_t_Applies appB
 rw [b_article, ha, b_local n c m hn h1 h2 hc hm]
 simp only [obs, Bool.not_true, cond_false, eqI_d, decide_true]
 generalize offF m c.Offset c.Changes = o at ho
 rw [wi_id (x := m + o) (by omega) (by omega), wi_id (x := m + o + 1440) (by omega) (by omega)]
 rw [Int.tdiv_eq_ediv_of_nonneg (a := m + o + 1440) (by omega), Int.tmod_eq_emod_of_nonneg (a := m + o + 1440) (by omega)]
 rw [wi_id (x := (m + o + 1440) / 1440) (by omega) (by omega), wi_id (x := (m + o + 1440) / 1440 - 1) (by omega) (by omega)]
 rw [b_type n c _ hn h1 h2 hc (by omega)]
 have ht := typF_range ((m + o + 1440) / 1440 - 1) c.Holidays
 simp only [obs, cond_some, leI, ltI, decide_true, cond_true]
 rw [dzF (show ¬ typF ((m + o + 1440) / 1440 - 1) c.Holidays < 0 by omega)]
 generalize decide (bAnd .i64 a.Days (shlI .i64 1 (typF ((m + o + 1440) / 1440 - 1) c.Holidays)) = 0) = b
 generalize (m + o + 1440) % 1440 = w
 by_cases c1 : a.From ≤ w
 ·by_cases c2 : w < a.To
  ·rw [dzF (show ¬ w < a.From by omega), dzF (show ¬ a.To ≤ w by omega), dzT c1, dzT c2]
   cases b <;> rfl
  ·rw [dzF (show ¬ w < a.From by omega), dzT (show a.To ≤ w by omega), dzF c2]
   cases b <;> simp
 ·rw [dzT (show w < a.From by omega), dzF c1]; rfl
end Go.Proofs
namespace Go.Proofs
open Go Go.Abs
set_option maxRecDepth 100000
set_option linter.unusedVariables false
theorem b_minside (n : Nat) (x a b : Int) : g_money_inside n x a b = some (decide (a ≤ x ∧ x ≤ b)) := by
 unfold g_money_inside leI
 by_cases h : a ≤ x <;> simp [h]
theorem b_amount (n : Nat) (x : Int) : g_money_isAmount n x = some (decide (0 ≤ x ∧ x ≤ 1000000000)) := by
 unfold g_money_isAmount
 rw [b_minside, obs]
theorem b_need (n : Nat) (b : Bool) (e : Int) : g_money_need n b e = some (needE b e) := by cases b <;> rfl
theorem b_checked (n : Nat) (x : Int) : g_money_checked n x = some (if 0 ≤ x ∧ x ≤ 1000000000 then .ok x else .error 3) := by
 unfold g_money_checked
 rw [b_amount, obs, b_need, obs, exc_need]
 by_cases h : 0 ≤ x ∧ x ≤ 1000000000
 ·rw [dzT h, if_pos h]; rfl
 ·rw [dzF h, if_neg h]; rfl
theorem r_checked' (n : Nat) (x : Int) : g_ref31_checked n x = some (if 0 ≤ x ∧ x ≤ 1000000000 then (x, 0) else (0, 3)) := by
 unfold g_ref31_checked
 rw [r_amount, obs]
 by_cases h : 0 ≤ x ∧ x ≤ 1000000000
 ·rw [dzT h, if_pos h]; rfl
 ·rw [dzF h, if_neg h]; rfl
theorem b_end (n : Nat) (x : Int) : ((g_money_checked n x).bind (exc (fun r3 => (g_money_caught n 0).bind fun r5 => some (r3, r5)) fun e4 => (g_money_caught_2 n e4 0).bind fun r6 => some (0, r6))) = ((g_ref31_checked n x).bind fun r8 => some (r8.1, r8.2)) := by
 rw [b_checked, r_checked', obs, obs]
 by_cases h : 0 ≤ x ∧ x ≤ 1000000000
 ·rw [if_pos h, if_pos h]; rfl
 ·rw [if_neg h, if_neg h]; rfl
theorem b_times (n : Nat) (p q d : Int) : g_money_Times n p q d = g_ref31_Times n p q d := by
 unfold g_money_Times g_ref31_Times g_money_Times_j1
 simp only [b_amount, r_amount, b_minside, b_need, obs, exc_need, b_end]
 unfold g_money_half g_ref31_divided
 by_cases c1 : 0 ≤ p ∧ p ≤ 1000000000
 rotate_left
 ·rw [dzF c1]; rfl
 rw [dzT c1]
 by_cases c2 : 0 ≤ q ∧ q ≤ 1000000000
 rotate_left
 ·rw [dzF c2]; rfl
 rw [dzT c2]
 simp only [Bool.not_true, cond_false, cond_true, ltI]
 by_cases c3 : 1 ≤ d
 ·rw [dzF (show ¬ d < 1 by omega)]
  by_cases c4 : d ≤ 1000000000
  ·rw [dzT (show 1 ≤ d ∧ d ≤ 1000000000 from ⟨c3, c4⟩), dzF (show ¬ 1000000000 < d by omega)]; rfl
  ·rw [dzF (show ¬ (1 ≤ d ∧ d ≤ 1000000000) by omega), dzT (show 1000000000 < d by omega)]; rfl
 ·rw [dzT (show d < 1 by omega), dzF (show ¬ (1 ≤ d ∧ d ≤ 1000000000) by omega)]; rfl
theorem b_started (n : Nat) (p q u : Int) : g_money_Started n p q u = g_ref31_Started n p q u := by
 unfold g_money_Started g_ref31_Started g_money_Started_j1
 simp only [b_amount, r_amount, b_minside, b_need, obs, exc_need, b_end]
 by_cases c1 : 0 ≤ p ∧ p ≤ 1000000000
 rotate_left
 ·rw [dzF c1]; rfl
 rw [dzT c1]
 by_cases c2 : 0 ≤ q ∧ q ≤ 1000000000
 rotate_left
 ·rw [dzF c2]; rfl
 rw [dzT c2]
 simp only [Bool.not_true, cond_false, cond_true, ltI]
 by_cases c3 : 1 ≤ u
 ·rw [dzF (show ¬ u < 1 by omega)]
  by_cases c4 : u ≤ 1000000000
  ·rw [dzT (show 1 ≤ u ∧ u ≤ 1000000000 from ⟨c3, c4⟩), dzF (show ¬ 1000000000 < u by omega)]; rfl
  ·rw [dzF (show ¬ (1 ≤ u ∧ u ≤ 1000000000) by omega), dzT (show 1000000000 < u by omega)]; rfl
 ·rw [dzT (show u < 1 by omega), dzF (show ¬ (1 ≤ u ∧ u ≤ 1000000000) by omega)]; rfl
theorem b_tax (n : Nat) (x r : Int) : g_money_Tax n x r = g_ref31_Tax n x r := by
 unfold g_money_Tax g_ref31_Tax g_money_Tax_j1
 simp only [b_amount, r_amount, b_minside, b_need, obs, exc_need, b_end]
 unfold g_money_half g_ref31_divided
 by_cases c1 : 0 ≤ x ∧ x ≤ 1000000000
 rotate_left
 ·rw [dzF c1]; rfl
 rw [dzT c1]
 simp only [Bool.not_true, cond_false, cond_true, ltI]
 by_cases c3 : 0 ≤ r
 ·rw [dzF (show ¬ r < 0 by omega)]
  by_cases c4 : r ≤ 100000
  ·rw [dzT (show 0 ≤ r ∧ r ≤ 100000 from ⟨c3, c4⟩), dzF (show ¬ 100000 < r by omega)]; rfl
  ·rw [dzF (show ¬ (0 ≤ r ∧ r ≤ 100000) by omega), dzT (show 100000 < r by omega)]; rfl
 ·rw [dzT (show r < 0 by omega), dzF (show ¬ (0 ≤ r ∧ r ≤ 100000) by omega)]; rfl
def amt (x : Int) : Except Int Int := if x ≤ 1000000000 then .ok x else .error 3
theorem b_must (n : Nat) (x : Int) : g_bill_must n (if x ≤ 1000000000 then (x, 0) else (0, 3) : Int × Int).1 (if x ≤ 1000000000 then (x, 0) else (0, 3) : Int × Int).2 = some (amt x) := by
 unfold amt
 by_cases h : x ≤ 1000000000
 ·rw [if_pos h, if_pos h]; rfl
 ·rw [if_neg h, if_neg h]; rfl
theorem b_session (n : Nat) (s : GSs) (hn : 1000 ≤ n) (hl : s.Slices.length ≤ 900) (hb : i64b s.To) : g_bill_Valid n s = some (valB s) := by
 unfold i64b at hb
 unfold g_bill_Valid valB
 simp only [ltI, leI, lenI, List.length_map]
 by_cases c1 : s.From < 0
 ·rw [dzT c1, cond_true, obs, cond_true, dzF (by omega)]; rfl
 rw [dzF c1, cond_false]
 by_cases c2 : s.To ≤ s.From
 ·rw [dzT c2, cond_true, obs, cond_true, dzF (by omega)]; rfl
 rw [dzF c2, cond_false, wi_id (x := s.To - s.From) (by omega) (by omega)]
 by_cases c4 : 2880 < s.To - s.From
 ·rw [dzT c4, cond_true, obs, cond_true, dzF (by omega)]; rfl
 rw [dzF c4, cond_false, obs]
 by_cases c3 : 52560000 < s.To
 ·rw [dzT c3, cond_true, dzF (by omega)]; rfl
 rw [dzF c3, cond_false]
 by_cases c5 : s.End < s.From
 ·rw [dzT c5, cond_true, obs, cond_true, dzF (by omega)]; rfl
 rw [dzF c5, cond_false]
 by_cases c6 : s.To < s.End
 ·rw [dzT c6, cond_true, obs, cond_true, dzF (by omega)]; rfl
 rw [dzF c6, cond_false, obs]
 by_cases c7 : s.Slices.length ≤ 48
 rotate_left
 ·rw [dzT (show (48 : Int) < s.Slices.length by omega), cond_true, dzF (show ¬ (0 ≤ s.From ∧ s.From < s.To ∧ s.To ≤ 52560000 ∧ s.To - s.From ≤ 2880 ∧ s.From ≤ s.End ∧ s.End ≤ s.To ∧ s.Slices.length ≤ 48) by omega)]; rfl
 rw [dzF (show ¬ (48 : Int) < s.Slices.length by omega), cond_false, dzT (show 0 ≤ s.From ∧ s.From < s.To ∧ s.To ≤ 52560000 ∧ s.To - s.From ≤ 2880 ∧ s.From ≤ s.End ∧ s.End ≤ s.To ∧ s.Slices.length ≤ 48 by omega), Bool.true_and, wi_id (x := s.From - 1) (by omega) (by omega)]
 have := loop_gen (l := s.Slices) (fun (a : Int) i => (a, i)) (B := fun recl8 (v : Int × Int) => g_bill_Valid_l8 s recl8 v.1 v.2) (F := slB s.From s.End) (fun i a => s.From - 1 ≤ a) (by omega) ?_ ?_ (n := n) 0 (s.From - 1) (Int.le_refl _) (by omega) (by omega)
 ·exact this
 ·intro rec a ha
  simp only [g_bill_Valid_l8, lenI, List.length_map, ltI]
  rw [dzF (by omega), cond_false]
  rfl
 ·intro rec a i x r ha hd hx hi hw hr
  simp only [g_bill_Valid_l8, lenI, List.length_map, ltI, leI, getI_nat, hx, obs, hw]
  rw [dzT (by omega), cond_true, slB]
  by_cases d1 : x.Minute ≤ a
  ·rw [dzT d1, cond_true, obs, cond_true, dzF (by omega)]; rfl
  rw [dzF d1, cond_false]
  by_cases d2 : s.End ≤ x.Minute
  ·rw [dzT d2, cond_true, obs, cond_true, dzF (by omega)]; rfl
  rw [dzF d2, cond_false]
  by_cases d3 : x.Energy < 0
  ·rw [dzT d3, cond_true, obs, cond_true, dzF (by omega)]; rfl
  rw [dzF d3, cond_false, obs]
  by_cases d4 : 10000 < x.Energy
  ·rw [dzT d4, cond_true, dzF (by omega)]; rfl
  rw [dzF d4, cond_false, hr x.Minute (by omega), dzT (by omega)]; rfl
theorem b_stretch (n : Nat) (c : GCl) (a : GAr) (s : GSs) (f t : Int) (hn : 10000 ≤ n) (h1 : c.Changes.length ≤ 900) (h2 : c.Holidays.length ≤ 900) (hc : calB c = true) (ha : artB a = true) (hk34 : a.Kind = 3 ∨ a.Kind = 4) (hf : 0 ≤ f) (ht : t ≤ 52560000) (hk : t - f ≤ 2880) :
  g_bb_stretch n (⟨a, c, s⟩ : GBB) f t = some (amt (staF c a f t)) := by
 unfold g_bb_stretch
 have key : ∀ (k j : Nat) (z m : Int), (t - m).toNat = k → k < j → 0 ≤ m → k ≤ 2880 → 0 ≤ z ∧ z ≤ 3000 - k →
   loopN (fun recl3 (v : Int × Int) => g_bb_stretch_l3 n (⟨a, c, s⟩ : GBB) t recl3 v.1 v.2) j (m, z) = some (z + cN c a k m) := by
  intro k
  induction k with
  | zero =>
   intro j z m h3 h4 h5 h6 h7
   obtain ⟨j, rfl⟩ : ∃ j', j = j' + 1 := ⟨j - 1, by omega⟩
   unfold loopN
   simp only [g_bb_stretch_l3, ltI]
   rw [dzF (by omega), cond_false]
   simp [cN]
  | succ k ih =>
   intro j z m h3 h4 h5 h6 h7
   obtain ⟨j, rfl⟩ : ∃ j', j = j' + 1 := ⟨j - 1, by omega⟩
   have i0 := ih j z (m + 1) (by omega) (by omega) (by omega) (by omega) (by omega)
   have i1 := ih j (z + 1) (m + 1) (by omega) (by omega) (by omega) (by omega) (by omega)
   unfold loopN
   generalize loopN (fun recl3 (v : Int × Int) => g_bb_stretch_l3 n (⟨a, c, s⟩ : GBB) t recl3 v.1 v.2) j = L at i0 i1 ⊢
   show g_bb_stretch_l3 n (⟨a, c, s⟩ : GBB) t L m z = _
   unfold g_bb_stretch_l3 g_bb_applies
   simp only [ltI]
   rw [dzT (by omega), cond_true, b_applies n c a m (by omega) h1 h2 hc ha (by omega), obs, obs, wi_id (x := m + 1) (by omega) (by omega), wi_id (x := z + 1) (by omega) (by omega)]
   unfold cN
   cases appB c a m
   ·rw [cond_false, obs, i0]
    simp
   ·rw [cond_true, obs, i1]
    simp
    omega
 have hloop := key (t - f).toNat n 0 f rfl (by omega) hf (by omega) (by omega)
 rw [Int.zero_add] at hloop
 obtain ⟨g1, g2⟩ := r_sta n c a f t hn h1 h2 hc ha hk34 hf ht hk
 rw [r_minutes n c a f t hn h1 h2 hc ha hf ht hk, obs] at g1
 simp only
 refine (congrArg (fun o => Option.bind o _) hloop).trans ?_
 rw [obs, b_started]
 cases hS : g_ref31_Started n a.Price (maxI 0 (wi (cN c a (t - f).toNat f - a.Free))) a.Unit with
 | none => rw [hS] at g1; cases g1
 | some r =>
  rw [hS, obs] at g1
  have hr : r = if staF c a f t ≤ 1000000000 then (staF c a f t, 0) else (0, 3) := Option.some.inj g1
  rw [obs, hr]
  rw [b_must n (staF c a f t), obs]
  unfold amt
  by_cases h : staF c a f t ≤ 1000000000
  ·rw [if_pos h]; rfl
  ·rw [if_neg h]; rfl
def endE (rate net : Int) (l : List GLine) : Except Int GBill :=
 if net ≤ 1000000000 ∧ wi (net + taxF net rate) ≤ 1000000000 then .ok ⟨l, net, taxF net rate, wi (net + taxF net rate)⟩ else .error 3
theorem b_sum1 (n : Nat) (rate cap : Int) (l : OL GLine) (z : Int) (hr : 0 ≤ rate ∧ rate ≤ 10000) (hz : 0 ≤ z) : g_bill_sum_j1 n rate cap l z = some (endE rate (capV cap z) l.toL) := by
 unfold g_bill_sum_j1
 have e : (bif leI 0 cap then some (minI z cap) else some z) = some (capV cap z) := by
  unfold capV leI minI
  by_cases c1 : 0 ≤ cap <;> by_cases c2 : cap < z <;> simp [c1, c2]
 rw [e, obs]
 have hnet : 0 ≤ capV cap z := by unfold capV; split <;> omega
 generalize capV cap z = net at hnet
 unfold endE
 rw [b_tax]
 by_cases c : 1000000000 < net
 ·have : g_ref31_Tax n net rate = some (0, 1) := by
   unfold g_ref31_Tax
   rw [r_amount, dzF (show ¬ (0 ≤ net ∧ net ≤ 1000000000) by omega)]; rfl
  rw [this, if_neg (by omega)]; rfl
 ·obtain ⟨g1, g2, g3⟩ := r_tax n net rate (by omega) hr
  rw [g1, obs]
  have hm : g_bill_must n (taxF net rate) 0 = some (.ok (taxF net rate)) := rfl
  simp only [hm, obs, exc, ltI]
  by_cases c2 : 1000000000 < wi (net + taxF net rate)
  ·rw [dzT c2, cond_true, if_neg (by omega)]
  ·rw [dzF c2, cond_false, if_pos (by omega)]
theorem b_sum (n : Nat) (t : GTf) (c : GCl) (s : GSs) (hn : 10000 ≤ n) (h1 : c.Changes.length ≤ 900) (h2 : c.Holidays.length ≤ 900) (hc : calB c = true) (ht : tariffB t = true) (hv : valB s = true) :
  g_bill_sum n t c s = some (if linB (linF c s 0 t.Articles) then (if bilB (bilF t (rateF 0 t.Articles) 0 (linF c s 0 t.Articles)) then .ok (bilF t (rateF 0 t.Articles) 0 (linF c s 0 t.Articles)) else .error 3) else .error 3) := by
 have ht' := ht
 simp only [tariffB, bae, decide_eq_true_eq] at ht'
 have hall := tarB_all ht'.2
 have hArt := fun a h => artB_art (hall a h)
 have hv' := hv
 simp only [valB, bae, decide_eq_true_eq] at hv'
 obtain ⟨hrng, hsl⟩ := hv'
 have hm := slB_mem hsl
 unfold g_bill_sum
 have := loop_gen (l := t.Articles) (fun (a : Int × Int × OL GLine × Int) i => (a.1, a.2.1, i, a.2.2.1, a.2.2.2)) (B := fun recl6 (v : Int × Int × Int × (OL GLine) × Int) => g_bill_sum_l6 n t c s recl6 v.1 v.2.1 v.2.2.1 v.2.2.2.1 v.2.2.2.2)
  (F := fun a r => if linB (linF c s (t.Articles.length - r.length) r) then endE (rateF a.1 r) (capV (capR a.2.1 r) (sumF a.2.2.2 (linF c s (t.Articles.length - r.length) r))) (a.2.2.1.toL ++ linF c s (t.Articles.length - r.length) r) else .error 3)
  (fun i a => (0 ≤ a.1 ∧ a.1 ≤ 10000) ∧ a.2.2.1.toL.length ≤ i ∧ 0 ≤ a.2.2.2 ∧ a.2.2.2 ≤ 1000000000 * i) (by omega) ?_ ?_ (n := n) 0 (0, -1, OL.nil, 0) (by simp) (by omega) (by omega)
 ·rw [show ((0 : Nat) : Int) = 0 from rfl] at this
  refine this.trans ?_
  simp only [OL.toL_nil, List.nil_append, List.drop_zero, Nat.sub_self]
  rw [← capF_R _ _ _ (fun a h => (hArt a h).price.1), show ∀ z, capV (-1) z = z from fun z => by unfold capV; rw [if_neg (by omega)]]
  unfold endE bilF bilB netF
  simp only [bae, decide_eq_true_eq]
 ·intro rec a ha
  have h : ltI ((t.Articles.length : Nat) : Int) (lenI (List.map GAr.cs t.Articles)) = false := by simp [ltI, lenI]
  show g_bill_sum_l6 n t c s rec a.1 a.2.1 ((t.Articles.length : Nat) : Int) a.2.2.1 a.2.2.2 = _
  unfold g_bill_sum_l6
  rw [h, cond_false, b_sum1 n _ _ _ _ ha.1 ha.2.2.1]
  simp [linF, linB, rateF, capR, sumF]
 ·intro rec a i x r hi0 hd hx hi hw hr
  have h3 : ltI (i : Int) (lenI (List.map GAr.cs t.Articles)) = true := by
   simp only [ltI, lenI, List.length_map]
   rw [dzT (by omega)]
  have hidx := drop_idx hd hi
  have hxa := hall x (List.mem_of_getElem? hx)
  have hA := artB_art hxa
  simp only [List.length_cons, hidx.1]
  simp only [hidx.2] at hr
  obtain ⟨rate, cap, acc, z⟩ := a
  simp only at hi0 ⊢
  show g_bill_sum_l6 n t c s rec rate cap (i : Int) acc z = _
  unfold g_bill_sum_l6
  rw [h3, cond_true, getI_nat, hx, obs, hw]
  simp only [eqI_d]
  unfold linF rateF capR
  by_cases k5 : x.Kind = 5
  ·rw [dzT k5, cond_true, if_pos (Or.inl k5), if_neg (show ¬ x.Kind = 6 by omega), if_pos k5]
   have hcap := fun k => hr (rate, k, acc, z) ⟨hi0.1, by simp only; omega, hi0.2.2.1, by simp only; omega⟩
   simp only at hcap
   simp only [ltI, cond_some, obs]
   rw [hcap, hcap]
   by_cases c1 : cap < 0
   ·simp [c1]
   ·by_cases c2 : x.Price < cap <;> simp [c1, c2]
  rw [dzF k5, cond_false]
  by_cases k6 : x.Kind = 6
  ·have := hr (x.Price, cap, acc, z) ⟨⟨hA.price.1, hA.rate k6⟩, by simp only; omega, by simp only; omega, by simp only; omega⟩
   simp only at this
   rw [dzT k6, cond_true, if_pos (Or.inr k6), if_pos k6, if_neg k5, this]
  rw [dzF k6, cond_false, if_neg (show ¬ (x.Kind = 5 ∨ x.Kind = 6) by omega), if_neg k6, if_neg k5]
  have g2 := (r_line n c x s hn h1 h2 hc hxa hv).2
  have hj : ∀ y, 0 ≤ y → y ≤ 1000000000 → g_bill_sum_j10 rate cap (i : Int) acc z rec y = some (if linB (linF c s (i + 1) r) then endE (rateF rate r) (capV (capR cap r) (sumF (z + y) (linF c s (i + 1) r))) (acc.toL ++ ⟨(i : Int), y⟩ :: linF c s (i + 1) r) else .error 3) := by
   intro y hy0 hy
   unfold g_bill_sum_j10
   have hroom : roomB (List.length (acc.toL ++ [(⟨(i : Int), y⟩ : GLine)])) 16 = true := by
    simp only [roomB, List.length_append, List.length_cons, List.length_nil]
    rw [dzT]
    omega
   have := hr (rate, cap, OL.own (acc.toL ++ [(⟨(i : Int), y⟩ : GLine)]), z + y) ⟨hi0.1, by simp only [OL.toL_own, List.length_append, List.length_cons, List.length_nil]; omega, by simp only; omega, by simp only; omega⟩
   simp only at this
   rw [hroom, cond_true, wi_id (x := z + y) (by omega) (by omega), hw, this]
   simp only [OL.toL_own, List.append_assoc, List.singleton_append]
  have hgoal : ∀ (y : Int), cosF c s x = y → 0 ≤ y → ∀ (p : Option (Except Int GBill)), p = (exc (fun y => g_bill_sum_j10 rate cap (i : Int) acc z rec y) (fun e => some (.error e)) (amt y)) →
    p = some (if linB (⟨(i : Int), cosF c s x⟩ :: linF c s (i + 1) r) then endE (rateF rate r) (capV (capR cap r) (sumF z (⟨(i : Int), cosF c s x⟩ :: linF c s (i + 1) r))) (acc.toL ++ ⟨(i : Int), cosF c s x⟩ :: linF c s (i + 1) r) else .error 3) := by
   rintro y rfl hy0 p rfl
   rw [linB_cons]
   unfold amt
   by_cases hb : cosF c s x ≤ 1000000000
   ·rw [if_pos hb, dzT hb]
    simp only [exc, Bool.true_and]
    rw [hj _ hy0 hb, show ∀ l, sumF z (⟨(i : Int), cosF c s x⟩ :: l) = sumF (wi (z + cosF c s x)) l from fun _ => rfl, wi_id (x := z + cosF c s x) (by omega) (by omega)]
   ·rw [if_neg hb, dzF hb]
    rfl
  have hcos : cosF c s x = if x.Kind = 1 then (if appB c x s.From then x.Price else 0) else if x.Kind = 2 then wi (Int.tdiv (wi (wi (wi (2 * x.Price) * eneF c x 0 s.Slices) + 1000)) 2000) else if x.Kind = 3 then staF c x s.From s.To else if x.Kind = 4 then staF c x s.End s.To else 0 := rfl
  by_cases k1 : x.Kind = 1
  ·rw [dzT k1, cond_true]
   rw [if_pos k1] at hcos
   unfold g_bb_applies
   have hp := hA.price
   rw [b_applies n c x s.From (by omega) h1 h2 hc hxa (by omega), obs, obs]
   cases happ : appB c x s.From
   ·rw [happ] at hcos
    refine hgoal 0 hcos (Int.le_refl _) _ ?_
    rfl
   ·rw [happ] at hcos
    refine hgoal x.Price hcos hp.1 _ ?_
    unfold amt
    rw [if_pos (by omega)]; rfl
  rw [dzF k1, cond_false]
  rw [if_neg k1] at hcos
  by_cases k2 : x.Kind = 2
  ·rw [dzT k2, cond_true]
   rw [if_pos k2] at hcos
   have hloop : loopN (fun recl13 (v : Int × Int) => g_bill_sum_l13 n c s x recl13 v.1 v.2) n (0, 0) = some (eneF c x 0 s.Slices) := by
    have := loop_acc (l := s.Slices) (B := fun recl13 (v : Int × Int) => g_bill_sum_l13 n c s x recl13 v.1 v.2) (F := eneF c x) (by omega) ?_ ?_ (n := n) 0 0 (by omega) (by omega)
    ·exact this
    ·intro rec z
     have h : ltI ((s.Slices.length : Nat) : Int) (lenI (List.map GSl.cs s.Slices)) = false := by simp [ltI, lenI]
     show g_bill_sum_l13 n c s x rec z ((s.Slices.length : Nat) : Int) = some z
     unfold g_bill_sum_l13
     rw [h, cond_false]
    ·intro rec z i y q hd hy hi hw hr
     have h3 : ltI (i : Int) (lenI (List.map GSl.cs s.Slices)) = true := by
      simp only [ltI, lenI, List.length_map]
      rw [dzT (by omega)]
     have hym := hm y (List.mem_of_getElem? hy)
     show g_bill_sum_l13 n c s x rec z (i : Int) = some (eneF c x z (y :: q))
     unfold g_bill_sum_l13 eneF g_bb_applies
     rw [h3, cond_true, getI_nat, hy, obs, b_applies n c x y.Minute (by omega) h1 h2 hc hxa (by omega), obs, obs, hw, hr, hr]
     cases appB c x y.Minute
     ·rfl
     ·rfl
   have he := eneF_range c x s.Slices 0 (fun y hy => by have := hm y hy; omega) (by omega) (by omega)
   obtain ⟨g3, g4⟩ := r_times n x.Price (eneF c x 0 s.Slices) hA.price (by omega)
   refine hgoal _ hcos g4 _ ?_
   refine (congrArg (fun o => Option.bind o _) hloop).trans ?_
   rw [obs, b_times, g3, obs]
   refine (congrArg (fun o => Option.bind o _) (b_must n _)).trans ?_
   rw [obs]
  rw [dzF k2, cond_false]
  rw [if_neg k2] at hcos
  by_cases k3 : x.Kind = 3
  ·rw [dzT k3, cond_true]
   rw [if_pos k3] at hcos
   refine hgoal _ hcos (by rw [← hcos]; exact g2) _ ?_
   rw [b_stretch n c x s s.From s.To hn h1 h2 hc hxa (Or.inl k3) hrng.1 (by omega) (by omega), obs]
  rw [dzF k3, cond_false]
  rw [if_neg k3] at hcos
  by_cases k4 : x.Kind = 4
  ·rw [dzT k4, cond_true]
   rw [if_pos k4] at hcos
   refine hgoal _ hcos (by rw [← hcos]; exact g2) _ ?_
   rw [b_stretch n c x s s.End s.To hn h1 h2 hc hxa (Or.inr k4) (by omega) (by omega) (by omega), obs]
  have := hA.kind
  omega
theorem b_bill (n : Nat) (t : GTf) (c : GCl) (s : GSs) (hn : 10000 ≤ n) (h1 : c.Changes.length ≤ 900) (h2 : c.Holidays.length ≤ 900) (h3 : s.Slices.length ≤ 900) (hb : i64b s.To) :
  g_bill_Bill n t c s = some (if (tariffB t && calB c && valB s) = true then (if linB (linF c s 0 t.Articles) then (if bilB (bilF t (rateF 0 t.Articles) 0 (linF c s 0 t.Articles)) then (bilF t (rateF 0 t.Articles) 0 (linF c s 0 t.Articles), 0) else (zeroBill, 3)) else (zeroBill, 3)) else (zeroBill, 1)) := by
 unfold g_bill_Bill
 rw [b_tariff n t (by omega), b_cal n c (by omega) h1 h2, b_session n s (by omega) h3 hb]
 simp only [obs, cond_some]
 cases ht : tariffB t
 ·rfl
 cases hc : calB c
 ·rfl
 cases hv : valB s
 ·rfl
 rw [b_sum n t c s hn h1 h2 hc ht hv]
 simp only [Bool.not_true, cond_false, obs, Bool.and_self, if_true]
 cases linB (linF c s 0 t.Articles)
 ·rfl
 ·cases bilB (bilF t (rateF 0 t.Articles) 0 (linF c s 0 t.Articles))
  ·rfl
  ·rfl
end Go.Proofs
namespace Go.Proofs
open Go Go.Abs
set_option maxRecDepth 100000
set_option linter.unusedVariables false
def bilV (t : GTf) (c : GCl) (s : GSs) : GBill × Int := if (tariffB t && calB c && valB s) = true then (if linB (linF c s 0 t.Articles) then (if bilB (bilF t (rateF 0 t.Articles) 0 (linF c s 0 t.Articles)) then (bilF t (rateF 0 t.Articles) 0 (linF c s 0 t.Articles), 0) else (zeroBill, 3)) else (zeroBill, 3)) else (zeroBill, 1)
theorem b_billV (n : Nat) (t : GTf) (c : GCl) (s : GSs) (hn : 10000 ≤ n) (h1 : c.Changes.length ≤ 900) (h2 : c.Holidays.length ≤ 900) (h3 : s.Slices.length ≤ 900) (hb : i64b s.To) : g_bill_Bill n t c s = some (bilV t c s) := b_bill n t c s hn h1 h2 h3 hb
end Go.Proofs
namespace Go.Proofs
open Go Go.Abs
set_option maxRecDepth 100000
set_option linter.unusedVariables false
def enS (c : GCl) (a : GAr) : List GSl → Int
 | [] => 0
 | x :: r => (if appB c a x.Minute then x.Energy else 0) + enS c a r
def cstM (p q u : Int) : Int := p * ((q + u - 1) / u)
theorem staF_eq (c : GCl) (a : GAr) (f t : Int) (ha : artB a = true) (hk : a.Kind = 3 ∨ a.Kind = 4) (hf : 0 ≤ f) (ht : t ≤ 52560000) (hd : t - f ≤ 2880) : staF c a f t = cstM a.Price (maxI 0 (cN c a (t - f).toNat f - a.Free)) a.Unit := by
 have hA := artB_art ha
 have hU := hA.unit hk
 have hp := hA.price
 have hcn := cN_range c a (t - f).toNat f
 unfold staF cstM
 rw [wi_id (x := 0 - a.Free) (by omega) (by omega), cntF_cN c a _ _ _ (by omega) (by omega), show (0 - a.Free + cN c a (t - f).toNat f) = cN c a (t - f).toNat f - a.Free from by omega]
 have hq : 0 ≤ maxI 0 (cN c a (t - f).toNat f - a.Free) ∧ maxI 0 (cN c a (t - f).toNat f - a.Free) ≤ 3000 := by
  unfold maxI
  split <;> omega
 generalize maxI 0 (cN c a (t - f).toNat f - a.Free) = q at hq
 have hdv : 0 ≤ (q + a.Unit - 1) / a.Unit ∧ (q + a.Unit - 1) / a.Unit ≤ 5000 := by
  constructor
  ·exact Int.ediv_nonneg (by omega) (by omega)
  ·have := Int.ediv_le_self (a := q + a.Unit - 1) a.Unit (by omega)
   omega
 have hb := mul_bound hp hdv
 rw [wi_id (x := q + a.Unit) (by omega) (by omega), wi_id (x := q + a.Unit - 1) (by omega) (by omega), Int.tdiv_eq_ediv_of_nonneg (by omega), wi_id (x := (q + a.Unit - 1) / a.Unit) (by omega) (by omega), wi_id (by omega) (by omega)]
end Go.Proofs
namespace Go.Proofs
open Go Go.Abs
set_option maxRecDepth 100000
set_option linter.unusedVariables false
theorem ceil_unit {q u u' : Int} (hq : 0 ≤ q) (hu : 1 ≤ u) (h : u ≤ u') : (q + u' - 1) / u' ≤ (q + u - 1) / u := by
 have hk0 : 0 ≤ (q + u - 1) / u := Int.ediv_nonneg (by omega) (by omega)
 have hk := Int.lt_ediv_add_one_mul_self (q + u - 1) (show 0 < u by omega)
 generalize (q + u - 1) / u = k at hk hk0
 have h1 : q ≤ k * u := by
  rw [Int.add_mul, Int.one_mul] at hk
  omega
 have h2 : k * u ≤ k * u' := Int.mul_le_mul_of_nonneg_left h hk0
 have h3 : (q + u' - 1) / u' < k + 1 := by
  apply Int.ediv_lt_of_lt_mul (by omega)
  rw [Int.add_mul, Int.one_mul]
  omega
 omega
end Go.Proofs
namespace Go.Proofs
open Go Go.Abs
set_option maxRecDepth 100000
set_option linter.unusedVariables false
theorem bit7 (t : Int) (h : 0 ≤ t ∧ t ≤ 2) : decide (bAnd .i64 7 (shlI .i64 1 t) = 0) = false := by
 have ht : t = 0 ∨ t = 1 ∨ t = 2 := by omega
 rcases ht with rfl | rfl | rfl <;> decide
theorem ceil_le {q u : Int} (hq : 0 ≤ q) (hu : 1 ≤ u) : 0 ≤ (q + u - 1) / u ∧ (q + u - 1) / u ≤ q := by
 refine ⟨Int.ediv_nonneg (by omega) (by omega), ?_⟩
 have := ceil_unit hq (show (1 : Int) ≤ 1 by omega) hu
 rw [show q + 1 - 1 = q from by omega, Int.ediv_one] at this
 exact this
end Go.Proofs
namespace Go.Proofs
open Go Go.Abs
set_option maxRecDepth 100000
set_option linter.unusedVariables false
def isLn (a : GAr) : Bool := !(decide (a.Kind = 5) || decide (a.Kind = 6))
theorem isLn_iff (a : GAr) : isLn a = true ↔ ¬ (a.Kind = 5 ∨ a.Kind = 6) := by
 unfold isLn
 simp
def sumA (c : GCl) (s : GSs) : List GAr → Int
 | [] => 0
 | a :: r => (if isLn a then cosF c s a else 0) + sumA c s r
def okA (c : GCl) (s : GSs) (l : List GAr) : Bool := l.all fun a => !isLn a || decide (cosF c s a ≤ 1000000000)
theorem linB_okA (c : GCl) (s : GSs) : ∀ (l : List GAr) (i : Nat), linB (linF c s i l) = okA c s l
 | [], _ => rfl
 | a :: r, i => by
  have ih := linB_okA c s r (i + 1)
  unfold okA at ih ⊢
  rw [List.all_cons, ← ih, show linF c s i (a :: r) = if a.Kind = 5 ∨ a.Kind = 6 then linF c s (i + 1) r else ⟨(i : Int), cosF c s a⟩ :: linF c s (i + 1) r from rfl]
  by_cases h : a.Kind = 5 ∨ a.Kind = 6
  ·rw [if_pos h, show isLn a = false from by cases hl : isLn a with | false => rfl | true => exact absurd h ((isLn_iff a).1 hl)]
   simp
  ·rw [if_neg h, (isLn_iff a).2 h, linB_cons]
   simp
theorem sumF_A (c : GCl) (s : GSs) : ∀ (l : List GAr) (i : Nat) (z : Int), okA c s l = true → (∀ a ∈ l, 0 ≤ cosF c s a) → 0 ≤ z → z + 1000000000 * l.length ≤ 1000000000000000 → sumF z (linF c s i l) = z + sumA c s l ∧ 0 ≤ sumA c s l ∧ sumA c s l ≤ 1000000000 * l.length
 | [], i, z, _, _, h0, h1 => by
  refine ⟨?_, Int.le_refl _, ?_⟩
  ·show z = z + 0
   omega
  ·show (0 : Int) ≤ 1000000000 * ((0 : Nat) : Int)
   omega
 | a :: r, i, z, hok, hp, h0, h1 => by
  unfold okA at hok
  rw [List.all_cons, bae] at hok
  have hpa := hp a List.mem_cons_self
  simp only [List.length_cons] at h1 ⊢
  rw [show linF c s i (a :: r) = if a.Kind = 5 ∨ a.Kind = 6 then linF c s (i + 1) r else ⟨(i : Int), cosF c s a⟩ :: linF c s (i + 1) r from rfl, show sumA c s (a :: r) = (if isLn a then cosF c s a else 0) + sumA c s r from rfl]
  by_cases h : a.Kind = 5 ∨ a.Kind = 6
  ·have hl : isLn a = false := by cases hl : isLn a with | false => rfl | true => exact absurd h ((isLn_iff a).1 hl)
   obtain ⟨g1, g2, g3⟩ := sumF_A c s r (i + 1) z hok.2 (fun x hx => hp x (List.mem_cons_of_mem _ hx)) h0 (by omega)
   rw [if_pos h, hl, g1]
   simp only [Bool.false_eq_true, if_false]
   omega
  ·have hl := (isLn_iff a).2 h
   have hle : cosF c s a ≤ 1000000000 := by
    have := hok.1
    rw [hl] at this
    simpa using this
   obtain ⟨g1, g2, g3⟩ := sumF_A c s r (i + 1) (z + cosF c s a) hok.2 (fun x hx => hp x (List.mem_cons_of_mem _ hx)) (by omega) (by omega)
   rw [if_neg h, hl, show ∀ q, sumF z (⟨(i : Int), cosF c s a⟩ :: q) = sumF (wi (z + cosF c s a)) q from fun _ => rfl, wi_id (x := z + cosF c s a) (by omega) (by omega), g1]
   simp only [if_true]
   omega
end Go.Proofs
namespace Go.Proofs
open Go Go.Abs
set_option maxRecDepth 100000
set_option linter.unusedVariables false
def prS (c : GCl) (k m : Int) : List GAr → Int
 | [] => 0
 | a :: r => (if a.Kind = k ∧ appB c a m = true then a.Price else 0) + prS c k m r
def gmx (f : Int → Int) : Nat → Int → Int
 | 0, _ => 0
 | j + 1, m => maxI (f m) (gmx f j (m + 1))
def enC (c : GCl) (j : Nat) (m : Int) : List GAr → Int
 | [] => 0
 | a :: r => (if a.Kind = 2 ∧ 0 < cN c a j m then 1 else 0) + enC c j m r
def tiA (c : GCl) (j : Nat) (m : Int) (a : GAr) : Int := cstM a.Price (maxI 0 (cN c a j m - a.Free)) a.Unit
def tiS (c : GCl) (j : Nat) (m : Int) : List GAr → Int
 | [] => 0
 | a :: r => (if a.Kind = 3 ∨ a.Kind = 4 then tiA c j m a else 0) + tiS c j m r
def timE (p q : Int) : Int := (2 * (p * q) + 1000) / 2000
def grQ (c : GCl) (l : List GAr) (k : Int) (j : Nat) (m : Int) : Int := gmx (fun m => prS c k m l) j m
def eneQ (c : GCl) (l : List GAr) (j : Nat) (m e : Int) : Int := if e = 0 then 0 else timE (grQ c l 2 j m) e + enC c j m l
def sumQ (c : GCl) (l : List GAr) (j : Nat) (m e : Int) : Int := eneQ c l j m e + grQ c l 1 j m + tiS c j m l
theorem maxI_le {a b z : Int} (h1 : a ≤ z) (h2 : b ≤ z) : maxI a b ≤ z := by unfold maxI; split <;> omega
theorem maxI_l (a b : Int) : a ≤ maxI a b := by unfold maxI; split <;> omega
theorem maxI_assoc (a b z : Int) : maxI (maxI a b) z = maxI a (maxI b z) := by
 unfold maxI
 split <;> split <;> (try split) <;> (try split) <;> omega
theorem prS_range (c : GCl) (k m : Int) : ∀ (l : List GAr), (∀ a ∈ l, artB a = true) → 0 ≤ prS c k m l ∧ prS c k m l ≤ 1000000 * l.length
 | [], _ => by
  show (0 : Int) ≤ 0 ∧ (0 : Int) ≤ 1000000 * ((0 : Nat) : Int)
  omega
 | a :: r, h => by
  have hp := (artB_art (h a List.mem_cons_self)).price
  have := prS_range c k m r (fun x hx => h x (List.mem_cons_of_mem _ hx))
  unfold prS
  simp only [List.length_cons]
  split <;> omega
theorem gmx_range {f : Int → Int} {z : Int} (hz : 0 ≤ z) (h : ∀ m, 0 ≤ f m ∧ f m ≤ z) : ∀ (j : Nat) (m : Int), 0 ≤ gmx f j m ∧ gmx f j m ≤ z
 | 0, m => ⟨Int.le_refl _, hz⟩
 | j + 1, m => by
  have h1 := gmx_range hz h j (m + 1)
  have h2 := h m
  unfold gmx
  exact ⟨Int.le_trans h2.1 (maxI_l _ _), maxI_le h2.2 h1.2⟩
theorem enC_range (c : GCl) (j : Nat) (m : Int) : ∀ (l : List GAr), 0 ≤ enC c j m l ∧ enC c j m l ≤ l.length
 | [] => by
  show (0 : Int) ≤ 0 ∧ (0 : Int) ≤ ((0 : Nat) : Int)
  omega
 | a :: r => by
  have := enC_range c j m r
  unfold enC
  simp only [List.length_cons]
  split <;> omega
theorem tiA_range (c : GCl) (j : Nat) (m : Int) (a : GAr) (ha : artB a = true) (hk : a.Kind = 3 ∨ a.Kind = 4) (hj : j ≤ 2880) : 0 ≤ tiA c j m a ∧ tiA c j m a ≤ 2880000000 := by
 have hA := artB_art ha
 have hU := hA.unit hk
 have hc := cN_range c a j m
 have hq : 0 ≤ maxI 0 (cN c a j m - a.Free) ∧ maxI 0 (cN c a j m - a.Free) ≤ 2880 := by unfold maxI; split <;> omega
 unfold tiA cstM
 have hd := ceil_le (q := maxI 0 (cN c a j m - a.Free)) (u := a.Unit) hq.1 hU.1
 have := mul_bound hA.price (y := (maxI 0 (cN c a j m - a.Free) + a.Unit - 1) / a.Unit) (Y := 2880) ⟨hd.1, by omega⟩
 omega
theorem tiS_range (c : GCl) (j : Nat) (m : Int) (hj : j ≤ 2880) : ∀ (l : List GAr), (∀ a ∈ l, artB a = true) → 0 ≤ tiS c j m l ∧ tiS c j m l ≤ 2880000000 * l.length
 | [], _ => by
  show (0 : Int) ≤ 0 ∧ (0 : Int) ≤ 2880000000 * ((0 : Nat) : Int)
  omega
 | a :: r, h => by
  have := tiS_range c j m hj r (fun x hx => h x (List.mem_cons_of_mem _ hx))
  unfold tiS
  simp only [List.length_cons]
  split
  ·rename_i hk
   have h1 := tiA_range c j m a (h a List.mem_cons_self) hk hj
   omega
  ·omega
theorem grQ_range (c : GCl) (l : List GAr) (k : Int) (j : Nat) (m : Int) (h : ∀ a ∈ l, artB a = true) (hl : l.length ≤ 12) : 0 ≤ grQ c l k j m ∧ grQ c l k j m ≤ 12000000 :=
 gmx_range (by omega) (fun m => by have := prS_range c k m l h; omega) j m
theorem timE_range {p q : Int} (hp : 0 ≤ p ∧ p ≤ 12000000) (hq : 0 ≤ q ∧ q ≤ 480000) : 0 ≤ timE p q ∧ timE p q ≤ 6000000000 := by
 have := mul_bound hp hq
 unfold timE
 omega
theorem q_times (n : Nat) (p q : Int) (hp : 0 ≤ p ∧ p ≤ 12000000) (hq : 0 ≤ q ∧ q ≤ 480000) : g_ref31_Times n p q 1000 = some (if timE p q ≤ 1000000000 then (timE p q, 0) else (0, 3)) := by
 have hb := mul_bound hp hq
 have hr := timE_range hp hq
 have e1 : wi (p * q) = p * q := wi_id (by omega) (by omega)
 unfold g_ref31_Times
 rw [r_amount, r_amount, dzT (show 0 ≤ p ∧ p ≤ 1000000000 by omega), dzT (show 0 ≤ q ∧ q ≤ 1000000000 by omega)]
 simp only [obs, Bool.not_true, cond_false, show ltI 1000 1 = false from rfl, show ltI 1000000000 1000 = false from rfl]
 rw [e1]
 have e2 : g_ref31_divided n (p * q) 1000 = some (timE p q) := by
  unfold g_ref31_divided
  rw [show wi (2 * 1000) = 2000 from rfl, show (!eqI 2000 0) = true from rfl, cond_true, wi_id (x := 2 * (p * q)) (by omega) (by omega), wi_id (x := 2 * (p * q) + 1000) (by omega) (by omega), Int.tdiv_eq_ediv_of_nonneg (by omega)]
  unfold timE at hr ⊢
  rw [wi_id (by omega) (by omega)]
 rw [e2, obs, r_checked n _ hr.1, obs]
theorem q_started (n : Nat) (p q u : Int) (hp : 0 ≤ p ∧ p ≤ 1000000) (hq : 0 ≤ q ∧ q ≤ 2880) (hu : 1 ≤ u ∧ u ≤ 1440) : g_ref31_Started n p q u = some (if cstM p q u ≤ 1000000000 then (cstM p q u, 0) else (0, 3)) := by
 have hd := ceil_le hq.1 hu.1
 have hb := mul_bound hp (y := (q + u - 1) / u) (Y := 2880) ⟨hd.1, by omega⟩
 unfold g_ref31_Started cstM
 rw [r_amount, r_amount, dzT (show 0 ≤ p ∧ p ≤ 1000000000 by omega), dzT (show 0 ≤ q ∧ q ≤ 1000000000 by omega)]
 simp only [obs, Bool.not_true, cond_false, ltI]
 rw [dzF (show ¬ u < 1 by omega), cond_false, obs, dzF (show ¬ 1000000000 < u by omega), cond_false, show (!eqI u 0) = true by simp [eqI]; omega, cond_true,
  wi_id (x := q + u) (by omega) (by omega), wi_id (x := q + u - 1) (by omega) (by omega), Int.tdiv_eq_ediv_of_nonneg (by omega), wi_id (x := (q + u - 1) / u) (by omega) (by omega), wi_id (x := p * ((q + u - 1) / u)) (by omega) (by omega), r_checked n _ hb.1, obs]
theorem min_loop {to : Int} {f : Int → Int} {B : (Int × Int → Option Int) → Int × Int → Option Int} (hto : to ≤ 52560000) (hf : ∀ m, 0 ≤ f m)
  (hstep : ∀ rec m z, 0 ≤ m → m < to → B rec (m, z) = rec (m + 1, maxI z (f m))) (hend : ∀ rec m z, ¬ m < to → B rec (m, z) = some z) :
  ∀ (k j : Nat) (z m : Int), (to - m).toNat = k → k < j → 0 ≤ m → 0 ≤ z → loopN B j (m, z) = some (maxI z (gmx f k m)) := by
 intro k
 induction k with
 | zero =>
  intro j z m h1 h2 h3 h4
  obtain ⟨j, rfl⟩ : ∃ j', j = j' + 1 := ⟨j - 1, by omega⟩
  unfold loopN
  rw [hend _ _ _ (by omega)]
  unfold gmx maxI
  rw [if_neg (by omega)]
 | succ k ih =>
  intro j z m h1 h2 h3 h4
  obtain ⟨j, rfl⟩ : ∃ j', j = j' + 1 := ⟨j - 1, by omega⟩
  have hi := ih j (maxI z (f m)) (m + 1) (by omega) (by omega) (by omega) (Int.le_trans h4 (maxI_l _ _))
  unfold loopN
  generalize loopN B j = L at hi ⊢
  rw [hstep _ _ _ h3 (by omega), hi, maxI_assoc]
  rfl
theorem q_in2 (n : Nat) (t : GTf) (c : GCl) (f to : Int) (hn : 10000 ≤ n) (h1 : c.Changes.length ≤ 900) (h2 : c.Holidays.length ≤ 900) (hc : calB c = true) (ht : ∀ a ∈ t.Articles, artB a = true) (hl : t.Articles.length ≤ 12) (m : Int) (hm : 0 ≤ m ∧ m ≤ 52560000) : loopN (fun recl5 (v : Int × Int) => g_quote_quoted_energy_l5 n (⟨t, c, f, to⟩ : GQuoteQuoted) m recl5 v.1 v.2) n (0, 0) = some (prS c 2 m t.Articles) := by
 have := loop_gen (l := t.Articles) (fun (a : Int) i => (a, i)) (B := fun recl5 (v : Int × Int) => g_quote_quoted_energy_l5 n (⟨t, c, f, to⟩ : GQuoteQuoted) m recl5 v.1 v.2) (F := fun a r => a + prS c 2 m r) (fun i a => 0 ≤ a ∧ a ≤ 1000000 * i) (by omega) ?_ ?_ (n := n) 0 0 (by omega) (by omega) (by omega)
 ·rw [show ((0 : Nat) : Int) = 0 from rfl] at this
  rw [this]
  simp
 ·intro rec a ha
  have h : ltI ((t.Articles.length : Nat) : Int) (lenI (List.map GAr.cs t.Articles)) = false := by simp [ltI, lenI]
  show g_quote_quoted_energy_l5 n (⟨t, c, f, to⟩ : GQuoteQuoted) m rec a ((t.Articles.length : Nat) : Int) = _
  unfold g_quote_quoted_energy_l5
  rw [h, cond_false]
  simp [prS]
 ·intro rec a i x r ha hd hx hi hw hr
  have h3 : ltI (i : Int) (lenI (List.map GAr.cs t.Articles)) = true := by
   simp only [ltI, lenI, List.length_map]
   rw [dzT (by omega)]
  have hxa := ht x (List.mem_of_getElem? hx)
  have hp := (artB_art hxa).price
  show g_quote_quoted_energy_l5 n (⟨t, c, f, to⟩ : GQuoteQuoted) m rec a (i : Int) = some (a + prS c 2 m (x :: r))
  unfold g_quote_quoted_energy_l5
  simp only
  rw [h3, cond_true, getI_nat, hx, obs, hw, eqI_d, b_applies n c x m (by omega) h1 h2 hc hxa hm, obs, wi_id (x := a + x.Price) (by omega) (by omega), hr a (by omega), hr (a + x.Price) (by omega)]
  rw [show prS c 2 m (x :: r) = (if x.Kind = 2 ∧ appB c x m = true then x.Price else 0) + prS c 2 m r from rfl]
  by_cases k2 : x.Kind = 2
  ·rw [dzT k2, cond_true, obs]
   cases happ : appB c x m
   ·rw [cond_false, if_neg (by simp)]
    simp
   ·rw [cond_true, if_pos ⟨k2, rfl⟩, Int.add_assoc]
  ·rw [dzF k2, cond_false, obs, cond_false, if_neg (fun h => k2 h.1)]
   simp
theorem q_in1 (n : Nat) (t : GTf) (c : GCl) (f to : Int) (hn : 10000 ≤ n) (h1 : c.Changes.length ≤ 900) (h2 : c.Holidays.length ≤ 900) (hc : calB c = true) (ht : ∀ a ∈ t.Articles, artB a = true) (hl : t.Articles.length ≤ 12) (m : Int) (hm : 0 ≤ m ∧ m ≤ 52560000) : loopN (fun recl6 (v : Int × Int) => g_quote_quoted_sum_l6 n (⟨t, c, f, to⟩ : GQuoteQuoted) m recl6 v.1 v.2) n (0, 0) = some (prS c 1 m t.Articles) := by
 have := loop_gen (l := t.Articles) (fun (a : Int) i => (a, i)) (B := fun recl5 (v : Int × Int) => g_quote_quoted_sum_l6 n (⟨t, c, f, to⟩ : GQuoteQuoted) m recl5 v.1 v.2) (F := fun a r => a + prS c 1 m r) (fun i a => 0 ≤ a ∧ a ≤ 1000000 * i) (by omega) ?_ ?_ (n := n) 0 0 (by omega) (by omega) (by omega)
 ·rw [show ((0 : Nat) : Int) = 0 from rfl] at this
  rw [this]
  simp
 ·intro rec a ha
  have h : ltI ((t.Articles.length : Nat) : Int) (lenI (List.map GAr.cs t.Articles)) = false := by simp [ltI, lenI]
  show g_quote_quoted_sum_l6 n (⟨t, c, f, to⟩ : GQuoteQuoted) m rec a ((t.Articles.length : Nat) : Int) = _
  unfold g_quote_quoted_sum_l6
  rw [h, cond_false]
  simp [prS]
 ·intro rec a i x r ha hd hx hi hw hr
  have h3 : ltI (i : Int) (lenI (List.map GAr.cs t.Articles)) = true := by
   simp only [ltI, lenI, List.length_map]
   rw [dzT (by omega)]
  have hxa := ht x (List.mem_of_getElem? hx)
  have hp := (artB_art hxa).price
  show g_quote_quoted_sum_l6 n (⟨t, c, f, to⟩ : GQuoteQuoted) m rec a (i : Int) = some (a + prS c 1 m (x :: r))
  unfold g_quote_quoted_sum_l6
  simp only
  rw [h3, cond_true, getI_nat, hx, obs, hw, eqI_d, b_applies n c x m (by omega) h1 h2 hc hxa hm, obs, wi_id (x := a + x.Price) (by omega) (by omega), hr a (by omega), hr (a + x.Price) (by omega)]
  rw [show prS c 1 m (x :: r) = (if x.Kind = 1 ∧ appB c x m = true then x.Price else 0) + prS c 1 m r from rfl]
  by_cases k2 : x.Kind = 1
  ·rw [dzT k2, cond_true, obs]
   cases happ : appB c x m
   ·rw [cond_false, if_neg (by simp)]
    simp
   ·rw [cond_true, if_pos ⟨k2, rfl⟩, Int.add_assoc]
  ·rw [dzF k2, cond_false, obs, cond_false, if_neg (fun h => k2 h.1)]
   simp
theorem q_gr2 (n : Nat) (t : GTf) (c : GCl) (f to : Int) (hn : 10000 ≤ n) (h1 : c.Changes.length ≤ 900) (h2 : c.Holidays.length ≤ 900) (hc : calB c = true) (ht : ∀ a ∈ t.Articles, artB a = true) (hl : t.Articles.length ≤ 12) (hf : 0 ≤ f) (hto : to ≤ 52560000) (hd : to - f ≤ 2880) : loopN (fun recl3 (v : Int × Int) => g_quote_quoted_energy_l3 n (⟨t, c, f, to⟩ : GQuoteQuoted) recl3 v.1 v.2) n (f, 0) = some (grQ c t.Articles 2 (to - f).toNat f) := by
 have hge : ∀ m, 0 ≤ prS c 2 m t.Articles := fun m => (prS_range c 2 m t.Articles ht).1
 have key := min_loop (to := to) (f := fun m => prS c 2 m t.Articles) (B := fun recl3 (v : Int × Int) => g_quote_quoted_energy_l3 n (⟨t, c, f, to⟩ : GQuoteQuoted) recl3 v.1 v.2) hto hge ?_ ?_ (to - f).toNat n 0 f rfl (by omega) hf (Int.le_refl _)
 ·rw [key]
  have := gmx_range (f := fun m => prS c 2 m t.Articles) (z := 12000000) (by omega) (fun m => by have := prS_range c 2 m t.Articles ht; omega) (to - f).toNat f
  unfold grQ maxI
  split
  ·rfl
  ·rename_i h; congr 1; omega
 ·intro rec m z h3 h4
  show g_quote_quoted_energy_l3 n (⟨t, c, f, to⟩ : GQuoteQuoted) rec m z = _
  unfold g_quote_quoted_energy_l3
  simp only [ltI]
  rw [dzT h4, cond_true]
  refine (congrArg (fun o => Option.bind o _) (q_in2 n t c f to hn h1 h2 hc ht hl m (by omega))).trans ?_
  rw [obs, wi_id (x := m + 1) (by omega) (by omega)]
 ·intro rec m z h3
  show g_quote_quoted_energy_l3 n (⟨t, c, f, to⟩ : GQuoteQuoted) rec m z = _
  unfold g_quote_quoted_energy_l3
  simp only [ltI]
  rw [dzF h3, cond_false]
theorem q_gr1 (n : Nat) (t : GTf) (c : GCl) (f to : Int) (hn : 10000 ≤ n) (h1 : c.Changes.length ≤ 900) (h2 : c.Holidays.length ≤ 900) (hc : calB c = true) (ht : ∀ a ∈ t.Articles, artB a = true) (hl : t.Articles.length ≤ 12) (hf : 0 ≤ f) (hto : to ≤ 52560000) (hd : to - f ≤ 2880) : loopN (fun recl4 (v : Int × Int) => g_quote_quoted_sum_l4 n (⟨t, c, f, to⟩ : GQuoteQuoted) recl4 v.1 v.2) n (f, 0) = some (grQ c t.Articles 1 (to - f).toNat f) := by
 have hge : ∀ m, 0 ≤ prS c 1 m t.Articles := fun m => (prS_range c 1 m t.Articles ht).1
 have key := min_loop (to := to) (f := fun m => prS c 1 m t.Articles) (B := fun recl3 (v : Int × Int) => g_quote_quoted_sum_l4 n (⟨t, c, f, to⟩ : GQuoteQuoted) recl3 v.1 v.2) hto hge ?_ ?_ (to - f).toNat n 0 f rfl (by omega) hf (Int.le_refl _)
 ·rw [key]
  have := gmx_range (f := fun m => prS c 1 m t.Articles) (z := 12000000) (by omega) (fun m => by have := prS_range c 1 m t.Articles ht; omega) (to - f).toNat f
  unfold grQ maxI
  split
  ·rfl
  ·rename_i h; congr 1; omega
 ·intro rec m z h3 h4
  show g_quote_quoted_sum_l4 n (⟨t, c, f, to⟩ : GQuoteQuoted) rec m z = _
  unfold g_quote_quoted_sum_l4
  simp only [ltI]
  rw [dzT h4, cond_true]
  refine (congrArg (fun o => Option.bind o _) (q_in1 n t c f to hn h1 h2 hc ht hl m (by omega))).trans ?_
  rw [obs, wi_id (x := m + 1) (by omega) (by omega)]
 ·intro rec m z h3
  show g_quote_quoted_sum_l4 n (⟨t, c, f, to⟩ : GQuoteQuoted) rec m z = _
  unfold g_quote_quoted_sum_l4
  simp only [ltI]
  rw [dzF h3, cond_false]
end Go.Proofs
namespace Go.Proofs
open Go Go.Abs
set_option maxRecDepth 100000
set_option linter.unusedVariables false
def limB (f to e : Int) : Bool := decide (0 ≤ f ∧ f < to ∧ to - f ≤ 2880 ∧ to ≤ 52560000 ∧ 0 ≤ e ∧ e ≤ 480000)
theorem q_limits (n : Nat) (f to e : Int) (hb : i64b to) : g_quote_validLimits n f to e = some (limB f to e) := by
 unfold i64b at hb
 unfold g_quote_validLimits limB
 simp only [leI, ltI]
 by_cases c1 : 0 ≤ f
 rotate_left
 ·rw [dzF c1, cond_false, obs, dzF (by omega)]
 rw [dzT c1, cond_true]
 by_cases c2 : f < to
 rotate_left
 ·rw [dzF c2, cond_false, obs, dzF (by omega)]
 rw [dzT c2, cond_true, wi_id (x := to - f) (by omega) (by omega)]
 by_cases c3 : to - f ≤ 2880
 rotate_left
 ·rw [dzF c3, cond_false, obs, dzF (by omega)]
 rw [dzT c3, cond_true]
 by_cases c4 : to ≤ 52560000
 rotate_left
 ·rw [dzF c4, cond_false, obs, dzF (by omega)]
 rw [dzT c4, cond_true]
 by_cases c5 : 0 ≤ e
 rotate_left
 ·rw [dzF c5, cond_false, obs, dzF (by omega)]
 rw [dzT c5, cond_true, obs]
 congr 1
 by_cases c6 : e ≤ 480000
 ·rw [dzT c6, dzT (by omega)]
 ·rw [dzF c6, dzF (by omega)]
theorem r_limits (n : Nat) (f to e : Int) (hb : i64b to) : g_ref35_Limits n f to e = some (limB f to e) := by
 unfold i64b at hb
 unfold g_ref35_Limits limB
 simp only [leI, ltI]
 by_cases c1 : 0 ≤ f
 rotate_left
 ·rw [dzF c1, cond_false, obs, dzF (by omega)]
 rw [dzT c1, cond_true]
 by_cases c2 : f < to
 rotate_left
 ·rw [dzF c2, cond_false, obs, dzF (by omega)]
 rw [dzT c2, cond_true, wi_id (x := to - f) (by omega) (by omega)]
 by_cases c4 : to ≤ 52560000
 rotate_left
 ·rw [dzF c4, cond_false, obs, dzF (by omega)]
 rw [dzT c4, cond_true]
 by_cases c3 : to - f ≤ 2880
 rotate_left
 ·rw [dzF c3, cond_false, obs, dzF (by omega)]
 rw [dzT c3, cond_true]
 by_cases c5 : 0 ≤ e
 rotate_left
 ·rw [dzF c5, cond_false, obs, dzF (by omega)]
 rw [dzT c5, cond_true, obs]
 congr 1
 by_cases c6 : e ≤ 480000
 ·rw [dzT c6, dzT (by omega)]
 ·rw [dzF c6, dzF (by omega)]
theorem limB_spec {f to e : Int} (h : limB f to e = true) : 0 ≤ f ∧ f < to ∧ to - f ≤ 2880 ∧ to ≤ 52560000 ∧ 0 ≤ e ∧ e ≤ 480000 := by
 simpa [limB] using h
theorem q_count (n : Nat) (t : GTf) (c : GCl) (f to : Int) (hn : 10000 ≤ n) (h1 : c.Changes.length ≤ 900) (h2 : c.Holidays.length ≤ 900) (hc : calB c = true) (hf : 0 ≤ f) (hto : to ≤ 52560000) (hd : to - f ≤ 2880) (a : GAr) (ha : artB a = true) : g_quote_quoted_count n (⟨t, c, f, to⟩ : GQuoteQuoted) a = some (cN c a (to - f).toNat f) := by
 unfold g_quote_quoted_count
 have key : ∀ (k j : Nat) (z m : Int), (to - m).toNat = k → k < j → 0 ≤ m → k ≤ 2880 → 0 ≤ z ∧ z ≤ 3000 - k →
   loopN (fun recl2 (v : Int × Int) => g_quote_quoted_count_l2 n (⟨t, c, f, to⟩ : GQuoteQuoted) a recl2 v.1 v.2) j (m, z) = some (z + cN c a k m) := by
  intro k
  induction k with
  | zero =>
   intro j z m h3 h4 h5 h6 h7
   obtain ⟨j, rfl⟩ : ∃ j', j = j' + 1 := ⟨j - 1, by omega⟩
   unfold loopN
   simp only [g_quote_quoted_count_l2, ltI]
   rw [dzF (by omega), cond_false]
   simp [cN]
  | succ k ih =>
   intro j z m h3 h4 h5 h6 h7
   obtain ⟨j, rfl⟩ : ∃ j', j = j' + 1 := ⟨j - 1, by omega⟩
   have i0 := ih j z (m + 1) (by omega) (by omega) (by omega) (by omega) (by omega)
   have i1 := ih j (z + 1) (m + 1) (by omega) (by omega) (by omega) (by omega) (by omega)
   unfold loopN
   generalize loopN (fun recl2 (v : Int × Int) => g_quote_quoted_count_l2 n (⟨t, c, f, to⟩ : GQuoteQuoted) a recl2 v.1 v.2) j = L at i0 i1 ⊢
   show g_quote_quoted_count_l2 n (⟨t, c, f, to⟩ : GQuoteQuoted) a L m z = _
   unfold g_quote_quoted_count_l2
   simp only [ltI]
   rw [dzT (by omega), cond_true, b_applies n c a m (by omega) h1 h2 hc ha (by omega), obs, wi_id (x := m + 1) (by omega) (by omega), wi_id (x := z + 1) (by omega) (by omega)]
   rw [show cN c a (k + 1) m = (if appB c a m then 1 else 0) + cN c a k (m + 1) from rfl]
   cases appB c a m
   ·rw [cond_false, obs, i0]
    simp
   ·rw [cond_true, obs, i1]
    simp
    omega
 have := key (to - f).toNat n 0 f rfl (by omega) hf (by omega) (by omega)
 rw [Int.zero_add] at this
 exact this
theorem q_cnt (n : Nat) (t : GTf) (c : GCl) (f to : Int) (hn : 10000 ≤ n) (h1 : c.Changes.length ≤ 900) (h2 : c.Holidays.length ≤ 900) (hc : calB c = true) (ht : ∀ a ∈ t.Articles, artB a = true) (hl : t.Articles.length ≤ 12) (hf : 0 ≤ f) (hto : to ≤ 52560000) (hd : to - f ≤ 2880) (x : Int) (hx : 0 ≤ x ∧ x ≤ 6000000000) : loopN (fun recl12 (v : Int × Int) => g_quote_quoted_energy_l12 n (⟨t, c, f, to⟩ : GQuoteQuoted) recl12 v.1 v.2) n (x, 0) = some (x + enC c (to - f).toNat f t.Articles) := by
 have := loop_gen (l := t.Articles) (fun (a : Int) i => (a, i)) (B := fun recl12 (v : Int × Int) => g_quote_quoted_energy_l12 n (⟨t, c, f, to⟩ : GQuoteQuoted) recl12 v.1 v.2) (F := fun a r => a + enC c (to - f).toNat f r) (fun i a => 0 ≤ a ∧ a ≤ 6000000000 + i) (by omega) ?_ ?_ (n := n) 0 x (by omega) (by omega) (by omega)
 ·exact this
 ·intro rec a ha
  have h : ltI ((t.Articles.length : Nat) : Int) (lenI (List.map GAr.cs t.Articles)) = false := by simp [ltI, lenI]
  show g_quote_quoted_energy_l12 n (⟨t, c, f, to⟩ : GQuoteQuoted) rec a ((t.Articles.length : Nat) : Int) = _
  unfold g_quote_quoted_energy_l12
  rw [h, cond_false]
  simp [enC]
 ·intro rec a i x r ha hdr hx hi hw hr
  have h3 : ltI (i : Int) (lenI (List.map GAr.cs t.Articles)) = true := by
   simp only [ltI, lenI, List.length_map]
   rw [dzT (by omega)]
  have hxa := ht x (List.mem_of_getElem? hx)
  show g_quote_quoted_energy_l12 n (⟨t, c, f, to⟩ : GQuoteQuoted) rec a (i : Int) = some (a + enC c (to - f).toNat f (x :: r))
  unfold g_quote_quoted_energy_l12
  rw [h3, cond_true, getI_nat, hx, obs, hw, eqI_d, q_count n t c f to hn h1 h2 hc hf hto hd x hxa, obs, wi_id (x := a + 1) (by omega) (by omega), hr a (by omega), hr (a + 1) (by omega)]
  rw [show enC c (to - f).toNat f (x :: r) = (if x.Kind = 2 ∧ 0 < cN c x (to - f).toNat f then 1 else 0) + enC c (to - f).toNat f r from rfl]
  by_cases k2 : x.Kind = 2
  ·rw [dzT k2, cond_true, obs]
   by_cases hp : 0 < cN c x (to - f).toNat f
   ·rw [show ltI 0 (cN c x (to - f).toNat f) = true from dzT hp, cond_true, if_pos ⟨k2, hp⟩, Int.add_assoc]
   ·rw [show ltI 0 (cN c x (to - f).toNat f) = false from dzF hp, cond_false, if_neg (fun h => hp h.2), Int.zero_add]
  ·rw [dzF k2, cond_false, obs, cond_false, if_neg (fun h => k2 h.1), Int.zero_add]
theorem q_energy (n : Nat) (t : GTf) (c : GCl) (f to : Int) (hn : 10000 ≤ n) (h1 : c.Changes.length ≤ 900) (h2 : c.Holidays.length ≤ 900) (hc : calB c = true) (ht : ∀ a ∈ t.Articles, artB a = true) (hl : t.Articles.length ≤ 12) (hf : 0 ≤ f) (hto : to ≤ 52560000) (hd : to - f ≤ 2880) (e : Int) (he : 0 ≤ e ∧ e ≤ 480000) : g_quote_quoted_energy n (⟨t, c, f, to⟩ : GQuoteQuoted) e = some (if eneQ c t.Articles (to - f).toNat f e ≤ 1000000000 then (eneQ c t.Articles (to - f).toNat f e, 0) else (0, 3)) := by
 unfold g_quote_quoted_energy eneQ
 rw [eqI_d]
 by_cases h0 : e = 0
 ·rw [dzT h0, cond_true, if_pos h0, if_pos (by omega)]
 rw [dzF h0, cond_false, if_neg h0]
 refine (congrArg (fun o => Option.bind o _) (q_gr2 n t c f to hn h1 h2 hc ht hl hf hto hd)).trans ?_
 have hg := grQ_range c t.Articles 2 (to - f).toNat f ht hl
 have hr := timE_range hg he
 have hE := enC_range c (to - f).toNat f t.Articles
 rw [obs, b_times, q_times n _ e hg he, obs]
 generalize timE (grQ c t.Articles 2 (to - f).toNat f) e = T at hr
 by_cases hT : T ≤ 1000000000
 ·rw [if_pos hT]
  simp only [eqI_d, decide_true, Bool.not_true, cond_false]
  refine (congrArg (fun o => Option.bind o _) (q_cnt n t c f to hn h1 h2 hc ht hl hf hto hd T hr)).trans ?_
  rw [obs]
  by_cases hs : T + enC c (to - f).toNat f t.Articles ≤ 1000000000
  ·rw [if_pos hs, show ltI 1000000000 (T + enC c (to - f).toNat f t.Articles) = false from dzF (by omega), cond_false]
  ·rw [if_neg hs, show ltI 1000000000 (T + enC c (to - f).toNat f t.Articles) = true from dzT (by omega), cond_true]
 ·rw [if_neg hT, if_neg (by omega)]
  rfl
theorem q_tis (n : Nat) (t : GTf) (c : GCl) (f to : Int) (hn : 10000 ≤ n) (h1 : c.Changes.length ≤ 900) (h2 : c.Holidays.length ≤ 900) (hc : calB c = true) (ht : ∀ a ∈ t.Articles, artB a = true) (hl : t.Articles.length ≤ 12) (hf : 0 ≤ f) (hto : to ≤ 52560000) (hd : to - f ≤ 2880) (x : Int) (hx : 0 ≤ x ∧ x ≤ 2000000000) : loopN (fun recl12 (v : Int × Int) => g_quote_quoted_sum_l12 n (⟨t, c, f, to⟩ : GQuoteQuoted) recl12 v.1 v.2) n (x, 0) = some (if x + tiS c (to - f).toNat f t.Articles ≤ 1000000000 then (x + tiS c (to - f).toNat f t.Articles, 0) else (0, 3)) := by
 have hj : (to - f).toNat ≤ 2880 := by omega
 have := loop_gen (l := t.Articles) (fun (a : Int) i => (a, i)) (B := fun recl12 (v : Int × Int) => g_quote_quoted_sum_l12 n (⟨t, c, f, to⟩ : GQuoteQuoted) recl12 v.1 v.2) (F := fun a r => if a + tiS c (to - f).toNat f r ≤ 1000000000 then (a + tiS c (to - f).toNat f r, 0) else (0, 3)) (fun i a => 0 ≤ a ∧ a ≤ 2000000000 + 1000000000 * i) (by omega) ?_ ?_ (n := n) 0 x (by omega) (by omega) (by omega)
 ·exact this
 ·intro rec a ha
  have h : ltI ((t.Articles.length : Nat) : Int) (lenI (List.map GAr.cs t.Articles)) = false := by simp [ltI, lenI]
  show g_quote_quoted_sum_l12 n (⟨t, c, f, to⟩ : GQuoteQuoted) rec a ((t.Articles.length : Nat) : Int) = _
  unfold g_quote_quoted_sum_l12 g_quote_quoted_sum_j11
  rw [h, cond_false, show tiS c (to - f).toNat f [] = 0 from rfl, Int.add_zero]
  by_cases hs : a ≤ 1000000000
  ·rw [if_pos hs, show ltI 1000000000 a = false from dzF (by omega), cond_false]
  ·rw [if_neg hs, show ltI 1000000000 a = true from dzT (by omega), cond_true]
 ·intro rec a i x r ha hdr hx hi hw hr
  have h3 : ltI (i : Int) (lenI (List.map GAr.cs t.Articles)) = true := by
   simp only [ltI, lenI, List.length_map]
   rw [dzT (by omega)]
  have hxa := ht x (List.mem_of_getElem? hx)
  have hA := artB_art hxa
  have htr := tiS_range c (to - f).toNat f hj r (fun y hy => ht y (by
   have : y ∈ t.Articles.drop i := by rw [hdr]; exact List.mem_cons_of_mem _ hy
   exact List.mem_of_mem_drop this))
  show g_quote_quoted_sum_l12 n (⟨t, c, f, to⟩ : GQuoteQuoted) rec a (i : Int) = _
  unfold g_quote_quoted_sum_l12
  rw [h3, cond_true, getI_nat, hx, obs, hw, eqI_d, eqI_d]
  rw [show tiS c (to - f).toNat f (x :: r) = (if x.Kind = 3 ∨ x.Kind = 4 then tiA c (to - f).toNat f x else 0) + tiS c (to - f).toNat f r from rfl]
  by_cases k : x.Kind = 3 ∨ x.Kind = 4
  rotate_left
  ·have e : (bif !decide (x.Kind = 3) then some (!decide (x.Kind = 4)) else some false) = some true := by
    rw [dzF (fun h => k (Or.inl h)), dzF (fun h => k (Or.inr h))]; rfl
   rw [e, obs, cond_true, if_neg k, Int.zero_add, hr a (by omega)]
  ·have e : (bif !decide (x.Kind = 3) then some (!decide (x.Kind = 4)) else some false) = some false := by
    rcases k with k | k
    ·rw [dzT k]; rfl
    ·rw [dzT k, dzF (show ¬ x.Kind = 3 by omega)]; rfl
   have hU := hA.unit k
   have hcn := cN_range c x (to - f).toNat f
   have hq : 0 ≤ maxI 0 (cN c x (to - f).toNat f - x.Free) ∧ maxI 0 (cN c x (to - f).toNat f - x.Free) ≤ 2880 := by unfold maxI; split <;> omega
   have hti := tiA_range c (to - f).toNat f x hxa k hj
   rw [e, obs, cond_false, if_pos k, q_count n t c f to hn h1 h2 hc hf hto hd x hxa, obs, b_started, wi_id (x := cN c x (to - f).toNat f - x.Free) (by omega) (by omega),
    q_started n x.Price _ x.Unit hA.price hq ⟨hU.1, hU.2.1⟩, obs]
   rw [show cstM x.Price (maxI 0 (cN c x (to - f).toNat f - x.Free)) x.Unit = tiA c (to - f).toNat f x from rfl]
   generalize tiA c (to - f).toNat f x = A at hti
   by_cases hA1 : A ≤ 1000000000
   ·rw [if_pos hA1]
    simp only [eqI_d, decide_true, Bool.not_true, cond_false]
    rw [wi_id (x := a + A) (by omega) (by omega), hr (a + A) (by omega), Int.add_assoc]
   ·rw [if_neg hA1, if_neg (by omega)]
    rfl
theorem q_sum (n : Nat) (t : GTf) (c : GCl) (f to : Int) (hn : 10000 ≤ n) (h1 : c.Changes.length ≤ 900) (h2 : c.Holidays.length ≤ 900) (hc : calB c = true) (ht : ∀ a ∈ t.Articles, artB a = true) (hl : t.Articles.length ≤ 12) (hf : 0 ≤ f) (hto : to ≤ 52560000) (hd : to - f ≤ 2880) (e : Int) (he : 0 ≤ e ∧ e ≤ 480000) : g_quote_quoted_sum n (⟨t, c, f, to⟩ : GQuoteQuoted) e = some (if sumQ c t.Articles (to - f).toNat f e ≤ 1000000000 then (sumQ c t.Articles (to - f).toNat f e, 0) else (0, 3)) := by
 unfold g_quote_quoted_sum sumQ
 rw [q_energy n t c f to hn h1 h2 hc ht hl hf hto hd e he, obs]
 have hg := grQ_range c t.Articles 1 (to - f).toNat f ht hl
 have hti := tiS_range c (to - f).toNat f (by omega) t.Articles ht
 have hE : 0 ≤ eneQ c t.Articles (to - f).toNat f e := by
  unfold eneQ
  split
  ·omega
  ·have := timE_range (grQ_range c t.Articles 2 (to - f).toNat f ht hl) he
   have := enC_range c (to - f).toNat f t.Articles
   omega
 generalize eneQ c t.Articles (to - f).toNat f e = E at hE
 by_cases hE1 : E ≤ 1000000000
 ·rw [if_pos hE1]
  simp only [eqI_d, decide_true, Bool.not_true, cond_false]
  refine (congrArg (fun o => Option.bind o _) (q_gr1 n t c f to hn h1 h2 hc ht hl hf hto hd)).trans ?_
  rw [obs, wi_id (x := E + grQ c t.Articles 1 (to - f).toNat f) (by omega) (by omega)]
  exact q_tis n t c f to hn h1 h2 hc ht hl hf hto hd _ (by omega)
 ·rw [if_neg hE1, if_neg (by omega)]
  rfl
def quoV (t : GTf) (c : GCl) (f to e : Int) : Int × Int :=
 if (tariffB t && calB c && limB f to e) = true then
  (if sumQ c t.Articles (to - f).toNat f e ≤ 1000000000 then
   (if capF (sumQ c t.Articles (to - f).toNat f e) t.Articles + taxF (capF (sumQ c t.Articles (to - f).toNat f e) t.Articles) (rateF 0 t.Articles) ≤ 1000000000 then (capF (sumQ c t.Articles (to - f).toNat f e) t.Articles + taxF (capF (sumQ c t.Articles (to - f).toNat f e) t.Articles) (rateF 0 t.Articles), 0) else (0, 3))
  else (0, 3)) else (0, 1)
theorem sumQ_nonneg (c : GCl) (l : List GAr) (j : Nat) (m e : Int) (h : ∀ a ∈ l, artB a = true) (hl : l.length ≤ 12) (hj : j ≤ 2880) (he : 0 ≤ e ∧ e ≤ 480000) : 0 ≤ sumQ c l j m e := by
 have h1 := grQ_range c l 1 j m h hl
 have h2 := tiS_range c j m hj l h
 have h3 : 0 ≤ eneQ c l j m e := by
  unfold eneQ
  split
  ·omega
  ·have := timE_range (grQ_range c l 2 j m h hl) he
   have := enC_range c j m l
   omega
 unfold sumQ
 omega
theorem capF_range : ∀ (l : List GAr) (z : Int), (∀ a ∈ l, 0 ≤ a.Price) → 0 ≤ z → 0 ≤ capF z l ∧ capF z l ≤ z
 | [], z, _, h => ⟨h, Int.le_refl _⟩
 | a :: r, z, hp, h => by
  have ha := hp a List.mem_cons_self
  rw [show capF z (a :: r) = capF (if a.Kind = 5 then minI z a.Price else z) r from rfl]
  have hz : 0 ≤ (if a.Kind = 5 then minI z a.Price else z) ∧ (if a.Kind = 5 then minI z a.Price else z) ≤ z := by
   split
   ·unfold minI; split <;> omega
   ·omega
  have := capF_range r _ (fun x hx => hp x (List.mem_cons_of_mem _ hx)) hz.1
  omega
theorem rateQ {l : List GAr} (h : ∀ a ∈ l, artB a = true) : 0 ≤ rateF 0 l ∧ rateF 0 l ≤ 10000 := rateF_range l 0 (fun a ha => ⟨(artB_art (h a ha)).price.1, (artB_art (h a ha)).rate⟩) (by omega)
theorem q_caps (n : Nat) (t : GTf) (z : Int) (hn : 1000 ≤ n) (hl : t.Articles.length ≤ 900) : loopN (fun recl9 (v : Int × Int × Int) => g_quote_Quote_l9 t recl9 v.1 v.2.1 v.2.2) n (z, 0, 0) = some (capF z t.Articles, rateF 0 t.Articles) := by
 have := loop_gen (l := t.Articles) (fun (a : Int × Int) i => (a.1, a.2, i)) (B := fun recl9 (v : Int × Int × Int) => g_quote_Quote_l9 t recl9 v.1 v.2.1 v.2.2) (F := fun a r => (capF a.1 r, rateF a.2 r)) (fun _ _ => True) (by omega) ?_ ?_ (n := n) 0 (z, 0) trivial (by omega) (by omega)
 ·exact this
 ·intro rec a _
  have h : ltI ((t.Articles.length : Nat) : Int) (lenI (List.map GAr.cs t.Articles)) = false := by simp [ltI, lenI]
  show g_quote_Quote_l9 t rec a.1 a.2 ((t.Articles.length : Nat) : Int) = _
  unfold g_quote_Quote_l9
  rw [h]; rfl
 ·intro rec a i x r _ hd hx hi hw hr
  have h3 : ltI (i : Int) (lenI (List.map GAr.cs t.Articles)) = true := by
   simp only [ltI, lenI, List.length_map]
   rw [dzT (by omega)]
  have hr' := fun (u v : Int) => hr (u, v) trivial
  simp only at hr'
  show g_quote_Quote_l9 t rec a.1 a.2 (i : Int) = some (capF a.1 (x :: r), rateF a.2 (x :: r))
  unfold g_quote_Quote_l9
  rw [h3, cond_true, getI_nat, hx, obs, hw, eqI_d, eqI_d, hr', hr', hr']
  rw [show capF a.1 (x :: r) = capF (if x.Kind = 5 then minI a.1 x.Price else a.1) r from rfl, show rateF a.2 (x :: r) = rateF (if x.Kind = 6 then x.Price else a.2) r from rfl]
  by_cases k5 : x.Kind = 5
  ·rw [dzT k5, cond_true, if_pos k5, if_neg (by omega)]
  ·rw [dzF k5, cond_false, if_neg k5]
   by_cases k6 : x.Kind = 6
   ·rw [dzT k6, cond_true, if_pos k6]
   ·rw [dzF k6, cond_false, if_neg k6]
theorem tariffB_spec {t : GTf} (h : tariffB t = true) : (∀ a ∈ t.Articles, artB a = true) ∧ t.Articles.length ≤ 12 := by
 simp only [tariffB, bae, decide_eq_true_eq] at h
 exact ⟨tarB_all h.2, h.1.2⟩
theorem q_quote (n : Nat) (t : GTf) (c : GCl) (f to e : Int) (hn : 10000 ≤ n) (h1 : c.Changes.length ≤ 900) (h2 : c.Holidays.length ≤ 900) (hb : i64b to) : g_quote_Quote n t c f to e = some (quoV t c f to e) := by
 unfold g_quote_Quote quoV
 rw [b_tariff n t (by omega), b_cal n c (by omega) h1 h2, q_limits n f to e hb]
 simp only [obs, cond_some]
 cases ht : tariffB t
 ·rfl
 cases hc : calB c
 ·rfl
 cases hv : limB f to e
 ·rfl
 have hL := limB_spec hv
 obtain ⟨hall, hlen⟩ := tariffB_spec ht
 simp only [Bool.not_true, cond_false, Bool.and_self, if_true]
 rw [q_sum n t c f to hn h1 h2 hc hall hlen hL.1 (by omega) (by omega) e (by omega), obs]
 have hs := sumQ_nonneg c t.Articles (to - f).toNat f e hall hlen (by omega) (by omega)
 generalize sumQ c t.Articles (to - f).toNat f e = Z at hs
 by_cases hz : Z ≤ 1000000000
 ·rw [if_pos hz, if_pos hz]
  simp only [eqI_d, decide_true, Bool.not_true, cond_false]
  refine (congrArg (fun o => Option.bind o _) (q_caps n t Z (by omega) (by omega))).trans ?_
  have hcap := capF_range t.Articles Z (fun a ha => (artB_art (hall a ha)).price.1) hs
  have hrt := rateQ hall
  rw [obs]
  generalize capF Z t.Articles = N at hcap
  generalize rateF 0 t.Articles = R at hrt
  obtain ⟨g1, g2, g3⟩ := r_tax n N R (by omega) hrt
  simp only
  rw [b_tax, g1, obs, wi_id (x := N + taxF N R) (by omega) (by omega)]
  simp only [decide_true, Bool.not_true, cond_false]
  by_cases hs2 : N + taxF N R ≤ 1000000000
  ·rw [if_pos hs2, show ltI 1000000000 (N + taxF N R) = false from dzF (by omega), cond_false]
  ·rw [if_neg hs2, show ltI 1000000000 (N + taxF N R) = true from dzT (by omega), cond_true]
 ·rw [if_neg hz, if_neg hz]
  rfl
end Go.Proofs
namespace Go.Proofs
open Go Go.Abs
set_option maxRecDepth 100000
set_option linter.unusedVariables false
theorem head35_big : g_law35_head 36893488147419103232 = some true := by kernel_rfl
theorem few35 (n : Nat) (t : GTf) (k : GCl) (s : GSs) : ∃ b, g_ref35_Few n t k s = some b ∧ (b = true → t.Articles.length ≤ 20 ∧ s.Slices.length ≤ 60 ∧ k.Changes.length ≤ 30 ∧ k.Holidays.length ≤ 60 ∧ t.Name.length ≤ 40) := by
 unfold g_ref35_Few g_ref32_Few g_ref26_Few
 simp only [cond_some, obs, lenI, List.length_map, leI]
 refine ⟨_, rfl, fun h => ?_⟩
 simp [Bool.cond_eq_ite] at h
 omega
theorem usable35 (n : Nat) (t : GTf) (c : GCl) (f to e : Int) (hn : 10000 ≤ n) (hb : i64b to) : ∃ b, g_law35_usable n t c f to e = some b ∧ (b = true → tariffB t = true ∧ calB c = true ∧ limB f to e = true ∧ c.Changes.length ≤ 30 ∧ c.Holidays.length ≤ 60) := by
 unfold g_law35_usable
 obtain ⟨b, f1, f2⟩ := few35 n t c ⟨0, 0, 0, []⟩
 rw [f1, obs]
 cases b
 ·exact ⟨false, rfl, fun h => by cases h⟩
 have f3 := f2 rfl
 rw [cond_true, r_tariff n t (by omega) (by omega), obs]
 cases ht : tariffB t
 ·exact ⟨false, rfl, fun h => by cases h⟩
 rw [cond_true, r_cal n c (by omega) (by omega) (by omega), obs]
 cases hc : calB c
 ·exact ⟨false, rfl, fun h => by cases h⟩
 rw [cond_true, r_limits n f to e hb, obs]
 exact ⟨_, rfl, fun h => ⟨rfl, rfl, h, by omega, by omega⟩⟩
theorem quo_ok {t : GTf} {c : GCl} {f to e : Int} (h : (quoV t c f to e).2 = 0) : tariffB t = true ∧ calB c = true ∧ limB f to e = true ∧ sumQ c t.Articles (to - f).toNat f e ≤ 1000000000 ∧
  (quoV t c f to e).1 = capF (sumQ c t.Articles (to - f).toNat f e) t.Articles + taxF (capF (sumQ c t.Articles (to - f).toNat f e) t.Articles) (rateF 0 t.Articles) ∧ (quoV t c f to e).1 ≤ 1000000000 := by
 unfold quoV at h ⊢
 by_cases c1 : (tariffB t && calB c && limB f to e) = true
 ·rw [if_pos c1] at h ⊢
  simp only [bae] at c1
  by_cases c2 : sumQ c t.Articles (to - f).toNat f e ≤ 1000000000
  ·rw [if_pos c2] at h ⊢
   by_cases c3 : capF (sumQ c t.Articles (to - f).toNat f e) t.Articles + taxF (capF (sumQ c t.Articles (to - f).toNat f e) t.Articles) (rateF 0 t.Articles) ≤ 1000000000
   ·rw [if_pos c3]
    exact ⟨c1.1.1, c1.1.2, c1.2, c2, rfl, c3⟩
   ·rw [if_neg c3] at h; cases h
  ·rw [if_neg c2] at h; cases h
 ·rw [if_neg c1] at h; cases h
end Go.Proofs
namespace Go.Proofs
open Go Go.Abs
set_option maxRecDepth 100000
set_option linter.unusedVariables false
def xS (c : GCl) (sl : List GSl) : List GAr → Int
 | [] => 0
 | a :: r => (if a.Kind = 2 then a.Price * enS c a sl else 0) + xS c sl r
theorem sumA_mem (c : GCl) (s : GSs) : ∀ (l : List GAr), (∀ a ∈ l, 0 ≤ cosF c s a) → 0 ≤ sumA c s l ∧ ∀ a ∈ l, isLn a = true → cosF c s a ≤ sumA c s l
 | [], _ => ⟨Int.le_refl _, fun a ha => by cases ha⟩
 | x :: r, h => by
  obtain ⟨h1, h2⟩ := sumA_mem c s r (fun y hy => h y (List.mem_cons_of_mem _ hy))
  have hx := h x List.mem_cons_self
  rw [show sumA c s (x :: r) = (if isLn x then cosF c s x else 0) + sumA c s r from rfl]
  refine ⟨by split <;> omega, fun a ha hl => ?_⟩
  rcases List.mem_cons.1 ha with rfl | ha
  ·rw [hl, if_pos rfl]; omega
  ·have := h2 a ha hl
   split <;> omega
theorem bill_val (t : GTf) (c : GCl) (s : GSs) (ht : tariffB t = true) (hc : calB c = true) (hv : valB s = true) (hcc : c.Changes.length ≤ 900) (hch : c.Holidays.length ≤ 900) (hsum : sumA c s t.Articles ≤ 1000000000)
  (htot : capF (sumA c s t.Articles) t.Articles + taxF (capF (sumA c s t.Articles) t.Articles) (rateF 0 t.Articles) ≤ 1000000000) :
  (bilV t c s).2 = 0 ∧ (bilV t c s).1.Total = capF (sumA c s t.Articles) t.Articles + taxF (capF (sumA c s t.Articles) t.Articles) (rateF 0 t.Articles) := by
 obtain ⟨hall, hlen⟩ := tariffB_spec ht
 have hp : ∀ a ∈ t.Articles, 0 ≤ cosF c s a := fun a ha => (r_line 10000 c a s (Nat.le_refl _) hcc hch hc (hall a ha) hv).2
 obtain ⟨m1, m2⟩ := sumA_mem c s t.Articles hp
 have hok : okA c s t.Articles = true := by
  unfold okA
  rw [List.all_eq_true]
  intro a ha
  cases hl : isLn a with
  | false => rfl
  | true =>
   have := m2 a ha hl
   rw [dzT (show cosF c s a ≤ 1000000000 by omega)]; rfl
 obtain ⟨g1, g2, g3⟩ := sumF_A c s t.Articles 0 0 hok hp (Int.le_refl _) (by omega)
 rw [Int.zero_add] at g1
 have hrt := rateQ hall
 have k1 := capF_range t.Articles _ (fun a ha => (artB_art (hall a ha)).price.1) m1
 have ht2 := (r_tax 0 (capF (sumA c s t.Articles) t.Articles) (rateF 0 t.Articles) (by omega) hrt).2
 have hnet : netF t 0 (linF c s 0 t.Articles) = capF (sumA c s t.Articles) t.Articles := by unfold netF; rw [g1]
 have hbil : bilF t (rateF 0 t.Articles) 0 (linF c s 0 t.Articles) = ⟨linF c s 0 t.Articles, capF (sumA c s t.Articles) t.Articles, taxF (capF (sumA c s t.Articles) t.Articles) (rateF 0 t.Articles), capF (sumA c s t.Articles) t.Articles + taxF (capF (sumA c s t.Articles) t.Articles) (rateF 0 t.Articles)⟩ := by
  unfold bilF
  rw [hnet, wi_id (by omega) (by omega)]
 have hB : bilB (bilF t (rateF 0 t.Articles) 0 (linF c s 0 t.Articles)) = true := by
  rw [hbil]
  simp only [bilB, bae, decide_eq_true_eq]
  omega
 unfold bilV
 rw [ht, hc, hv, linB_okA, hok, hB, hbil]
 exact ⟨rfl, rfl⟩
theorem app_all (c : GCl) (hc : calB c = true) (k p u v m : Int) (hm : 0 ≤ m ∧ m ≤ 52560000) : appB c ⟨k, 7, 0, 1440, p, u, v⟩ m = true := by
 have ho := cal_off m hc
 unfold appB
 simp only
 generalize offF m c.Offset c.Changes = o at ho
 rw [wi_id (x := m + o) (by omega) (by omega), wi_id (x := m + o + 1440) (by omega) (by omega), Int.tmod_eq_emod_of_nonneg (a := m + o + 1440) (by omega), bit7 _ (typF_range _ _), dzT (show 0 ≤ (m + o + 1440) % 1440 by omega), dzT (show (m + o + 1440) % 1440 < 1440 by omega)]
 rfl
def rch : List GAr → List GAr
 | [] => []
 | a :: r => if a.Kind = 2 then rch r else (if a.Kind = 1 then ⟨a.Kind, 7, 0, 1440, a.Price, a.Unit, a.Free⟩ else a) :: rch r
theorem rch_spec : ∀ (l : List GAr), (∀ a ∈ rch l, a.Kind ≠ 2 ∧ (a.Kind = 1 → a.Days = 7 ∧ a.From = 0 ∧ a.To = 1440)) ∧ (rch l).length ≤ l.length
 | [] => ⟨(by intro a ha; cases ha), Nat.le_refl _⟩
 | x :: r => by
  obtain ⟨h1, h2⟩ := rch_spec r
  rw [show rch (x :: r) = if x.Kind = 2 then rch r else (if x.Kind = 1 then ⟨x.Kind, 7, 0, 1440, x.Price, x.Unit, x.Free⟩ else x) :: rch r from rfl]
  by_cases k2 : x.Kind = 2
  ·rw [if_pos k2]
   exact ⟨h1, by simp only [List.length_cons]; omega⟩
  ·rw [if_neg k2]
   refine ⟨fun a ha => ?_, by simp only [List.length_cons]; omega⟩
   rcases List.mem_cons.1 ha with rfl | ha
   ·by_cases k1 : x.Kind = 1
    ·rw [if_pos k1]
     exact ⟨k2, fun _ => ⟨rfl, rfl, rfl⟩⟩
    ·rw [if_neg k1]
     exact ⟨k2, fun h => absurd h k1⟩
   ·exact h1 a ha
def pr1 : List GAr → Int
 | [] => 0
 | a :: r => (if a.Kind = 1 then a.Price else 0) + pr1 r
theorem prS_pr1 (c : GCl) (hc : calB c = true) (m : Int) (hm : 0 ≤ m ∧ m ≤ 52560000) : ∀ (l : List GAr), (∀ a ∈ l, a.Kind ≠ 2 ∧ (a.Kind = 1 → a.Days = 7 ∧ a.From = 0 ∧ a.To = 1440)) → prS c 1 m l = pr1 l
 | [], _ => rfl
 | a :: r, h => by
  have ha := h a List.mem_cons_self
  rw [show prS c 1 m (a :: r) = (if a.Kind = 1 ∧ appB c a m = true then a.Price else 0) + prS c 1 m r from rfl, prS_pr1 c hc m hm r (fun y hy => h y (List.mem_cons_of_mem _ hy)), show pr1 (a :: r) = (if a.Kind = 1 then a.Price else 0) + pr1 r from rfl]
  by_cases k1 : a.Kind = 1
  ·have h1 := ha.2 k1
   have : appB c a m = true := by
    obtain ⟨k, d, f, t, p, u, v⟩ := a
    simp only at h1
    obtain ⟨rfl, rfl, rfl⟩ := h1
    exact app_all c hc k p u v m hm
   rw [if_pos ⟨k1, this⟩, if_pos k1]
  ·rw [if_neg (fun h => k1 h.1), if_neg k1]
theorem gmx_const {f : Int → Int} {z : Int} (hz : 0 ≤ z) : ∀ (j : Nat) (m : Int), 0 < j → (∀ x, m ≤ x → x < m + j → f x = z) → gmx f j m = z
 | 0, m, h, _ => by omega
 | j + 1, m, _, h => by
  rw [show gmx f (j + 1) m = maxI (f m) (gmx f j (m + 1)) from rfl, h m (Int.le_refl _) (by omega)]
  by_cases hj : 0 < j
  ·rw [gmx_const hz j (m + 1) hj (fun x h1 h2 => h x (by omega) (by omega))]
   unfold maxI
   rw [if_neg (by omega)]
  ·obtain rfl : j = 0 := by omega
   show maxI z 0 = z
   unfold maxI
   rw [if_neg (by omega)]
theorem sumA_rch (c : GCl) (hc : calB c = true) (f to : Int) (hf : 0 ≤ f ∧ f < to ∧ to ≤ 52560000 ∧ to - f ≤ 2880) : ∀ (l : List GAr), (∀ a ∈ l, artB a = true) → (∀ a ∈ l, a.Kind ≠ 2 ∧ (a.Kind = 1 → a.Days = 7 ∧ a.From = 0 ∧ a.To = 1440)) → sumA c ⟨f, to, f, []⟩ l = pr1 l + tiS c (to - f).toNat f l
 | [], _, _ => rfl
 | a :: r, ha, h => by
  have ih := sumA_rch c hc f to hf r (fun y hy => ha y (List.mem_cons_of_mem _ hy)) (fun y hy => h y (List.mem_cons_of_mem _ hy))
  have haa := ha a List.mem_cons_self
  have hA := artB_art haa
  have h1 := h a List.mem_cons_self
  rw [show sumA c ⟨f, to, f, []⟩ (a :: r) = (if isLn a then cosF c ⟨f, to, f, []⟩ a else 0) + sumA c ⟨f, to, f, []⟩ r from rfl, show pr1 (a :: r) = (if a.Kind = 1 then a.Price else 0) + pr1 r from rfl, show tiS c (to - f).toNat f (a :: r) = (if a.Kind = 3 ∨ a.Kind = 4 then tiA c (to - f).toNat f a else 0) + tiS c (to - f).toNat f r from rfl, ih]
  by_cases k1 : a.Kind = 1
  ·have h2 := h1.2 k1
   have hap : appB c a f = true := by
    obtain ⟨k, d, f', t', p, u, v⟩ := a
    simp only at h2
    obtain ⟨rfl, rfl, rfl⟩ := h2
    exact app_all c hc k p u v f (by omega)
   have e : cosF c ⟨f, to, f, []⟩ a = a.Price := by unfold cosF; rw [if_pos k1]; simp only; rw [hap, if_pos rfl]
   rw [(isLn_iff a).2 (by omega), if_pos rfl, e, if_pos k1, if_neg (by omega)]
   omega
  rw [if_neg k1]
  by_cases k : a.Kind = 3 ∨ a.Kind = 4
  ·have e : cosF c ⟨f, to, f, []⟩ a = tiA c (to - f).toNat f a := by
    unfold cosF tiA
    rw [if_neg k1, if_neg h1.1]
    by_cases k3 : a.Kind = 3
    ·rw [if_pos k3]
     exact staF_eq c a f to haa k hf.1 (by omega) (by omega)
    ·rw [if_neg k3, if_pos (by omega)]
     exact staF_eq c a f to haa k hf.1 (by omega) (by omega)
   rw [(isLn_iff a).2 (by omega), if_pos rfl, e, if_pos k]
   omega
  ·have hk := hA.kind
   have h2 := h1.1
   have hl : isLn a = false := by
    cases hl : isLn a with
    | false => rfl
    | true => exact absurd (show a.Kind = 5 ∨ a.Kind = 6 by omega) ((isLn_iff a).1 hl)
   rw [hl, if_neg (by simp), if_neg k]
   omega
end Go.Proofs
namespace Go.Proofs
open Go Go.Abs
set_option maxRecDepth 100000
set_option linter.unusedVariables false
theorem reached35_plain (t : GTf) (c : GCl) (f to e : Int) (hto : i64b to) (hlen0 : t.Articles.length ≤ 4611686018427387904) (hbig : roomB t.Articles.length 56 = true) : g_law35_QuoteReached 36893488147419103232 t c f to e = some true := by
 unfold g_law35_QuoteReached
 generalize hn : (36893488147419103232 : Nat) = n
 have hh : g_law35_head n = some true := by rw [← hn]; exact head35_big
 have hroom : t.Articles.length * 56 ≤ 140737488355328 ∧ t.Articles.length ≤ 140737488355328 := by simpa [roomB] using hbig
 rw [hh, obs]
 obtain ⟨L, hL1, hL2⟩ : ∃ L : OL GAr, loopN (fun recl3 (v : OL GAr × Int) => g_law35_QuoteReached_l3 t recl3 v.1 v.2) n (OL.nil, 0) = some L ∧ L.toL = rch t.Articles := by
  have := loop_does (l := t.Articles) (fun (a : OL GAr) i => (a, i)) (B := fun recl3 (v : OL GAr × Int) => g_law35_QuoteReached_l3 t recl3 v.1 v.2) (Q := fun a r v => v.toL = a.toL ++ rch r) (fun i a => a.toL.length ≤ i) (by omega) ?_ ?_ (n := n) 0 OL.nil (by simp) (by omega) (by omega)
  ·obtain ⟨v, h1, h2⟩ := this
   exact ⟨v, h1, by simpa using h2⟩
  ·intro rec a ha
   have h : ltI ((t.Articles.length : Nat) : Int) (lenI (List.map GAr.cs t.Articles)) = false := by simp [ltI, lenI]
   refine ⟨a, ?_, by simp [rch]⟩
   show g_law35_QuoteReached_l3 t rec a ((t.Articles.length : Nat) : Int) = _
   unfold g_law35_QuoteReached_l3
   rw [h, cond_false]
  ·intro rec a i x r ha hd hx hi hw hr
   have h3 : ltI (i : Int) (lenI (List.map GAr.cs t.Articles)) = true := by
    simp only [ltI, lenI, List.length_map]
    rw [dzT (by omega)]
   have e1 : g_law35_QuoteReached_l3 t rec a (i : Int) = (bif !decide (x.Kind = 2) then (bif roomB (List.length (a.toL ++ [if x.Kind = 1 then (⟨x.Kind, 7, 0, 1440, x.Price, x.Unit, x.Free⟩ : GAr) else x])) 56 then rec (OL.own (a.toL ++ [if x.Kind = 1 then (⟨x.Kind, 7, 0, 1440, x.Price, x.Unit, x.Free⟩ : GAr) else x]), ((i + 1 : Nat) : Int)) else none) else rec (a, ((i + 1 : Nat) : Int))) := by
    unfold g_law35_QuoteReached_l3
    rw [h3, cond_true, getI_nat, hx, obs, hw, eqI_d, eqI_d]
    by_cases k1 : x.Kind = 1
    ·rw [dzT k1, cond_true, if_pos k1]
     rfl
    ·rw [dzF k1, cond_false, if_neg k1]
     rfl
   show Does (g_law35_QuoteReached_l3 t rec a (i : Int)) _
   rw [e1, show rch (x :: r) = if x.Kind = 2 then rch r else (if x.Kind = 1 then ⟨x.Kind, 7, 0, 1440, x.Price, x.Unit, x.Free⟩ else x) :: rch r from rfl]
   by_cases k2 : x.Kind = 2
   ·rw [dzT k2, Bool.not_true, cond_false, if_pos k2]
    exact hr a (by omega)
   ·rw [dzF k2, Bool.not_false, cond_true, if_neg k2]
    generalize (if x.Kind = 1 then (⟨x.Kind, 7, 0, 1440, x.Price, x.Unit, x.Free⟩ : GAr) else x) = y
    have hrm : roomB (List.length (a.toL ++ [y])) 56 = true := by
     simp only [roomB, List.length_append, List.length_cons, List.length_nil]
     rw [dzT]
     omega
    rw [hrm, cond_true]
    obtain ⟨v, h4, h5⟩ := hr (OL.own (a.toL ++ [y])) (by simp only [OL.toL_own, List.length_append, List.length_cons, List.length_nil]; omega)
    exact ⟨v, h4, (show v.toL = _ from h5).trans (by simp [OL.toL_own])⟩
 refine (congrArg (fun o => Option.bind o _) hL1).trans ?_
 rw [obs, hL2]
 obtain ⟨b, f1, f2⟩ := usable35 n ⟨t.Name, rch t.Articles⟩ c f to e (by omega) hto
 rw [f1, obs]
 cases b
 ·rfl
 obtain ⟨ht, hc, hL, hc1, hc2⟩ := f2 rfl
 have Lm := limB_spec hL
 obtain ⟨hall, hlen⟩ := tariffB_spec ht
 simp only at hall hlen
 have hsp := (rch_spec t.Articles).1
 have hv : valB ⟨f, to, f, []⟩ = true := by
  simp only [valB, bae, decide_eq_true_eq]
  exact ⟨⟨by omega, by omega, by omega, by omega, by omega, by omega, by simp⟩, rfl⟩
 rw [Bool.not_true, cond_false, q_quote n _ c f to 0 (by omega) (by omega) (by omega) hto, obs, b_billV n _ c _ (by omega) (by omega) (by omega) (by simp) hto, obs, cond_true, eqI_d, eqI_d]
 by_cases h0 : (quoV ⟨t.Name, rch t.Articles⟩ c f to 0).2 = 0
 rotate_left
 ·rw [dzF h0]; rfl
 rw [dzT h0, Bool.not_true, cond_false]
 obtain ⟨_, _, _, g1, g2, g3⟩ := quo_ok h0
 have hpos : ∀ (l : List GAr), (∀ a ∈ l, artB a = true) → 0 ≤ pr1 l := by
  intro l
  induction l with
  | nil => intro _; exact Int.le_refl _
  | cons a l ih =>
   intro h
   have := ih (fun y hy => h y (List.mem_cons_of_mem _ hy))
   have hp := (artB_art (h a List.mem_cons_self)).price
   rw [show pr1 (a :: l) = (if a.Kind = 1 then a.Price else 0) + pr1 l from rfl]
   split <;> omega
 have hS : sumA c ⟨f, to, f, []⟩ (rch t.Articles) = sumQ c (rch t.Articles) (to - f).toNat f 0 := by
  rw [sumA_rch c hc f to (by omega) _ hall hsp]
  unfold sumQ eneQ grQ
  rw [if_pos rfl, gmx_const (z := pr1 (rch t.Articles)) (hpos _ hall) _ _ (by omega) (fun x h1 h2 => prS_pr1 c hc x (by omega) _ hsp), Int.zero_add]
 simp only at g1 g2 g3
 rw [g2] at g3
 obtain ⟨q1, q2⟩ := bill_val ⟨t.Name, rch t.Articles⟩ c ⟨f, to, f, []⟩ ht hc hv (by omega) (by omega) (by simp only; rw [hS]; exact g1) (by simp only; rw [hS]; exact g3)
 simp only at q2
 rw [q1, q2, g2, hS, dzT rfl, cond_true, eqI_d, dzT rfl]
end Go.Proofs
namespace Go.Proofs.Ytehocmildcedeaa
open Go Go.Abs Go.Proofs
theorem quoteReached_holds : Rows.QuoteReachedSaid :=
 quoteReached_said (fun t c f to e hlen _ _ _ h3 _ => ⟨_, reached35_plain t c f to e h3 (by omega) (by unfold roomB; exact dzT (by omega))⟩)
end Go.Proofs.Ytehocmildcedeaa
