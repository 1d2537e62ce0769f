/-
  A part of the proof of a statement of the seat YtkgamjjfjekgnaaGreat.
-/
import Derived.Test.YtkgamjjfjekgnaaGreatTxt05
namespace Go.Proofs
open Go Go.Abs
set_option maxRecDepth 100000
set_option linter.unusedVariables false
theorem chr_ref (c : Int) (z : Bool) : (bif decide (c < 97) then bif z then true else bif decide (c < 48) then !decide (c = 95) else bif decide (57 < c) then !decide (c = 95) else false
  else bif decide (122 < c) then bif z then true else bif decide (c < 48) then !decide (c = 95) else bif decide (57 < c) then !decide (c = 95) else false else false) = !(bif z then decide (97 ≤ c ∧ c ≤ 122) else decide ((97 ≤ c ∧ c ≤ 122) ∨ (48 ≤ c ∧ c ≤ 57) ∨ c = 95)) := by
 cases z <;> by_cases h1 : c < 97 <;> by_cases h2 : 122 < c <;> by_cases h3 : c < 48 <;> by_cases h4 : 57 < c <;> by_cases h5 : c = 95 <;> simp [h1, h2, h3, h4, h5] <;> omega
theorem r_name (n : Nat) (s : List UInt8) (hn : 1000 ≤ n) (hl : s.length ≤ 900) : g_ref02_Name n s = some (nameB s) := by
 unfold g_ref02_Name
 have h1 : ∀ (rec : Int → Option Bool) (a : Unit), (1 ≤ s.length ∨ s.length = 0) → g_ref02_Name_l16 n s rec (s.length : Int) = some (([] : List UInt8).all chrB && (decide (1 ≤ s.length ∧ s.length ≤ 12) && !keyB s)) := by
  intro rec a ha
  simp only [g_ref02_Name_l16, lenI, ltI]
  rw [dzF (by omega), cond_false, r_namej n s hn]
  rfl
 have h2 : ∀ (rec : Int → Option Bool) (a : Unit) (i : Nat) (x : UInt8) (r : List UInt8), (1 ≤ i ∨ s.length = 0) → s.drop i = x :: r → s[i]? = some x → i < s.length → wi ((i : Int) + 1) = ((i + 1 : Nat) : Int) →
   (∀ a : Unit, (1 ≤ i + 1 ∨ s.length = 0) → rec ((i + 1 : Nat) : Int) = some (r.all chrB && (decide (1 ≤ s.length ∧ s.length ≤ 12) && !keyB s))) → g_ref02_Name_l16 n s rec (i : Int) = some ((x :: r).all chrB && (decide (1 ≤ s.length ∧ s.length ≤ 12) && !keyB s)) := by
  intro rec a i x r ha hd hx hi hw hr
  simp only [g_ref02_Name_l16, lenI, ltI, getI_nat, hx, obs, hw, cond_some, eqI_d, chr_ref]
  rw [dzT (by omega), cond_true, dzF (show ¬ (i : Int) = 0 by omega), cond_false, hr () (Or.inl (by omega)), List.all_cons]
  show (bif !chrB x then some false else _) = _
  cases chrB x <;> rfl
 cases s with
 | nil =>
  have := loop_gen (l := []) (fun (_ : Unit) i => i) (F := fun _ r => r.all chrB && (decide (1 ≤ ([] : List UInt8).length ∧ ([] : List UInt8).length ≤ 12) && !keyB [])) (fun i _ => 1 ≤ i ∨ ([] : List UInt8).length = 0) (by simp) h1 h2 (n := n) 0 () (Or.inr rfl) (by simp) (by simp; omega)
  rw [show ((0 : Nat) : Int) = 0 from rfl] at this
  rw [this]; rfl
 | cons x r =>
  obtain ⟨m, rfl⟩ : ∃ m, n = m + 1 := ⟨n - 1, by omega⟩
  have hs := loop_gen (l := x :: r) (fun (_ : Unit) i => i) (F := fun _ q => q.all chrB && (decide (1 ≤ (x :: r).length ∧ (x :: r).length ≤ 12) && !keyB (x :: r))) (fun i _ => 1 ≤ i ∨ (x :: r).length = 0) (by omega) h1 h2 (n := m) 1 () (Or.inl (Nat.le_refl _)) (by simp) (by simp at hl ⊢; omega)
  rw [show ((1 : Nat) : Int) = 1 from rfl] at hs
  unfold loopN
  show g_ref02_Name_l16 (m + 1) (x :: r) (loopN (g_ref02_Name_l16 (m + 1) (x :: r)) m) 0 = _
  generalize loopN (g_ref02_Name_l16 (m + 1) (x :: r)) m = L at hs ⊢
  unfold g_ref02_Name_l16
  rw [show getI (x :: r) 0 = some x from rfl]
  simp only [lenI, ltI, obs, cond_some, eqI_d, chr_ref, show wi (0 + 1) = 1 from rfl]
  rw [hs, dzT (show (0 : Int) < ((x :: r).length : Nat) by simp), cond_true, decide_true, cond_true]
  unfold nameB
  simp only [List.head?_cons, Option.mem_def, sie, forall_eq', List.drop_succ_cons, List.drop_zero, List.all_cons]
  by_cases hx : 97 ≤ b2i x ∧ b2i x ≤ 122
  ·rw [dzT hx]
   have : chrB x = true := by unfold chrB; rw [dzT]; exact Or.inl hx
   rw [this]
   cases decide (1 ≤ (x :: r).length ∧ (x :: r).length ≤ 12) <;> cases keyB (x :: r) <;> cases r.all chrB <;> rfl
  ·rw [dzF hx]
   cases decide (1 ≤ (x :: r).length ∧ (x :: r).length ≤ 12) <;> rfl
theorem r_article (n : Nat) (a : GAr) : g_ref32_Article n a = some (artB a) := by
 unfold g_ref32_Article artB g_a_validArticle
 simp only [a_inside, cond_some, obs, Option.getD_some, eqI_d, ltI, leI]
 rw [sie, Bool.eq_iff_iff]
 obtain ⟨k, d, f, t, p, u, v⟩ := a
 simp only [Bool.cond_eq_ite]
 by_cases k1 : k = 1
 ·subst k1; simp; omega
 by_cases k2 : k = 2
 ·subst k2; simp; omega
 by_cases k3 : k = 3
 ·subst k3; simp; omega
 by_cases k4 : k = 4
 ·subst k4; simp; omega
 by_cases k5 : k = 5
 ·subst k5; simp; omega
 by_cases k6 : k = 6
 ·subst k6; simp; omega
 simp [k1, k2, k3, k4, k5, k6]
 omega
theorem r_tariff (n : Nat) (t : GTf) (hn : 1000 ≤ n) (h1 : t.Name.length ≤ 900) : g_ref32_Valid n t = some (tariffB t) := by
 unfold g_ref32_Valid tariffB
 simp only [r_name n _ hn h1, obs, cond_some, lenI, List.length_map, ltI]
 cases hname : nameB t.Name
 ·rfl
 by_cases h2 : t.Articles.length ≤ 12
 rotate_left
 ·rw [dzT (show (12 : Int) < t.Articles.length by omega), dzF h2]; rfl
 rw [dzF (show ¬ (12 : Int) < t.Articles.length by omega), dzT h2]
 simp only [Bool.not_true, cond_false, Bool.true_and]
 have := loop_gen (l := t.Articles) (fun (a : Int) i => (a, i)) (B := fun recl4 (v : Int × Int) => g_ref32_Valid_l4 n t recl4 v.1 v.2) (F := tarB) (fun i a => 0 ≤ a ∧ a ≤ i) (by omega) ?_ ?_ (n := n) 0 0 (by omega) (by omega) (by omega)
 ·exact this
 ·intro rec a ha
  simp only [g_ref32_Valid_l4, lenI, List.length_map, ltI, leI]
  rw [dzF (by omega), cond_false]
  rfl
 ·intro rec a i x r ha hd hx hi hw hr
  simp only [g_ref32_Valid_l4, lenI, List.length_map, ltI, getI_nat, hx, obs, r_article, hw, eqI_d]
  rw [dzT (by omega), cond_true, tarB]
  cases hb : artB x
  ·rfl
  ·have hw2 : wi (a + 1) = a + 1 := wi_id (by omega) (by omega)
   simp only [Bool.not_true, cond_false, Bool.true_and]
   by_cases h6 : x.Kind = 6
   ·rw [dzT h6, cond_true, if_pos h6, hw2, hr _ (by omega)]
   ·rw [dzF h6, cond_false, if_neg h6, hr _ (by omega)]
end Go.Proofs
namespace Go.Proofs
open Go Go.Abs
set_option maxRecDepth 100000
set_option linter.unusedVariables false
structure Art (a : GAr) : Prop where
 days : 1 ≤ a.Days ∧ a.Days ≤ 7
 from_ : 0 ≤ a.From ∧ a.From ≤ 1439
 to_ : a.From < a.To ∧ a.To ≤ 1440
 price : 0 ≤ a.Price ∧ a.Price ≤ 1000000
 kind : 1 ≤ a.Kind ∧ a.Kind ≤ 6
 unit : a.Kind = 3 ∨ a.Kind = 4 → 1 ≤ a.Unit ∧ a.Unit ≤ 1440 ∧ 0 ≤ a.Free ∧ a.Free ≤ 1440
 rate : a.Kind = 6 → a.Price ≤ 10000
theorem artB_art {a : GAr} (h : artB a = true) : Art a := by
 unfold artB g_a_validArticle at h
 simp only [a_inside, cond_some, obs, Option.getD_some, eqI_d, ltI, leI] at h
 obtain ⟨k, d, f, t, p, u, v⟩ := a
 simp only [Bool.cond_eq_ite] at h
 by_cases k1 : k = 1
 ·subst k1; simp at h; constructor <;> simp <;> omega
 by_cases k2 : k = 2
 ·subst k2; simp at h; constructor <;> simp <;> omega
 by_cases k3 : k = 3
 ·subst k3; simp at h; constructor <;> simp <;> omega
 by_cases k4 : k = 4
 ·subst k4; simp at h; constructor <;> simp <;> omega
 by_cases k5 : k = 5
 ·subst k5; simp at h; constructor <;> simp <;> omega
 by_cases k6 : k = 6
 ·subst k6; simp at h; constructor <;> simp <;> omega
 exfalso
 simp [k3, k4, k5, k6] at h
 omega
end Go.Proofs
namespace Go.Proofs
open Go Go.Abs
set_option maxRecDepth 100000
set_option linter.unusedVariables false
theorem b_goodWord (n : Nat) (s : List UInt8) (hn : 1000 ≤ n) : g_p_goodWord n s = some (decide (1 ≤ s.length ∧ s.length ≤ 12) && decide (∀ x ∈ s.head?, 97 ≤ b2i x ∧ b2i x ≤ 122) && s.all chrB) := by
 unfold g_p_goodWord
 simp only [lenI, ltI]
 cases s with
 | nil => simp
 | cons x r =>
  rw [dzF (show ¬ (((x :: r).length : Nat) : Int) < 1 by simp only [List.length_cons]; omega), cond_false]
  by_cases hl : (x :: r).length ≤ 12
  rotate_left
  ·rw [dzT (show (12 : Int) < (((x :: r).length : Nat) : Int) by omega), dzF (show ¬ (1 ≤ (x :: r).length ∧ (x :: r).length ≤ 12) by omega)]; rfl
  rw [dzF (show ¬ (12 : Int) < (((x :: r).length : Nat) : Int) by omega), cond_false, dzT (show 1 ≤ (x :: r).length ∧ (x :: r).length ≤ 12 by simp only [List.length_cons] at hl ⊢; omega)]
  rw [show getI (x :: r) 0 = some x from rfl]
  have hloop : loopN (fun recl7 l7 => g_p_goodWord_l7 (x :: r) recl7 l7) n 1 = some (r.all chrB) := by
   have := loop_list (l := x :: r) (B := fun recl7 l7 => g_p_goodWord_l7 (x :: r) recl7 l7) (F := fun r => r.all chrB) (by omega) ?_ ?_ (n := n) 1 (by simp) (by omega)
   ·simpa using this
   ·intro rec; simp [g_p_goodWord_l7, ltI, lenI]
   ·intro rec i y q hd hx hi hw hr
    unfold g_p_goodWord_l7
    simp only [lenI, getI_nat, hx, obs, hw, hr, ltI, leI, eqI, cond_some]
    rw [dzT (by omega), cond_true, List.all_cons]
    rw [chr_lem, chrB]
    cases decide ((97 ≤ b2i y ∧ b2i y ≤ 122) ∨ (48 ≤ b2i y ∧ b2i y ≤ 57) ∨ b2i y = 95) <;> simp
  rw [hloop]
  simp only [obs, cond_some, List.head?_cons, Option.mem_def, sie, forall_eq', Bool.true_and, List.all_cons]
  by_cases h1 : b2i x < 97
  ·rw [dzT h1, dzF (show ¬ (97 ≤ b2i x ∧ b2i x ≤ 122) by omega)]; rfl
  ·rw [dzF h1, cond_false]
   by_cases h2 : 122 < b2i x
   ·rw [dzT h2, dzF (show ¬ (97 ≤ b2i x ∧ b2i x ≤ 122) by omega)]; rfl
   ·have h3 : 97 ≤ b2i x ∧ b2i x ≤ 122 := by omega
    have h4 : chrB x = true := by unfold chrB; rw [dzT]; exact Or.inl h3
    rw [dzF h2, dzT h3, h4]; rfl
theorem cnz (b : Bool) (k r : Int) (hk : k ≠ 0) : (!eqI (bif b then k else r) 0) = (b || !eqI r 0) := by
 cases b
 ·rfl
 ·simp [eqI, hk]
theorem b_isKey (n : Nat) (s : List UInt8) : g_p_isKey n s = some (keyB s) := by
 unfold g_p_isKey g_p_kindOf g_p_isAttr g_p_isArticle g_p_isWord
 rw [keyB_mem]
 simp only [cond_some, obs, cse, cst, keyL, g_ref02_Kinds, g_ref02_Attrs, g_ref02_Articles, g_ref02_Words, Option.getD_some, List.cons_append, List.nil_append, List.contains_cons, List.contains_nil, Bool.or_false, eqS]
 rw [cnz _ 1 _ (by decide), cnz _ 2 _ (by decide), cnz _ 3 _ (by decide), cnz _ 4 _ (by decide), cnz _ 5 _ (by decide), cnz _ 6 _ (by decide), cnz _ 7 _ (by decide), show (!eqI 0 0) = false from rfl]
 simp only [Bool.or_assoc, Bool.or_false]
theorem b_goodName (n : Nat) (s : List UInt8) (hn : 1000 ≤ n) : g_p_goodName n s = some (nameB s) := by
 unfold g_p_goodName nameB
 rw [b_goodWord n s hn, obs, b_isKey, obs, cond_some]
 generalize decide (1 ≤ s.length ∧ s.length ≤ 12) = a
 generalize decide (∀ x ∈ s.head?, 97 ≤ b2i x ∧ b2i x ≤ 122) = b
 generalize s.all chrB = c
 generalize keyB s = d
 cases a <;> cases b <;> cases c <;> cases d <;> rfl
theorem of_cs' (k : Int) (s : List UInt8) (m t : Int) (l : List (List PV)) : GNode.of (GNode.cs ⟨k, s, m, t, l⟩) = some ⟨k, s, m, t, l⟩ := by
 unfold GNode.cs GNode.of
 simp only [map_idc, byt_mkS, if_true]
theorem b_parser (n : Nat) (s : List UInt8) (hn : 1000 ≤ n) : g_p_Valid n (⟨1, [], 0, 0, [GNode.cs (⟨2, s, 3, 0, []⟩ : GNode)]⟩ : GNode) = some (nameB s) := by
 obtain ⟨m, rfl⟩ : ∃ m, n = m + 2 := ⟨n - 2, by omega⟩
 have hitem : g_p_validItem (m + 2) (⟨2, s, 3, 0, []⟩ : GNode) 1498 = some (nameB s, 1498) := by
  unfold g_p_validItem
  rw [b_goodName (m + 2) s hn]
  simp only [show (!eqI 2 2) = false from rfl, show ltI 3 1 = false from rfl, show ltI 7 3 = false from rfl, cond_false, obs]
  cases nameB s
  ·rfl
  ·unfold loopN; rfl
 unfold g_p_Valid
 have e1 : ((bif !eqI 1 1 then some true else bif !eqS [] [] then some true else bif !eqI 0 0 then some true else some (ltI (wi (1499 - lenI (List.map idc [GNode.cs (⟨2, s, 3, 0, []⟩ : GNode)]))) 0))) = some false := rfl
 have e2 : wi (1499 - lenI (List.map idc [GNode.cs (⟨2, s, 3, 0, []⟩ : GNode)])) = 1498 := rfl
 simp only
 rw [e1, obs, cond_false, e2]
 unfold loopN
 simp only [g_p_Valid_l5]
 rw [show ltI 0 (lenI (List.map idc [GNode.cs (⟨2, s, 3, 0, []⟩ : GNode)])) = true from rfl, cond_true, show getI [GNode.cs (⟨2, s, 3, 0, []⟩ : GNode)] 0 = some (GNode.cs (⟨2, s, 3, 0, []⟩ : GNode)) from rfl, obs, of_cs', obs, hitem, obs]
 cases nameB s
 ·rfl
 ·unfold loopN; rfl
theorem b_inside (n : Nat) (x a b : Int) : g_t_inside n x a b = some (decide (a ≤ x ∧ x ≤ b)) := by
 unfold g_t_inside leI
 by_cases h : a ≤ x <;> simp [h]
theorem b_article (n : Nat) (a : GAr) : g_t_validArticle n a = some (artB a) := by
 have bad : ¬ Art a → some false = some (artB a) := by
  intro h
  cases hb : artB a
  ·rfl
  ·exact absurd (artB_art hb) h
 unfold g_t_validArticle g_t_isWhole g_t_isTime
 simp only [b_inside, obs]
 by_cases c2 : 1 ≤ a.Kind ∧ a.Kind ≤ 6
 rotate_left
 ·rw [dzF c2]; exact bad (fun h => c2 h.kind)
 rw [dzT c2]
 by_cases c4 : 0 ≤ a.From ∧ a.From ≤ 1439
 rotate_left
 ·rw [dzF c4]; exact bad (fun h => c4 h.from_)
 rw [dzT c4, wi_id (x := a.From + 1) (by omega) (by omega)]
 by_cases c6 : a.From + 1 ≤ a.To ∧ a.To ≤ 1440
 rotate_left
 ·rw [dzF c6]; exact bad (fun h => by have := h.to_; omega)
 rw [dzT c6]
 by_cases c8 : 1 ≤ a.Days ∧ a.Days ≤ 7
 rotate_left
 ·rw [dzF c8]; exact bad (fun h => c8 h.days)
 rw [dzT c8]
 unfold artB g_a_validArticle
 simp only [a_inside, cond_some, obs, Option.getD_some, eqI_d, Bool.not_true, cond_false]
 rw [sie, Bool.eq_iff_iff]
 obtain ⟨k, d, f, t, p, u, v⟩ := a
 simp only at c2 c4 c6 c8
 simp only [Bool.cond_eq_ite]
 have hk : k = 1 ∨ k = 2 ∨ k = 3 ∨ k = 4 ∨ k = 5 ∨ k = 6 := by omega
 rcases hk with rfl | rfl | rfl | rfl | rfl | rfl <;> simp [leI, ltI] <;> omega
theorem b_tariff (n : Nat) (t : GTf) (hn : 1000 ≤ n) : g_t_Valid n t = some (tariffB t) := by
 unfold g_t_Valid tariffB
 rw [b_parser n t.Name hn]
 simp only [obs, cond_some, lenI, List.length_map, ltI]
 cases hname : nameB t.Name
 ·rfl
 by_cases h2 : t.Articles.length ≤ 12
 rotate_left
 ·rw [dzT (show (12 : Int) < t.Articles.length by omega), dzF h2]; rfl
 rw [dzF (show ¬ (12 : Int) < t.Articles.length by omega), dzT h2]
 simp only [Bool.not_true, cond_false, Bool.true_and]
 have := loop_gen (l := t.Articles) (fun (a : Int) i => (a, i)) (B := fun recl4 (v : Int × Int) => g_t_Valid_l4 n t recl4 v.1 v.2) (F := tarB) (fun i a => 0 ≤ a ∧ a ≤ i) (by omega) ?_ ?_ (n := n) 0 0 (by omega) (by omega) (by omega)
 ·exact this
 ·intro rec a ha
  simp only [g_t_Valid_l4, lenI, List.length_map, ltI, leI]
  rw [dzF (by omega), cond_false]
  rfl
 ·intro rec a i x r ha hd hx hi hw hr
  simp only [g_t_Valid_l4, lenI, List.length_map, ltI, getI_nat, hx, obs, b_article, hw, eqI_d]
  rw [dzT (by omega), cond_true, tarB]
  cases hb : artB x
  ·rfl
  ·have hw2 : wi (a + 1) = a + 1 := wi_id (by omega) (by omega)
   simp only [Bool.not_true, cond_false, Bool.true_and]
   by_cases h6 : x.Kind = 6
   ·rw [dzT h6, cond_true, if_pos h6, hw2, hr _ (by omega)]
   ·rw [dzF h6, cond_false, if_neg h6, hr _ (by omega)]
end Go.Proofs
namespace Go.Proofs
open Go Go.Abs
theorem head32_big : g_law32_head 36893488147419103232 = some true := by kernel_rfl
end Go.Proofs
namespace Go.Proofs
open Go Go.Abs
set_option maxRecDepth 100000
set_option linter.unusedVariables false
theorem opq_d (b : Bool) : opq b = b := rfl
theorem loopN_s {V R : Type} (B : (V → Option R) → V → Option R) (n : Nat) (v : V) : loopN B (n + 1) v = B (loopN B n) v := rfl
end Go.Proofs
namespace Go.Proofs
open Go Go.Abs
set_option maxRecDepth 100000
set_option linter.unusedVariables false
def numN (x : Int) : List PV := GNode.cs (⟨6, [], x, 0, []⟩ : GNode)
def wrdN (s : List UInt8) : List PV := GNode.cs (⟨5, s, 0, 0, []⟩ : GNode)
def perW : List UInt8 := [112, 101, 114]
def freeW : List UInt8 := [102, 114, 101, 101]
def onW : List UInt8 := [111, 110]
def betW : List UInt8 := [98, 101, 116, 119, 101, 101, 110]
def dayW (d : Int) : List (List PV) := (if bAnd .i64 (shrI .i64 d 0) 1 = 1 then [wrdN [119, 111, 114, 107]] else []) ++ (if bAnd .i64 (shrI .i64 d 1) 1 = 1 then [wrdN [115, 97, 116, 117, 114, 100, 97, 121]] else []) ++ (if bAnd .i64 (shrI .i64 d 2) 1 = 1 then [wrdN [115, 117, 110, 100, 97, 121]] else [])
def clF (a : GAr) : List (List (List PV)) :=
 (if 0 < a.Unit then [[wrdN perW, numN a.Unit]] else []) ++ ((if 0 < a.Free then [[wrdN freeW, numN a.Free]] else []) ++ ((if a.Days = 7 then [] else [wrdN onW :: dayW a.Days]) ++ (if a.From = 0 ∧ a.To = 1440 then [] else [[wrdN betW, numN a.From, numN a.To]])))
theorem clauses32 (n : Nat) (a : GAr) (hn : 1000 ≤ n) (hd : 1 ≤ a.Days ∧ a.Days ≤ 7) : g_law32_Clauses n a = some (clF a) := by
 obtain ⟨k, hk⟩ : ∃ k, n = k + 1 + 1 + 1 + 1 + 1 := ⟨n - 5, by omega⟩
 unfold g_law32_Clauses clF
 have e1 : (bif ltI 0 a.Unit then ((g_law32_word n [112, 101, 114]).bind fun r2 => (g_law32_number n a.Unit).bind fun r3 => bif roomB (List.length ([] ++ [[GNode.cs r2, GNode.cs r3]])) 24 then some ([] ++ [[GNode.cs r2, GNode.cs r3]]) else none) else some []) = some (if 0 < a.Unit then [[wrdN perW, numN a.Unit]] else []) := by
  by_cases h : 0 < a.Unit
  ·rw [if_pos h, ltI_t h]; rfl
  ·rw [if_neg h, ltI_f h]; rfl
 have e2 : ∀ j : List (List (List PV)), j.length ≤ 10 → (bif ltI 0 a.Free then ((g_law32_word n [102, 114, 101, 101]).bind fun r5 => (g_law32_number n a.Free).bind fun r6 => bif roomB (List.length (j ++ [[GNode.cs r5, GNode.cs r6]])) 24 then some (j ++ [[GNode.cs r5, GNode.cs r6]]) else none) else some j) = some (j ++ if 0 < a.Free then [[wrdN freeW, numN a.Free]] else []) := by
  intro j hj
  by_cases h : 0 < a.Free
  ·rw [if_pos h, ltI_t h, cond_true]
   show (bif roomB (j ++ [[wrdN freeW, numN a.Free]]).length 24 then some (j ++ [[wrdN freeW, numN a.Free]]) else none) = _
   rw [show roomB (j ++ [[wrdN freeW, numN a.Free]]).length 24 = true from by unfold roomB; rw [List.length_append]; exact dzT (by simp; omega), cond_true]
  ·rw [if_neg h, ltI_f h, cond_false, List.append_nil]
 have e3 : ∀ j : List (List (List PV)), j.length ≤ 10 → (bif !eqI a.Days 7 then ((g_law32_word n [111, 110]).bind fun r8 => loopN (fun recl9 (v : List (List PV) × Int) => g_law32_Clauses_l9 n a j recl9 v.1 v.2) n ([GNode.cs r8], 0)) else some j) = some (j ++ if a.Days = 7 then [] else [wrdN onW :: dayW a.Days]) := by
  intro j hj
  have hr : ∀ x : List (List PV), roomB (j ++ [x]).length 24 = true := fun x => by unfold roomB; rw [List.length_append]; exact dzT (by simp; omega)
  have h7 : a.Days = 1 ∨ a.Days = 2 ∨ a.Days = 3 ∨ a.Days = 4 ∨ a.Days = 5 ∨ a.Days = 6 ∨ a.Days = 7 := by omega
  by_cases h : a.Days = 7
  ·rw [if_pos h, h]; simp [eqI]
  ·rw [if_neg h, eqI_d, dzF h]
   simp only [Bool.not_false, cond_true]
   have key : loopN (fun recl9 (v : List (List PV) × Int) => g_law32_Clauses_l9 n a j recl9 v.1 v.2) n ([wrdN onW], 0) = bif roomB (j ++ [wrdN onW :: dayW a.Days]).length 24 then some (j ++ [wrdN onW :: dayW a.Days]) else none := by
    subst hk
    obtain ⟨ki, d, f, t, p, u, v⟩ := a
    simp only at h7 h ⊢
    rcases h7 with h7 | h7 | h7 | h7 | h7 | h7 | h7 <;> first | (exact absurd h7 h) | (subst h7; kernel_rfl)
   show loopN (fun recl9 (v : List (List PV) × Int) => g_law32_Clauses_l9 n a j recl9 v.1 v.2) n ([wrdN onW], 0) = _
   rw [key, hr, cond_true]
 have e4 : ∀ j : List (List (List PV)), j.length ≤ 10 → (bif (bif !eqI a.From 0 then true else !eqI a.To 1440) then ((g_law32_word n [98, 101, 116, 119, 101, 101, 110]).bind fun r14 => (g_law32_number n a.From).bind fun r15 => (g_law32_number n a.To).bind fun r16 => bif roomB (List.length (j ++ [[GNode.cs r14, GNode.cs r15, GNode.cs r16]])) 24 then some (j ++ [[GNode.cs r14, GNode.cs r15, GNode.cs r16]]) else none) else some j) = some (j ++ if a.From = 0 ∧ a.To = 1440 then [] else [[wrdN betW, numN a.From, numN a.To]]) := by
  intro j hj
  have hr : roomB (j ++ [[wrdN betW, numN a.From, numN a.To]]).length 24 = true := by unfold roomB; rw [List.length_append]; exact dzT (by simp; omega)
  by_cases h1 : a.From = 0
  ·by_cases h2 : a.To = 1440
   ·rw [if_pos ⟨h1, h2⟩, eqI_d, eqI_d, dzT h1, dzT h2]; simp
   ·rw [if_neg (fun h => h2 h.2), eqI_d, eqI_d, dzT h1, dzF h2]
    simp only [Bool.not_true, Bool.not_false, cond_true, cond_false]
    show (bif roomB (j ++ [[wrdN betW, numN a.From, numN a.To]]).length 24 then some (j ++ [[wrdN betW, numN a.From, numN a.To]]) else none) = _
    rw [hr]; rfl
  ·rw [if_neg (fun h => h1 h.1), eqI_d, eqI_d, dzF h1]
   simp only [Bool.not_false, cond_true]
   show (bif roomB (j ++ [[wrdN betW, numN a.From, numN a.To]]).length 24 then some (j ++ [[wrdN betW, numN a.From, numN a.To]]) else none) = _
   rw [hr]; rfl
 rw [e1, obs, e2 _ (by split <;> simp), obs]
 rw [show (fun recl9 (x : List (List PV) × Int) => match x with | (l9_1, l9_2) => g_law32_Clauses_l9 n a ((if 0 < a.Unit then [[wrdN perW, numN a.Unit]] else []) ++ if 0 < a.Free then [[wrdN freeW, numN a.Free]] else []) recl9 l9_1 l9_2) = (fun recl9 (v : List (List PV) × Int) => g_law32_Clauses_l9 n a ((if 0 < a.Unit then [[wrdN perW, numN a.Unit]] else []) ++ if 0 < a.Free then [[wrdN freeW, numN a.Free]] else []) recl9 v.1 v.2) from rfl]
 rw [e3 _ (by split <;> split <;> simp), obs, cond_some, obs, e4 _ (by split <;> split <;> split <;> simp)]
 simp only [List.append_assoc]
def rotG (l : List (List (List PV))) (r : Nat) : Nat → Nat → List (List PV)
 | _, 0 => []
 | i, m + 1 => l.getD ((i + r) % l.length) [] ++ rotG l r (i + 1) m
theorem rotG_mod (l : List (List (List PV))) (r : Nat) : ∀ (m i : Nat), rotG l r i m = rotG l (r % l.length) i m
 | 0, i => rfl
 | m + 1, i => by simp only [rotG, rotG_mod l r m (i + 1), Nat.add_mod_mod]
def nameF (k : Int) : List UInt8 := (getI [[115, 116, 97, 114, 116], [101, 110, 101, 114, 103, 121], [116, 105, 109, 101], [105, 100, 108, 101], [99, 97, 112], [116, 97, 120]] (k - 1)).getD []
def kidsF (a : GAr) (r : Nat) : List (List PV) := numN a.Price :: rotG (clF a) r 0 (clF a).length
theorem clF_len (a : GAr) : (clF a).length ≤ 4 := by
 unfold clF
 split <;> split <;> split <;> split <;> simp
theorem dayW_len (d : Int) : (dayW d).length ≤ 3 := by
 unfold dayW
 split <;> split <;> split <;> simp
theorem clF_each (a : GAr) : ∀ c ∈ clF a, c.length ≤ 4 := by
 intro c hc
 have := dayW_len a.Days
 unfold clF at hc
 simp only [List.mem_append] at hc
 rcases hc with h | h | h | h <;> split at h <;> simp at h <;> subst h <;> simp <;> omega
theorem rotG_len (l : List (List (List PV))) (h : ∀ c ∈ l, c.length ≤ 4) (r : Nat) : ∀ (m i : Nat), (rotG l r i m).length ≤ 4 * m
 | 0, i => by simp [rotG]
 | m + 1, i => by
  have h1 := rotG_len l h r m (i + 1)
  have h2 : (l.getD ((i + r) % l.length) []).length ≤ 4 := by
   rw [List.getD_eq_getElem?_getD]
   cases hq : l[(i + r) % l.length]? with
   | none => simp
   | some c => exact h c (List.mem_of_getElem? hq)
  simp only [rotG, List.length_append]
  omega
theorem node_loop (tn : Nat) (x2 : List UInt8) (l : List (List (List PV))) (hl : l.length ≤ 4) (he : ∀ c ∈ l, c.length ≤ 4) (ht : tn ≤ 255) : ∀ (m i : Nat) (acc : List (List PV)) (n : Nat), i + m = l.length → m < n → acc.length + 4 * m ≤ 100 →
  loopN (fun recl5 (v : Int × List (List PV)) => g_law32_Node_l5 (tn : Int) x2 l recl5 v.1 v.2) n ((i : Int), acc) = some ⟨4, x2, 0, 0, acc ++ rotG l tn i m⟩
 | 0, i, acc, n, h1, h2, h3 => by
  obtain ⟨n, rfl⟩ : ∃ q, n = q + 1 := ⟨n - 1, by omega⟩
  rw [loopN_s]
  unfold g_law32_Node_l5
  simp only [lenI, List.length_map, ltI]
  rw [dzF (by omega), cond_false, rotG, List.append_nil]
 | m + 1, i, acc, n, h1, h2, h3 => by
  obtain ⟨n, rfl⟩ : ∃ q, n = q + 1 := ⟨n - 1, by omega⟩
  have hrec : ∀ acc', acc'.length + 4 * m ≤ 100 → loopN (fun recl5 (v : Int × List (List PV)) => g_law32_Node_l5 (tn : Int) x2 l recl5 v.1 v.2) n (((i + 1 : Nat) : Int), acc') = some ⟨4, x2, 0, 0, acc' ++ rotG l tn (i + 1) m⟩ := fun acc' h => node_loop tn x2 l hl he ht m (i + 1) acc' n (by omega) (by omega) h
  rw [loopN_s]
  generalize loopN (fun recl5 (v : Int × List (List PV)) => g_law32_Node_l5 (tn : Int) x2 l recl5 v.1 v.2) n = rec at hrec ⊢
  unfold g_law32_Node_l5
  simp only [lenI, List.length_map, ltI, eqI_d]
  rw [dzT (show (i : Int) < l.length by omega), cond_true, dzF (show ¬ (l.length : Int) = 0 by omega), Bool.not_false, cond_true]
  rw [wi_id (x := (i : Int) + tn) (by omega) (by omega), Int.tmod_eq_emod_of_nonneg (by omega)]
  have hlt : (i + tn) % l.length < l.length := Nat.mod_lt _ (by omega)
  have e1 : ((i : Int) + tn) % (l.length : Int) = (((i + tn) % l.length : Nat) : Int) := by norm_cast
  rw [e1, getI_nat]
  have e2 : l[(i + tn) % l.length]? = some (l.getD ((i + tn) % l.length) []) := by
   rw [List.getD_eq_getElem?_getD, List.getElem?_eq_getElem hlt]; rfl
  have h4 : (l.getD ((i + tn) % l.length) []).length ≤ 4 := he _ (List.mem_of_getElem? e2)
  rw [e2, obs]
  rw [show roomB (acc ++ l.getD ((i + tn) % l.length) []).length 64 = true from by unfold roomB; rw [List.length_append]; exact dzT (by omega), cond_true]
  rw [wi_id (x := (i : Int) + 1) (by omega) (by omega), show (i : Int) + 1 = ((i + 1 : Nat) : Int) from by omega, hrec _ (by rw [List.length_append]; omega)]
  simp only [rotG, List.append_assoc]
theorem node32 (n : Nat) (a : GAr) (tn : Nat) (hn : 1000 ≤ n) (ha : artB a = true) (ht : tn ≤ 255) : g_law32_Node n a (tn : Int) = some ⟨4, nameF a.Kind, 0, 0, kidsF a (tn % (clF a).length)⟩ := by
 have hart := artB_art ha
 have hk := hart.kind
 unfold g_law32_Node g_ref02_Articles g_law32_number
 simp only [obs]
 rw [wi_id (x := a.Kind - 1) (by omega) (by omega)]
 have e0 : getI [[115, 116, 97, 114, 116], [101, 110, 101, 114, 103, 121], [116, 105, 109, 101], [105, 100, 108, 101], [99, 97, 112], [116, 97, 120]] (a.Kind - 1) = some (nameF a.Kind) := by
  obtain ⟨k, d, f, t, p, u, v⟩ := a
  simp only at hk ⊢
  have h6 : k = 1 ∨ k = 2 ∨ k = 3 ∨ k = 4 ∨ k = 5 ∨ k = 6 := by omega
  rcases h6 with rfl | rfl | rfl | rfl | rfl | rfl <;> rfl
 rw [e0, obs, clauses32 n a hn hart.days, obs]
 have := node_loop tn (nameF a.Kind) (clF a) (clF_len a) (clF_each a) ht (clF a).length 0 [numN a.Price] n (by omega) (by have := clF_len a; omega) (by have := clF_len a; simp; omega)
 rw [rotG_mod] at this
 exact this
theorem art_more {a : GAr} (h : artB a = true) : (a.Kind ≠ 3 → a.Kind ≠ 4 → a.Unit = 0 ∧ a.Free = 0) ∧ (a.Kind = 5 ∨ a.Kind = 6 → a.Days = 7 ∧ a.From = 0 ∧ a.To = 1440) := by
 have hA := artB_art h
 unfold artB g_a_validArticle at h
 simp only [a_inside, cond_some, obs, Option.getD_some, eqI_d, ltI, leI] at h
 obtain ⟨k, d, f, t, p, u, v⟩ := a
 have hk := hA.kind
 simp only [Bool.cond_eq_ite] at h hk ⊢
 have hk : k = 1 ∨ k = 2 ∨ k = 3 ∨ k = 4 ∨ k = 5 ∨ k = 6 := by omega
 rcases hk with rfl | rfl | rfl | rfl | rfl | rfl <;> simp at h ⊢ <;> omega
def clG (bu bv bo bf : Bool) (a : GAr) : List (List (List PV)) :=
 (cond bu [[wrdN perW, numN a.Unit]] []) ++ ((cond bv [[wrdN freeW, numN a.Free]] []) ++ ((cond bo [wrdN onW :: dayW a.Days] []) ++ (cond bf [[wrdN betW, numN a.From, numN a.To]] [])))
theorem ite_cd {α : Type} {p : Prop} [Decidable p] (x y : α) : (if p then x else y) = cond (decide p) x y := by
 by_cases h : p
 ·rw [if_pos h, dzT h]; rfl
 ·rw [if_neg h, dzF h]; rfl
theorem ite_cn {α : Type} {p : Prop} [Decidable p] (x y : α) : (if p then x else y) = cond (!decide p) y x := by
 by_cases h : p
 ·rw [if_pos h, dzT h]; rfl
 ·rw [if_neg h, dzF h]; rfl
theorem clF_G (a : GAr) : clF a = clG (decide (0 < a.Unit)) (decide (0 < a.Free)) (!decide (a.Days = 7)) (!decide (a.From = 0 ∧ a.To = 1440)) a := by
 unfold clF clG
 rw [ite_cd (p := 0 < a.Unit), ite_cd (p := 0 < a.Free), ite_cn (p := a.Days = 7), ite_cn (p := a.From = 0 ∧ a.To = 1440)]
def N0 : Nat := 36893488147419103232
def readOk (a : GAr) (l : List (List (List PV))) (r : Nat) : Prop := g_t_read N0 ⟨4, nameF a.Kind, 0, 0, numN a.Price :: rotG l r 0 l.length⟩ = some (a, true)
theorem readOk_i {a : GAr} {l : List (List (List PV))} {r : Nat} (h : g_t_read N0 ⟨4, nameF a.Kind, 0, 0, numN a.Price :: rotG l r 0 l.length⟩ = some (a, true)) : readOk a l r := h
theorem read_a (k d f t p : Int) (bf : Bool) (hk : k = 1 ∨ k = 2) (hd : 1 ≤ d ∧ d ≤ 7) (hf : bf = false → f = 0 ∧ t = 1440) (r : Nat) (hr : r < 2) : readOk ⟨k, d, f, t, p, 0, 0⟩ (clG false false (!decide (d = 7)) bf ⟨k, d, f, t, p, 0, 0⟩) r := by
 have h7 : d = 1 ∨ d = 2 ∨ d = 3 ∨ d = 4 ∨ d = 5 ∨ d = 6 ∨ d = 7 := by omega
 have h2 : r = 0 ∨ r = 1 := by omega
 cases bf
 ·obtain ⟨rfl, rfl⟩ := hf rfl
  rcases hk with rfl | rfl <;> rcases h7 with rfl | rfl | rfl | rfl | rfl | rfl | rfl <;> rcases h2 with rfl | rfl <;> exact readOk_i (by kernel_rfl)
 ·rcases hk with rfl | rfl <;> rcases h7 with rfl | rfl | rfl | rfl | rfl | rfl | rfl <;> rcases h2 with rfl | rfl <;> exact readOk_i (by kernel_rfl)
theorem read_b (k d f t p u v : Int) (bv bf : Bool) (hk : k = 3 ∨ k = 4) (hd : 1 ≤ d ∧ d ≤ 7) (hv : bv = false → v = 0) (hf : bf = false → f = 0 ∧ t = 1440) (r : Nat) (hr : r < 4) : readOk ⟨k, d, f, t, p, u, v⟩ (clG true bv (!decide (d = 7)) bf ⟨k, d, f, t, p, u, v⟩) r := by
 have h7 : d = 1 ∨ d = 2 ∨ d = 3 ∨ d = 4 ∨ d = 5 ∨ d = 6 ∨ d = 7 := by omega
 have h2 : r = 0 ∨ r = 1 ∨ r = 2 ∨ r = 3 := by omega
 cases bf
 ·obtain ⟨rfl, rfl⟩ := hf rfl
  cases bv
  ·obtain rfl := hv rfl
   rcases hk with rfl | rfl <;> rcases h7 with rfl | rfl | rfl | rfl | rfl | rfl | rfl <;> rcases h2 with rfl | rfl | rfl | rfl <;> exact readOk_i (by kernel_rfl)
  ·rcases hk with rfl | rfl <;> rcases h7 with rfl | rfl | rfl | rfl | rfl | rfl | rfl <;> rcases h2 with rfl | rfl | rfl | rfl <;> exact readOk_i (by kernel_rfl)
 ·cases bv
  ·obtain rfl := hv rfl
   rcases hk with rfl | rfl <;> rcases h7 with rfl | rfl | rfl | rfl | rfl | rfl | rfl <;> rcases h2 with rfl | rfl | rfl | rfl <;> exact readOk_i (by kernel_rfl)
  ·rcases hk with rfl | rfl <;> rcases h7 with rfl | rfl | rfl | rfl | rfl | rfl | rfl <;> rcases h2 with rfl | rfl | rfl | rfl <;> exact readOk_i (by kernel_rfl)
theorem read_c (k p : Int) (hk : k = 5 ∨ k = 6) (r : Nat) : readOk ⟨k, 7, 0, 1440, p, 0, 0⟩ [] r := by
 rcases hk with rfl | rfl <;> exact readOk_i (by kernel_rfl)
theorem readOk_any {a : GAr} {l : List (List (List PV))} (B : Nat) (hB : l.length ≤ B) (h0 : 0 < B) (h : ∀ r, r < B → readOk a l r) (tn : Nat) : readOk a l (tn % l.length) := by
 rcases Nat.eq_zero_or_pos l.length with hz | hz
 ·have h1 := h 0 h0
  unfold readOk at h1 ⊢
  rw [hz] at h1 ⊢
  exact h1
 ·exact h _ (Nat.lt_of_lt_of_le (Nat.mod_lt _ hz) hB)
theorem clG_len2 (bo bf : Bool) (a : GAr) : (clG false false bo bf a).length ≤ 2 := by cases bo <;> cases bf <;> simp [clG]
theorem clG_len4 (bu bv bo bf : Bool) (a : GAr) : (clG bu bv bo bf a).length ≤ 4 := by cases bu <;> cases bv <;> cases bo <;> cases bf <;> simp [clG]
theorem read32 {a : GAr} (ha : artB a = true) (tn : Nat) : g_t_read N0 ⟨4, nameF a.Kind, 0, 0, kidsF a (tn % (clF a).length)⟩ = some (a, true) := by
 have hart := artB_art ha
 obtain ⟨m1, m2⟩ := art_more ha
 have hd := hart.days
 have hk := hart.kind
 have hu := hart.unit
 show readOk a (clF a) (tn % (clF a).length)
 rw [clF_G]
 obtain ⟨k, d, f, t, p, u, v⟩ := a
 simp only at hd hk hu m1 m2 ⊢
 have hf : (!decide (f = 0 ∧ t = 1440)) = false → f = 0 ∧ t = 1440 := by intro h; simpa using h
 by_cases k12 : k = 1 ∨ k = 2
 ·obtain ⟨rfl, rfl⟩ := m1 (by omega) (by omega)
  exact readOk_any 2 (clG_len2 _ _ _) (by omega) (fun r hr => read_a k d f t p _ k12 hd hf r hr) tn
 by_cases k34 : k = 3 ∨ k = 4
 ·have h := hu k34
  rw [dzT (show (0 : Int) < u by omega)]
  refine readOk_any 4 (clG_len4 _ _ _ _ _) (by omega) (fun r hr => read_b k d f t p u v _ _ k34 hd (fun h0 => ?_) hf r hr) tn
  have := of_decide_eq_false h0
  omega
 ·obtain ⟨rfl, rfl⟩ := m1 (by omega) (by omega)
  obtain ⟨rfl, rfl, rfl⟩ := m2 (by omega)
  exact readOk_any 1 (Nat.zero_le _) (by omega) (fun r _ => read_c k p (by omega) r) tn
def okKid (e : List PV) : Prop := ∃ x : GNode, GNode.of e = some x ∧ g_p_validValue N0 x true = some true
theorem ok_num {x : Int} (h : 0 ≤ x ∧ x ≤ 1000000) : okKid (numN x) := by
 refine ⟨⟨6, [], x, 0, []⟩, of_cs' _ _ _ _ _, ?_⟩
 unfold g_p_validValue
 simp only [leI]
 rw [dzT h.1, dzT h.2]
 rfl
theorem ok_wrd {w : List UInt8} (hw : w ∈ [perW, freeW, onW, betW, [119, 111, 114, 107], [115, 97, 116, 117, 114, 100, 97, 121], [115, 117, 110, 100, 97, 121]]) : okKid (wrdN w) := by
 refine ⟨⟨5, w, 0, 0, []⟩, of_cs' _ _ _ _ _, ?_⟩
 simp only [List.mem_cons, List.not_mem_nil, or_false] at hw
 rcases hw with rfl | rfl | rfl | rfl | rfl | rfl | rfl <;> kernel_rfl
theorem clF_ok {a : GAr} (ha : artB a = true) : ∀ c ∈ clF a, ∀ e ∈ c, okKid e := by
 have hart := artB_art ha
 obtain ⟨m1, _⟩ := art_more ha
 have hk := hart.kind
 have hu := hart.unit
 obtain ⟨q1, q2⟩ := hart.from_
 obtain ⟨q3, q4⟩ := hart.to_
 have hU : 0 ≤ a.Unit ∧ a.Unit ≤ 1000000 ∧ 0 ≤ a.Free ∧ a.Free ≤ 1000000 := by
  by_cases h : a.Kind = 3 ∨ a.Kind = 4
  ·have := hu h; omega
  ·have := m1 (by omega) (by omega); omega
 intro c hc e he
 unfold clF at hc
 simp only [List.mem_append] at hc
 rcases hc with h | h | h | h <;> split at h <;> simp only [List.mem_cons, List.not_mem_nil, or_false] at h
 ·subst h
  simp only [List.mem_cons, List.not_mem_nil, or_false] at he
  rcases he with rfl | rfl
  ·exact ok_wrd (by simp)
  ·exact ok_num (by omega)
 ·subst h
  simp only [List.mem_cons, List.not_mem_nil, or_false] at he
  rcases he with rfl | rfl
  ·exact ok_wrd (by simp)
  ·exact ok_num (by omega)
 ·subst h
  simp only [List.mem_cons] at he
  rcases he with rfl | he
  ·exact ok_wrd (by simp)
  ·unfold dayW at he
   simp only [List.mem_append] at he
   rcases he with (he | he) | he <;> split at he <;> simp only [List.mem_cons, List.not_mem_nil, or_false] at he <;> subst he <;> exact ok_wrd (by simp)
 ·subst h
  simp only [List.mem_cons, List.not_mem_nil, or_false] at he
  rcases he with rfl | rfl | rfl
  ·exact ok_wrd (by simp)
  ·exact ok_num (by omega)
  ·exact ok_num (by omega)
theorem rotG_ok {l : List (List (List PV))} (h : ∀ c ∈ l, ∀ e ∈ c, okKid e) (r : Nat) : ∀ (m i : Nat), ∀ e ∈ rotG l r i m, okKid e
 | 0, i, e, he => by simp [rotG] at he
 | m + 1, i, e, he => by
  simp only [rotG, List.mem_append] at he
  rcases he with he | he
  ·rw [List.getD_eq_getElem?_getD] at he
   cases hq : l[(i + r) % l.length]? with
   | none => rw [hq] at he; simp at he
   | some c => rw [hq] at he; exact h c (List.mem_of_getElem? hq) e he
  ·exact rotG_ok h r m (i + 1) e he
theorem kids_ok {a : GAr} (ha : artB a = true) (r : Nat) : ∀ e ∈ kidsF a r, okKid e := by
 intro e he
 unfold kidsF at he
 rcases List.mem_cons.1 he with rfl | he
 ·have := (artB_art ha).price; exact ok_num (by omega)
 ·exact rotG_ok (clF_ok ha) r _ _ e he
theorem kids_len (a : GAr) (r : Nat) : (kidsF a r).length ≤ 17 := by
 have h1 := rotG_len (clF a) (clF_each a) r (clF a).length 0
 have h2 := clF_len a
 unfold kidsF
 rw [List.length_cons]
 omega
end Go.Proofs
namespace Go.Proofs
open Go Go.Abs
set_option maxRecDepth 100000
set_option linter.unusedVariables false
def ndF (tn : Nat) (a : GAr) : GNode := ⟨4, nameF a.Kind, 0, 0, kidsF a (tn % (clF a).length)⟩
theorem of_nd (tn : Nat) (a : GAr) : GNode.of (GNode.cs (ndF tn a)) = some (ndF tn a) := of_cs' _ _ _ _ _
theorem eq_i {α : Type} {a b : α} (h : a = b) : a = b := h
theorem isArt {k : Int} (hk : 1 ≤ k ∧ k ≤ 6) : g_p_isArticle N0 (nameF k) = some true := by
 have h6 : k = 1 ∨ k = 2 ∨ k = 3 ∨ k = 4 ∨ k = 5 ∨ k = 6 := by omega
 rcases h6 with rfl | rfl | rfl | rfl | rfl | rfl <;> exact eq_i (by kernel_rfl)
theorem part_loop (nd : GNode) (hk4 : nd.Kind = 4) (left : Int) (hok : ∀ e ∈ nd.Kids, okKid e) (hl : nd.Kids.length ≤ 17) : ∀ (m i n : Nat), i + m = nd.Kids.length → m < n →
  loopN (fun recl9 (l9 : Int) => g_p_validPart_l9 N0 nd left recl9 l9) n (i : Int) = some (true, wi (left - lenI (List.map idc nd.Kids)))
 | 0, i, n, h1, h2 => by
  obtain ⟨n, rfl⟩ : ∃ q, n = q + 1 := ⟨n - 1, by omega⟩
  rw [loopN_s]
  unfold g_p_validPart_l9
  rw [show ltI (i : Int) (lenI (List.map idc nd.Kids)) = false from ltI_f (by simp only [lenI, List.length_map]; omega), cond_false]
 | m + 1, i, n, h1, h2 => by
  obtain ⟨n, rfl⟩ : ∃ q, n = q + 1 := ⟨n - 1, by omega⟩
  have hrec := part_loop nd hk4 left hok hl m (i + 1) n (by omega) (by omega)
  rw [loopN_s]
  generalize loopN (fun recl9 (l9 : Int) => g_p_validPart_l9 N0 nd left recl9 l9) n = rec at hrec ⊢
  unfold g_p_validPart_l9
  have hx : nd.Kids[i]? = some nd.Kids[i] := List.getElem?_eq_getElem (by omega)
  obtain ⟨x, e1, e2⟩ := hok nd.Kids[i] (List.getElem_mem (by omega))
  rw [show ltI (i : Int) (lenI (List.map idc nd.Kids)) = true from ltI_t (by simp only [lenI, List.length_map]; omega), cond_true, getI_nat, hx]
  show ((GNode.of nd.Kids[i]).bind _) = _
  rw [e1, obs, hk4, show eqI 4 4 = true from rfl, e2, obs, wi_id (x := (i : Int) + 1) (by omega) (by omega)]
  exact hrec
theorem part32 {a : GAr} (ha : artB a = true) (tn : Nat) (left : Int) (hl : 17 ≤ left ∧ left ≤ 1500) : g_p_validPart N0 (ndF tn a) left = some (true, left - (kidsF a (tn % (clF a).length)).length) := by
 have hlen := kids_len a (tn % (clF a).length)
 have hok := kids_ok ha (tn % (clF a).length)
 have hloop := part_loop (ndF tn a) rfl left hok hlen (ndF tn a).Kids.length 0 N0 (by omega) (by have : (ndF tn a).Kids.length ≤ 17 := hlen; unfold N0; omega)
 have e0 : wi (left - lenI (List.map idc (ndF tn a).Kids)) = left - (kidsF a (tn % (clF a).length)).length := by
  simp only [lenI, List.length_map]
  show wi (left - ((kidsF a (tn % (clF a).length)).length : Int)) = _
  rw [wi_id (by omega) (by omega)]
 unfold g_p_validPart
 rw [e0] at hloop ⊢
 rw [show ltI (left - ((kidsF a (tn % (clF a).length)).length : Int)) 0 = false from ltI_f (by omega)]
 show (bif !eqI 0 0 then _ else (bif eqI 4 3 then _ else some false).bind fun j1 => _) = _
 rw [show (!eqI 0 0) = false from rfl, cond_false, show eqI 4 3 = false from rfl, cond_false, obs, cond_false]
 show ((bif eqI 4 4 then ((g_p_isArticle N0 (nameF a.Kind)).bind _) else some false).bind _) = _
 rw [show eqI 4 4 = true from rfl, cond_true, isArt (artB_art ha).kind, obs]
 simp only [Bool.not_true, obs, cond_false]
 exact hloop
def itF (tn : Nat) (t : GTf) : GNode := ⟨2, t.Name, 7, 0, t.Articles.map fun a => GNode.cs (ndF tn a)⟩
theorem item_loop (t : GTf) (tn : Nat) (ht : tn ≤ 255) (hl : t.Articles.length ≤ 12) (ha : ∀ a ∈ t.Articles, artB a = true) : ∀ (m i n : Nat) (acc : List (List PV)), i + m = t.Articles.length → m < n → acc = (t.Articles.take i).map (fun a => GNode.cs (ndF tn a)) →
  loopN (fun recl1 (v : Int × List (List PV)) => g_law32_Item_l1 N0 t (tn : Int) recl1 v.1 v.2) n ((i : Int), acc) = some (itF tn t)
 | 0, i, n, acc, h1, h2, h3 => by
  obtain ⟨n, rfl⟩ : ∃ q, n = q + 1 := ⟨n - 1, by omega⟩
  rw [loopN_s]
  unfold g_law32_Item_l1
  simp only
  rw [show ltI (i : Int) (lenI (List.map GAr.cs t.Articles)) = false from ltI_f (by simp only [lenI, List.length_map]; omega), cond_false, h3, List.take_of_length_le (by omega)]
  rfl
 | m + 1, i, n, acc, h1, h2, h3 => by
  obtain ⟨n, rfl⟩ : ∃ q, n = q + 1 := ⟨n - 1, by omega⟩
  have hx : t.Articles[i]? = some (t.Articles[i]'(by omega)) := List.getElem?_eq_getElem (by omega)
  have hrec := item_loop t tn ht hl ha m (i + 1) n (acc ++ [GNode.cs (ndF tn (t.Articles[i]'(by omega)))]) (by omega) (by omega) (by rw [List.take_add_one, hx, List.map_append, h3]; rfl)
  have hlen : acc.length ≤ 12 := by rw [h3, List.length_map, List.length_take]; omega
  rw [loopN_s]
  generalize loopN (fun recl1 (v : Int × List (List PV)) => g_law32_Item_l1 N0 t (tn : Int) recl1 v.1 v.2) n = rec at hrec ⊢
  unfold g_law32_Item_l1
  simp only
  rw [show ltI (i : Int) (lenI (List.map GAr.cs t.Articles)) = true from ltI_t (by simp only [lenI, List.length_map]; omega), cond_true, getI_nat, hx, obs, node32 N0 _ tn (by unfold N0; omega) (ha _ (List.getElem_mem (by omega))) ht, obs]
  rw [wi_id (x := (i : Int) + 1) (by omega) (by omega)]
  show (bif roomB (acc ++ [GNode.cs (ndF tn (t.Articles[i]'(by omega)))]).length 64 then rec (((i + 1 : Nat) : Int), acc ++ [GNode.cs (ndF tn (t.Articles[i]'(by omega)))]) else none) = _
  rw [show roomB (acc ++ [GNode.cs (ndF tn (t.Articles[i]'(by omega)))]).length 64 = true from by unfold roomB; rw [List.length_append]; exact dzT (by simp; omega), cond_true]
  exact hrec
theorem item32 (t : GTf) (tn : Nat) (ht : tn ≤ 255) (hl : t.Articles.length ≤ 12) (ha : ∀ a ∈ t.Articles, artB a = true) : g_law32_Item N0 t (tn : Int) = some (itF tn t) :=
 item_loop t tn ht hl ha t.Articles.length 0 N0 [] (by omega) (by unfold N0; omega) rfl
theorem vitem_loop (t : GTf) (tn : Nat) (hl : t.Articles.length ≤ 12) (ha : ∀ a ∈ t.Articles, artB a = true) : ∀ (m i n : Nat) (fl : Bool) (left : Int), i + m = t.Articles.length → m < n → 17 * m ≤ left → left ≤ 1500 →
  ∃ left', loopN (fun recl8 (v : Bool × Int × Int) => g_p_validItem_l8 N0 (itF tn t) recl8 v.1 v.2.1 v.2.2) n (fl, (i : Int), left) = some (true, left')
 | 0, i, n, fl, left, h1, h2, h3, h4 => by
  obtain ⟨n, rfl⟩ : ∃ q, n = q + 1 := ⟨n - 1, by omega⟩
  rw [loopN_s]
  unfold g_p_validItem_l8 g_p_validItem_j6
  simp only
  rw [show ltI (i : Int) (lenI (List.map idc (itF tn t).Kids)) = false from ltI_f (by simp only [itF, lenI, List.length_map]; omega), cond_false]
  cases fl
  ·exact ⟨left, rfl⟩
  ·exact ⟨left, rfl⟩
 | m + 1, i, n, fl, left, h1, h2, h3, h4 => by
  obtain ⟨n, rfl⟩ : ∃ q, n = q + 1 := ⟨n - 1, by omega⟩
  have hxa : t.Articles[i]? = some (t.Articles[i]'(by omega)) := List.getElem?_eq_getElem (by omega)
  have hA := ha _ (List.getElem_mem (show i < t.Articles.length by omega))
  generalize t.Articles[i]'(by omega) = a at hxa hA
  have hx : (itF tn t).Kids[i]? = some (GNode.cs (ndF tn a)) := by simp only [itF, List.getElem?_map, hxa, Option.map_some]
  have hlen := kids_len a (tn % (clF a).length)
  obtain ⟨left', hrec⟩ := vitem_loop t tn hl ha m (i + 1) n true (left - (kidsF a (tn % (clF a).length)).length) (by omega) (by omega) (by omega) (by omega)
  refine ⟨left', ?_⟩
  rw [loopN_s]
  generalize loopN (fun recl8 (v : Bool × Int × Int) => g_p_validItem_l8 N0 (itF tn t) recl8 v.1 v.2.1 v.2.2) n = rec at hrec ⊢
  unfold g_p_validItem_l8
  simp only
  rw [show ltI (i : Int) (lenI (List.map idc (itF tn t).Kids)) = true from ltI_t (by simp only [itF, lenI, List.length_map]; omega), cond_true, getI_nat, hx]
  show ((GNode.of (GNode.cs (ndF tn a))).bind _) = _
  rw [of_nd, obs]
  show (bif eqI 4 4 then _ else _) = _
  rw [show eqI 4 4 = true from rfl, cond_true]
  unfold g_p_validItem_j10
  rw [part32 hA tn left (by omega), obs, wi_id (x := (i : Int) + 1) (by omega) (by omega)]
  simp only [Bool.not_true, cond_false]
  exact hrec
theorem vitem_gen (n : Nat) (nd : GNode) (left' : Int) (hn : 1000 ≤ n) (hk : nd.Kind = 2) (h7 : nd.N = 7) (hname : nameB nd.Name = true) (hl : nd.Kids.length ≤ 12)
  (h : loopN (fun recl8 (v : Bool × Int × Int) => g_p_validItem_l8 n nd recl8 v.1 v.2.1 v.2.2) n (false, 0, 1498 - (nd.Kids.length : Int)) = some (true, left')) : g_p_validItem n nd 1498 = some (true, left') := by
 have e1 : wi (1498 - lenI (List.map idc nd.Kids)) = 1498 - (nd.Kids.length : Int) := by
  simp only [lenI, List.length_map]
  rw [wi_id (by omega) (by omega)]
 unfold g_p_validItem
 rw [e1, hk, h7, b_goodName n nd.Name hn, hname, show ltI (1498 - (nd.Kids.length : Int)) 0 = false from ltI_f (by omega), show (!eqI 2 2) = false from rfl, show ltI 7 1 = false from rfl, show ltI 7 7 = false from rfl]
 simp only [cond_false, obs, Bool.not_true]
 exact h
theorem vitem32 (t : GTf) (tn : Nat) (hn : nameB t.Name = true) (hl : t.Articles.length ≤ 12) (ha : ∀ a ∈ t.Articles, artB a = true) : ∃ left', g_p_validItem N0 (itF tn t) 1498 = some (true, left') := by
 have hlen : (itF tn t).Kids.length = t.Articles.length := by simp only [itF, List.length_map]
 have hN : 1000 ≤ N0 := by unfold N0; omega
 have hN2 : t.Articles.length < N0 := by unfold N0; omega
 obtain ⟨left', h⟩ := vitem_loop t tn hl ha t.Articles.length 0 N0 false (1498 - (t.Articles.length : Int)) (by omega) hN2 (by omega) (by omega)
 refine ⟨left', vitem_gen N0 (itF tn t) left' hN rfl rfl hn (by rw [hlen]; exact hl) ?_⟩
 rw [hlen]
 exact h
theorem valid32 (t : GTf) (tn : Nat) (hn : nameB t.Name = true) (hl : t.Articles.length ≤ 12) (ha : ∀ a ∈ t.Articles, artB a = true) : g_p_Valid N0 (⟨1, [], 0, 0, [GNode.cs (itF tn t)]⟩ : GNode) = some true := by
 obtain ⟨left', hitem⟩ := vitem32 t tn hn hl ha
 obtain ⟨k, hk⟩ : ∃ k : Nat, N0 = k + 1 + 1 := ⟨36893488147419103230, by unfold N0; omega⟩
 generalize N0 = n at hitem hk ⊢
 unfold g_p_Valid
 have e1 : ((bif !eqI 1 1 then some true else bif !eqS [] [] then some true else bif !eqI 0 0 then some true else some (ltI (wi (1499 - lenI (List.map idc [GNode.cs (itF tn t)]))) 0))) = some false := rfl
 have e2 : wi (1499 - lenI (List.map idc [GNode.cs (itF tn t)])) = 1498 := rfl
 simp only
 rw [e1, obs, cond_false, e2]
 have key : ∀ (q : Nat), loopN (fun recl5 (v : Int × Int) => g_p_Valid_l5 n (⟨1, [], 0, 0, [GNode.cs (itF tn t)]⟩ : GNode) recl5 v.1 v.2) (q + 1 + 1) (0, 1498) = some true := by
  intro q
  rw [loopN_s]
  unfold g_p_Valid_l5
  simp only
  rw [show ltI 0 (lenI (List.map idc [GNode.cs (itF tn t)])) = true from rfl, cond_true, show getI [GNode.cs (itF tn t)] 0 = some (GNode.cs (itF tn t)) from rfl]
  show ((GNode.of (GNode.cs (itF tn t))).bind _) = _
  rw [show GNode.of (GNode.cs (itF tn t)) = some (itF tn t) from of_cs' _ _ _ _ _, obs, hitem, obs]
  rfl
 have := key k
 rw [← hk] at this
 exact this
theorem tarB_le1 : ∀ (l : List GAr) (k : Int), tarB k l = true → k ≤ 1
 | [], k, h => by simpa [tarB] using h
 | a :: r, k, h => by
  simp only [tarB, bae] at h
  have := tarB_le1 r _ h.2
  split at this <;> omega
theorem arts_loop (nd : GNode) (l : List GAr) (tn : Nat) (hl : l.length ≤ 12) (hkids : nd.Kids = l.map fun a => GNode.cs (ndF tn a)) : ∀ (m i n : Nat) (acc : List GAr) (tax : Bool) (k : Int), i + m = l.length → m < n → acc = l.take i → 0 ≤ k → tax = decide (1 ≤ k) → tarB k (l.drop i) = true →
  loopN (fun recl1 (v : List GAr × Bool × Int) => g_t_articles_l1 N0 nd recl1 v.1 v.2.1 v.2.2) n (acc, tax, (i : Int)) = some (l, ⟨0, 0⟩)
 | 0, i, n, acc, tax, k, h1, h2, h3, h4, h5, h6 => by
  obtain ⟨n, rfl⟩ : ∃ q, n = q + 1 := ⟨n - 1, by omega⟩
  rw [loopN_s]
  unfold g_t_articles_l1
  simp only
  rw [show ltI (i : Int) (lenI (List.map idc nd.Kids)) = false from ltI_f (by simp only [hkids, lenI, List.length_map]; omega), cond_false, h3, List.take_of_length_le (by omega)]
 | m + 1, i, n, acc, tax, k, h1, h2, h3, h4, h5, h6 => by
  obtain ⟨n, rfl⟩ : ∃ q, n = q + 1 := ⟨n - 1, by omega⟩
  have hxa : l[i]? = some (l[i]'(by omega)) := List.getElem?_eq_getElem (by omega)
  have hdrop : l.drop i = (l[i]'(by omega)) :: l.drop (i + 1) := List.drop_eq_getElem_cons (by omega)
  generalize l[i]'(by omega) = a at hxa hdrop
  rw [hdrop, tarB, bae] at h6
  obtain ⟨hA, hT⟩ := h6
  have hk1 := tarB_le1 _ _ hT
  have hx : nd.Kids[i]? = some (GNode.cs (ndF tn a)) := by simp only [hkids, List.getElem?_map, hxa, Option.map_some]
  have hlen : acc.length = i := by rw [h3, List.length_take]; omega
  have hrec := arts_loop nd l tn hl hkids m (i + 1) n (acc ++ [a]) (decide (1 ≤ if a.Kind = 6 then k + 1 else k)) (if a.Kind = 6 then k + 1 else k) (by omega) (by omega) (by rw [List.take_add_one, hxa, h3]; rfl) (by split <;> omega) rfl hT
  rw [loopN_s]
  generalize loopN (fun recl1 (v : List GAr × Bool × Int) => g_t_articles_l1 N0 nd recl1 v.1 v.2.1 v.2.2) n = rec at hrec ⊢
  have hread : g_t_read N0 (ndF tn a) = some (a, true) := read32 hA tn
  have hof := of_nd tn a
  have hK : (ndF tn a).Kind = 4 := rfl
  unfold g_t_articles_l1
  simp only
  rw [show ltI (i : Int) (lenI (List.map idc nd.Kids)) = true from ltI_t (by simp only [hkids, lenI, List.length_map]; omega), cond_true, getI_nat, hx]
  show ((GNode.of (GNode.cs (ndF tn a))).bind _) = _
  rw [hof, obs, hK, show eqI 4 3 = false from rfl, cond_false, hread]
  rw [show eqI (lenI (List.map GAr.cs acc)) 12 = false from by rw [eqI_d]; exact dzF (by simp only [lenI, List.length_map]; omega), cond_false, obs]
  simp only [Bool.not_true, cond_false]
  rw [b_article, hA]
  simp only [Bool.not_true, cond_false, obs]
  have hroom : roomB (acc ++ [a]).length 56 = true := by unfold roomB; rw [List.length_append]; exact dzT (by simp; omega)
  rw [hroom, wi_id (x := (i : Int) + 1) (by omega) (by omega), eqI_d]
  by_cases h : a.Kind = 6
  ·rw [if_pos h] at hk1 hrec
   have ht : tax = false := by rw [h5]; exact dzF (by omega)
   rw [dzT (show 1 ≤ k + 1 by omega)] at hrec
   rw [dzT h, ht]
   exact hrec
  ·rw [if_neg h] at hrec
   rw [dzF h, ← h5] at *
   cases tax
   ·exact hrec
   ·exact hrec
theorem arts32 (nd : GNode) (l : List GAr) (tn : Nat) (hl : l.length ≤ 12) (hkids : nd.Kids = l.map fun a => GNode.cs (ndF tn a)) (ht : tarB 0 l = true) : g_t_articles N0 nd = some (l, ⟨0, 0⟩) := by
 have hN2 : l.length < N0 := by unfold N0; omega
 have := arts_loop nd l tn hl hkids l.length 0 N0 [] false 0 (by omega) hN2 rfl (by omega) rfl ht
 unfold g_t_articles
 exact this
theorem build_gen (n : Nat) (nd : GNode) (l : List GAr) (hof : GNode.of (GNode.cs nd) = some nd) (h7 : nd.N = 7) (hv : g_p_Valid n (⟨1, [], 0, 0, [GNode.cs nd]⟩ : GNode) = some true) (ha : g_t_articles n nd = some (l, ⟨0, 0⟩)) (hn : ∃ q, n = q + 1 + 1) :
  g_t_Build n (⟨1, [], 0, 0, [GNode.cs nd]⟩ : GNode) = some ([⟨nd.Name, l⟩], []) := by
 have key : ∀ (q : Nat), loopN (fun recl3 (v : (List GTf) × (List GDg) × Int × Int × (List ((List UInt8) × Bool))) => g_t_Build_l3 n (⟨1, [], 0, 0, [GNode.cs nd]⟩ : GNode) recl3 v.1 v.2.1 v.2.2.1 v.2.2.2.1 v.2.2.2.2) (q + 1 + 1) ([], [], 0, 0, []) = some ([⟨nd.Name, l⟩], []) := by
  intro q
  rw [loopN_s]
  unfold g_t_Build_l3
  simp only
  rw [show ltI 0 (lenI (List.map idc [GNode.cs nd])) = true from rfl, cond_true, show getI [GNode.cs nd] 0 = some (GNode.cs nd) from rfl]
  show ((GNode.of (GNode.cs nd)).bind _) = _
  rw [hof, obs, h7, show (!eqI 7 7) = false from rfl, cond_false, show mgetD me_msb nd.Name false [] = false from rfl, cond_false, show leI 8 0 = false from rfl, cond_false, ha]
  rfl
 obtain ⟨q, hq⟩ := hn
 have hk := key q
 rw [← hq] at hk
 unfold g_t_Build
 rw [hv]
 simp only [obs, Bool.not_true, cond_false]
 show ((loopN (fun recl3 (v : (List GTf) × (List GDg) × Int × Int × (List ((List UInt8) × Bool))) => g_t_Build_l3 n (⟨1, [], 0, 0, [GNode.cs nd]⟩ : GNode) recl3 v.1 v.2.1 v.2.2.1 v.2.2.2.1 v.2.2.2.2) n ([], [], 0, 0, [])).bind _) = _
 rw [hk]
 rfl
theorem same_loop (a : GTf) (hl : a.Articles.length ≤ 900) : ∀ (m i n : Nat), i + m = a.Articles.length → m < n → loopN (fun recl3 (l3 : Int) => g_ref32_Same_l3 a a recl3 l3) n (i : Int) = some true
 | 0, i, n, h1, h2 => by
  obtain ⟨n, rfl⟩ : ∃ q, n = q + 1 := ⟨n - 1, by omega⟩
  rw [loopN_s]
  unfold g_ref32_Same_l3
  rw [show ltI (i : Int) (lenI (List.map GAr.cs a.Articles)) = false from ltI_f (by simp only [lenI, List.length_map]; omega), cond_false]
 | m + 1, i, n, h1, h2 => by
  obtain ⟨n, rfl⟩ : ∃ q, n = q + 1 := ⟨n - 1, by omega⟩
  have hrec := same_loop a hl m (i + 1) n (by omega) (by omega)
  rw [loopN_s]
  generalize loopN (fun recl3 (l3 : Int) => g_ref32_Same_l3 a a recl3 l3) n = rec at hrec ⊢
  unfold g_ref32_Same_l3
  have hx : a.Articles[i]? = some (a.Articles[i]'(by omega)) := List.getElem?_eq_getElem (by omega)
  rw [show ltI (i : Int) (lenI (List.map GAr.cs a.Articles)) = true from ltI_t (by simp only [lenI, List.length_map]; omega), cond_true, getI_nat, hx]
  simp only [obs, eqI_d, decide_true, Bool.and_self, opq_d, Bool.not_true, cond_false]
  rw [wi_id (x := (i : Int) + 1) (by omega) (by omega)]
  exact hrec
theorem same32 (n : Nat) (a : GTf) (hn : 1000 ≤ n) (hl : a.Articles.length ≤ 900) : g_ref32_Same n a a = some true := by
 have := same_loop a hl a.Articles.length 0 n (by omega) (by omega)
 unfold g_ref32_Same
 rw [show eqS a.Name a.Name = true from by simp [eqS], eqI_d, dzT rfl]
 simp only [Bool.not_true, cond_false, obs]
 exact this
theorem few32 (n : Nat) (t : GTf) : ∃ b, g_ref32_Few n t = some b ∧ (b = true → t.Name.length ≤ 900) := by
 unfold g_ref32_Few
 simp only [cond_some, lenI, List.length_map, leI]
 refine ⟨_, rfl, fun h => ?_⟩
 simp [Bool.cond_eq_ite] at h
 omega
theorem texts32_plain (t : GTf) (x : Int) (hx : u8b x) : g_law32_TariffTexts 36893488147419103232 t x = some true := by
 have hx0 : 0 ≤ x ∧ x ≤ 255 := hx
 have hN : (36893488147419103232 : Nat) = N0 := rfl
 have hh : g_law32_head N0 = some true := head32_big
 have h1000 : 1000 ≤ N0 := by unfold N0; omega
 have hq : ∃ q, N0 = q + 1 + 1 := ⟨36893488147419103230, by unfold N0; omega⟩
 rw [hN]
 obtain ⟨b, hb, hfew⟩ := few32 N0 t
 obtain ⟨tn, rfl⟩ : ∃ tn : Nat, x = (tn : Int) := ⟨x.toNat, by omega⟩
 have hmain : tariffB t = true → g_law32_Item N0 t (tn : Int) = some (itF tn t) ∧ g_t_Build N0 (⟨1, [], 0, 0, [GNode.cs (itF tn t)]⟩ : GNode) = some ([t], []) ∧ t.Articles.length ≤ 12 := by
  intro h
  have h0 := h
  simp only [tariffB, bae, decide_eq_true_eq] at h
  obtain ⟨⟨q1, q2⟩, q3⟩ := h
  have hall : ∀ a ∈ t.Articles, artB a = true := by
   have gen : ∀ (l : List GAr) (k : Int), tarB k l = true → ∀ a ∈ l, artB a = true := by
    intro l
    induction l with
    | nil => intro k _ a ha; cases ha
    | cons y l ih =>
     intro k h a ha
     simp only [tarB, bae] at h
     rcases List.mem_cons.1 ha with rfl | ha
     ·exact h.1
     ·exact ih _ h.2 a ha
   exact gen _ _ q3
  exact ⟨item32 t tn (by omega) q2 hall, build_gen N0 (itF tn t) t.Articles (of_cs' _ _ _ _ _) rfl (valid32 t tn q1 q2 hall) (arts32 (itF tn t) t.Articles tn q2 rfl q3) hq, q2⟩
 generalize N0 = n at hb hh h1000 hmain ⊢
 unfold g_law32_TariffTexts
 rw [hh, hb]
 simp only [obs]
 cases b
 ·rfl
 rw [r_tariff n t h1000 (hfew rfl)]
 cases ht : tariffB t
 ·rfl
 obtain ⟨hi, hbu, hl⟩ := hmain ht
 rw [wi_id (x := (tn : Int)) (by omega) (by omega), hi]
 simp only [Bool.not_true, cond_false, obs]
 rw [hbu]
 simp only [obs]
 rw [show eqI (lenI (List.map GDg.cs [])) 0 = true from rfl, show eqI (lenI (List.map GTf.cs [t])) 1 = true from rfl, show getI [t] 0 = some t from rfl]
 simp only [cond_true, obs]
 rw [same32 n t h1000 (by omega), b_tariff n t h1000, ht]
 rfl
end Go.Proofs
namespace Go.Proofs.YtkgamjjfjekgnaaGreat
open Go Go.Abs Go.Proofs
theorem tariffTexts_holds : Rows.TariffTextsSaid :=
 tariffTexts_said (fun t x _ h => ⟨_, texts32_plain t x h⟩)
end Go.Proofs.YtkgamjjfjekgnaaGreat
