/-
  A part of the proof of a statement of the seat Ytgehgobiibddaaa.
-/
import Derived.Test.YtgehgobiibddaaaMat03
namespace Go.Proofs
open Go Go.Abs
set_option maxRecDepth 100000
set_option linter.unusedVariables false
theorem g_auditor_examined_offset_ok (n : Nat) (a0e : GAuditorExamined) (a1minute : Int) : ∀ r, g_auditor_examined_offset n a0e a1minute = some r → PCall Try.prog 88 [.eptr [VS a0e.Claim.Tariff.Name, .sl 7 (List.map GArticle.cs a0e.Claim.Tariff.Articles), VI a0e.Claim.Calendar.Offset, .sl 2 (List.map GChange.cs a0e.Claim.Calendar.Changes), .sl 1 (List.map ci a0e.Claim.Calendar.Holidays), .sl 5 (List.map GReading.cs a0e.Claim.Readings), VU a0e.Claim.Seed, VI a0e.Claim.Session.From, VI a0e.Claim.Session.To, VI a0e.Claim.Session.End, .sl 2 (List.map GSlice.cs a0e.Claim.Session.Slices), .sl 2 (List.map GLine.cs a0e.Claim.Bill.Lines), VI a0e.Claim.Bill.Net, VI a0e.Claim.Bill.Tax, VI a0e.Claim.Bill.Total, VI a0e.follows.From, VI a0e.follows.To, VI a0e.follows.End, .sl 2 (List.map GSlice.cs a0e.follows.Slices), .sl 2 (List.map GLine.cs a0e.bill.Lines), VI a0e.bill.Net, VI a0e.bill.Tax, VI a0e.bill.Total, VI a0e.rate], I a1minute] (.ret (I r)) := by
 refine pcall_sim (X := fun r : Int => AEnd.ret (I r)) Try.func88 rfl Try.ntmps88 rfl ?_
 unfold g_auditor_examined_offset
 refine sim_run Try.fm ⟨[0, 1, 4], [], [], []⟩ ⟨[(0, .eptr [VS a0e.Claim.Tariff.Name, .sl 7 (List.map GArticle.cs a0e.Claim.Tariff.Articles), VI a0e.Claim.Calendar.Offset, .sl 2 (List.map GChange.cs a0e.Claim.Calendar.Changes), .sl 1 (List.map ci a0e.Claim.Calendar.Holidays), .sl 5 (List.map GReading.cs a0e.Claim.Readings), VU a0e.Claim.Seed, VI a0e.Claim.Session.From, VI a0e.Claim.Session.To, VI a0e.Claim.Session.End, .sl 2 (List.map GSlice.cs a0e.Claim.Session.Slices), .sl 2 (List.map GLine.cs a0e.Claim.Bill.Lines), VI a0e.Claim.Bill.Net, VI a0e.Claim.Bill.Tax, VI a0e.Claim.Bill.Total, VI a0e.follows.From, VI a0e.follows.To, VI a0e.follows.End, .sl 2 (List.map GSlice.cs a0e.follows.Slices), .sl 2 (List.map GLine.cs a0e.bill.Lines), VI a0e.bill.Net, VI a0e.bill.Tax, VI a0e.bill.Total, VI a0e.rate]), (1, I a1minute), (4, I 0)], []⟩ krf ?_
 refine sim_run Try.fm ⟨[0, 1, 4, 5], [], [], []⟩ ⟨[(0, .eptr [VS a0e.Claim.Tariff.Name, .sl 7 (List.map GArticle.cs a0e.Claim.Tariff.Articles), VI a0e.Claim.Calendar.Offset, .sl 2 (List.map GChange.cs a0e.Claim.Calendar.Changes), .sl 1 (List.map ci a0e.Claim.Calendar.Holidays), .sl 5 (List.map GReading.cs a0e.Claim.Readings), VU a0e.Claim.Seed, VI a0e.Claim.Session.From, VI a0e.Claim.Session.To, VI a0e.Claim.Session.End, .sl 2 (List.map GSlice.cs a0e.Claim.Session.Slices), .sl 2 (List.map GLine.cs a0e.Claim.Bill.Lines), VI a0e.Claim.Bill.Net, VI a0e.Claim.Bill.Tax, VI a0e.Claim.Bill.Total, VI a0e.follows.From, VI a0e.follows.To, VI a0e.follows.End, .sl 2 (List.map GSlice.cs a0e.follows.Slices), .sl 2 (List.map GLine.cs a0e.bill.Lines), VI a0e.bill.Net, VI a0e.bill.Tax, VI a0e.bill.Total, VI a0e.rate]), (1, I a1minute), (4, I 0), (5, I a0e.Claim.Calendar.Offset)], []⟩ krf ?_
 refine sim_seq ?_
 refine sim_run Try.fm ⟨[1, 4, 5, 19, 20, 21], [], [], []⟩ ⟨[(1, I a1minute), (4, I 0), (5, I a0e.Claim.Calendar.Offset), (19, .p (.sl 2 (List.map GChange.cs a0e.Claim.Calendar.Changes))), (20, I (lenI (List.map GChange.cs a0e.Claim.Calendar.Changes))), (21, I 0)], []⟩ krf ?_
 refine sim_block ?_
 refine sim_loop (fun (l1_1, l1_2) => ⟨[(1, I a1minute), (4, I 0), (5, I l1_1), (19, .p (.sl 2 (List.map GChange.cs a0e.Claim.Calendar.Changes))), (20, I (lenI (List.map GChange.cs a0e.Claim.Calendar.Changes))), (21, I l1_2)], []⟩ : (Int × Int) → St) (weak_shr (K := ⟨[1, 4, 5, 19, 20, 21], [], [], []⟩) krf) ?_
 rintro recl1 ⟨l1_1, l1_2⟩
 show SimE (g_auditor_examined_offset_l1 a0e a1minute recl1 l1_1 l1_2) _ _ _ _ _ _
 unfold g_auditor_examined_offset_l1
 refine sim_run Try.fm ⟨[1, 4, 5, 19, 20, 21, 22], [], [], []⟩ ⟨[(1, I a1minute), (4, I 0), (5, I l1_1), (19, .p (.sl 2 (List.map GChange.cs a0e.Claim.Calendar.Changes))), (20, I (lenI (List.map GChange.cs a0e.Claim.Calendar.Changes))), (21, I l1_2), (22, B (ltI l1_2 (lenI (List.map GChange.cs a0e.Claim.Calendar.Changes))))], []⟩ krf ?_
 refine sim_seq ?_
 refine sim_cond (ltI l1_2 (lenI (List.map GChange.cs a0e.Claim.Calendar.Changes))) krf ?_ ?_
 ·refine sim_skip ?_
  refine sq_nk ⟨[1, 4, 5, 19, 20, 21], [], [], []⟩ ⟨[(1, I a1minute), (4, I 0), (5, I l1_1), (19, .p (.sl 2 (List.map GChange.cs a0e.Claim.Calendar.Changes))), (20, I (lenI (List.map GChange.cs a0e.Claim.Calendar.Changes))), (21, I l1_2)], []⟩ krf ?_
  refine sim_seq ?_
  refine sim_block ?_
  refine sim_seq ?_
  refine sim_reg ?_
  refine xs_get krf krf (aop_idx (e := 89) (S := 2) (enc := GChange.cs) (l := a0e.Claim.Calendar.Changes) (k := .i64) (n := l1_2) (sv := .p (.sl 2 (List.map GChange.cs a0e.Claim.Calendar.Changes))) rfl krf krf krf krf krf) (fun x2 => ?_)
  refine xs_run 3 krf ?_
  refine xs_end ?_
  refine sq_nk ⟨[1, 4, 5, 7, 19, 20, 21], [7], [], []⟩ ⟨[(1, I a1minute), (4, I 0), (5, I l1_1), (7, .ptr 7 0), (19, .p (.sl 2 (List.map GChange.cs a0e.Claim.Calendar.Changes))), (20, I (lenI (List.map GChange.cs a0e.Claim.Calendar.Changes))), (21, I l1_2)], [(7, .box 89 (bxc (GChange.cs x2)))]⟩ krf ?_
  refine sim_run Try.fm ⟨[1, 4, 5, 7, 19, 20, 21, 28], [7], [], []⟩ ⟨[(1, I a1minute), (4, I 0), (5, I l1_1), (7, .ptr 7 0), (19, .p (.sl 2 (List.map GChange.cs a0e.Claim.Calendar.Changes))), (20, I (lenI (List.map GChange.cs a0e.Claim.Calendar.Changes))), (21, I l1_2), (28, B (leI x2.At a1minute))], [(7, .box 89 (bxc (GChange.cs x2)))]⟩ krf ?_
  refine sim_cond (leI x2.At a1minute) krf ?_ ?_
  ·refine sim_last Try.fm krf ?_
   refine bq_n ?_
   refine sq_nk ⟨[1, 4, 5, 19, 20, 21], [], [], []⟩ ⟨[(1, I a1minute), (4, I 0), (5, I x2.Offset), (19, .p (.sl 2 (List.map GChange.cs a0e.Claim.Calendar.Changes))), (20, I (lenI (List.map GChange.cs a0e.Claim.Calendar.Changes))), (21, I l1_2)], []⟩ krf ?_
   refine sim_last Try.fm krf ?_
   exact kq_n (x2.Offset, wi (l1_2 + 1)) ⟨[1, 4, 5, 19, 20, 21], [], [], []⟩ krf
  ·refine sim_skip ?_
   refine bq_n ?_
   refine sq_nk ⟨[1, 4, 5, 19, 20, 21], [], [], []⟩ ⟨[(1, I a1minute), (4, I 0), (5, I l1_1), (19, .p (.sl 2 (List.map GChange.cs a0e.Claim.Calendar.Changes))), (20, I (lenI (List.map GChange.cs a0e.Claim.Calendar.Changes))), (21, I l1_2)], []⟩ krf ?_
   refine sim_last Try.fm krf ?_
   exact kq_n (l1_1, wi (l1_2 + 1)) ⟨[1, 4, 5, 19, 20, 21], [], [], []⟩ krf
 ·refine sim_exit ?_
  refine sq_x ?_
  refine kq_x ?_
  refine bq_hit ?_
  refine sq_nk ⟨[4, 5], [], [], []⟩ ⟨[(4, I 0), (5, I l1_1)], []⟩ krf ?_
  refine sim_run Try.fm ⟨[4], [], [], []⟩ ⟨[(4, I l1_1)], []⟩ krf ?_
  refine sim_ret ?_
  exact rq_ret (.id) krf krf krf
def g_auditor_examined_typeOf_j1 (a1day : Int) : Option Int :=
 cond (eqI (Int.tmod (wi (a1day + 7)) 7) 5)
  (some 1)
  (cond (eqI (Int.tmod (wi (a1day + 7)) 7) 6)
   (some 2)
   (some 0))
def g_auditor_examined_typeOf_l2 (a0e : GAuditorExamined) (a1day : Int) (recl2 : Int → Option Int) (l2 : Int) : Option Int :=
 cond (ltI l2 (lenI (List.map ci a0e.Claim.Calendar.Holidays)))
  ((getI a0e.Claim.Calendar.Holidays l2).bind fun x3 =>
  cond (eqI x3 a1day)
   (some 2)
   (recl2 (wi (l2 + 1))))
  (g_auditor_examined_typeOf_j1 a1day)
def g_auditor_examined_typeOf (n : Nat) (a0e : GAuditorExamined) (a1day : Int) : Option Int :=
 loopN (fun recl2 l2 => g_auditor_examined_typeOf_l2 a0e a1day recl2 l2) n 0
theorem g_auditor_examined_typeOf_ok (n : Nat) (a0e : GAuditorExamined) (a1day : Int) : ∀ r, g_auditor_examined_typeOf n a0e a1day = some r → PCall Try.prog 89 [.eptr [VS a0e.Claim.Tariff.Name, .sl 7 (List.map GArticle.cs a0e.Claim.Tariff.Articles), VI a0e.Claim.Calendar.Offset, .sl 2 (List.map GChange.cs a0e.Claim.Calendar.Changes), .sl 1 (List.map ci a0e.Claim.Calendar.Holidays), .sl 5 (List.map GReading.cs a0e.Claim.Readings), VU a0e.Claim.Seed, VI a0e.Claim.Session.From, VI a0e.Claim.Session.To, VI a0e.Claim.Session.End, .sl 2 (List.map GSlice.cs a0e.Claim.Session.Slices), .sl 2 (List.map GLine.cs a0e.Claim.Bill.Lines), VI a0e.Claim.Bill.Net, VI a0e.Claim.Bill.Tax, VI a0e.Claim.Bill.Total, VI a0e.follows.From, VI a0e.follows.To, VI a0e.follows.End, .sl 2 (List.map GSlice.cs a0e.follows.Slices), .sl 2 (List.map GLine.cs a0e.bill.Lines), VI a0e.bill.Net, VI a0e.bill.Tax, VI a0e.bill.Total, VI a0e.rate], I a1day] (.ret (I r)) := by
 refine pcall_sim (X := fun r : Int => AEnd.ret (I r)) Try.func89 rfl Try.ntmps89 rfl ?_
 unfold g_auditor_examined_typeOf
 refine sim_run Try.fm ⟨[0, 1, 4], [], [], []⟩ ⟨[(0, .eptr [VS a0e.Claim.Tariff.Name, .sl 7 (List.map GArticle.cs a0e.Claim.Tariff.Articles), VI a0e.Claim.Calendar.Offset, .sl 2 (List.map GChange.cs a0e.Claim.Calendar.Changes), .sl 1 (List.map ci a0e.Claim.Calendar.Holidays), .sl 5 (List.map GReading.cs a0e.Claim.Readings), VU a0e.Claim.Seed, VI a0e.Claim.Session.From, VI a0e.Claim.Session.To, VI a0e.Claim.Session.End, .sl 2 (List.map GSlice.cs a0e.Claim.Session.Slices), .sl 2 (List.map GLine.cs a0e.Claim.Bill.Lines), VI a0e.Claim.Bill.Net, VI a0e.Claim.Bill.Tax, VI a0e.Claim.Bill.Total, VI a0e.follows.From, VI a0e.follows.To, VI a0e.follows.End, .sl 2 (List.map GSlice.cs a0e.follows.Slices), .sl 2 (List.map GLine.cs a0e.bill.Lines), VI a0e.bill.Net, VI a0e.bill.Tax, VI a0e.bill.Total, VI a0e.rate]), (1, I a1day), (4, I 0)], []⟩ krf ?_
 refine sim_cps (fun _ => ⟨[(1, I a1day), (4, I 0)], []⟩ : Unit → St) (fun _ => g_auditor_examined_typeOf_j1 a1day) ?_ ?_
 ·rintro _
  show SimE (g_auditor_examined_typeOf_j1 a1day) _ _ _ _ _ _
  unfold g_auditor_examined_typeOf_j1
  refine sim_seq ?_
  refine sim_run Try.fm ⟨[4, 24], [], [], []⟩ ⟨[(4, I 0), (24, I (Int.tmod (wi (a1day + 7)) 7))], []⟩ krf ?_
  refine sim_block ?_
  refine sim_run Try.fm ⟨[4, 24, 25], [], [], []⟩ ⟨[(4, I 0), (24, I (Int.tmod (wi (a1day + 7)) 7)), (25, B (eqI (Int.tmod (wi (a1day + 7)) 7) 5))], []⟩ krf ?_
  refine sim_cond (eqI (Int.tmod (wi (a1day + 7)) 7) 5) krf ?_ ?_
  ·refine sim_run Try.fm ⟨[4], [], [], []⟩ ⟨[(4, I 1)], []⟩ krf ?_
   refine sim_ret ?_
   refine bq_r ?_
   refine sq_r ?_
   exact rq_ret (.id) krf krf krf
  ·refine sim_run Try.fm ⟨[4, 27], [], [], []⟩ ⟨[(4, I 0), (27, B (eqI (Int.tmod (wi (a1day + 7)) 7) 6))], []⟩ krf ?_
   refine sim_cond (eqI (Int.tmod (wi (a1day + 7)) 7) 6) krf ?_ ?_
   ·refine sim_run Try.fm ⟨[4], [], [], []⟩ ⟨[(4, I 2)], []⟩ krf ?_
    refine sim_ret ?_
    refine bq_r ?_
    refine sq_r ?_
    exact rq_ret (.id) krf krf krf
   ·refine sim_skip ?_
    refine bq_n ?_
    refine sq_nk ⟨[4], [], [], []⟩ ⟨[(4, I 0)], []⟩ krf ?_
    refine sim_run Try.fm ⟨[4], [], [], []⟩ ⟨[(4, I 0)], []⟩ krf ?_
    refine sim_ret ?_
    exact rq_ret (.id) krf krf krf
 ·refine sim_run Try.fm ⟨[1, 4, 12, 13, 14], [], [], []⟩ ⟨[(1, I a1day), (4, I 0), (12, .p (.sl 1 (List.map ci a0e.Claim.Calendar.Holidays))), (13, I (lenI (List.map ci a0e.Claim.Calendar.Holidays))), (14, I 0)], []⟩ krf ?_
  refine sim_block ?_
  refine sim_loop (fun l2 => ⟨[(1, I a1day), (4, I 0), (12, .p (.sl 1 (List.map ci a0e.Claim.Calendar.Holidays))), (13, I (lenI (List.map ci a0e.Claim.Calendar.Holidays))), (14, I l2)], []⟩ : Int → St) (weak_shr (K := ⟨[1, 4, 12, 13, 14], [], [], []⟩) krf) ?_
  rintro recl2 l2
  show SimE (g_auditor_examined_typeOf_l2 a0e a1day recl2 l2) _ _ _ _ _ _
  unfold g_auditor_examined_typeOf_l2
  refine sim_run Try.fm ⟨[1, 4, 12, 13, 14, 15], [], [], []⟩ ⟨[(1, I a1day), (4, I 0), (12, .p (.sl 1 (List.map ci a0e.Claim.Calendar.Holidays))), (13, I (lenI (List.map ci a0e.Claim.Calendar.Holidays))), (14, I l2), (15, B (ltI l2 (lenI (List.map ci a0e.Claim.Calendar.Holidays))))], []⟩ krf ?_
  refine sim_seq ?_
  refine sim_cond (ltI l2 (lenI (List.map ci a0e.Claim.Calendar.Holidays))) krf ?_ ?_
  ·refine sim_skip ?_
   refine sq_nk ⟨[1, 4, 12, 13, 14], [], [], []⟩ ⟨[(1, I a1day), (4, I 0), (12, .p (.sl 1 (List.map ci a0e.Claim.Calendar.Holidays))), (13, I (lenI (List.map ci a0e.Claim.Calendar.Holidays))), (14, I l2)], []⟩ krf ?_
   refine sim_seq ?_
   refine sim_block ?_
   refine sim_seq ?_
   refine sim_reg ?_
   refine xs_get krf krf (aop_idx (e := 3) (S := 1) (enc := ci) (l := a0e.Claim.Calendar.Holidays) (k := .i64) (n := l2) (sv := .p (.sl 1 (List.map ci a0e.Claim.Calendar.Holidays))) rfl krf krf krf krf krf) (fun x3 => ?_)
   refine xs_run 2 krf ?_
   refine xs_end ?_
   refine sq_nk ⟨[1, 4, 6, 12, 13, 14], [], [], []⟩ ⟨[(1, I a1day), (4, I 0), (6, I x3), (12, .p (.sl 1 (List.map ci a0e.Claim.Calendar.Holidays))), (13, I (lenI (List.map ci a0e.Claim.Calendar.Holidays))), (14, I l2)], []⟩ krf ?_
   refine sim_run Try.fm ⟨[1, 4, 12, 13, 14, 20], [], [], []⟩ ⟨[(1, I a1day), (4, I 0), (12, .p (.sl 1 (List.map ci a0e.Claim.Calendar.Holidays))), (13, I (lenI (List.map ci a0e.Claim.Calendar.Holidays))), (14, I l2), (20, B (eqI x3 a1day))], []⟩ krf ?_
   refine sim_cond (eqI x3 a1day) krf ?_ ?_
   ·refine sim_run Try.fm ⟨[4], [], [], []⟩ ⟨[(4, I 2)], []⟩ krf ?_
    refine sim_ret ?_
    refine bq_r ?_
    refine sq_r ?_
    refine kq_r ?_
    refine bq_r ?_
    refine kq_r ?_
    exact rq_ret (.id) krf krf krf
   ·refine sim_skip ?_
    refine bq_n ?_
    refine sq_nk ⟨[1, 4, 12, 13, 14], [], [], []⟩ ⟨[(1, I a1day), (4, I 0), (12, .p (.sl 1 (List.map ci a0e.Claim.Calendar.Holidays))), (13, I (lenI (List.map ci a0e.Claim.Calendar.Holidays))), (14, I l2)], []⟩ krf ?_
    refine sim_last Try.fm krf ?_
    exact kq_n (wi (l2 + 1)) ⟨[1, 4, 12, 13, 14], [], [], []⟩ krf
  ·refine sim_exit ?_
   refine sq_x ?_
   refine kq_x ?_
   refine bq_hit ?_
   exact kq_n (k := fun _ => g_auditor_examined_typeOf_j1 a1day) () ⟨[1, 4], [], [], []⟩ krf
def g_auditor_examined_applies (n : Nat) (a0e : GAuditorExamined) (a1a : GArticle) (a2minute : Int) : Option Bool :=
 (g_auditor_examined_offset n a0e a2minute).bind fun r1 =>
 cond (leI a1a.From (Int.tmod (wi ((wi (a2minute + r1)) + 1440)) 1440))
  (cond (ltI (Int.tmod (wi ((wi (a2minute + r1)) + 1440)) 1440) a1a.To)
   ((g_auditor_examined_typeOf n a0e (wi ((wi (Int.tdiv (wi ((wi (a2minute + r1)) + 1440)) 1440)) - 1))).bind fun r4 =>
   cond (!ltI r4 0) (
    some (!eqI (bAnd .i64 a1a.Days (shlI .i64 1 r4)) 0)) none)
   (some false))
  (some false)
theorem g_auditor_examined_applies_ok (n : Nat) (a0e : GAuditorExamined) (a1a : GArticle) (a2minute : Int) : ∀ r, g_auditor_examined_applies n a0e a1a a2minute = some r → PCall Try.prog 81 [.eptr [VS a0e.Claim.Tariff.Name, .sl 7 (List.map GArticle.cs a0e.Claim.Tariff.Articles), VI a0e.Claim.Calendar.Offset, .sl 2 (List.map GChange.cs a0e.Claim.Calendar.Changes), .sl 1 (List.map ci a0e.Claim.Calendar.Holidays), .sl 5 (List.map GReading.cs a0e.Claim.Readings), VU a0e.Claim.Seed, VI a0e.Claim.Session.From, VI a0e.Claim.Session.To, VI a0e.Claim.Session.End, .sl 2 (List.map GSlice.cs a0e.Claim.Session.Slices), .sl 2 (List.map GLine.cs a0e.Claim.Bill.Lines), VI a0e.Claim.Bill.Net, VI a0e.Claim.Bill.Tax, VI a0e.Claim.Bill.Total, VI a0e.follows.From, VI a0e.follows.To, VI a0e.follows.End, .sl 2 (List.map GSlice.cs a0e.follows.Slices), .sl 2 (List.map GLine.cs a0e.bill.Lines), VI a0e.bill.Net, VI a0e.bill.Tax, VI a0e.bill.Total, VI a0e.rate], ag (GArticle.cs a1a), I a2minute] (.ret (B r)) := by
 refine pcall_sim (X := fun r : Bool => AEnd.ret (B r)) Try.func81 rfl Try.ntmps81 rfl ?_
 unfold g_auditor_examined_applies
 refine sim_run Try.fm ⟨[0, 2, 4], [4], [], []⟩ ⟨[(0, .eptr [VS a0e.Claim.Tariff.Name, .sl 7 (List.map GArticle.cs a0e.Claim.Tariff.Articles), VI a0e.Claim.Calendar.Offset, .sl 2 (List.map GChange.cs a0e.Claim.Calendar.Changes), .sl 1 (List.map ci a0e.Claim.Calendar.Holidays), .sl 5 (List.map GReading.cs a0e.Claim.Readings), VU a0e.Claim.Seed, VI a0e.Claim.Session.From, VI a0e.Claim.Session.To, VI a0e.Claim.Session.End, .sl 2 (List.map GSlice.cs a0e.Claim.Session.Slices), .sl 2 (List.map GLine.cs a0e.Claim.Bill.Lines), VI a0e.Claim.Bill.Net, VI a0e.Claim.Bill.Tax, VI a0e.Claim.Bill.Total, VI a0e.follows.From, VI a0e.follows.To, VI a0e.follows.End, .sl 2 (List.map GSlice.cs a0e.follows.Slices), .sl 2 (List.map GLine.cs a0e.bill.Lines), VI a0e.bill.Net, VI a0e.bill.Tax, VI a0e.bill.Total, VI a0e.rate]), (2, I a2minute), (4, .ptr 4 0)], [(4, .box 75 (bxc (GArticle.cs a1a)))]⟩ krf ?_
 refine sim_seq ?_
 refine sim_reg ?_
 refine xs_run 3 krf ?_
 refine xs_call [] krf (g_auditor_examined_offset_ok n a0e a2minute) krf krf (fun _ => by kernel_rfl) (fun r1 => ?_)
 refine xs_run 3 krf ?_
 refine xs_end ?_
 refine sq_nk ⟨[0, 4, 7], [4], [], []⟩ ⟨[(0, .eptr [VS a0e.Claim.Tariff.Name, .sl 7 (List.map GArticle.cs a0e.Claim.Tariff.Articles), VI a0e.Claim.Calendar.Offset, .sl 2 (List.map GChange.cs a0e.Claim.Calendar.Changes), .sl 1 (List.map ci a0e.Claim.Calendar.Holidays), .sl 5 (List.map GReading.cs a0e.Claim.Readings), VU a0e.Claim.Seed, VI a0e.Claim.Session.From, VI a0e.Claim.Session.To, VI a0e.Claim.Session.End, .sl 2 (List.map GSlice.cs a0e.Claim.Session.Slices), .sl 2 (List.map GLine.cs a0e.Claim.Bill.Lines), VI a0e.Claim.Bill.Net, VI a0e.Claim.Bill.Tax, VI a0e.Claim.Bill.Total, VI a0e.follows.From, VI a0e.follows.To, VI a0e.follows.End, .sl 2 (List.map GSlice.cs a0e.follows.Slices), .sl 2 (List.map GLine.cs a0e.bill.Lines), VI a0e.bill.Net, VI a0e.bill.Tax, VI a0e.bill.Total, VI a0e.rate]), (4, .ptr 4 0), (7, I (wi ((wi (a2minute + r1)) + 1440)))], [(4, .box 75 (bxc (GArticle.cs a1a)))]⟩ krf ?_
 refine sim_run Try.fm ⟨[0, 4, 8, 9], [4], [], []⟩ ⟨[(0, .eptr [VS a0e.Claim.Tariff.Name, .sl 7 (List.map GArticle.cs a0e.Claim.Tariff.Articles), VI a0e.Claim.Calendar.Offset, .sl 2 (List.map GChange.cs a0e.Claim.Calendar.Changes), .sl 1 (List.map ci a0e.Claim.Calendar.Holidays), .sl 5 (List.map GReading.cs a0e.Claim.Readings), VU a0e.Claim.Seed, VI a0e.Claim.Session.From, VI a0e.Claim.Session.To, VI a0e.Claim.Session.End, .sl 2 (List.map GSlice.cs a0e.Claim.Session.Slices), .sl 2 (List.map GLine.cs a0e.Claim.Bill.Lines), VI a0e.Claim.Bill.Net, VI a0e.Claim.Bill.Tax, VI a0e.Claim.Bill.Total, VI a0e.follows.From, VI a0e.follows.To, VI a0e.follows.End, .sl 2 (List.map GSlice.cs a0e.follows.Slices), .sl 2 (List.map GLine.cs a0e.bill.Lines), VI a0e.bill.Net, VI a0e.bill.Tax, VI a0e.bill.Total, VI a0e.rate]), (4, .ptr 4 0), (8, I (wi ((wi (Int.tdiv (wi ((wi (a2minute + r1)) + 1440)) 1440)) - 1))), (9, I (Int.tmod (wi ((wi (a2minute + r1)) + 1440)) 1440))], [(4, .box 75 (bxc (GArticle.cs a1a)))]⟩ krf ?_
 refine sim_seq ?_
 refine sim_drw Try.fm rfl ?_
 refine xs_run 5 krf ?_
 refine xs_split (leI a1a.From (Int.tmod (wi ((wi (a2minute + r1)) + 1440)) 1440)) (fun h2 => ?_) (fun h2 => ?_)
 ·refine xs_one (want_tt krf h2) krf ?_
  refine xs_run 5 krf ?_
  refine xs_split (ltI (Int.tmod (wi ((wi (a2minute + r1)) + 1440)) 1440) a1a.To) (fun h3 => ?_) (fun h3 => ?_)
  ·refine xs_one (want_tt krf h3) krf ?_
   refine xs_run 3 krf ?_
   refine xs_call [] krf (g_auditor_examined_typeOf_ok n a0e (wi ((wi (Int.tdiv (wi ((wi (a2minute + r1)) + 1440)) 1440)) - 1))) krf krf (fun _ => by kernel_rfl) (fun r4 => ?_)
   refine xs_if krf krf (aop_shl (k := .i64) (k' := .i64) (a := 1) (b := r4) rfl krf krf) ?_
   refine xs_run 4 krf ?_
   refine xs_endD krf ?_
   refine sq_nk ⟨[6], [], [], []⟩ ⟨[(6, B (!eqI (bAnd .i64 a1a.Days (shlI .i64 1 r4)) 0))], []⟩ krf ?_
   refine sim_ret ?_
   exact rq_ret (.id) krf krf krf
  ·refine xs_no (want_tf krf h3) krf ?_
   refine xs_run 9 krf ?_
   refine xs_endD krf ?_
   refine sq_nk ⟨[6], [], [], []⟩ ⟨[(6, B false)], []⟩ krf ?_
   refine sim_ret ?_
   exact rq_ret (.id) krf krf krf
 ·refine xs_no (want_tf krf h2) krf ?_
  refine xs_run 15 krf ?_
  refine xs_endD krf ?_
  refine sq_nk ⟨[6], [], [], []⟩ ⟨[(6, B false)], []⟩ krf ?_
  refine sim_ret ?_
  exact rq_ret (.id) krf krf krf
def g_auditor_examined_started_l1 (n : Nat) (a0e : GAuditorExamined) (a1a : GArticle) (a3to : Int) (recl1 : (Int × Int) → Option Int) (l1_1 : Int) (l1_2 : Int) : Option Int :=
 cond (ltI l1_2 a3to)
  ((g_auditor_examined_applies n a0e a1a l1_2).bind fun r2 =>
  cond r2
   (recl1 (wi (l1_1 + 1), wi (l1_2 + 1)))
   (recl1 (l1_1, wi (l1_2 + 1))))
  (cond (!eqI a1a.Unit 0) (
   some (wi (a1a.Price * (wi (Int.tdiv (wi ((wi ((maxI 0 l1_1) + a1a.Unit)) - 1)) a1a.Unit))))) none)
def g_auditor_examined_started (n : Nat) (a0e : GAuditorExamined) (a1a : GArticle) (a2from : Int) (a3to : Int) : Option Int :=
 loopN (fun recl1 (l1_1, l1_2) => g_auditor_examined_started_l1 n a0e a1a a3to recl1 l1_1 l1_2) n (wi (0 - a1a.Free), a2from)
theorem g_auditor_examined_started_ok (n : Nat) (a0e : GAuditorExamined) (a1a : GArticle) (a2from : Int) (a3to : Int) : ∀ r, g_auditor_examined_started n a0e a1a a2from a3to = some r → PCall Try.prog 82 [.eptr [VS a0e.Claim.Tariff.Name, .sl 7 (List.map GArticle.cs a0e.Claim.Tariff.Articles), VI a0e.Claim.Calendar.Offset, .sl 2 (List.map GChange.cs a0e.Claim.Calendar.Changes), .sl 1 (List.map ci a0e.Claim.Calendar.Holidays), .sl 5 (List.map GReading.cs a0e.Claim.Readings), VU a0e.Claim.Seed, VI a0e.Claim.Session.From, VI a0e.Claim.Session.To, VI a0e.Claim.Session.End, .sl 2 (List.map GSlice.cs a0e.Claim.Session.Slices), .sl 2 (List.map GLine.cs a0e.Claim.Bill.Lines), VI a0e.Claim.Bill.Net, VI a0e.Claim.Bill.Tax, VI a0e.Claim.Bill.Total, VI a0e.follows.From, VI a0e.follows.To, VI a0e.follows.End, .sl 2 (List.map GSlice.cs a0e.follows.Slices), .sl 2 (List.map GLine.cs a0e.bill.Lines), VI a0e.bill.Net, VI a0e.bill.Tax, VI a0e.bill.Total, VI a0e.rate], ag (GArticle.cs a1a), I a2from, I a3to] (.ret (I r)) := by
 refine pcall_sim (X := fun r : Int => AEnd.ret (I r)) Try.func82 rfl Try.ntmps82 rfl ?_
 unfold g_auditor_examined_started
 refine sim_run Try.fm ⟨[0, 2, 3, 5], [5], [], []⟩ ⟨[(0, .eptr [VS a0e.Claim.Tariff.Name, .sl 7 (List.map GArticle.cs a0e.Claim.Tariff.Articles), VI a0e.Claim.Calendar.Offset, .sl 2 (List.map GChange.cs a0e.Claim.Calendar.Changes), .sl 1 (List.map ci a0e.Claim.Calendar.Holidays), .sl 5 (List.map GReading.cs a0e.Claim.Readings), VU a0e.Claim.Seed, VI a0e.Claim.Session.From, VI a0e.Claim.Session.To, VI a0e.Claim.Session.End, .sl 2 (List.map GSlice.cs a0e.Claim.Session.Slices), .sl 2 (List.map GLine.cs a0e.Claim.Bill.Lines), VI a0e.Claim.Bill.Net, VI a0e.Claim.Bill.Tax, VI a0e.Claim.Bill.Total, VI a0e.follows.From, VI a0e.follows.To, VI a0e.follows.End, .sl 2 (List.map GSlice.cs a0e.follows.Slices), .sl 2 (List.map GLine.cs a0e.bill.Lines), VI a0e.bill.Net, VI a0e.bill.Tax, VI a0e.bill.Total, VI a0e.rate]), (2, I a2from), (3, I a3to), (5, .ptr 5 0)], [(5, .box 75 (bxc (GArticle.cs a1a)))]⟩ krf ?_
 refine sim_run Try.fm ⟨[0, 2, 3, 5, 9], [5], [], []⟩ ⟨[(0, .eptr [VS a0e.Claim.Tariff.Name, .sl 7 (List.map GArticle.cs a0e.Claim.Tariff.Articles), VI a0e.Claim.Calendar.Offset, .sl 2 (List.map GChange.cs a0e.Claim.Calendar.Changes), .sl 1 (List.map ci a0e.Claim.Calendar.Holidays), .sl 5 (List.map GReading.cs a0e.Claim.Readings), VU a0e.Claim.Seed, VI a0e.Claim.Session.From, VI a0e.Claim.Session.To, VI a0e.Claim.Session.End, .sl 2 (List.map GSlice.cs a0e.Claim.Session.Slices), .sl 2 (List.map GLine.cs a0e.Claim.Bill.Lines), VI a0e.Claim.Bill.Net, VI a0e.Claim.Bill.Tax, VI a0e.Claim.Bill.Total, VI a0e.follows.From, VI a0e.follows.To, VI a0e.follows.End, .sl 2 (List.map GSlice.cs a0e.follows.Slices), .sl 2 (List.map GLine.cs a0e.bill.Lines), VI a0e.bill.Net, VI a0e.bill.Tax, VI a0e.bill.Total, VI a0e.rate]), (2, I a2from), (3, I a3to), (5, .ptr 5 0), (9, I (wi (0 - a1a.Free)))], [(5, .box 75 (bxc (GArticle.cs a1a)))]⟩ krf ?_
 refine sim_seq ?_
 refine sim_run Try.fm ⟨[0, 3, 5, 9, 10], [5], [], []⟩ ⟨[(0, .eptr [VS a0e.Claim.Tariff.Name, .sl 7 (List.map GArticle.cs a0e.Claim.Tariff.Articles), VI a0e.Claim.Calendar.Offset, .sl 2 (List.map GChange.cs a0e.Claim.Calendar.Changes), .sl 1 (List.map ci a0e.Claim.Calendar.Holidays), .sl 5 (List.map GReading.cs a0e.Claim.Readings), VU a0e.Claim.Seed, VI a0e.Claim.Session.From, VI a0e.Claim.Session.To, VI a0e.Claim.Session.End, .sl 2 (List.map GSlice.cs a0e.Claim.Session.Slices), .sl 2 (List.map GLine.cs a0e.Claim.Bill.Lines), VI a0e.Claim.Bill.Net, VI a0e.Claim.Bill.Tax, VI a0e.Claim.Bill.Total, VI a0e.follows.From, VI a0e.follows.To, VI a0e.follows.End, .sl 2 (List.map GSlice.cs a0e.follows.Slices), .sl 2 (List.map GLine.cs a0e.bill.Lines), VI a0e.bill.Net, VI a0e.bill.Tax, VI a0e.bill.Total, VI a0e.rate]), (3, I a3to), (5, .ptr 5 0), (9, I (wi (0 - a1a.Free))), (10, I a2from)], [(5, .box 75 (bxc (GArticle.cs a1a)))]⟩ krf ?_
 refine sim_block ?_
 refine sim_loop (fun (l1_1, l1_2) => ⟨[(0, .eptr [VS a0e.Claim.Tariff.Name, .sl 7 (List.map GArticle.cs a0e.Claim.Tariff.Articles), VI a0e.Claim.Calendar.Offset, .sl 2 (List.map GChange.cs a0e.Claim.Calendar.Changes), .sl 1 (List.map ci a0e.Claim.Calendar.Holidays), .sl 5 (List.map GReading.cs a0e.Claim.Readings), VU a0e.Claim.Seed, VI a0e.Claim.Session.From, VI a0e.Claim.Session.To, VI a0e.Claim.Session.End, .sl 2 (List.map GSlice.cs a0e.Claim.Session.Slices), .sl 2 (List.map GLine.cs a0e.Claim.Bill.Lines), VI a0e.Claim.Bill.Net, VI a0e.Claim.Bill.Tax, VI a0e.Claim.Bill.Total, VI a0e.follows.From, VI a0e.follows.To, VI a0e.follows.End, .sl 2 (List.map GSlice.cs a0e.follows.Slices), .sl 2 (List.map GLine.cs a0e.bill.Lines), VI a0e.bill.Net, VI a0e.bill.Tax, VI a0e.bill.Total, VI a0e.rate]), (3, I a3to), (5, .ptr 5 0), (9, I l1_1), (10, I l1_2)], [(5, .box 75 (bxc (GArticle.cs a1a)))]⟩ : (Int × Int) → St) (weak_shr (K := ⟨[0, 3, 5, 9, 10], [5], [], []⟩) krf) ?_
 rintro recl1 ⟨l1_1, l1_2⟩
 show SimE (g_auditor_examined_started_l1 n a0e a1a a3to recl1 l1_1 l1_2) _ _ _ _ _ _
 unfold g_auditor_examined_started_l1
 refine sim_seq ?_
 refine sim_run Try.fm ⟨[0, 3, 5, 9, 10, 17], [5], [], []⟩ ⟨[(0, .eptr [VS a0e.Claim.Tariff.Name, .sl 7 (List.map GArticle.cs a0e.Claim.Tariff.Articles), VI a0e.Claim.Calendar.Offset, .sl 2 (List.map GChange.cs a0e.Claim.Calendar.Changes), .sl 1 (List.map ci a0e.Claim.Calendar.Holidays), .sl 5 (List.map GReading.cs a0e.Claim.Readings), VU a0e.Claim.Seed, VI a0e.Claim.Session.From, VI a0e.Claim.Session.To, VI a0e.Claim.Session.End, .sl 2 (List.map GSlice.cs a0e.Claim.Session.Slices), .sl 2 (List.map GLine.cs a0e.Claim.Bill.Lines), VI a0e.Claim.Bill.Net, VI a0e.Claim.Bill.Tax, VI a0e.Claim.Bill.Total, VI a0e.follows.From, VI a0e.follows.To, VI a0e.follows.End, .sl 2 (List.map GSlice.cs a0e.follows.Slices), .sl 2 (List.map GLine.cs a0e.bill.Lines), VI a0e.bill.Net, VI a0e.bill.Tax, VI a0e.bill.Total, VI a0e.rate]), (3, I a3to), (5, .ptr 5 0), (9, I l1_1), (10, I l1_2), (17, B (ltI l1_2 a3to))], [(5, .box 75 (bxc (GArticle.cs a1a)))]⟩ krf ?_
 refine sim_cond (ltI l1_2 a3to) krf ?_ ?_
 ·refine sim_skip ?_
  refine sq_nk ⟨[0, 3, 5, 9, 10], [5], [], []⟩ ⟨[(0, .eptr [VS a0e.Claim.Tariff.Name, .sl 7 (List.map GArticle.cs a0e.Claim.Tariff.Articles), VI a0e.Claim.Calendar.Offset, .sl 2 (List.map GChange.cs a0e.Claim.Calendar.Changes), .sl 1 (List.map ci a0e.Claim.Calendar.Holidays), .sl 5 (List.map GReading.cs a0e.Claim.Readings), VU a0e.Claim.Seed, VI a0e.Claim.Session.From, VI a0e.Claim.Session.To, VI a0e.Claim.Session.End, .sl 2 (List.map GSlice.cs a0e.Claim.Session.Slices), .sl 2 (List.map GLine.cs a0e.Claim.Bill.Lines), VI a0e.Claim.Bill.Net, VI a0e.Claim.Bill.Tax, VI a0e.Claim.Bill.Total, VI a0e.follows.From, VI a0e.follows.To, VI a0e.follows.End, .sl 2 (List.map GSlice.cs a0e.follows.Slices), .sl 2 (List.map GLine.cs a0e.bill.Lines), VI a0e.bill.Net, VI a0e.bill.Tax, VI a0e.bill.Total, VI a0e.rate]), (3, I a3to), (5, .ptr 5 0), (9, I l1_1), (10, I l1_2)], [(5, .box 75 (bxc (GArticle.cs a1a)))]⟩ krf ?_
  refine sim_seq ?_
  refine sim_block ?_
  refine sim_seq ?_
  refine sim_reg ?_
  refine xs_run 3 krf ?_
  refine xs_call [] krf (g_auditor_examined_applies_ok n a0e a1a l1_2) krf krf (fun _ => by kernel_rfl) (fun r2 => ?_)
  refine xs_end ?_
  refine sq_nk ⟨[0, 3, 5, 9, 10, 23], [5], [], []⟩ ⟨[(0, .eptr [VS a0e.Claim.Tariff.Name, .sl 7 (List.map GArticle.cs a0e.Claim.Tariff.Articles), VI a0e.Claim.Calendar.Offset, .sl 2 (List.map GChange.cs a0e.Claim.Calendar.Changes), .sl 1 (List.map ci a0e.Claim.Calendar.Holidays), .sl 5 (List.map GReading.cs a0e.Claim.Readings), VU a0e.Claim.Seed, VI a0e.Claim.Session.From, VI a0e.Claim.Session.To, VI a0e.Claim.Session.End, .sl 2 (List.map GSlice.cs a0e.Claim.Session.Slices), .sl 2 (List.map GLine.cs a0e.Claim.Bill.Lines), VI a0e.Claim.Bill.Net, VI a0e.Claim.Bill.Tax, VI a0e.Claim.Bill.Total, VI a0e.follows.From, VI a0e.follows.To, VI a0e.follows.End, .sl 2 (List.map GSlice.cs a0e.follows.Slices), .sl 2 (List.map GLine.cs a0e.bill.Lines), VI a0e.bill.Net, VI a0e.bill.Tax, VI a0e.bill.Total, VI a0e.rate]), (3, I a3to), (5, .ptr 5 0), (9, I l1_1), (10, I l1_2), (23, B r2)], [(5, .box 75 (bxc (GArticle.cs a1a)))]⟩ krf ?_
  refine sim_cond r2 krf ?_ ?_
  ·refine sim_last Try.fm krf ?_
   refine bq_n ?_
   refine sq_nk ⟨[0, 3, 5, 9, 10], [5], [], []⟩ ⟨[(0, .eptr [VS a0e.Claim.Tariff.Name, .sl 7 (List.map GArticle.cs a0e.Claim.Tariff.Articles), VI a0e.Claim.Calendar.Offset, .sl 2 (List.map GChange.cs a0e.Claim.Calendar.Changes), .sl 1 (List.map ci a0e.Claim.Calendar.Holidays), .sl 5 (List.map GReading.cs a0e.Claim.Readings), VU a0e.Claim.Seed, VI a0e.Claim.Session.From, VI a0e.Claim.Session.To, VI a0e.Claim.Session.End, .sl 2 (List.map GSlice.cs a0e.Claim.Session.Slices), .sl 2 (List.map GLine.cs a0e.Claim.Bill.Lines), VI a0e.Claim.Bill.Net, VI a0e.Claim.Bill.Tax, VI a0e.Claim.Bill.Total, VI a0e.follows.From, VI a0e.follows.To, VI a0e.follows.End, .sl 2 (List.map GSlice.cs a0e.follows.Slices), .sl 2 (List.map GLine.cs a0e.bill.Lines), VI a0e.bill.Net, VI a0e.bill.Tax, VI a0e.bill.Total, VI a0e.rate]), (3, I a3to), (5, .ptr 5 0), (9, I (wi (l1_1 + 1))), (10, I l1_2)], [(5, .box 75 (bxc (GArticle.cs a1a)))]⟩ krf ?_
   refine sim_last Try.fm krf ?_
   exact kq_n (wi (l1_1 + 1), wi (l1_2 + 1)) ⟨[0, 3, 5, 9, 10], [5], [], []⟩ krf
  ·refine sim_skip ?_
   refine bq_n ?_
   refine sq_nk ⟨[0, 3, 5, 9, 10], [5], [], []⟩ ⟨[(0, .eptr [VS a0e.Claim.Tariff.Name, .sl 7 (List.map GArticle.cs a0e.Claim.Tariff.Articles), VI a0e.Claim.Calendar.Offset, .sl 2 (List.map GChange.cs a0e.Claim.Calendar.Changes), .sl 1 (List.map ci a0e.Claim.Calendar.Holidays), .sl 5 (List.map GReading.cs a0e.Claim.Readings), VU a0e.Claim.Seed, VI a0e.Claim.Session.From, VI a0e.Claim.Session.To, VI a0e.Claim.Session.End, .sl 2 (List.map GSlice.cs a0e.Claim.Session.Slices), .sl 2 (List.map GLine.cs a0e.Claim.Bill.Lines), VI a0e.Claim.Bill.Net, VI a0e.Claim.Bill.Tax, VI a0e.Claim.Bill.Total, VI a0e.follows.From, VI a0e.follows.To, VI a0e.follows.End, .sl 2 (List.map GSlice.cs a0e.follows.Slices), .sl 2 (List.map GLine.cs a0e.bill.Lines), VI a0e.bill.Net, VI a0e.bill.Tax, VI a0e.bill.Total, VI a0e.rate]), (3, I a3to), (5, .ptr 5 0), (9, I l1_1), (10, I l1_2)], [(5, .box 75 (bxc (GArticle.cs a1a)))]⟩ krf ?_
   refine sim_last Try.fm krf ?_
   exact kq_n (l1_1, wi (l1_2 + 1)) ⟨[0, 3, 5, 9, 10], [5], [], []⟩ krf
 ·refine sim_exit ?_
  refine sq_x ?_
  refine kq_x ?_
  refine bq_hit ?_
  refine sq_nk ⟨[5, 9], [5], [], []⟩ ⟨[(5, .ptr 5 0), (9, I l1_1)], [(5, .box 75 (bxc (GArticle.cs a1a)))]⟩ krf ?_
  refine sim_seq ?_
  refine sim_drw Try.fm rfl ?_
  refine xs_run 10 krf ?_
  refine xs_if krf krf (aop_quo (k := .i64) (a := wi ((wi ((maxI 0 l1_1) + a1a.Unit)) - 1)) (b := a1a.Unit) rfl krf krf) ?_
  refine xs_run 2 krf ?_
  refine xs_endD krf ?_
  refine sq_nk ⟨[8], [], [], []⟩ ⟨[(8, I (wi (a1a.Price * (wi (Int.tdiv (wi ((wi ((maxI 0 l1_1) + a1a.Unit)) - 1)) a1a.Unit)))))], []⟩ krf ?_
  refine sim_ret ?_
  exact rq_ret (.id) krf krf krf
def g_auditor_examined_cost_l2 (n : Nat) (a0e : GAuditorExamined) (a1a : GArticle) (recl2 : (Int × Int) → Option Int) (l2_1 : Int) (l2_2 : Int) : Option Int :=
 cond (ltI l2_2 (lenI (List.map GSlice.cs a0e.follows.Slices)))
  ((getI a0e.follows.Slices l2_2).bind fun x3 =>
  (g_auditor_examined_applies n a0e a1a x3.Minute).bind fun r4 =>
  cond r4
   (recl2 (wi (l2_1 + x3.Energy), wi (l2_2 + 1)))
   (recl2 (l2_1, wi (l2_2 + 1))))
  (some (wi (Int.tdiv (wi ((wi ((wi (2 * a1a.Price)) * l2_1)) + 1000)) 2000)))
def g_auditor_examined_cost (n : Nat) (a0e : GAuditorExamined) (a1a : GArticle) : Option Int :=
 cond (eqI a1a.Kind 1)
  ((g_auditor_examined_applies n a0e a1a a0e.follows.From).bind fun r1 =>
  cond r1
   (some a1a.Price)
   (some 0))
  (cond (eqI a1a.Kind 2)
   (loopN (fun recl2 (l2_1, l2_2) => g_auditor_examined_cost_l2 n a0e a1a recl2 l2_1 l2_2) n (0, 0))
   (cond (eqI a1a.Kind 3)
    ((g_auditor_examined_started n a0e a1a a0e.follows.From a0e.follows.To).bind fun r5 =>
    some r5)
    (cond (eqI a1a.Kind 4)
     ((g_auditor_examined_started n a0e a1a a0e.follows.End a0e.follows.To).bind fun r6 =>
     some r6)
     (some 0))))
theorem g_auditor_examined_cost_ok (n : Nat) (a0e : GAuditorExamined) (a1a : GArticle) : ∀ r, g_auditor_examined_cost n a0e a1a = some r → PCall Try.prog 61 [.eptr [VS a0e.Claim.Tariff.Name, .sl 7 (List.map GArticle.cs a0e.Claim.Tariff.Articles), VI a0e.Claim.Calendar.Offset, .sl 2 (List.map GChange.cs a0e.Claim.Calendar.Changes), .sl 1 (List.map ci a0e.Claim.Calendar.Holidays), .sl 5 (List.map GReading.cs a0e.Claim.Readings), VU a0e.Claim.Seed, VI a0e.Claim.Session.From, VI a0e.Claim.Session.To, VI a0e.Claim.Session.End, .sl 2 (List.map GSlice.cs a0e.Claim.Session.Slices), .sl 2 (List.map GLine.cs a0e.Claim.Bill.Lines), VI a0e.Claim.Bill.Net, VI a0e.Claim.Bill.Tax, VI a0e.Claim.Bill.Total, VI a0e.follows.From, VI a0e.follows.To, VI a0e.follows.End, .sl 2 (List.map GSlice.cs a0e.follows.Slices), .sl 2 (List.map GLine.cs a0e.bill.Lines), VI a0e.bill.Net, VI a0e.bill.Tax, VI a0e.bill.Total, VI a0e.rate], ag (GArticle.cs a1a)] (.ret (I r)) := by
 refine pcall_sim (X := fun r : Int => AEnd.ret (I r)) Try.func61 rfl Try.ntmps61 rfl ?_
 unfold g_auditor_examined_cost
 refine sim_run Try.fm ⟨[0, 3, 4], [3], [], []⟩ ⟨[(0, .eptr [VS a0e.Claim.Tariff.Name, .sl 7 (List.map GArticle.cs a0e.Claim.Tariff.Articles), VI a0e.Claim.Calendar.Offset, .sl 2 (List.map GChange.cs a0e.Claim.Calendar.Changes), .sl 1 (List.map ci a0e.Claim.Calendar.Holidays), .sl 5 (List.map GReading.cs a0e.Claim.Readings), VU a0e.Claim.Seed, VI a0e.Claim.Session.From, VI a0e.Claim.Session.To, VI a0e.Claim.Session.End, .sl 2 (List.map GSlice.cs a0e.Claim.Session.Slices), .sl 2 (List.map GLine.cs a0e.Claim.Bill.Lines), VI a0e.Claim.Bill.Net, VI a0e.Claim.Bill.Tax, VI a0e.Claim.Bill.Total, VI a0e.follows.From, VI a0e.follows.To, VI a0e.follows.End, .sl 2 (List.map GSlice.cs a0e.follows.Slices), .sl 2 (List.map GLine.cs a0e.bill.Lines), VI a0e.bill.Net, VI a0e.bill.Tax, VI a0e.bill.Total, VI a0e.rate]), (3, .ptr 3 0), (4, I 0)], [(3, .box 75 (bxc (GArticle.cs a1a)))]⟩ krf ?_
 refine sim_run Try.fm ⟨[0, 3, 4, 5], [3, 5], [], []⟩ ⟨[(0, .eptr [VS a0e.Claim.Tariff.Name, .sl 7 (List.map GArticle.cs a0e.Claim.Tariff.Articles), VI a0e.Claim.Calendar.Offset, .sl 2 (List.map GChange.cs a0e.Claim.Calendar.Changes), .sl 1 (List.map ci a0e.Claim.Calendar.Holidays), .sl 5 (List.map GReading.cs a0e.Claim.Readings), VU a0e.Claim.Seed, VI a0e.Claim.Session.From, VI a0e.Claim.Session.To, VI a0e.Claim.Session.End, .sl 2 (List.map GSlice.cs a0e.Claim.Session.Slices), .sl 2 (List.map GLine.cs a0e.Claim.Bill.Lines), VI a0e.Claim.Bill.Net, VI a0e.Claim.Bill.Tax, VI a0e.Claim.Bill.Total, VI a0e.follows.From, VI a0e.follows.To, VI a0e.follows.End, .sl 2 (List.map GSlice.cs a0e.follows.Slices), .sl 2 (List.map GLine.cs a0e.bill.Lines), VI a0e.bill.Net, VI a0e.bill.Tax, VI a0e.bill.Total, VI a0e.rate]), (3, .ptr 3 0), (4, I 0), (5, .ptr 5 0)], [(3, .box 75 (bxc (GArticle.cs a1a))), (5, .box 33 (bxc (GSession.cs a0e.follows)))]⟩ krf ?_
 refine sim_seq ?_
 refine sim_run Try.fm ⟨[0, 3, 4, 5, 14], [3, 5], [], []⟩ ⟨[(0, .eptr [VS a0e.Claim.Tariff.Name, .sl 7 (List.map GArticle.cs a0e.Claim.Tariff.Articles), VI a0e.Claim.Calendar.Offset, .sl 2 (List.map GChange.cs a0e.Claim.Calendar.Changes), .sl 1 (List.map ci a0e.Claim.Calendar.Holidays), .sl 5 (List.map GReading.cs a0e.Claim.Readings), VU a0e.Claim.Seed, VI a0e.Claim.Session.From, VI a0e.Claim.Session.To, VI a0e.Claim.Session.End, .sl 2 (List.map GSlice.cs a0e.Claim.Session.Slices), .sl 2 (List.map GLine.cs a0e.Claim.Bill.Lines), VI a0e.Claim.Bill.Net, VI a0e.Claim.Bill.Tax, VI a0e.Claim.Bill.Total, VI a0e.follows.From, VI a0e.follows.To, VI a0e.follows.End, .sl 2 (List.map GSlice.cs a0e.follows.Slices), .sl 2 (List.map GLine.cs a0e.bill.Lines), VI a0e.bill.Net, VI a0e.bill.Tax, VI a0e.bill.Total, VI a0e.rate]), (3, .ptr 3 0), (4, I 0), (5, .ptr 5 0), (14, I a1a.Kind)], [(3, .box 75 (bxc (GArticle.cs a1a))), (5, .box 33 (bxc (GSession.cs a0e.follows)))]⟩ krf ?_
 refine sim_block ?_
 refine sim_run Try.fm ⟨[0, 3, 4, 5, 14, 15], [3, 5], [], []⟩ ⟨[(0, .eptr [VS a0e.Claim.Tariff.Name, .sl 7 (List.map GArticle.cs a0e.Claim.Tariff.Articles), VI a0e.Claim.Calendar.Offset, .sl 2 (List.map GChange.cs a0e.Claim.Calendar.Changes), .sl 1 (List.map ci a0e.Claim.Calendar.Holidays), .sl 5 (List.map GReading.cs a0e.Claim.Readings), VU a0e.Claim.Seed, VI a0e.Claim.Session.From, VI a0e.Claim.Session.To, VI a0e.Claim.Session.End, .sl 2 (List.map GSlice.cs a0e.Claim.Session.Slices), .sl 2 (List.map GLine.cs a0e.Claim.Bill.Lines), VI a0e.Claim.Bill.Net, VI a0e.Claim.Bill.Tax, VI a0e.Claim.Bill.Total, VI a0e.follows.From, VI a0e.follows.To, VI a0e.follows.End, .sl 2 (List.map GSlice.cs a0e.follows.Slices), .sl 2 (List.map GLine.cs a0e.bill.Lines), VI a0e.bill.Net, VI a0e.bill.Tax, VI a0e.bill.Total, VI a0e.rate]), (3, .ptr 3 0), (4, I 0), (5, .ptr 5 0), (14, I a1a.Kind), (15, B (eqI a1a.Kind 1))], [(3, .box 75 (bxc (GArticle.cs a1a))), (5, .box 33 (bxc (GSession.cs a0e.follows)))]⟩ krf ?_
 refine sim_cond (eqI a1a.Kind 1) krf ?_ ?_
 ·refine sim_seq ?_
  refine sim_reg ?_
  refine xs_run 4 krf ?_
  refine xs_call [] krf (g_auditor_examined_applies_ok n a0e a1a a0e.follows.From) krf krf (fun _ => by kernel_rfl) (fun r1 => ?_)
  refine xs_end ?_
  refine sq_nk ⟨[3, 4, 5, 21], [3, 5], [], []⟩ ⟨[(3, .ptr 3 0), (4, I 0), (5, .ptr 5 0), (21, B r1)], [(3, .box 75 (bxc (GArticle.cs a1a))), (5, .box 33 (bxc (GSession.cs a0e.follows)))]⟩ krf ?_
  refine sim_cond r1 krf ?_ ?_
  ·refine sim_run Try.fm ⟨[4], [], [], []⟩ ⟨[(4, I a1a.Price)], []⟩ krf ?_
   refine sim_ret ?_
   refine bq_r ?_
   refine sq_r ?_
   exact rq_ret (.id) krf krf krf
  ·refine sim_skip ?_
   refine bq_n ?_
   refine sq_nk ⟨[4, 5], [5], [], []⟩ ⟨[(4, I 0), (5, .ptr 5 0)], [(5, .box 33 (bxc (GSession.cs a0e.follows)))]⟩ krf ?_
   refine sim_run Try.fm ⟨[4], [], [], []⟩ ⟨[(4, I 0)], []⟩ krf ?_
   refine sim_ret ?_
   exact rq_ret (.id) krf krf krf
 ·refine sim_run Try.fm ⟨[0, 3, 4, 5, 14, 24], [3, 5], [], []⟩ ⟨[(0, .eptr [VS a0e.Claim.Tariff.Name, .sl 7 (List.map GArticle.cs a0e.Claim.Tariff.Articles), VI a0e.Claim.Calendar.Offset, .sl 2 (List.map GChange.cs a0e.Claim.Calendar.Changes), .sl 1 (List.map ci a0e.Claim.Calendar.Holidays), .sl 5 (List.map GReading.cs a0e.Claim.Readings), VU a0e.Claim.Seed, VI a0e.Claim.Session.From, VI a0e.Claim.Session.To, VI a0e.Claim.Session.End, .sl 2 (List.map GSlice.cs a0e.Claim.Session.Slices), .sl 2 (List.map GLine.cs a0e.Claim.Bill.Lines), VI a0e.Claim.Bill.Net, VI a0e.Claim.Bill.Tax, VI a0e.Claim.Bill.Total, VI a0e.follows.From, VI a0e.follows.To, VI a0e.follows.End, .sl 2 (List.map GSlice.cs a0e.follows.Slices), .sl 2 (List.map GLine.cs a0e.bill.Lines), VI a0e.bill.Net, VI a0e.bill.Tax, VI a0e.bill.Total, VI a0e.rate]), (3, .ptr 3 0), (4, I 0), (5, .ptr 5 0), (14, I a1a.Kind), (24, B (eqI a1a.Kind 2))], [(3, .box 75 (bxc (GArticle.cs a1a))), (5, .box 33 (bxc (GSession.cs a0e.follows)))]⟩ krf ?_
  refine sim_cond (eqI a1a.Kind 2) krf ?_ ?_
  ·refine sim_run Try.fm ⟨[0, 3, 4, 5, 6], [3, 5], [], []⟩ ⟨[(0, .eptr [VS a0e.Claim.Tariff.Name, .sl 7 (List.map GArticle.cs a0e.Claim.Tariff.Articles), VI a0e.Claim.Calendar.Offset, .sl 2 (List.map GChange.cs a0e.Claim.Calendar.Changes), .sl 1 (List.map ci a0e.Claim.Calendar.Holidays), .sl 5 (List.map GReading.cs a0e.Claim.Readings), VU a0e.Claim.Seed, VI a0e.Claim.Session.From, VI a0e.Claim.Session.To, VI a0e.Claim.Session.End, .sl 2 (List.map GSlice.cs a0e.Claim.Session.Slices), .sl 2 (List.map GLine.cs a0e.Claim.Bill.Lines), VI a0e.Claim.Bill.Net, VI a0e.Claim.Bill.Tax, VI a0e.Claim.Bill.Total, VI a0e.follows.From, VI a0e.follows.To, VI a0e.follows.End, .sl 2 (List.map GSlice.cs a0e.follows.Slices), .sl 2 (List.map GLine.cs a0e.bill.Lines), VI a0e.bill.Net, VI a0e.bill.Tax, VI a0e.bill.Total, VI a0e.rate]), (3, .ptr 3 0), (4, I 0), (5, .ptr 5 0), (6, I 0)], [(3, .box 75 (bxc (GArticle.cs a1a))), (5, .box 33 (bxc (GSession.cs a0e.follows)))]⟩ krf ?_
   refine sim_seq ?_
   refine sim_run Try.fm ⟨[0, 3, 4, 5, 6, 27, 28, 29], [3, 5], [], []⟩ ⟨[(0, .eptr [VS a0e.Claim.Tariff.Name, .sl 7 (List.map GArticle.cs a0e.Claim.Tariff.Articles), VI a0e.Claim.Calendar.Offset, .sl 2 (List.map GChange.cs a0e.Claim.Calendar.Changes), .sl 1 (List.map ci a0e.Claim.Calendar.Holidays), .sl 5 (List.map GReading.cs a0e.Claim.Readings), VU a0e.Claim.Seed, VI a0e.Claim.Session.From, VI a0e.Claim.Session.To, VI a0e.Claim.Session.End, .sl 2 (List.map GSlice.cs a0e.Claim.Session.Slices), .sl 2 (List.map GLine.cs a0e.Claim.Bill.Lines), VI a0e.Claim.Bill.Net, VI a0e.Claim.Bill.Tax, VI a0e.Claim.Bill.Total, VI a0e.follows.From, VI a0e.follows.To, VI a0e.follows.End, .sl 2 (List.map GSlice.cs a0e.follows.Slices), .sl 2 (List.map GLine.cs a0e.bill.Lines), VI a0e.bill.Net, VI a0e.bill.Tax, VI a0e.bill.Total, VI a0e.rate]), (3, .ptr 3 0), (4, I 0), (5, .ptr 5 0), (6, I 0), (27, .p (.sl 2 (List.map GSlice.cs a0e.follows.Slices))), (28, I (lenI (List.map GSlice.cs a0e.follows.Slices))), (29, I 0)], [(3, .box 75 (bxc (GArticle.cs a1a))), (5, .box 33 (bxc (GSession.cs a0e.follows)))]⟩ krf ?_
   refine sim_block ?_
   refine sim_loop (fun (l2_1, l2_2) => ⟨[(0, .eptr [VS a0e.Claim.Tariff.Name, .sl 7 (List.map GArticle.cs a0e.Claim.Tariff.Articles), VI a0e.Claim.Calendar.Offset, .sl 2 (List.map GChange.cs a0e.Claim.Calendar.Changes), .sl 1 (List.map ci a0e.Claim.Calendar.Holidays), .sl 5 (List.map GReading.cs a0e.Claim.Readings), VU a0e.Claim.Seed, VI a0e.Claim.Session.From, VI a0e.Claim.Session.To, VI a0e.Claim.Session.End, .sl 2 (List.map GSlice.cs a0e.Claim.Session.Slices), .sl 2 (List.map GLine.cs a0e.Claim.Bill.Lines), VI a0e.Claim.Bill.Net, VI a0e.Claim.Bill.Tax, VI a0e.Claim.Bill.Total, VI a0e.follows.From, VI a0e.follows.To, VI a0e.follows.End, .sl 2 (List.map GSlice.cs a0e.follows.Slices), .sl 2 (List.map GLine.cs a0e.bill.Lines), VI a0e.bill.Net, VI a0e.bill.Tax, VI a0e.bill.Total, VI a0e.rate]), (3, .ptr 3 0), (4, I 0), (5, .ptr 5 0), (6, I l2_1), (27, .p (.sl 2 (List.map GSlice.cs a0e.follows.Slices))), (28, I (lenI (List.map GSlice.cs a0e.follows.Slices))), (29, I l2_2)], [(3, .box 75 (bxc (GArticle.cs a1a))), (5, .box 33 (bxc (GSession.cs a0e.follows)))]⟩ : (Int × Int) → St) (weak_shr (K := ⟨[0, 3, 4, 5, 6, 27, 28, 29], [3, 5], [], []⟩) krf) ?_
   rintro recl2 ⟨l2_1, l2_2⟩
   show SimE (g_auditor_examined_cost_l2 n a0e a1a recl2 l2_1 l2_2) _ _ _ _ _ _
   unfold g_auditor_examined_cost_l2
   refine sim_run Try.fm ⟨[0, 3, 4, 5, 6, 27, 28, 29, 30], [3, 5], [], []⟩ ⟨[(0, .eptr [VS a0e.Claim.Tariff.Name, .sl 7 (List.map GArticle.cs a0e.Claim.Tariff.Articles), VI a0e.Claim.Calendar.Offset, .sl 2 (List.map GChange.cs a0e.Claim.Calendar.Changes), .sl 1 (List.map ci a0e.Claim.Calendar.Holidays), .sl 5 (List.map GReading.cs a0e.Claim.Readings), VU a0e.Claim.Seed, VI a0e.Claim.Session.From, VI a0e.Claim.Session.To, VI a0e.Claim.Session.End, .sl 2 (List.map GSlice.cs a0e.Claim.Session.Slices), .sl 2 (List.map GLine.cs a0e.Claim.Bill.Lines), VI a0e.Claim.Bill.Net, VI a0e.Claim.Bill.Tax, VI a0e.Claim.Bill.Total, VI a0e.follows.From, VI a0e.follows.To, VI a0e.follows.End, .sl 2 (List.map GSlice.cs a0e.follows.Slices), .sl 2 (List.map GLine.cs a0e.bill.Lines), VI a0e.bill.Net, VI a0e.bill.Tax, VI a0e.bill.Total, VI a0e.rate]), (3, .ptr 3 0), (4, I 0), (5, .ptr 5 0), (6, I l2_1), (27, .p (.sl 2 (List.map GSlice.cs a0e.follows.Slices))), (28, I (lenI (List.map GSlice.cs a0e.follows.Slices))), (29, I l2_2), (30, B (ltI l2_2 (lenI (List.map GSlice.cs a0e.follows.Slices))))], [(3, .box 75 (bxc (GArticle.cs a1a))), (5, .box 33 (bxc (GSession.cs a0e.follows)))]⟩ krf ?_
   refine sim_seq ?_
   refine sim_cond (ltI l2_2 (lenI (List.map GSlice.cs a0e.follows.Slices))) krf ?_ ?_
   ·refine sim_skip ?_
    refine sq_nk ⟨[0, 3, 4, 5, 6, 27, 28, 29], [3, 5], [], []⟩ ⟨[(0, .eptr [VS a0e.Claim.Tariff.Name, .sl 7 (List.map GArticle.cs a0e.Claim.Tariff.Articles), VI a0e.Claim.Calendar.Offset, .sl 2 (List.map GChange.cs a0e.Claim.Calendar.Changes), .sl 1 (List.map ci a0e.Claim.Calendar.Holidays), .sl 5 (List.map GReading.cs a0e.Claim.Readings), VU a0e.Claim.Seed, VI a0e.Claim.Session.From, VI a0e.Claim.Session.To, VI a0e.Claim.Session.End, .sl 2 (List.map GSlice.cs a0e.Claim.Session.Slices), .sl 2 (List.map GLine.cs a0e.Claim.Bill.Lines), VI a0e.Claim.Bill.Net, VI a0e.Claim.Bill.Tax, VI a0e.Claim.Bill.Total, VI a0e.follows.From, VI a0e.follows.To, VI a0e.follows.End, .sl 2 (List.map GSlice.cs a0e.follows.Slices), .sl 2 (List.map GLine.cs a0e.bill.Lines), VI a0e.bill.Net, VI a0e.bill.Tax, VI a0e.bill.Total, VI a0e.rate]), (3, .ptr 3 0), (4, I 0), (5, .ptr 5 0), (6, I l2_1), (27, .p (.sl 2 (List.map GSlice.cs a0e.follows.Slices))), (28, I (lenI (List.map GSlice.cs a0e.follows.Slices))), (29, I l2_2)], [(3, .box 75 (bxc (GArticle.cs a1a))), (5, .box 33 (bxc (GSession.cs a0e.follows)))]⟩ krf ?_
    refine sim_seq ?_
    refine sim_block ?_
    refine sim_seq ?_
    refine sim_reg ?_
    refine xs_get krf krf (aop_idx (e := 52) (S := 2) (enc := GSlice.cs) (l := a0e.follows.Slices) (k := .i64) (n := l2_2) (sv := .p (.sl 2 (List.map GSlice.cs a0e.follows.Slices))) rfl krf krf krf krf krf) (fun x3 => ?_)
    refine xs_run 3 krf ?_
    refine xs_end ?_
    refine sq_nk ⟨[0, 3, 4, 5, 6, 8, 27, 28, 29], [3, 5, 8], [], []⟩ ⟨[(0, .eptr [VS a0e.Claim.Tariff.Name, .sl 7 (List.map GArticle.cs a0e.Claim.Tariff.Articles), VI a0e.Claim.Calendar.Offset, .sl 2 (List.map GChange.cs a0e.Claim.Calendar.Changes), .sl 1 (List.map ci a0e.Claim.Calendar.Holidays), .sl 5 (List.map GReading.cs a0e.Claim.Readings), VU a0e.Claim.Seed, VI a0e.Claim.Session.From, VI a0e.Claim.Session.To, VI a0e.Claim.Session.End, .sl 2 (List.map GSlice.cs a0e.Claim.Session.Slices), .sl 2 (List.map GLine.cs a0e.Claim.Bill.Lines), VI a0e.Claim.Bill.Net, VI a0e.Claim.Bill.Tax, VI a0e.Claim.Bill.Total, VI a0e.follows.From, VI a0e.follows.To, VI a0e.follows.End, .sl 2 (List.map GSlice.cs a0e.follows.Slices), .sl 2 (List.map GLine.cs a0e.bill.Lines), VI a0e.bill.Net, VI a0e.bill.Tax, VI a0e.bill.Total, VI a0e.rate]), (3, .ptr 3 0), (4, I 0), (5, .ptr 5 0), (6, I l2_1), (8, .ptr 8 0), (27, .p (.sl 2 (List.map GSlice.cs a0e.follows.Slices))), (28, I (lenI (List.map GSlice.cs a0e.follows.Slices))), (29, I l2_2)], [(3, .box 75 (bxc (GArticle.cs a1a))), (5, .box 33 (bxc (GSession.cs a0e.follows))), (8, .box 52 (bxc (GSlice.cs x3)))]⟩ krf ?_
    refine sim_seq ?_
    refine sim_reg ?_
    refine xs_run 4 krf ?_
    refine xs_call [] krf (g_auditor_examined_applies_ok n a0e a1a x3.Minute) krf krf (fun _ => by kernel_rfl) (fun r4 => ?_)
    refine xs_end ?_
    refine sq_nk ⟨[0, 3, 4, 5, 6, 8, 27, 28, 29, 37], [3, 5, 8], [], []⟩ ⟨[(0, .eptr [VS a0e.Claim.Tariff.Name, .sl 7 (List.map GArticle.cs a0e.Claim.Tariff.Articles), VI a0e.Claim.Calendar.Offset, .sl 2 (List.map GChange.cs a0e.Claim.Calendar.Changes), .sl 1 (List.map ci a0e.Claim.Calendar.Holidays), .sl 5 (List.map GReading.cs a0e.Claim.Readings), VU a0e.Claim.Seed, VI a0e.Claim.Session.From, VI a0e.Claim.Session.To, VI a0e.Claim.Session.End, .sl 2 (List.map GSlice.cs a0e.Claim.Session.Slices), .sl 2 (List.map GLine.cs a0e.Claim.Bill.Lines), VI a0e.Claim.Bill.Net, VI a0e.Claim.Bill.Tax, VI a0e.Claim.Bill.Total, VI a0e.follows.From, VI a0e.follows.To, VI a0e.follows.End, .sl 2 (List.map GSlice.cs a0e.follows.Slices), .sl 2 (List.map GLine.cs a0e.bill.Lines), VI a0e.bill.Net, VI a0e.bill.Tax, VI a0e.bill.Total, VI a0e.rate]), (3, .ptr 3 0), (4, I 0), (5, .ptr 5 0), (6, I l2_1), (8, .ptr 8 0), (27, .p (.sl 2 (List.map GSlice.cs a0e.follows.Slices))), (28, I (lenI (List.map GSlice.cs a0e.follows.Slices))), (29, I l2_2), (37, B r4)], [(3, .box 75 (bxc (GArticle.cs a1a))), (5, .box 33 (bxc (GSession.cs a0e.follows))), (8, .box 52 (bxc (GSlice.cs x3)))]⟩ krf ?_
    refine sim_cond r4 krf ?_ ?_
    ·refine sim_last Try.fm krf ?_
     refine bq_n ?_
     refine sq_nk ⟨[0, 3, 4, 5, 6, 27, 28, 29], [3, 5], [], []⟩ ⟨[(0, .eptr [VS a0e.Claim.Tariff.Name, .sl 7 (List.map GArticle.cs a0e.Claim.Tariff.Articles), VI a0e.Claim.Calendar.Offset, .sl 2 (List.map GChange.cs a0e.Claim.Calendar.Changes), .sl 1 (List.map ci a0e.Claim.Calendar.Holidays), .sl 5 (List.map GReading.cs a0e.Claim.Readings), VU a0e.Claim.Seed, VI a0e.Claim.Session.From, VI a0e.Claim.Session.To, VI a0e.Claim.Session.End, .sl 2 (List.map GSlice.cs a0e.Claim.Session.Slices), .sl 2 (List.map GLine.cs a0e.Claim.Bill.Lines), VI a0e.Claim.Bill.Net, VI a0e.Claim.Bill.Tax, VI a0e.Claim.Bill.Total, VI a0e.follows.From, VI a0e.follows.To, VI a0e.follows.End, .sl 2 (List.map GSlice.cs a0e.follows.Slices), .sl 2 (List.map GLine.cs a0e.bill.Lines), VI a0e.bill.Net, VI a0e.bill.Tax, VI a0e.bill.Total, VI a0e.rate]), (3, .ptr 3 0), (4, I 0), (5, .ptr 5 0), (6, I (wi (l2_1 + x3.Energy))), (27, .p (.sl 2 (List.map GSlice.cs a0e.follows.Slices))), (28, I (lenI (List.map GSlice.cs a0e.follows.Slices))), (29, I l2_2)], [(3, .box 75 (bxc (GArticle.cs a1a))), (5, .box 33 (bxc (GSession.cs a0e.follows)))]⟩ krf ?_
     refine sim_last Try.fm krf ?_
     exact kq_n (wi (l2_1 + x3.Energy), wi (l2_2 + 1)) ⟨[0, 3, 4, 5, 6, 27, 28, 29], [3, 5], [], []⟩ krf
    ·refine sim_skip ?_
     refine bq_n ?_
     refine sq_nk ⟨[0, 3, 4, 5, 6, 27, 28, 29], [3, 5], [], []⟩ ⟨[(0, .eptr [VS a0e.Claim.Tariff.Name, .sl 7 (List.map GArticle.cs a0e.Claim.Tariff.Articles), VI a0e.Claim.Calendar.Offset, .sl 2 (List.map GChange.cs a0e.Claim.Calendar.Changes), .sl 1 (List.map ci a0e.Claim.Calendar.Holidays), .sl 5 (List.map GReading.cs a0e.Claim.Readings), VU a0e.Claim.Seed, VI a0e.Claim.Session.From, VI a0e.Claim.Session.To, VI a0e.Claim.Session.End, .sl 2 (List.map GSlice.cs a0e.Claim.Session.Slices), .sl 2 (List.map GLine.cs a0e.Claim.Bill.Lines), VI a0e.Claim.Bill.Net, VI a0e.Claim.Bill.Tax, VI a0e.Claim.Bill.Total, VI a0e.follows.From, VI a0e.follows.To, VI a0e.follows.End, .sl 2 (List.map GSlice.cs a0e.follows.Slices), .sl 2 (List.map GLine.cs a0e.bill.Lines), VI a0e.bill.Net, VI a0e.bill.Tax, VI a0e.bill.Total, VI a0e.rate]), (3, .ptr 3 0), (4, I 0), (5, .ptr 5 0), (6, I l2_1), (27, .p (.sl 2 (List.map GSlice.cs a0e.follows.Slices))), (28, I (lenI (List.map GSlice.cs a0e.follows.Slices))), (29, I l2_2)], [(3, .box 75 (bxc (GArticle.cs a1a))), (5, .box 33 (bxc (GSession.cs a0e.follows)))]⟩ krf ?_
     refine sim_last Try.fm krf ?_
     exact kq_n (l2_1, wi (l2_2 + 1)) ⟨[0, 3, 4, 5, 6, 27, 28, 29], [3, 5], [], []⟩ krf
   ·refine sim_exit ?_
    refine sq_x ?_
    refine kq_x ?_
    refine bq_hit ?_
    refine sq_nk ⟨[3, 4, 5, 6], [3, 5], [], []⟩ ⟨[(3, .ptr 3 0), (4, I 0), (5, .ptr 5 0), (6, I l2_1)], [(3, .box 75 (bxc (GArticle.cs a1a))), (5, .box 33 (bxc (GSession.cs a0e.follows)))]⟩ krf ?_
    refine sim_run Try.fm ⟨[4], [], [], []⟩ ⟨[(4, I (wi (Int.tdiv (wi ((wi ((wi (2 * a1a.Price)) * l2_1)) + 1000)) 2000)))], []⟩ krf ?_
    refine sim_ret ?_
    refine bq_r ?_
    refine sq_r ?_
    exact rq_ret (.id) krf krf krf
  ·refine sim_run Try.fm ⟨[0, 3, 4, 5, 14, 50], [3, 5], [], []⟩ ⟨[(0, .eptr [VS a0e.Claim.Tariff.Name, .sl 7 (List.map GArticle.cs a0e.Claim.Tariff.Articles), VI a0e.Claim.Calendar.Offset, .sl 2 (List.map GChange.cs a0e.Claim.Calendar.Changes), .sl 1 (List.map ci a0e.Claim.Calendar.Holidays), .sl 5 (List.map GReading.cs a0e.Claim.Readings), VU a0e.Claim.Seed, VI a0e.Claim.Session.From, VI a0e.Claim.Session.To, VI a0e.Claim.Session.End, .sl 2 (List.map GSlice.cs a0e.Claim.Session.Slices), .sl 2 (List.map GLine.cs a0e.Claim.Bill.Lines), VI a0e.Claim.Bill.Net, VI a0e.Claim.Bill.Tax, VI a0e.Claim.Bill.Total, VI a0e.follows.From, VI a0e.follows.To, VI a0e.follows.End, .sl 2 (List.map GSlice.cs a0e.follows.Slices), .sl 2 (List.map GLine.cs a0e.bill.Lines), VI a0e.bill.Net, VI a0e.bill.Tax, VI a0e.bill.Total, VI a0e.rate]), (3, .ptr 3 0), (4, I 0), (5, .ptr 5 0), (14, I a1a.Kind), (50, B (eqI a1a.Kind 3))], [(3, .box 75 (bxc (GArticle.cs a1a))), (5, .box 33 (bxc (GSession.cs a0e.follows)))]⟩ krf ?_
   refine sim_cond (eqI a1a.Kind 3) krf ?_ ?_
   ·refine sim_seq ?_
    refine sim_reg ?_
    refine xs_run 6 krf ?_
    refine xs_call [] krf (g_auditor_examined_started_ok n a0e a1a a0e.follows.From a0e.follows.To) krf krf (fun _ => by kernel_rfl) (fun r5 => ?_)
    refine xs_run 1 krf ?_
    refine xs_end ?_
    refine sq_nk ⟨[4], [], [], []⟩ ⟨[(4, I r5)], []⟩ krf ?_
    refine sim_ret ?_
    refine bq_r ?_
    refine sq_r ?_
    exact rq_ret (.id) krf krf krf
   ·refine sim_run Try.fm ⟨[0, 3, 4, 5, 59], [3, 5], [], []⟩ ⟨[(0, .eptr [VS a0e.Claim.Tariff.Name, .sl 7 (List.map GArticle.cs a0e.Claim.Tariff.Articles), VI a0e.Claim.Calendar.Offset, .sl 2 (List.map GChange.cs a0e.Claim.Calendar.Changes), .sl 1 (List.map ci a0e.Claim.Calendar.Holidays), .sl 5 (List.map GReading.cs a0e.Claim.Readings), VU a0e.Claim.Seed, VI a0e.Claim.Session.From, VI a0e.Claim.Session.To, VI a0e.Claim.Session.End, .sl 2 (List.map GSlice.cs a0e.Claim.Session.Slices), .sl 2 (List.map GLine.cs a0e.Claim.Bill.Lines), VI a0e.Claim.Bill.Net, VI a0e.Claim.Bill.Tax, VI a0e.Claim.Bill.Total, VI a0e.follows.From, VI a0e.follows.To, VI a0e.follows.End, .sl 2 (List.map GSlice.cs a0e.follows.Slices), .sl 2 (List.map GLine.cs a0e.bill.Lines), VI a0e.bill.Net, VI a0e.bill.Tax, VI a0e.bill.Total, VI a0e.rate]), (3, .ptr 3 0), (4, I 0), (5, .ptr 5 0), (59, B (eqI a1a.Kind 4))], [(3, .box 75 (bxc (GArticle.cs a1a))), (5, .box 33 (bxc (GSession.cs a0e.follows)))]⟩ krf ?_
    refine sim_cond (eqI a1a.Kind 4) krf ?_ ?_
    ·refine sim_seq ?_
     refine sim_reg ?_
     refine xs_run 6 krf ?_
     refine xs_call [] krf (g_auditor_examined_started_ok n a0e a1a a0e.follows.End a0e.follows.To) krf krf (fun _ => by kernel_rfl) (fun r6 => ?_)
     refine xs_run 1 krf ?_
     refine xs_end ?_
     refine sq_nk ⟨[4], [], [], []⟩ ⟨[(4, I r6)], []⟩ krf ?_
     refine sim_ret ?_
     refine bq_r ?_
     refine sq_r ?_
     exact rq_ret (.id) krf krf krf
    ·refine sim_skip ?_
     refine bq_n ?_
     refine sq_nk ⟨[4, 5], [5], [], []⟩ ⟨[(4, I 0), (5, .ptr 5 0)], [(5, .box 33 (bxc (GSession.cs a0e.follows)))]⟩ krf ?_
     refine sim_run Try.fm ⟨[4], [], [], []⟩ ⟨[(4, I 0)], []⟩ krf ?_
     refine sim_ret ?_
     exact rq_ret (.id) krf krf krf
def g_auditor_examined_price_l1 (n : Nat) (a0e : GAuditorExamined) (recl1 : (Int × (OL GLine)) → Option (Except (Int × GAuditorExamined) GAuditorExamined)) (l1_1 : Int) (l1_2 : OL GLine) : Option (Except (Int × GAuditorExamined) GAuditorExamined) :=
 cond (ltI l1_1 (lenI (List.map GArticle.cs a0e.Claim.Tariff.Articles)))
  ((getI a0e.Claim.Tariff.Articles l1_1).bind fun x2 =>
  (cond (eqI x2.Kind 5)
   (some true)
   (some (eqI x2.Kind 6))).bind fun j3 =>
  cond j3
   (recl1 (wi (l1_1 + 1), l1_2))
   ((g_auditor_examined_cost n (⟨a0e.Claim, a0e.follows, (⟨l1_2.toL, a0e.bill.Net, a0e.bill.Tax, a0e.bill.Total⟩ : GBill), a0e.rate⟩ : GAuditorExamined) x2).bind fun r5 =>
   (g_auditor_need n (leI r5 1000000000) 4).bind (exc (fun r6 =>
    cond (roomB (List.length (l1_2.toL ++ [(⟨l1_1, r5⟩ : GLine)])) 16) (
     recl1 (wi (l1_1 + 1), OL.own (l1_2.toL ++ [(⟨l1_1, r5⟩ : GLine)]))) none) fun e7 => some (.error (e7, (⟨a0e.Claim, a0e.follows, (⟨l1_2.toL, a0e.bill.Net, a0e.bill.Tax, a0e.bill.Total⟩ : GBill), a0e.rate⟩ : GAuditorExamined))))))
  (some (.ok (⟨a0e.Claim, a0e.follows, (⟨l1_2.toL, a0e.bill.Net, a0e.bill.Tax, a0e.bill.Total⟩ : GBill), a0e.rate⟩ : GAuditorExamined)))
def g_auditor_examined_price (n : Nat) (a0e : GAuditorExamined) : Option (Except (Int × GAuditorExamined) GAuditorExamined) :=
 loopN (fun recl1 (l1_1, l1_2) => g_auditor_examined_price_l1 n a0e recl1 l1_1 l1_2) n (0, OL.nil)
theorem g_auditor_examined_price_ok (n : Nat) (a0e : GAuditorExamined) : ∀ r, g_auditor_examined_price n a0e = some r → ACall Try.prog 37 [.ptr 1000 0] (Go.Abs.look [(1000, .box 64 [S a0e.Claim.Tariff.Name, .p (.sl 7 (List.map GArticle.cs a0e.Claim.Tariff.Articles)), I a0e.Claim.Calendar.Offset, .p (.sl 2 (List.map GChange.cs a0e.Claim.Calendar.Changes)), .p (.sl 1 (List.map ci a0e.Claim.Calendar.Holidays)), .p (.sl 5 (List.map GReading.cs a0e.Claim.Readings)), U a0e.Claim.Seed, I a0e.Claim.Session.From, I a0e.Claim.Session.To, I a0e.Claim.Session.End, .p (.sl 2 (List.map GSlice.cs a0e.Claim.Session.Slices)), .p (.sl 2 (List.map GLine.cs a0e.Claim.Bill.Lines)), I a0e.Claim.Bill.Net, I a0e.Claim.Bill.Tax, I a0e.Claim.Bill.Total, I a0e.follows.From, I a0e.follows.To, I a0e.follows.End, .p (.sl 2 (List.map GSlice.cs a0e.follows.Slices)), .p (.val (.slice none 0 0)), I a0e.bill.Net, I a0e.bill.Tax, I a0e.bill.Total, I a0e.rate])]) (heapR (excX (fun r : GAuditorExamined => ((.ret (.tup []), [(1000, .box 64 (bxc (GAuditorExamined.cs r)))]) : AEnd × List (Nat × Blk))) (fun e : Int × GAuditorExamined => ((.panic (.ifc 99 (.agg [I e.1])), [(1000, .box 64 (bxc (GAuditorExamined.cs e.2)))]) : AEnd × List (Nat × Blk)))) r) := by
 refine acall_sim (X := excX (fun r : GAuditorExamined => ((.ret (.tup []), [(1000, .box 64 (bxc (GAuditorExamined.cs r)))]) : AEnd × List (Nat × Blk))) (fun e : Int × GAuditorExamined => ((.panic (.ifc 99 (.agg [I e.1])), [(1000, .box 64 (bxc (GAuditorExamined.cs e.2)))]) : AEnd × List (Nat × Blk)))) [(1000, .box 64 [S a0e.Claim.Tariff.Name, .p (.sl 7 (List.map GArticle.cs a0e.Claim.Tariff.Articles)), I a0e.Claim.Calendar.Offset, .p (.sl 2 (List.map GChange.cs a0e.Claim.Calendar.Changes)), .p (.sl 1 (List.map ci a0e.Claim.Calendar.Holidays)), .p (.sl 5 (List.map GReading.cs a0e.Claim.Readings)), U a0e.Claim.Seed, I a0e.Claim.Session.From, I a0e.Claim.Session.To, I a0e.Claim.Session.End, .p (.sl 2 (List.map GSlice.cs a0e.Claim.Session.Slices)), .p (.sl 2 (List.map GLine.cs a0e.Claim.Bill.Lines)), I a0e.Claim.Bill.Net, I a0e.Claim.Bill.Tax, I a0e.Claim.Bill.Total, I a0e.follows.From, I a0e.follows.To, I a0e.follows.End, .p (.sl 2 (List.map GSlice.cs a0e.follows.Slices)), .p (.val (.slice none 0 0)), I a0e.bill.Net, I a0e.bill.Tax, I a0e.bill.Total, I a0e.rate])] Try.func37 rfl Try.ntmps37 rfl ?_
 unfold g_auditor_examined_price
 refine sim_run Try.fm ⟨[0, 5, 10, 11, 12], [1000], [], []⟩ ⟨[(0, .ptr 1000 0), (5, .ptr 1000 0), (10, .p (.sl 7 (List.map GArticle.cs a0e.Claim.Tariff.Articles))), (11, I (lenI (List.map GArticle.cs a0e.Claim.Tariff.Articles))), (12, I 0)], [(1000, .box 64 [S a0e.Claim.Tariff.Name, .p (.sl 7 (List.map GArticle.cs a0e.Claim.Tariff.Articles)), I a0e.Claim.Calendar.Offset, .p (.sl 2 (List.map GChange.cs a0e.Claim.Calendar.Changes)), .p (.sl 1 (List.map ci a0e.Claim.Calendar.Holidays)), .p (.sl 5 (List.map GReading.cs a0e.Claim.Readings)), U a0e.Claim.Seed, I a0e.Claim.Session.From, I a0e.Claim.Session.To, I a0e.Claim.Session.End, .p (.sl 2 (List.map GSlice.cs a0e.Claim.Session.Slices)), .p (.sl 2 (List.map GLine.cs a0e.Claim.Bill.Lines)), I a0e.Claim.Bill.Net, I a0e.Claim.Bill.Tax, I a0e.Claim.Bill.Total, I a0e.follows.From, I a0e.follows.To, I a0e.follows.End, .p (.sl 2 (List.map GSlice.cs a0e.follows.Slices)), .p (.val (.slice none 0 0)), I a0e.bill.Net, I a0e.bill.Tax, I a0e.bill.Total, I a0e.rate])]⟩ krf ?_
 refine sim_block ?_
 refine sim_loop (fun (l1_1, l1_2) => ⟨[(0, .ptr 1000 0), (5, .ptr 1000 0), (10, .p (.sl 7 (List.map GArticle.cs a0e.Claim.Tariff.Articles))), (11, I (lenI (List.map GArticle.cs a0e.Claim.Tariff.Articles))), (12, I l1_1)], [(1000, .box 64 [S a0e.Claim.Tariff.Name, .p (.sl 7 (List.map GArticle.cs a0e.Claim.Tariff.Articles)), I a0e.Claim.Calendar.Offset, .p (.sl 2 (List.map GChange.cs a0e.Claim.Calendar.Changes)), .p (.sl 1 (List.map ci a0e.Claim.Calendar.Holidays)), .p (.sl 5 (List.map GReading.cs a0e.Claim.Readings)), U a0e.Claim.Seed, I a0e.Claim.Session.From, I a0e.Claim.Session.To, I a0e.Claim.Session.End, .p (.sl 2 (List.map GSlice.cs a0e.Claim.Session.Slices)), .p (.sl 2 (List.map GLine.cs a0e.Claim.Bill.Lines)), I a0e.Claim.Bill.Net, I a0e.Claim.Bill.Tax, I a0e.Claim.Bill.Total, I a0e.follows.From, I a0e.follows.To, I a0e.follows.End, .p (.sl 2 (List.map GSlice.cs a0e.follows.Slices)), osl 2 GLine.cs l1_2 41, I a0e.bill.Net, I a0e.bill.Tax, I a0e.bill.Total, I a0e.rate])] ++ oarr 56 2 GLine.cs l1_2 41⟩ : (Int × (OL GLine)) → St) (weak_shr (K := ⟨[0, 5, 10, 11, 12], [1000], [], []⟩) krf) ?_
 rintro recl1 ⟨l1_1, l1_2⟩
 show SimE (g_auditor_examined_price_l1 n a0e recl1 l1_1 l1_2) _ _ _ _ _ _
 unfold g_auditor_examined_price_l1
 rcases l1_2 with _ | ow_l1_2
 ·refine sim_run Try.fm ⟨[0, 5, 10, 11, 12, 13], [1000], [], []⟩ ⟨[(0, .ptr 1000 0), (5, .ptr 1000 0), (10, .p (.sl 7 (List.map GArticle.cs a0e.Claim.Tariff.Articles))), (11, I (lenI (List.map GArticle.cs a0e.Claim.Tariff.Articles))), (12, I l1_1), (13, B (ltI l1_1 (lenI (List.map GArticle.cs a0e.Claim.Tariff.Articles))))], [(1000, .box 64 [S a0e.Claim.Tariff.Name, .p (.sl 7 (List.map GArticle.cs a0e.Claim.Tariff.Articles)), I a0e.Claim.Calendar.Offset, .p (.sl 2 (List.map GChange.cs a0e.Claim.Calendar.Changes)), .p (.sl 1 (List.map ci a0e.Claim.Calendar.Holidays)), .p (.sl 5 (List.map GReading.cs a0e.Claim.Readings)), U a0e.Claim.Seed, I a0e.Claim.Session.From, I a0e.Claim.Session.To, I a0e.Claim.Session.End, .p (.sl 2 (List.map GSlice.cs a0e.Claim.Session.Slices)), .p (.sl 2 (List.map GLine.cs a0e.Claim.Bill.Lines)), I a0e.Claim.Bill.Net, I a0e.Claim.Bill.Tax, I a0e.Claim.Bill.Total, I a0e.follows.From, I a0e.follows.To, I a0e.follows.End, .p (.sl 2 (List.map GSlice.cs a0e.follows.Slices)), .p (.val (.slice none 0 0)), I a0e.bill.Net, I a0e.bill.Tax, I a0e.bill.Total, I a0e.rate])]⟩ krf ?_
  refine sim_seq ?_
  refine sim_cond (ltI l1_1 (lenI (List.map GArticle.cs a0e.Claim.Tariff.Articles))) krf ?_ ?_
  ·refine sim_skip ?_
   refine sq_nk ⟨[0, 5, 10, 11, 12], [1000], [], []⟩ ⟨[(0, .ptr 1000 0), (5, .ptr 1000 0), (10, .p (.sl 7 (List.map GArticle.cs a0e.Claim.Tariff.Articles))), (11, I (lenI (List.map GArticle.cs a0e.Claim.Tariff.Articles))), (12, I l1_1)], [(1000, .box 64 [S a0e.Claim.Tariff.Name, .p (.sl 7 (List.map GArticle.cs a0e.Claim.Tariff.Articles)), I a0e.Claim.Calendar.Offset, .p (.sl 2 (List.map GChange.cs a0e.Claim.Calendar.Changes)), .p (.sl 1 (List.map ci a0e.Claim.Calendar.Holidays)), .p (.sl 5 (List.map GReading.cs a0e.Claim.Readings)), U a0e.Claim.Seed, I a0e.Claim.Session.From, I a0e.Claim.Session.To, I a0e.Claim.Session.End, .p (.sl 2 (List.map GSlice.cs a0e.Claim.Session.Slices)), .p (.sl 2 (List.map GLine.cs a0e.Claim.Bill.Lines)), I a0e.Claim.Bill.Net, I a0e.Claim.Bill.Tax, I a0e.Claim.Bill.Total, I a0e.follows.From, I a0e.follows.To, I a0e.follows.End, .p (.sl 2 (List.map GSlice.cs a0e.follows.Slices)), .p (.val (.slice none 0 0)), I a0e.bill.Net, I a0e.bill.Tax, I a0e.bill.Total, I a0e.rate])]⟩ krf ?_
   refine sim_seq ?_
   refine sim_block ?_
   refine sim_seq ?_
   refine sim_reg ?_
   refine xs_run 1 krf ?_
   refine xs_get krf krf (aop_idx (e := 75) (S := 7) (enc := GArticle.cs) (l := a0e.Claim.Tariff.Articles) (k := .i64) (n := l1_1) (sv := .p (.sl 7 (List.map GArticle.cs a0e.Claim.Tariff.Articles))) rfl krf krf krf krf krf) (fun x2 => ?_)
   refine xs_run 4 krf ?_
   refine xs_end ?_
   refine sq_nk ⟨[0, 2, 3, 5, 10, 11, 12], [3, 1000], [], []⟩ ⟨[(0, .ptr 1000 0), (2, I l1_1), (3, .ptr 3 0), (5, .ptr 1000 0), (10, .p (.sl 7 (List.map GArticle.cs a0e.Claim.Tariff.Articles))), (11, I (lenI (List.map GArticle.cs a0e.Claim.Tariff.Articles))), (12, I l1_1)], [(3, .box 75 (bxc (GArticle.cs x2))), (1000, .box 64 [S a0e.Claim.Tariff.Name, .p (.sl 7 (List.map GArticle.cs a0e.Claim.Tariff.Articles)), I a0e.Claim.Calendar.Offset, .p (.sl 2 (List.map GChange.cs a0e.Claim.Calendar.Changes)), .p (.sl 1 (List.map ci a0e.Claim.Calendar.Holidays)), .p (.sl 5 (List.map GReading.cs a0e.Claim.Readings)), U a0e.Claim.Seed, I a0e.Claim.Session.From, I a0e.Claim.Session.To, I a0e.Claim.Session.End, .p (.sl 2 (List.map GSlice.cs a0e.Claim.Session.Slices)), .p (.sl 2 (List.map GLine.cs a0e.Claim.Bill.Lines)), I a0e.Claim.Bill.Net, I a0e.Claim.Bill.Tax, I a0e.Claim.Bill.Total, I a0e.follows.From, I a0e.follows.To, I a0e.follows.End, .p (.sl 2 (List.map GSlice.cs a0e.follows.Slices)), .p (.val (.slice none 0 0)), I a0e.bill.Net, I a0e.bill.Tax, I a0e.bill.Total, I a0e.rate])]⟩ krf ?_
   refine sim_seq ?_
   refine sim_bind (fun j3 => ⟨[(0, .ptr 1000 0), (2, I l1_1), (3, .ptr 3 0), (5, .ptr 1000 0), (10, .p (.sl 7 (List.map GArticle.cs a0e.Claim.Tariff.Articles))), (11, I (lenI (List.map GArticle.cs a0e.Claim.Tariff.Articles))), (12, I l1_1), (24, B j3)], [(3, .box 75 (bxc (GArticle.cs x2))), (1000, .box 64 [S a0e.Claim.Tariff.Name, .p (.sl 7 (List.map GArticle.cs a0e.Claim.Tariff.Articles)), I a0e.Claim.Calendar.Offset, .p (.sl 2 (List.map GChange.cs a0e.Claim.Calendar.Changes)), .p (.sl 1 (List.map ci a0e.Claim.Calendar.Holidays)), .p (.sl 5 (List.map GReading.cs a0e.Claim.Readings)), U a0e.Claim.Seed, I a0e.Claim.Session.From, I a0e.Claim.Session.To, I a0e.Claim.Session.End, .p (.sl 2 (List.map GSlice.cs a0e.Claim.Session.Slices)), .p (.sl 2 (List.map GLine.cs a0e.Claim.Bill.Lines)), I a0e.Claim.Bill.Net, I a0e.Claim.Bill.Tax, I a0e.Claim.Bill.Total, I a0e.follows.From, I a0e.follows.To, I a0e.follows.End, .p (.sl 2 (List.map GSlice.cs a0e.follows.Slices)), .p (.val (.slice none 0 0)), I a0e.bill.Net, I a0e.bill.Tax, I a0e.bill.Total, I a0e.rate])]⟩ : Bool → St) ?_ ?_
   ·refine sim_reg ?_
    refine xs_run 4 krf ?_
    refine xs_split (eqI x2.Kind 5) (fun h4 => ?_) (fun h4 => ?_)
    ·refine xs_no (want_ft krf h4) krf ?_
     refine xs_run 3 krf ?_
     refine xs_end ?_
     exact nq_n true ⟨[0, 2, 3, 5, 10, 11, 12, 24], [3, 1000], [], []⟩ krf
    ·refine xs_one (want_ff krf h4) krf ?_
     refine xs_run 3 krf ?_
     refine xs_end ?_
     exact nq_n (eqI x2.Kind 6) ⟨[0, 2, 3, 5, 10, 11, 12, 24], [3, 1000], [], []⟩ krf
   ·rintro j3
    refine sim_cond j3 krf ?_ ?_
    ·refine sim_exit ?_
     refine sq_x ?_
     refine bq_hit ?_
     refine sq_nk ⟨[0, 5, 10, 11, 12], [1000], [], []⟩ ⟨[(0, .ptr 1000 0), (5, .ptr 1000 0), (10, .p (.sl 7 (List.map GArticle.cs a0e.Claim.Tariff.Articles))), (11, I (lenI (List.map GArticle.cs a0e.Claim.Tariff.Articles))), (12, I l1_1)], [(1000, .box 64 [S a0e.Claim.Tariff.Name, .p (.sl 7 (List.map GArticle.cs a0e.Claim.Tariff.Articles)), I a0e.Claim.Calendar.Offset, .p (.sl 2 (List.map GChange.cs a0e.Claim.Calendar.Changes)), .p (.sl 1 (List.map ci a0e.Claim.Calendar.Holidays)), .p (.sl 5 (List.map GReading.cs a0e.Claim.Readings)), U a0e.Claim.Seed, I a0e.Claim.Session.From, I a0e.Claim.Session.To, I a0e.Claim.Session.End, .p (.sl 2 (List.map GSlice.cs a0e.Claim.Session.Slices)), .p (.sl 2 (List.map GLine.cs a0e.Claim.Bill.Lines)), I a0e.Claim.Bill.Net, I a0e.Claim.Bill.Tax, I a0e.Claim.Bill.Total, I a0e.follows.From, I a0e.follows.To, I a0e.follows.End, .p (.sl 2 (List.map GSlice.cs a0e.follows.Slices)), .p (.val (.slice none 0 0)), I a0e.bill.Net, I a0e.bill.Tax, I a0e.bill.Total, I a0e.rate])]⟩ krf ?_
     refine sim_last Try.fm krf ?_
     exact kq_n (wi (l1_1 + 1), OL.nil) ⟨[0, 5, 10, 11, 12], [1000], [], []⟩ krf
    ·refine sim_skip ?_
     refine sq_nk ⟨[0, 2, 3, 5, 10, 11, 12], [3, 1000], [], []⟩ ⟨[(0, .ptr 1000 0), (2, I l1_1), (3, .ptr 3 0), (5, .ptr 1000 0), (10, .p (.sl 7 (List.map GArticle.cs a0e.Claim.Tariff.Articles))), (11, I (lenI (List.map GArticle.cs a0e.Claim.Tariff.Articles))), (12, I l1_1)], [(3, .box 75 (bxc (GArticle.cs x2))), (1000, .box 64 [S a0e.Claim.Tariff.Name, .p (.sl 7 (List.map GArticle.cs a0e.Claim.Tariff.Articles)), I a0e.Claim.Calendar.Offset, .p (.sl 2 (List.map GChange.cs a0e.Claim.Calendar.Changes)), .p (.sl 1 (List.map ci a0e.Claim.Calendar.Holidays)), .p (.sl 5 (List.map GReading.cs a0e.Claim.Readings)), U a0e.Claim.Seed, I a0e.Claim.Session.From, I a0e.Claim.Session.To, I a0e.Claim.Session.End, .p (.sl 2 (List.map GSlice.cs a0e.Claim.Session.Slices)), .p (.sl 2 (List.map GLine.cs a0e.Claim.Bill.Lines)), I a0e.Claim.Bill.Net, I a0e.Claim.Bill.Tax, I a0e.Claim.Bill.Total, I a0e.follows.From, I a0e.follows.To, I a0e.follows.End, .p (.sl 2 (List.map GSlice.cs a0e.follows.Slices)), .p (.val (.slice none 0 0)), I a0e.bill.Net, I a0e.bill.Tax, I a0e.bill.Total, I a0e.rate])]⟩ krf ?_
     refine sim_seq ?_
     refine sim_reg ?_
     refine xs_run 2 krf ?_
     refine xs_ro [.ro [.id, .id, .id, .id, .id, .id, .id, .id, .id, .id, .id, .id, .id, .id, .id, .id, .id, .id, .id, .sl 2, .id, .id, .id, .id], .cv (.id)] krf (g_auditor_examined_cost_ok n (⟨a0e.Claim, a0e.follows, (⟨OL.nil.toL, a0e.bill.Net, a0e.bill.Tax, a0e.bill.Total⟩ : GBill), a0e.rate⟩ : GAuditorExamined) x2) krf krf (fun _ => by kernel_rfl) (fun r5 => ?_)
     refine xs_run 1 krf ?_
     refine xs_end ?_
     refine sq_nk ⟨[0, 2, 4, 5, 10, 11, 12], [1000], [], []⟩ ⟨[(0, .ptr 1000 0), (2, I l1_1), (4, I r5), (5, .ptr 1000 0), (10, .p (.sl 7 (List.map GArticle.cs a0e.Claim.Tariff.Articles))), (11, I (lenI (List.map GArticle.cs a0e.Claim.Tariff.Articles))), (12, I l1_1)], [(1000, .box 64 [S a0e.Claim.Tariff.Name, .p (.sl 7 (List.map GArticle.cs a0e.Claim.Tariff.Articles)), I a0e.Claim.Calendar.Offset, .p (.sl 2 (List.map GChange.cs a0e.Claim.Calendar.Changes)), .p (.sl 1 (List.map ci a0e.Claim.Calendar.Holidays)), .p (.sl 5 (List.map GReading.cs a0e.Claim.Readings)), U a0e.Claim.Seed, I a0e.Claim.Session.From, I a0e.Claim.Session.To, I a0e.Claim.Session.End, .p (.sl 2 (List.map GSlice.cs a0e.Claim.Session.Slices)), .p (.sl 2 (List.map GLine.cs a0e.Claim.Bill.Lines)), I a0e.Claim.Bill.Net, I a0e.Claim.Bill.Tax, I a0e.Claim.Bill.Total, I a0e.follows.From, I a0e.follows.To, I a0e.follows.End, .p (.sl 2 (List.map GSlice.cs a0e.follows.Slices)), .p (.val (.slice none 0 0)), I a0e.bill.Net, I a0e.bill.Tax, I a0e.bill.Total, I a0e.rate])]⟩ krf ?_
     refine sim_seq ?_
     refine sim_reg ?_
     refine xs_run 2 krf ?_
     refine xs_exc [] krf (g_auditor_need_ok n (leI r5 1000000000) 4) krf krf (fun _ => by kernel_rfl) (fun _ => by kernel_rfl) (fun r6 => ?_) (fun e7 => ?_)
     ·refine xs_end ?_
      refine sq_nk ⟨[0, 2, 4, 5, 10, 11, 12], [1000], [], []⟩ ⟨[(0, .ptr 1000 0), (2, I l1_1), (4, I r5), (5, .ptr 1000 0), (10, .p (.sl 7 (List.map GArticle.cs a0e.Claim.Tariff.Articles))), (11, I (lenI (List.map GArticle.cs a0e.Claim.Tariff.Articles))), (12, I l1_1)], [(1000, .box 64 [S a0e.Claim.Tariff.Name, .p (.sl 7 (List.map GArticle.cs a0e.Claim.Tariff.Articles)), I a0e.Claim.Calendar.Offset, .p (.sl 2 (List.map GChange.cs a0e.Claim.Calendar.Changes)), .p (.sl 1 (List.map ci a0e.Claim.Calendar.Holidays)), .p (.sl 5 (List.map GReading.cs a0e.Claim.Readings)), U a0e.Claim.Seed, I a0e.Claim.Session.From, I a0e.Claim.Session.To, I a0e.Claim.Session.End, .p (.sl 2 (List.map GSlice.cs a0e.Claim.Session.Slices)), .p (.sl 2 (List.map GLine.cs a0e.Claim.Bill.Lines)), I a0e.Claim.Bill.Net, I a0e.Claim.Bill.Tax, I a0e.Claim.Bill.Total, I a0e.follows.From, I a0e.follows.To, I a0e.follows.End, .p (.sl 2 (List.map GSlice.cs a0e.follows.Slices)), .p (.val (.slice none 0 0)), I a0e.bill.Net, I a0e.bill.Tax, I a0e.bill.Total, I a0e.rate])]⟩ krf ?_
      refine sim_reg ?_
      refine xs_run 10 krf ?_
      refine xs_if krf krf (aop_app0 (e := 56) (S := 2) (by_ := 16) (enc := GLine.cs) (d := 41) (l2 := [(⟨l1_1, r5⟩ : GLine)]) (xv := .tsl 2 (List.map GLine.cs [(⟨l1_1, r5⟩ : GLine)]) 40) rfl rfl krf krf rfl krf krf krf rfl krf) ?_
      refine xs_run 4 krf ?_
      refine xs_end ?_
      refine bq_n ?_
      refine sq_nk ⟨[0, 4, 5, 10, 11, 12], [41, 1000], [], []⟩ ⟨[(0, .ptr 1000 0), (4, I r5), (5, .ptr 1000 0), (10, .p (.sl 7 (List.map GArticle.cs a0e.Claim.Tariff.Articles))), (11, I (lenI (List.map GArticle.cs a0e.Claim.Tariff.Articles))), (12, I l1_1)], [(41, .arr 56 2 (List.map GLine.cs (OL.nil.toL ++ [(⟨l1_1, r5⟩ : GLine)])).length), (1000, .box 64 [S a0e.Claim.Tariff.Name, .p (.sl 7 (List.map GArticle.cs a0e.Claim.Tariff.Articles)), I a0e.Claim.Calendar.Offset, .p (.sl 2 (List.map GChange.cs a0e.Claim.Calendar.Changes)), .p (.sl 1 (List.map ci a0e.Claim.Calendar.Holidays)), .p (.sl 5 (List.map GReading.cs a0e.Claim.Readings)), U a0e.Claim.Seed, I a0e.Claim.Session.From, I a0e.Claim.Session.To, I a0e.Claim.Session.End, .p (.sl 2 (List.map GSlice.cs a0e.Claim.Session.Slices)), .p (.sl 2 (List.map GLine.cs a0e.Claim.Bill.Lines)), I a0e.Claim.Bill.Net, I a0e.Claim.Bill.Tax, I a0e.Claim.Bill.Total, I a0e.follows.From, I a0e.follows.To, I a0e.follows.End, .p (.sl 2 (List.map GSlice.cs a0e.follows.Slices)), .tsl 2 (List.map GLine.cs (OL.nil.toL ++ [(⟨l1_1, r5⟩ : GLine)])) 41, I a0e.bill.Net, I a0e.bill.Tax, I a0e.bill.Total, I a0e.rate])]⟩ krf ?_
      refine sim_last Try.fm krf ?_
      exact kq_n (wi (l1_1 + 1), OL.own (OL.nil.toL ++ [(⟨l1_1, r5⟩ : GLine)])) ⟨[0, 5, 10, 11, 12], [1000, 41], [], []⟩ krf
     ·refine sq_p ?_
      refine bq_p ?_
      refine sq_p ?_
      refine kq_p ?_
      refine bq_p ?_
      exact hq_p [1000] [(1000, [.id, .id, .id, .id, .id, .id, .id, .id, .id, .id, .id, .id, .id, .id, .id, .id, .id, .id, .id, .sl 2, .id, .id, .id, .id])] krf krf krf
  ·refine sim_exit ?_
   refine sq_x ?_
   refine kq_x ?_
   refine bq_hit ?_
   exact hq_n (.id) [1000] [(1000, [.id, .id, .id, .id, .id, .id, .id, .id, .id, .id, .id, .id, .id, .id, .id, .id, .id, .id, .id, .sl 2, .id, .id, .id, .id])] krf krf krf krf
 ·refine sim_run Try.fm ⟨[0, 5, 10, 11, 12, 13], [41, 1000], [], []⟩ ⟨[(0, .ptr 1000 0), (5, .ptr 1000 0), (10, .p (.sl 7 (List.map GArticle.cs a0e.Claim.Tariff.Articles))), (11, I (lenI (List.map GArticle.cs a0e.Claim.Tariff.Articles))), (12, I l1_1), (13, B (ltI l1_1 (lenI (List.map GArticle.cs a0e.Claim.Tariff.Articles))))], [(41, .arr 56 2 (List.map GLine.cs (OL.own ow_l1_2).toL).length), (1000, .box 64 [S a0e.Claim.Tariff.Name, .p (.sl 7 (List.map GArticle.cs a0e.Claim.Tariff.Articles)), I a0e.Claim.Calendar.Offset, .p (.sl 2 (List.map GChange.cs a0e.Claim.Calendar.Changes)), .p (.sl 1 (List.map ci a0e.Claim.Calendar.Holidays)), .p (.sl 5 (List.map GReading.cs a0e.Claim.Readings)), U a0e.Claim.Seed, I a0e.Claim.Session.From, I a0e.Claim.Session.To, I a0e.Claim.Session.End, .p (.sl 2 (List.map GSlice.cs a0e.Claim.Session.Slices)), .p (.sl 2 (List.map GLine.cs a0e.Claim.Bill.Lines)), I a0e.Claim.Bill.Net, I a0e.Claim.Bill.Tax, I a0e.Claim.Bill.Total, I a0e.follows.From, I a0e.follows.To, I a0e.follows.End, .p (.sl 2 (List.map GSlice.cs a0e.follows.Slices)), .tsl 2 (List.map GLine.cs (OL.own ow_l1_2).toL) 41, I a0e.bill.Net, I a0e.bill.Tax, I a0e.bill.Total, I a0e.rate])]⟩ krf ?_
  refine sim_seq ?_
  refine sim_cond (ltI l1_1 (lenI (List.map GArticle.cs a0e.Claim.Tariff.Articles))) krf ?_ ?_
  ·refine sim_skip ?_
   refine sq_nk ⟨[0, 5, 10, 11, 12], [41, 1000], [], []⟩ ⟨[(0, .ptr 1000 0), (5, .ptr 1000 0), (10, .p (.sl 7 (List.map GArticle.cs a0e.Claim.Tariff.Articles))), (11, I (lenI (List.map GArticle.cs a0e.Claim.Tariff.Articles))), (12, I l1_1)], [(41, .arr 56 2 (List.map GLine.cs (OL.own ow_l1_2).toL).length), (1000, .box 64 [S a0e.Claim.Tariff.Name, .p (.sl 7 (List.map GArticle.cs a0e.Claim.Tariff.Articles)), I a0e.Claim.Calendar.Offset, .p (.sl 2 (List.map GChange.cs a0e.Claim.Calendar.Changes)), .p (.sl 1 (List.map ci a0e.Claim.Calendar.Holidays)), .p (.sl 5 (List.map GReading.cs a0e.Claim.Readings)), U a0e.Claim.Seed, I a0e.Claim.Session.From, I a0e.Claim.Session.To, I a0e.Claim.Session.End, .p (.sl 2 (List.map GSlice.cs a0e.Claim.Session.Slices)), .p (.sl 2 (List.map GLine.cs a0e.Claim.Bill.Lines)), I a0e.Claim.Bill.Net, I a0e.Claim.Bill.Tax, I a0e.Claim.Bill.Total, I a0e.follows.From, I a0e.follows.To, I a0e.follows.End, .p (.sl 2 (List.map GSlice.cs a0e.follows.Slices)), .tsl 2 (List.map GLine.cs (OL.own ow_l1_2).toL) 41, I a0e.bill.Net, I a0e.bill.Tax, I a0e.bill.Total, I a0e.rate])]⟩ krf ?_
   refine sim_seq ?_
   refine sim_block ?_
   refine sim_seq ?_
   refine sim_reg ?_
   refine xs_run 1 krf ?_
   refine xs_get krf krf (aop_idx (e := 75) (S := 7) (enc := GArticle.cs) (l := a0e.Claim.Tariff.Articles) (k := .i64) (n := l1_1) (sv := .p (.sl 7 (List.map GArticle.cs a0e.Claim.Tariff.Articles))) rfl krf krf krf krf krf) (fun x2 => ?_)
   refine xs_run 4 krf ?_
   refine xs_end ?_
   refine sq_nk ⟨[0, 2, 3, 5, 10, 11, 12], [3, 41, 1000], [], []⟩ ⟨[(0, .ptr 1000 0), (2, I l1_1), (3, .ptr 3 0), (5, .ptr 1000 0), (10, .p (.sl 7 (List.map GArticle.cs a0e.Claim.Tariff.Articles))), (11, I (lenI (List.map GArticle.cs a0e.Claim.Tariff.Articles))), (12, I l1_1)], [(3, .box 75 (bxc (GArticle.cs x2))), (41, .arr 56 2 (List.map GLine.cs (OL.own ow_l1_2).toL).length), (1000, .box 64 [S a0e.Claim.Tariff.Name, .p (.sl 7 (List.map GArticle.cs a0e.Claim.Tariff.Articles)), I a0e.Claim.Calendar.Offset, .p (.sl 2 (List.map GChange.cs a0e.Claim.Calendar.Changes)), .p (.sl 1 (List.map ci a0e.Claim.Calendar.Holidays)), .p (.sl 5 (List.map GReading.cs a0e.Claim.Readings)), U a0e.Claim.Seed, I a0e.Claim.Session.From, I a0e.Claim.Session.To, I a0e.Claim.Session.End, .p (.sl 2 (List.map GSlice.cs a0e.Claim.Session.Slices)), .p (.sl 2 (List.map GLine.cs a0e.Claim.Bill.Lines)), I a0e.Claim.Bill.Net, I a0e.Claim.Bill.Tax, I a0e.Claim.Bill.Total, I a0e.follows.From, I a0e.follows.To, I a0e.follows.End, .p (.sl 2 (List.map GSlice.cs a0e.follows.Slices)), .tsl 2 (List.map GLine.cs (OL.own ow_l1_2).toL) 41, I a0e.bill.Net, I a0e.bill.Tax, I a0e.bill.Total, I a0e.rate])]⟩ krf ?_
   refine sim_seq ?_
   refine sim_bind (fun j3 => ⟨[(0, .ptr 1000 0), (2, I l1_1), (3, .ptr 3 0), (5, .ptr 1000 0), (10, .p (.sl 7 (List.map GArticle.cs a0e.Claim.Tariff.Articles))), (11, I (lenI (List.map GArticle.cs a0e.Claim.Tariff.Articles))), (12, I l1_1), (24, B j3)], [(3, .box 75 (bxc (GArticle.cs x2))), (41, .arr 56 2 (List.map GLine.cs (OL.own ow_l1_2).toL).length), (1000, .box 64 [S a0e.Claim.Tariff.Name, .p (.sl 7 (List.map GArticle.cs a0e.Claim.Tariff.Articles)), I a0e.Claim.Calendar.Offset, .p (.sl 2 (List.map GChange.cs a0e.Claim.Calendar.Changes)), .p (.sl 1 (List.map ci a0e.Claim.Calendar.Holidays)), .p (.sl 5 (List.map GReading.cs a0e.Claim.Readings)), U a0e.Claim.Seed, I a0e.Claim.Session.From, I a0e.Claim.Session.To, I a0e.Claim.Session.End, .p (.sl 2 (List.map GSlice.cs a0e.Claim.Session.Slices)), .p (.sl 2 (List.map GLine.cs a0e.Claim.Bill.Lines)), I a0e.Claim.Bill.Net, I a0e.Claim.Bill.Tax, I a0e.Claim.Bill.Total, I a0e.follows.From, I a0e.follows.To, I a0e.follows.End, .p (.sl 2 (List.map GSlice.cs a0e.follows.Slices)), .tsl 2 (List.map GLine.cs (OL.own ow_l1_2).toL) 41, I a0e.bill.Net, I a0e.bill.Tax, I a0e.bill.Total, I a0e.rate])]⟩ : Bool → St) ?_ ?_
   ·refine sim_reg ?_
    refine xs_run 4 krf ?_
    refine xs_split (eqI x2.Kind 5) (fun h4 => ?_) (fun h4 => ?_)
    ·refine xs_no (want_ft krf h4) krf ?_
     refine xs_run 3 krf ?_
     refine xs_end ?_
     exact nq_n true ⟨[0, 2, 3, 5, 10, 11, 12, 24], [3, 41, 1000], [], []⟩ krf
    ·refine xs_one (want_ff krf h4) krf ?_
     refine xs_run 3 krf ?_
     refine xs_end ?_
     exact nq_n (eqI x2.Kind 6) ⟨[0, 2, 3, 5, 10, 11, 12, 24], [3, 41, 1000], [], []⟩ krf
   ·rintro j3
    refine sim_cond j3 krf ?_ ?_
    ·refine sim_exit ?_
     refine sq_x ?_
     refine bq_hit ?_
     refine sq_nk ⟨[0, 5, 10, 11, 12], [41, 1000], [], []⟩ ⟨[(0, .ptr 1000 0), (5, .ptr 1000 0), (10, .p (.sl 7 (List.map GArticle.cs a0e.Claim.Tariff.Articles))), (11, I (lenI (List.map GArticle.cs a0e.Claim.Tariff.Articles))), (12, I l1_1)], [(41, .arr 56 2 (List.map GLine.cs (OL.own ow_l1_2).toL).length), (1000, .box 64 [S a0e.Claim.Tariff.Name, .p (.sl 7 (List.map GArticle.cs a0e.Claim.Tariff.Articles)), I a0e.Claim.Calendar.Offset, .p (.sl 2 (List.map GChange.cs a0e.Claim.Calendar.Changes)), .p (.sl 1 (List.map ci a0e.Claim.Calendar.Holidays)), .p (.sl 5 (List.map GReading.cs a0e.Claim.Readings)), U a0e.Claim.Seed, I a0e.Claim.Session.From, I a0e.Claim.Session.To, I a0e.Claim.Session.End, .p (.sl 2 (List.map GSlice.cs a0e.Claim.Session.Slices)), .p (.sl 2 (List.map GLine.cs a0e.Claim.Bill.Lines)), I a0e.Claim.Bill.Net, I a0e.Claim.Bill.Tax, I a0e.Claim.Bill.Total, I a0e.follows.From, I a0e.follows.To, I a0e.follows.End, .p (.sl 2 (List.map GSlice.cs a0e.follows.Slices)), .tsl 2 (List.map GLine.cs (OL.own ow_l1_2).toL) 41, I a0e.bill.Net, I a0e.bill.Tax, I a0e.bill.Total, I a0e.rate])]⟩ krf ?_
     refine sim_last Try.fm krf ?_
     exact kq_n (wi (l1_1 + 1), (OL.own ow_l1_2)) ⟨[0, 5, 10, 11, 12], [1000, 41], [], []⟩ krf
    ·refine sim_skip ?_
     refine sq_nk ⟨[0, 2, 3, 5, 10, 11, 12], [3, 41, 1000], [], []⟩ ⟨[(0, .ptr 1000 0), (2, I l1_1), (3, .ptr 3 0), (5, .ptr 1000 0), (10, .p (.sl 7 (List.map GArticle.cs a0e.Claim.Tariff.Articles))), (11, I (lenI (List.map GArticle.cs a0e.Claim.Tariff.Articles))), (12, I l1_1)], [(3, .box 75 (bxc (GArticle.cs x2))), (41, .arr 56 2 (List.map GLine.cs (OL.own ow_l1_2).toL).length), (1000, .box 64 [S a0e.Claim.Tariff.Name, .p (.sl 7 (List.map GArticle.cs a0e.Claim.Tariff.Articles)), I a0e.Claim.Calendar.Offset, .p (.sl 2 (List.map GChange.cs a0e.Claim.Calendar.Changes)), .p (.sl 1 (List.map ci a0e.Claim.Calendar.Holidays)), .p (.sl 5 (List.map GReading.cs a0e.Claim.Readings)), U a0e.Claim.Seed, I a0e.Claim.Session.From, I a0e.Claim.Session.To, I a0e.Claim.Session.End, .p (.sl 2 (List.map GSlice.cs a0e.Claim.Session.Slices)), .p (.sl 2 (List.map GLine.cs a0e.Claim.Bill.Lines)), I a0e.Claim.Bill.Net, I a0e.Claim.Bill.Tax, I a0e.Claim.Bill.Total, I a0e.follows.From, I a0e.follows.To, I a0e.follows.End, .p (.sl 2 (List.map GSlice.cs a0e.follows.Slices)), .tsl 2 (List.map GLine.cs (OL.own ow_l1_2).toL) 41, I a0e.bill.Net, I a0e.bill.Tax, I a0e.bill.Total, I a0e.rate])]⟩ krf ?_
     refine sim_seq ?_
     refine sim_reg ?_
     refine xs_run 2 krf ?_
     refine xs_ro [.ro [.id, .id, .id, .id, .id, .id, .id, .id, .id, .id, .id, .id, .id, .id, .id, .id, .id, .id, .id, .sl 2, .id, .id, .id, .id], .cv (.id)] krf (g_auditor_examined_cost_ok n (⟨a0e.Claim, a0e.follows, (⟨(OL.own ow_l1_2).toL, a0e.bill.Net, a0e.bill.Tax, a0e.bill.Total⟩ : GBill), a0e.rate⟩ : GAuditorExamined) x2) krf krf (fun _ => by kernel_rfl) (fun r5 => ?_)
     refine xs_run 1 krf ?_
     refine xs_end ?_
     refine sq_nk ⟨[0, 2, 4, 5, 10, 11, 12], [41, 1000], [], []⟩ ⟨[(0, .ptr 1000 0), (2, I l1_1), (4, I r5), (5, .ptr 1000 0), (10, .p (.sl 7 (List.map GArticle.cs a0e.Claim.Tariff.Articles))), (11, I (lenI (List.map GArticle.cs a0e.Claim.Tariff.Articles))), (12, I l1_1)], [(41, .arr 56 2 (List.map GLine.cs (OL.own ow_l1_2).toL).length), (1000, .box 64 [S a0e.Claim.Tariff.Name, .p (.sl 7 (List.map GArticle.cs a0e.Claim.Tariff.Articles)), I a0e.Claim.Calendar.Offset, .p (.sl 2 (List.map GChange.cs a0e.Claim.Calendar.Changes)), .p (.sl 1 (List.map ci a0e.Claim.Calendar.Holidays)), .p (.sl 5 (List.map GReading.cs a0e.Claim.Readings)), U a0e.Claim.Seed, I a0e.Claim.Session.From, I a0e.Claim.Session.To, I a0e.Claim.Session.End, .p (.sl 2 (List.map GSlice.cs a0e.Claim.Session.Slices)), .p (.sl 2 (List.map GLine.cs a0e.Claim.Bill.Lines)), I a0e.Claim.Bill.Net, I a0e.Claim.Bill.Tax, I a0e.Claim.Bill.Total, I a0e.follows.From, I a0e.follows.To, I a0e.follows.End, .p (.sl 2 (List.map GSlice.cs a0e.follows.Slices)), .tsl 2 (List.map GLine.cs (OL.own ow_l1_2).toL) 41, I a0e.bill.Net, I a0e.bill.Tax, I a0e.bill.Total, I a0e.rate])]⟩ krf ?_
     refine sim_seq ?_
     refine sim_reg ?_
     refine xs_run 2 krf ?_
     refine xs_exc [] krf (g_auditor_need_ok n (leI r5 1000000000) 4) krf krf (fun _ => by kernel_rfl) (fun _ => by kernel_rfl) (fun r6 => ?_) (fun e7 => ?_)
     ·refine xs_end ?_
      refine sq_nk ⟨[0, 2, 4, 5, 10, 11, 12], [41, 1000], [], []⟩ ⟨[(0, .ptr 1000 0), (2, I l1_1), (4, I r5), (5, .ptr 1000 0), (10, .p (.sl 7 (List.map GArticle.cs a0e.Claim.Tariff.Articles))), (11, I (lenI (List.map GArticle.cs a0e.Claim.Tariff.Articles))), (12, I l1_1)], [(41, .arr 56 2 (List.map GLine.cs (OL.own ow_l1_2).toL).length), (1000, .box 64 [S a0e.Claim.Tariff.Name, .p (.sl 7 (List.map GArticle.cs a0e.Claim.Tariff.Articles)), I a0e.Claim.Calendar.Offset, .p (.sl 2 (List.map GChange.cs a0e.Claim.Calendar.Changes)), .p (.sl 1 (List.map ci a0e.Claim.Calendar.Holidays)), .p (.sl 5 (List.map GReading.cs a0e.Claim.Readings)), U a0e.Claim.Seed, I a0e.Claim.Session.From, I a0e.Claim.Session.To, I a0e.Claim.Session.End, .p (.sl 2 (List.map GSlice.cs a0e.Claim.Session.Slices)), .p (.sl 2 (List.map GLine.cs a0e.Claim.Bill.Lines)), I a0e.Claim.Bill.Net, I a0e.Claim.Bill.Tax, I a0e.Claim.Bill.Total, I a0e.follows.From, I a0e.follows.To, I a0e.follows.End, .p (.sl 2 (List.map GSlice.cs a0e.follows.Slices)), .tsl 2 (List.map GLine.cs (OL.own ow_l1_2).toL) 41, I a0e.bill.Net, I a0e.bill.Tax, I a0e.bill.Total, I a0e.rate])]⟩ krf ?_
      refine sim_reg ?_
      refine xs_run 10 krf ?_
      refine xs_if krf krf (aop_app (e := 56) (S := 2) (by_ := 16) (enc := GLine.cs) (tk := 41) (l := (OL.own ow_l1_2).toL) (l2 := [(⟨l1_1, r5⟩ : GLine)]) (xv := .tsl 2 (List.map GLine.cs [(⟨l1_1, r5⟩ : GLine)]) 40) rfl krf krf rfl krf krf krf rfl krf) ?_
      refine xs_run 4 krf ?_
      refine xs_end ?_
      refine bq_n ?_
      refine sq_nk ⟨[0, 4, 5, 10, 11, 12], [41, 1000], [], []⟩ ⟨[(0, .ptr 1000 0), (4, I r5), (5, .ptr 1000 0), (10, .p (.sl 7 (List.map GArticle.cs a0e.Claim.Tariff.Articles))), (11, I (lenI (List.map GArticle.cs a0e.Claim.Tariff.Articles))), (12, I l1_1)], [(41, .arr 56 2 (List.map GLine.cs ((OL.own ow_l1_2).toL ++ [(⟨l1_1, r5⟩ : GLine)])).length), (1000, .box 64 [S a0e.Claim.Tariff.Name, .p (.sl 7 (List.map GArticle.cs a0e.Claim.Tariff.Articles)), I a0e.Claim.Calendar.Offset, .p (.sl 2 (List.map GChange.cs a0e.Claim.Calendar.Changes)), .p (.sl 1 (List.map ci a0e.Claim.Calendar.Holidays)), .p (.sl 5 (List.map GReading.cs a0e.Claim.Readings)), U a0e.Claim.Seed, I a0e.Claim.Session.From, I a0e.Claim.Session.To, I a0e.Claim.Session.End, .p (.sl 2 (List.map GSlice.cs a0e.Claim.Session.Slices)), .p (.sl 2 (List.map GLine.cs a0e.Claim.Bill.Lines)), I a0e.Claim.Bill.Net, I a0e.Claim.Bill.Tax, I a0e.Claim.Bill.Total, I a0e.follows.From, I a0e.follows.To, I a0e.follows.End, .p (.sl 2 (List.map GSlice.cs a0e.follows.Slices)), .tsl 2 (List.map GLine.cs ((OL.own ow_l1_2).toL ++ [(⟨l1_1, r5⟩ : GLine)])) 41, I a0e.bill.Net, I a0e.bill.Tax, I a0e.bill.Total, I a0e.rate])]⟩ krf ?_
      refine sim_last Try.fm krf ?_
      exact kq_n (wi (l1_1 + 1), OL.own ((OL.own ow_l1_2).toL ++ [(⟨l1_1, r5⟩ : GLine)])) ⟨[0, 5, 10, 11, 12], [1000, 41], [], []⟩ krf
     ·refine sq_p ?_
      refine bq_p ?_
      refine sq_p ?_
      refine kq_p ?_
      refine bq_p ?_
      exact hq_p [1000] [(1000, [.id, .id, .id, .id, .id, .id, .id, .id, .id, .id, .id, .id, .id, .id, .id, .id, .id, .id, .id, .sl 2, .id, .id, .id, .id])] krf krf krf
  ·refine sim_exit ?_
   refine sq_x ?_
   refine kq_x ?_
   refine bq_hit ?_
   exact hq_n (.id) [1000] [(1000, [.id, .id, .id, .id, .id, .id, .id, .id, .id, .id, .id, .id, .id, .id, .id, .id, .id, .id, .id, .sl 2, .id, .id, .id, .id])] krf krf krf krf
def g_auditor_same_api_Line_l1 (a0a : List GLine) (a1b : List GLine) (recl1 : Int → Option Bool) (l1 : Int) : Option Bool :=
 cond (ltI l1 (lenI (List.map GLine.cs a0a)))
  ((getI a0a l1).bind fun x2 =>
  (getI a1b l1).bind fun x3 =>
  cond (!opq ((eqI x2.Article x3.Article) && ((eqI x2.Amount x3.Amount) && true)))
   (some false)
   (recl1 (wi (l1 + 1))))
  (some true)
def g_auditor_same_api_Line (n : Nat) (a0a : List GLine) (a1b : List GLine) : Option Bool :=
 cond (!eqI (lenI (List.map GLine.cs a0a)) (lenI (List.map GLine.cs a1b)))
  (some false)
  (loopN (fun recl1 l1 => g_auditor_same_api_Line_l1 a0a a1b recl1 l1) n 0)
theorem g_auditor_same_api_Line_ok (n : Nat) (a0a : List GLine) (a1b : List GLine) : ∀ r, g_auditor_same_api_Line n a0a a1b = some r → PCall Try.prog 39 [.p (.sl 2 (List.map GLine.cs a0a)), .p (.sl 2 (List.map GLine.cs a1b))] (.ret (B r)) := by
 refine pcall_sim (X := fun r : Bool => AEnd.ret (B r)) Try.func39 rfl Try.ntmps39 rfl ?_
 unfold g_auditor_same_api_Line
 refine sim_run Try.fm ⟨[0, 1, 4], [], [], []⟩ ⟨[(0, .p (.sl 2 (List.map GLine.cs a0a))), (1, .p (.sl 2 (List.map GLine.cs a1b))), (4, B false)], []⟩ krf ?_
 refine sim_seq ?_
 refine sim_run Try.fm ⟨[0, 1, 4, 10], [], [], []⟩ ⟨[(0, .p (.sl 2 (List.map GLine.cs a0a))), (1, .p (.sl 2 (List.map GLine.cs a1b))), (4, B false), (10, B (!eqI (lenI (List.map GLine.cs a0a)) (lenI (List.map GLine.cs a1b))))], []⟩ krf ?_
 refine sim_cond (!eqI (lenI (List.map GLine.cs a0a)) (lenI (List.map GLine.cs a1b))) krf ?_ ?_
 ·refine sim_run Try.fm ⟨[4], [], [], []⟩ ⟨[(4, B false)], []⟩ krf ?_
  refine sim_ret ?_
  refine sq_r ?_
  exact rq_ret (.id) krf krf krf
 ·refine sim_skip ?_
  refine sq_nk ⟨[0, 1, 4], [], [], []⟩ ⟨[(0, .p (.sl 2 (List.map GLine.cs a0a))), (1, .p (.sl 2 (List.map GLine.cs a1b))), (4, B false)], []⟩ krf ?_
  refine sim_seq ?_
  refine sim_run Try.fm ⟨[0, 1, 4, 12, 13], [], [], []⟩ ⟨[(0, .p (.sl 2 (List.map GLine.cs a0a))), (1, .p (.sl 2 (List.map GLine.cs a1b))), (4, B false), (12, I (lenI (List.map GLine.cs a0a))), (13, I 0)], []⟩ krf ?_
  refine sim_block ?_
  refine sim_loop (fun l1 => ⟨[(0, .p (.sl 2 (List.map GLine.cs a0a))), (1, .p (.sl 2 (List.map GLine.cs a1b))), (4, B false), (12, I (lenI (List.map GLine.cs a0a))), (13, I l1)], []⟩ : Int → St) (weak_shr (K := ⟨[0, 1, 4, 12, 13], [], [], []⟩) krf) ?_
  rintro recl1 l1
  show SimE (g_auditor_same_api_Line_l1 a0a a1b recl1 l1) _ _ _ _ _ _
  unfold g_auditor_same_api_Line_l1
  refine sim_run Try.fm ⟨[0, 1, 4, 12, 13, 14], [], [], []⟩ ⟨[(0, .p (.sl 2 (List.map GLine.cs a0a))), (1, .p (.sl 2 (List.map GLine.cs a1b))), (4, B false), (12, I (lenI (List.map GLine.cs a0a))), (13, I l1), (14, B (ltI l1 (lenI (List.map GLine.cs a0a))))], []⟩ krf ?_
  refine sim_seq ?_
  refine sim_cond (ltI l1 (lenI (List.map GLine.cs a0a))) krf ?_ ?_
  ·refine sim_skip ?_
   refine sq_nk ⟨[0, 1, 4, 12, 13], [], [], []⟩ ⟨[(0, .p (.sl 2 (List.map GLine.cs a0a))), (1, .p (.sl 2 (List.map GLine.cs a1b))), (4, B false), (12, I (lenI (List.map GLine.cs a0a))), (13, I l1)], []⟩ krf ?_
   refine sim_seq ?_
   refine sim_block ?_
   refine sim_run Try.fm ⟨[0, 1, 4, 5, 12, 13], [], [], []⟩ ⟨[(0, .p (.sl 2 (List.map GLine.cs a0a))), (1, .p (.sl 2 (List.map GLine.cs a1b))), (4, B false), (5, I l1), (12, I (lenI (List.map GLine.cs a0a))), (13, I l1)], []⟩ krf ?_
   refine sim_seq ?_
   refine sim_drw Try.fm rfl ?_
   refine xs_run 2 krf ?_
   refine xs_get krf krf (aop_idx (e := 56) (S := 2) (enc := GLine.cs) (l := a0a) (k := .i64) (n := l1) (sv := .p (.sl 2 (List.map GLine.cs a0a))) rfl krf krf krf krf krf) (fun x2 => ?_)
   refine xs_run 3 krf ?_
   refine xs_get krf krf (aop_idx (e := 56) (S := 2) (enc := GLine.cs) (l := a1b) (k := .i64) (n := l1) (sv := .p (.sl 2 (List.map GLine.cs a1b))) rfl krf krf krf krf krf) (fun x3 => ?_)
   refine xs_run 1 krf ?_
   refine xs_u krf krf (aop_neq (xs := [I x2.Article, I x2.Amount]) (ys := [I x3.Article, I x3.Amount]) (vx := [.int .i64 x2.Article, .int .i64 x2.Amount]) (vy := [.int .i64 x3.Article, .int .i64 x3.Amount]) (b := (eqI x2.Article x3.Article) && ((eqI x2.Amount x3.Amount) && true)) rfl krf krf krf krf krf krf) ?_
   refine xs_endD krf ?_
   refine sq_nk ⟨[0, 1, 4, 5, 12, 13, 24], [], [], []⟩ ⟨[(0, .p (.sl 2 (List.map GLine.cs a0a))), (1, .p (.sl 2 (List.map GLine.cs a1b))), (4, B false), (5, I l1), (12, I (lenI (List.map GLine.cs a0a))), (13, I l1), (24, B (!opq ((eqI x2.Article x3.Article) && ((eqI x2.Amount x3.Amount) && true))))], []⟩ krf ?_
   refine sim_cond (!opq ((eqI x2.Article x3.Article) && ((eqI x2.Amount x3.Amount) && true))) krf ?_ ?_
   ·refine sim_run Try.fm ⟨[4], [], [], []⟩ ⟨[(4, B false)], []⟩ krf ?_
    refine sim_ret ?_
    refine bq_r ?_
    refine sq_r ?_
    refine kq_r ?_
    refine bq_r ?_
    refine sq_r ?_
    exact rq_ret (.id) krf krf krf
   ·refine sim_skip ?_
    refine bq_n ?_
    refine sq_nk ⟨[0, 1, 4, 5, 12, 13], [], [], []⟩ ⟨[(0, .p (.sl 2 (List.map GLine.cs a0a))), (1, .p (.sl 2 (List.map GLine.cs a1b))), (4, B false), (5, I l1), (12, I (lenI (List.map GLine.cs a0a))), (13, I l1)], []⟩ krf ?_
    refine sim_last Try.fm krf ?_
    exact kq_n (wi (l1 + 1)) ⟨[0, 1, 4, 12, 13], [], [], []⟩ krf
  ·refine sim_exit ?_
   refine sq_x ?_
   refine kq_x ?_
   refine bq_hit ?_
   refine sq_nk ⟨[4], [], [], []⟩ ⟨[(4, B false)], []⟩ krf ?_
   refine sim_run Try.fm ⟨[4], [], [], []⟩ ⟨[(4, B true)], []⟩ krf ?_
   refine sim_ret ?_
   exact rq_ret (.id) krf krf krf
def g_auditor_examined_add_l2 (a0e : GAuditorExamined) (recl2 : (Int × Int) → Option Int) (l2_1 : Int) (l2_2 : Int) : Option Int :=
 cond (ltI l2_1 (lenI (List.map GLine.cs a0e.bill.Lines)))
  ((getI a0e.bill.Lines l2_1).bind fun x3 =>
  recl2 (wi (l2_1 + 1), wi (l2_2 + x3.Amount)))
  (some l2_2)
def g_auditor_examined_add_l5 (a0e : GAuditorExamined) (recl5 : (Int × Int) → Option Int) (l5_1 : Int) (l5_2 : Int) : Option Int :=
 cond (ltI l5_1 (lenI (List.map GArticle.cs a0e.Claim.Tariff.Articles)))
  ((getI a0e.Claim.Tariff.Articles l5_1).bind fun x6 =>
  cond (eqI x6.Kind 5)
   (recl5 (wi (l5_1 + 1), minI l5_2 x6.Price))
   (recl5 (wi (l5_1 + 1), l5_2)))
  (some l5_2)
def g_auditor_examined_add (n : Nat) (a0e : GAuditorExamined) : Option (Except (Int × GAuditorExamined) GAuditorExamined) :=
 (loopN (fun recl2 (l2_1, l2_2) => g_auditor_examined_add_l2 a0e recl2 l2_1 l2_2) n (0, a0e.bill.Net)).bind fun j1 =>
 (loopN (fun recl5 (l5_1, l5_2) => g_auditor_examined_add_l5 a0e recl5 l5_1 l5_2) n (0, j1)).bind fun j4 =>
 (g_auditor_need n (leI j4 1000000000) 5).bind (exc (fun r7 =>
  (g_auditor_need n (leI (wi (j4 + (wi (Int.tdiv (wi ((wi ((wi (2 * j4)) * a0e.rate)) + 10000)) 20000)))) 1000000000) 5).bind (exc (fun r9 =>
   some (.ok (⟨a0e.Claim, a0e.follows, (⟨a0e.bill.Lines, j4, wi (Int.tdiv (wi ((wi ((wi (2 * j4)) * a0e.rate)) + 10000)) 20000), wi (j4 + (wi (Int.tdiv (wi ((wi ((wi (2 * j4)) * a0e.rate)) + 10000)) 20000)))⟩ : GBill), a0e.rate⟩ : GAuditorExamined))) fun e10 => some (.error (e10, (⟨a0e.Claim, a0e.follows, (⟨a0e.bill.Lines, j4, wi (Int.tdiv (wi ((wi ((wi (2 * j4)) * a0e.rate)) + 10000)) 20000), wi (j4 + (wi (Int.tdiv (wi ((wi ((wi (2 * j4)) * a0e.rate)) + 10000)) 20000)))⟩ : GBill), a0e.rate⟩ : GAuditorExamined))))) fun e8 => some (.error (e8, (⟨a0e.Claim, a0e.follows, (⟨a0e.bill.Lines, j4, a0e.bill.Tax, a0e.bill.Total⟩ : GBill), a0e.rate⟩ : GAuditorExamined))))
theorem g_auditor_examined_add_ok (n : Nat) (a0e : GAuditorExamined) : ∀ r, g_auditor_examined_add n a0e = some r → ACall Try.prog 40 [.ptr 1000 0] (Go.Abs.look [(1000, .box 64 (bxc (GAuditorExamined.cs a0e)))]) (heapR (excX (fun r : GAuditorExamined => ((.ret (.tup []), [(1000, .box 64 (bxc (GAuditorExamined.cs r)))]) : AEnd × List (Nat × Blk))) (fun e : Int × GAuditorExamined => ((.panic (.ifc 99 (.agg [I e.1])), [(1000, .box 64 (bxc (GAuditorExamined.cs e.2)))]) : AEnd × List (Nat × Blk)))) r) := by
 refine acall_sim (X := excX (fun r : GAuditorExamined => ((.ret (.tup []), [(1000, .box 64 (bxc (GAuditorExamined.cs r)))]) : AEnd × List (Nat × Blk))) (fun e : Int × GAuditorExamined => ((.panic (.ifc 99 (.agg [I e.1])), [(1000, .box 64 (bxc (GAuditorExamined.cs e.2)))]) : AEnd × List (Nat × Blk)))) [(1000, .box 64 (bxc (GAuditorExamined.cs a0e)))] Try.func40 rfl Try.ntmps40 rfl ?_
 unfold g_auditor_examined_add
 refine sim_bind (fun j1 => ⟨[(0, .ptr 1000 0)], [(1000, .box 64 [S a0e.Claim.Tariff.Name, .p (.sl 7 (List.map GArticle.cs a0e.Claim.Tariff.Articles)), I a0e.Claim.Calendar.Offset, .p (.sl 2 (List.map GChange.cs a0e.Claim.Calendar.Changes)), .p (.sl 1 (List.map ci a0e.Claim.Calendar.Holidays)), .p (.sl 5 (List.map GReading.cs a0e.Claim.Readings)), U a0e.Claim.Seed, I a0e.Claim.Session.From, I a0e.Claim.Session.To, I a0e.Claim.Session.End, .p (.sl 2 (List.map GSlice.cs a0e.Claim.Session.Slices)), .p (.sl 2 (List.map GLine.cs a0e.Claim.Bill.Lines)), I a0e.Claim.Bill.Net, I a0e.Claim.Bill.Tax, I a0e.Claim.Bill.Total, I a0e.follows.From, I a0e.follows.To, I a0e.follows.End, .p (.sl 2 (List.map GSlice.cs a0e.follows.Slices)), .p (.sl 2 (List.map GLine.cs a0e.bill.Lines)), I j1, I a0e.bill.Tax, I a0e.bill.Total, I a0e.rate])]⟩ : Int → St) ?_ ?_
 ·refine sim_run Try.fm ⟨[0, 10, 11, 12], [1000], [], []⟩ ⟨[(0, .ptr 1000 0), (10, .p (.sl 2 (List.map GLine.cs a0e.bill.Lines))), (11, I (lenI (List.map GLine.cs a0e.bill.Lines))), (12, I 0)], [(1000, .box 64 (bxc (GAuditorExamined.cs a0e)))]⟩ krf ?_
  refine sim_block ?_
  refine sim_loop (fun (l2_1, l2_2) => ⟨[(0, .ptr 1000 0), (10, .p (.sl 2 (List.map GLine.cs a0e.bill.Lines))), (11, I (lenI (List.map GLine.cs a0e.bill.Lines))), (12, I l2_1)], [(1000, .box 64 [S a0e.Claim.Tariff.Name, .p (.sl 7 (List.map GArticle.cs a0e.Claim.Tariff.Articles)), I a0e.Claim.Calendar.Offset, .p (.sl 2 (List.map GChange.cs a0e.Claim.Calendar.Changes)), .p (.sl 1 (List.map ci a0e.Claim.Calendar.Holidays)), .p (.sl 5 (List.map GReading.cs a0e.Claim.Readings)), U a0e.Claim.Seed, I a0e.Claim.Session.From, I a0e.Claim.Session.To, I a0e.Claim.Session.End, .p (.sl 2 (List.map GSlice.cs a0e.Claim.Session.Slices)), .p (.sl 2 (List.map GLine.cs a0e.Claim.Bill.Lines)), I a0e.Claim.Bill.Net, I a0e.Claim.Bill.Tax, I a0e.Claim.Bill.Total, I a0e.follows.From, I a0e.follows.To, I a0e.follows.End, .p (.sl 2 (List.map GSlice.cs a0e.follows.Slices)), .p (.sl 2 (List.map GLine.cs a0e.bill.Lines)), I l2_2, I a0e.bill.Tax, I a0e.bill.Total, I a0e.rate])]⟩ : (Int × Int) → St) (weak_shr (K := ⟨[0, 10, 11, 12], [1000], [], []⟩) krf) ?_
  rintro recl2 ⟨l2_1, l2_2⟩
  show SimE (g_auditor_examined_add_l2 a0e recl2 l2_1 l2_2) _ _ _ _ _ _
  unfold g_auditor_examined_add_l2
  refine sim_run Try.fm ⟨[0, 10, 11, 12, 13], [1000], [], []⟩ ⟨[(0, .ptr 1000 0), (10, .p (.sl 2 (List.map GLine.cs a0e.bill.Lines))), (11, I (lenI (List.map GLine.cs a0e.bill.Lines))), (12, I l2_1), (13, B (ltI l2_1 (lenI (List.map GLine.cs a0e.bill.Lines))))], [(1000, .box 64 [S a0e.Claim.Tariff.Name, .p (.sl 7 (List.map GArticle.cs a0e.Claim.Tariff.Articles)), I a0e.Claim.Calendar.Offset, .p (.sl 2 (List.map GChange.cs a0e.Claim.Calendar.Changes)), .p (.sl 1 (List.map ci a0e.Claim.Calendar.Holidays)), .p (.sl 5 (List.map GReading.cs a0e.Claim.Readings)), U a0e.Claim.Seed, I a0e.Claim.Session.From, I a0e.Claim.Session.To, I a0e.Claim.Session.End, .p (.sl 2 (List.map GSlice.cs a0e.Claim.Session.Slices)), .p (.sl 2 (List.map GLine.cs a0e.Claim.Bill.Lines)), I a0e.Claim.Bill.Net, I a0e.Claim.Bill.Tax, I a0e.Claim.Bill.Total, I a0e.follows.From, I a0e.follows.To, I a0e.follows.End, .p (.sl 2 (List.map GSlice.cs a0e.follows.Slices)), .p (.sl 2 (List.map GLine.cs a0e.bill.Lines)), I l2_2, I a0e.bill.Tax, I a0e.bill.Total, I a0e.rate])]⟩ krf ?_
  refine sim_seq ?_
  refine sim_cond (ltI l2_1 (lenI (List.map GLine.cs a0e.bill.Lines))) krf ?_ ?_
  ·refine sim_skip ?_
   refine sq_nk ⟨[0, 10, 11, 12], [1000], [], []⟩ ⟨[(0, .ptr 1000 0), (10, .p (.sl 2 (List.map GLine.cs a0e.bill.Lines))), (11, I (lenI (List.map GLine.cs a0e.bill.Lines))), (12, I l2_1)], [(1000, .box 64 [S a0e.Claim.Tariff.Name, .p (.sl 7 (List.map GArticle.cs a0e.Claim.Tariff.Articles)), I a0e.Claim.Calendar.Offset, .p (.sl 2 (List.map GChange.cs a0e.Claim.Calendar.Changes)), .p (.sl 1 (List.map ci a0e.Claim.Calendar.Holidays)), .p (.sl 5 (List.map GReading.cs a0e.Claim.Readings)), U a0e.Claim.Seed, I a0e.Claim.Session.From, I a0e.Claim.Session.To, I a0e.Claim.Session.End, .p (.sl 2 (List.map GSlice.cs a0e.Claim.Session.Slices)), .p (.sl 2 (List.map GLine.cs a0e.Claim.Bill.Lines)), I a0e.Claim.Bill.Net, I a0e.Claim.Bill.Tax, I a0e.Claim.Bill.Total, I a0e.follows.From, I a0e.follows.To, I a0e.follows.End, .p (.sl 2 (List.map GSlice.cs a0e.follows.Slices)), .p (.sl 2 (List.map GLine.cs a0e.bill.Lines)), I l2_2, I a0e.bill.Tax, I a0e.bill.Total, I a0e.rate])]⟩ krf ?_
   refine sim_seq ?_
   refine sim_block ?_
   refine sim_seq ?_
   refine sim_reg ?_
   refine xs_get krf krf (aop_idx (e := 56) (S := 2) (enc := GLine.cs) (l := a0e.bill.Lines) (k := .i64) (n := l2_1) (sv := .p (.sl 2 (List.map GLine.cs a0e.bill.Lines))) rfl krf krf krf krf krf) (fun x3 => ?_)
   refine xs_run 3 krf ?_
   refine xs_end ?_
   refine sq_nk ⟨[0, 3, 10, 11, 12], [3, 1000], [], []⟩ ⟨[(0, .ptr 1000 0), (3, .ptr 3 0), (10, .p (.sl 2 (List.map GLine.cs a0e.bill.Lines))), (11, I (lenI (List.map GLine.cs a0e.bill.Lines))), (12, I l2_1)], [(3, .box 56 (bxc (GLine.cs x3))), (1000, .box 64 [S a0e.Claim.Tariff.Name, .p (.sl 7 (List.map GArticle.cs a0e.Claim.Tariff.Articles)), I a0e.Claim.Calendar.Offset, .p (.sl 2 (List.map GChange.cs a0e.Claim.Calendar.Changes)), .p (.sl 1 (List.map ci a0e.Claim.Calendar.Holidays)), .p (.sl 5 (List.map GReading.cs a0e.Claim.Readings)), U a0e.Claim.Seed, I a0e.Claim.Session.From, I a0e.Claim.Session.To, I a0e.Claim.Session.End, .p (.sl 2 (List.map GSlice.cs a0e.Claim.Session.Slices)), .p (.sl 2 (List.map GLine.cs a0e.Claim.Bill.Lines)), I a0e.Claim.Bill.Net, I a0e.Claim.Bill.Tax, I a0e.Claim.Bill.Total, I a0e.follows.From, I a0e.follows.To, I a0e.follows.End, .p (.sl 2 (List.map GSlice.cs a0e.follows.Slices)), .p (.sl 2 (List.map GLine.cs a0e.bill.Lines)), I l2_2, I a0e.bill.Tax, I a0e.bill.Total, I a0e.rate])]⟩ krf ?_
   refine sim_last Try.fm krf ?_
   refine bq_n ?_
   refine sq_nk ⟨[0, 10, 11, 12], [1000], [], []⟩ ⟨[(0, .ptr 1000 0), (10, .p (.sl 2 (List.map GLine.cs a0e.bill.Lines))), (11, I (lenI (List.map GLine.cs a0e.bill.Lines))), (12, I l2_1)], [(1000, .box 64 [S a0e.Claim.Tariff.Name, .p (.sl 7 (List.map GArticle.cs a0e.Claim.Tariff.Articles)), I a0e.Claim.Calendar.Offset, .p (.sl 2 (List.map GChange.cs a0e.Claim.Calendar.Changes)), .p (.sl 1 (List.map ci a0e.Claim.Calendar.Holidays)), .p (.sl 5 (List.map GReading.cs a0e.Claim.Readings)), U a0e.Claim.Seed, I a0e.Claim.Session.From, I a0e.Claim.Session.To, I a0e.Claim.Session.End, .p (.sl 2 (List.map GSlice.cs a0e.Claim.Session.Slices)), .p (.sl 2 (List.map GLine.cs a0e.Claim.Bill.Lines)), I a0e.Claim.Bill.Net, I a0e.Claim.Bill.Tax, I a0e.Claim.Bill.Total, I a0e.follows.From, I a0e.follows.To, I a0e.follows.End, .p (.sl 2 (List.map GSlice.cs a0e.follows.Slices)), .p (.sl 2 (List.map GLine.cs a0e.bill.Lines)), I (wi (l2_2 + x3.Amount)), I a0e.bill.Tax, I a0e.bill.Total, I a0e.rate])]⟩ krf ?_
   refine sim_last Try.fm krf ?_
   exact kq_n (wi (l2_1 + 1), wi (l2_2 + x3.Amount)) ⟨[0, 10, 11, 12], [1000], [], []⟩ krf
  ·refine sim_exit ?_
   refine sq_x ?_
   refine kq_x ?_
   refine bq_hit ?_
   exact nq_n l2_2 ⟨[0], [1000], [], []⟩ krf
 ·rintro j1
  refine sim_bind (fun j4 => ⟨[(0, .ptr 1000 0)], [(1000, .box 64 [S a0e.Claim.Tariff.Name, .p (.sl 7 (List.map GArticle.cs a0e.Claim.Tariff.Articles)), I a0e.Claim.Calendar.Offset, .p (.sl 2 (List.map GChange.cs a0e.Claim.Calendar.Changes)), .p (.sl 1 (List.map ci a0e.Claim.Calendar.Holidays)), .p (.sl 5 (List.map GReading.cs a0e.Claim.Readings)), U a0e.Claim.Seed, I a0e.Claim.Session.From, I a0e.Claim.Session.To, I a0e.Claim.Session.End, .p (.sl 2 (List.map GSlice.cs a0e.Claim.Session.Slices)), .p (.sl 2 (List.map GLine.cs a0e.Claim.Bill.Lines)), I a0e.Claim.Bill.Net, I a0e.Claim.Bill.Tax, I a0e.Claim.Bill.Total, I a0e.follows.From, I a0e.follows.To, I a0e.follows.End, .p (.sl 2 (List.map GSlice.cs a0e.follows.Slices)), .p (.sl 2 (List.map GLine.cs a0e.bill.Lines)), I j4, I a0e.bill.Tax, I a0e.bill.Total, I a0e.rate])]⟩ : Int → St) ?_ ?_
  ·refine sim_run Try.fm ⟨[0, 33, 34, 35], [1000], [], []⟩ ⟨[(0, .ptr 1000 0), (33, .p (.sl 7 (List.map GArticle.cs a0e.Claim.Tariff.Articles))), (34, I (lenI (List.map GArticle.cs a0e.Claim.Tariff.Articles))), (35, I 0)], [(1000, .box 64 [S a0e.Claim.Tariff.Name, .p (.sl 7 (List.map GArticle.cs a0e.Claim.Tariff.Articles)), I a0e.Claim.Calendar.Offset, .p (.sl 2 (List.map GChange.cs a0e.Claim.Calendar.Changes)), .p (.sl 1 (List.map ci a0e.Claim.Calendar.Holidays)), .p (.sl 5 (List.map GReading.cs a0e.Claim.Readings)), U a0e.Claim.Seed, I a0e.Claim.Session.From, I a0e.Claim.Session.To, I a0e.Claim.Session.End, .p (.sl 2 (List.map GSlice.cs a0e.Claim.Session.Slices)), .p (.sl 2 (List.map GLine.cs a0e.Claim.Bill.Lines)), I a0e.Claim.Bill.Net, I a0e.Claim.Bill.Tax, I a0e.Claim.Bill.Total, I a0e.follows.From, I a0e.follows.To, I a0e.follows.End, .p (.sl 2 (List.map GSlice.cs a0e.follows.Slices)), .p (.sl 2 (List.map GLine.cs a0e.bill.Lines)), I j1, I a0e.bill.Tax, I a0e.bill.Total, I a0e.rate])]⟩ krf ?_
   refine sim_block ?_
   refine sim_loop (fun (l5_1, l5_2) => ⟨[(0, .ptr 1000 0), (33, .p (.sl 7 (List.map GArticle.cs a0e.Claim.Tariff.Articles))), (34, I (lenI (List.map GArticle.cs a0e.Claim.Tariff.Articles))), (35, I l5_1)], [(1000, .box 64 [S a0e.Claim.Tariff.Name, .p (.sl 7 (List.map GArticle.cs a0e.Claim.Tariff.Articles)), I a0e.Claim.Calendar.Offset, .p (.sl 2 (List.map GChange.cs a0e.Claim.Calendar.Changes)), .p (.sl 1 (List.map ci a0e.Claim.Calendar.Holidays)), .p (.sl 5 (List.map GReading.cs a0e.Claim.Readings)), U a0e.Claim.Seed, I a0e.Claim.Session.From, I a0e.Claim.Session.To, I a0e.Claim.Session.End, .p (.sl 2 (List.map GSlice.cs a0e.Claim.Session.Slices)), .p (.sl 2 (List.map GLine.cs a0e.Claim.Bill.Lines)), I a0e.Claim.Bill.Net, I a0e.Claim.Bill.Tax, I a0e.Claim.Bill.Total, I a0e.follows.From, I a0e.follows.To, I a0e.follows.End, .p (.sl 2 (List.map GSlice.cs a0e.follows.Slices)), .p (.sl 2 (List.map GLine.cs a0e.bill.Lines)), I l5_2, I a0e.bill.Tax, I a0e.bill.Total, I a0e.rate])]⟩ : (Int × Int) → St) (weak_shr (K := ⟨[0, 33, 34, 35], [1000], [], []⟩) krf) ?_
   rintro recl5 ⟨l5_1, l5_2⟩
   show SimE (g_auditor_examined_add_l5 a0e recl5 l5_1 l5_2) _ _ _ _ _ _
   unfold g_auditor_examined_add_l5
   refine sim_run Try.fm ⟨[0, 33, 34, 35, 36], [1000], [], []⟩ ⟨[(0, .ptr 1000 0), (33, .p (.sl 7 (List.map GArticle.cs a0e.Claim.Tariff.Articles))), (34, I (lenI (List.map GArticle.cs a0e.Claim.Tariff.Articles))), (35, I l5_1), (36, B (ltI l5_1 (lenI (List.map GArticle.cs a0e.Claim.Tariff.Articles))))], [(1000, .box 64 [S a0e.Claim.Tariff.Name, .p (.sl 7 (List.map GArticle.cs a0e.Claim.Tariff.Articles)), I a0e.Claim.Calendar.Offset, .p (.sl 2 (List.map GChange.cs a0e.Claim.Calendar.Changes)), .p (.sl 1 (List.map ci a0e.Claim.Calendar.Holidays)), .p (.sl 5 (List.map GReading.cs a0e.Claim.Readings)), U a0e.Claim.Seed, I a0e.Claim.Session.From, I a0e.Claim.Session.To, I a0e.Claim.Session.End, .p (.sl 2 (List.map GSlice.cs a0e.Claim.Session.Slices)), .p (.sl 2 (List.map GLine.cs a0e.Claim.Bill.Lines)), I a0e.Claim.Bill.Net, I a0e.Claim.Bill.Tax, I a0e.Claim.Bill.Total, I a0e.follows.From, I a0e.follows.To, I a0e.follows.End, .p (.sl 2 (List.map GSlice.cs a0e.follows.Slices)), .p (.sl 2 (List.map GLine.cs a0e.bill.Lines)), I l5_2, I a0e.bill.Tax, I a0e.bill.Total, I a0e.rate])]⟩ krf ?_
   refine sim_seq ?_
   refine sim_cond (ltI l5_1 (lenI (List.map GArticle.cs a0e.Claim.Tariff.Articles))) krf ?_ ?_
   ·refine sim_skip ?_
    refine sq_nk ⟨[0, 33, 34, 35], [1000], [], []⟩ ⟨[(0, .ptr 1000 0), (33, .p (.sl 7 (List.map GArticle.cs a0e.Claim.Tariff.Articles))), (34, I (lenI (List.map GArticle.cs a0e.Claim.Tariff.Articles))), (35, I l5_1)], [(1000, .box 64 [S a0e.Claim.Tariff.Name, .p (.sl 7 (List.map GArticle.cs a0e.Claim.Tariff.Articles)), I a0e.Claim.Calendar.Offset, .p (.sl 2 (List.map GChange.cs a0e.Claim.Calendar.Changes)), .p (.sl 1 (List.map ci a0e.Claim.Calendar.Holidays)), .p (.sl 5 (List.map GReading.cs a0e.Claim.Readings)), U a0e.Claim.Seed, I a0e.Claim.Session.From, I a0e.Claim.Session.To, I a0e.Claim.Session.End, .p (.sl 2 (List.map GSlice.cs a0e.Claim.Session.Slices)), .p (.sl 2 (List.map GLine.cs a0e.Claim.Bill.Lines)), I a0e.Claim.Bill.Net, I a0e.Claim.Bill.Tax, I a0e.Claim.Bill.Total, I a0e.follows.From, I a0e.follows.To, I a0e.follows.End, .p (.sl 2 (List.map GSlice.cs a0e.follows.Slices)), .p (.sl 2 (List.map GLine.cs a0e.bill.Lines)), I l5_2, I a0e.bill.Tax, I a0e.bill.Total, I a0e.rate])]⟩ krf ?_
    refine sim_seq ?_
    refine sim_block ?_
    refine sim_seq ?_
    refine sim_reg ?_
    refine xs_get krf krf (aop_idx (e := 75) (S := 7) (enc := GArticle.cs) (l := a0e.Claim.Tariff.Articles) (k := .i64) (n := l5_1) (sv := .p (.sl 7 (List.map GArticle.cs a0e.Claim.Tariff.Articles))) rfl krf krf krf krf krf) (fun x6 => ?_)
    refine xs_run 3 krf ?_
    refine xs_end ?_
    refine sq_nk ⟨[0, 5, 33, 34, 35], [5, 1000], [], []⟩ ⟨[(0, .ptr 1000 0), (5, .ptr 5 0), (33, .p (.sl 7 (List.map GArticle.cs a0e.Claim.Tariff.Articles))), (34, I (lenI (List.map GArticle.cs a0e.Claim.Tariff.Articles))), (35, I l5_1)], [(5, .box 75 (bxc (GArticle.cs x6))), (1000, .box 64 [S a0e.Claim.Tariff.Name, .p (.sl 7 (List.map GArticle.cs a0e.Claim.Tariff.Articles)), I a0e.Claim.Calendar.Offset, .p (.sl 2 (List.map GChange.cs a0e.Claim.Calendar.Changes)), .p (.sl 1 (List.map ci a0e.Claim.Calendar.Holidays)), .p (.sl 5 (List.map GReading.cs a0e.Claim.Readings)), U a0e.Claim.Seed, I a0e.Claim.Session.From, I a0e.Claim.Session.To, I a0e.Claim.Session.End, .p (.sl 2 (List.map GSlice.cs a0e.Claim.Session.Slices)), .p (.sl 2 (List.map GLine.cs a0e.Claim.Bill.Lines)), I a0e.Claim.Bill.Net, I a0e.Claim.Bill.Tax, I a0e.Claim.Bill.Total, I a0e.follows.From, I a0e.follows.To, I a0e.follows.End, .p (.sl 2 (List.map GSlice.cs a0e.follows.Slices)), .p (.sl 2 (List.map GLine.cs a0e.bill.Lines)), I l5_2, I a0e.bill.Tax, I a0e.bill.Total, I a0e.rate])]⟩ krf ?_
    refine sim_run Try.fm ⟨[0, 5, 33, 34, 35, 41], [5, 1000], [], []⟩ ⟨[(0, .ptr 1000 0), (5, .ptr 5 0), (33, .p (.sl 7 (List.map GArticle.cs a0e.Claim.Tariff.Articles))), (34, I (lenI (List.map GArticle.cs a0e.Claim.Tariff.Articles))), (35, I l5_1), (41, B (eqI x6.Kind 5))], [(5, .box 75 (bxc (GArticle.cs x6))), (1000, .box 64 [S a0e.Claim.Tariff.Name, .p (.sl 7 (List.map GArticle.cs a0e.Claim.Tariff.Articles)), I a0e.Claim.Calendar.Offset, .p (.sl 2 (List.map GChange.cs a0e.Claim.Calendar.Changes)), .p (.sl 1 (List.map ci a0e.Claim.Calendar.Holidays)), .p (.sl 5 (List.map GReading.cs a0e.Claim.Readings)), U a0e.Claim.Seed, I a0e.Claim.Session.From, I a0e.Claim.Session.To, I a0e.Claim.Session.End, .p (.sl 2 (List.map GSlice.cs a0e.Claim.Session.Slices)), .p (.sl 2 (List.map GLine.cs a0e.Claim.Bill.Lines)), I a0e.Claim.Bill.Net, I a0e.Claim.Bill.Tax, I a0e.Claim.Bill.Total, I a0e.follows.From, I a0e.follows.To, I a0e.follows.End, .p (.sl 2 (List.map GSlice.cs a0e.follows.Slices)), .p (.sl 2 (List.map GLine.cs a0e.bill.Lines)), I l5_2, I a0e.bill.Tax, I a0e.bill.Total, I a0e.rate])]⟩ krf ?_
    refine sim_cond (eqI x6.Kind 5) krf ?_ ?_
    ·refine sim_last Try.fm krf ?_
     refine bq_n ?_
     refine sq_nk ⟨[0, 5, 33, 34, 35], [5, 1000], [], []⟩ ⟨[(0, .ptr 1000 0), (5, .ptr 5 0), (33, .p (.sl 7 (List.map GArticle.cs a0e.Claim.Tariff.Articles))), (34, I (lenI (List.map GArticle.cs a0e.Claim.Tariff.Articles))), (35, I l5_1)], [(5, .box 75 (bxc (GArticle.cs x6))), (1000, .box 64 [S a0e.Claim.Tariff.Name, .p (.sl 7 (List.map GArticle.cs a0e.Claim.Tariff.Articles)), I a0e.Claim.Calendar.Offset, .p (.sl 2 (List.map GChange.cs a0e.Claim.Calendar.Changes)), .p (.sl 1 (List.map ci a0e.Claim.Calendar.Holidays)), .p (.sl 5 (List.map GReading.cs a0e.Claim.Readings)), U a0e.Claim.Seed, I a0e.Claim.Session.From, I a0e.Claim.Session.To, I a0e.Claim.Session.End, .p (.sl 2 (List.map GSlice.cs a0e.Claim.Session.Slices)), .p (.sl 2 (List.map GLine.cs a0e.Claim.Bill.Lines)), I a0e.Claim.Bill.Net, I a0e.Claim.Bill.Tax, I a0e.Claim.Bill.Total, I a0e.follows.From, I a0e.follows.To, I a0e.follows.End, .p (.sl 2 (List.map GSlice.cs a0e.follows.Slices)), .p (.sl 2 (List.map GLine.cs a0e.bill.Lines)), I (minI l5_2 x6.Price), I a0e.bill.Tax, I a0e.bill.Total, I a0e.rate])]⟩ krf ?_
     refine sim_last Try.fm krf ?_
     exact kq_n (wi (l5_1 + 1), minI l5_2 x6.Price) ⟨[0, 33, 34, 35], [1000], [], []⟩ krf
    ·refine sim_skip ?_
     refine bq_n ?_
     refine sq_nk ⟨[0, 5, 33, 34, 35], [5, 1000], [], []⟩ ⟨[(0, .ptr 1000 0), (5, .ptr 5 0), (33, .p (.sl 7 (List.map GArticle.cs a0e.Claim.Tariff.Articles))), (34, I (lenI (List.map GArticle.cs a0e.Claim.Tariff.Articles))), (35, I l5_1)], [(5, .box 75 (bxc (GArticle.cs x6))), (1000, .box 64 [S a0e.Claim.Tariff.Name, .p (.sl 7 (List.map GArticle.cs a0e.Claim.Tariff.Articles)), I a0e.Claim.Calendar.Offset, .p (.sl 2 (List.map GChange.cs a0e.Claim.Calendar.Changes)), .p (.sl 1 (List.map ci a0e.Claim.Calendar.Holidays)), .p (.sl 5 (List.map GReading.cs a0e.Claim.Readings)), U a0e.Claim.Seed, I a0e.Claim.Session.From, I a0e.Claim.Session.To, I a0e.Claim.Session.End, .p (.sl 2 (List.map GSlice.cs a0e.Claim.Session.Slices)), .p (.sl 2 (List.map GLine.cs a0e.Claim.Bill.Lines)), I a0e.Claim.Bill.Net, I a0e.Claim.Bill.Tax, I a0e.Claim.Bill.Total, I a0e.follows.From, I a0e.follows.To, I a0e.follows.End, .p (.sl 2 (List.map GSlice.cs a0e.follows.Slices)), .p (.sl 2 (List.map GLine.cs a0e.bill.Lines)), I l5_2, I a0e.bill.Tax, I a0e.bill.Total, I a0e.rate])]⟩ krf ?_
     refine sim_last Try.fm krf ?_
     exact kq_n (wi (l5_1 + 1), l5_2) ⟨[0, 33, 34, 35], [1000], [], []⟩ krf
   ·refine sim_exit ?_
    refine sq_x ?_
    refine kq_x ?_
    refine bq_hit ?_
    exact nq_n l5_2 ⟨[0], [1000], [], []⟩ krf
  ·rintro j4
   refine sim_seq ?_
   refine sim_reg ?_
   refine xs_run 6 krf ?_
   refine xs_exc [] krf (g_auditor_need_ok n (leI j4 1000000000) 5) krf krf (fun _ => by kernel_rfl) (fun _ => by kernel_rfl) (fun r7 => ?_) (fun e8 => ?_)
   ·refine xs_end ?_
    refine sq_nk ⟨[0], [1000], [], []⟩ ⟨[(0, .ptr 1000 0)], [(1000, .box 64 [S a0e.Claim.Tariff.Name, .p (.sl 7 (List.map GArticle.cs a0e.Claim.Tariff.Articles)), I a0e.Claim.Calendar.Offset, .p (.sl 2 (List.map GChange.cs a0e.Claim.Calendar.Changes)), .p (.sl 1 (List.map ci a0e.Claim.Calendar.Holidays)), .p (.sl 5 (List.map GReading.cs a0e.Claim.Readings)), U a0e.Claim.Seed, I a0e.Claim.Session.From, I a0e.Claim.Session.To, I a0e.Claim.Session.End, .p (.sl 2 (List.map GSlice.cs a0e.Claim.Session.Slices)), .p (.sl 2 (List.map GLine.cs a0e.Claim.Bill.Lines)), I a0e.Claim.Bill.Net, I a0e.Claim.Bill.Tax, I a0e.Claim.Bill.Total, I a0e.follows.From, I a0e.follows.To, I a0e.follows.End, .p (.sl 2 (List.map GSlice.cs a0e.follows.Slices)), .p (.sl 2 (List.map GLine.cs a0e.bill.Lines)), I j4, I a0e.bill.Tax, I a0e.bill.Total, I a0e.rate])]⟩ krf ?_
    refine sim_run Try.fm ⟨[0], [1000], [], []⟩ ⟨[(0, .ptr 1000 0)], [(1000, .box 64 [S a0e.Claim.Tariff.Name, .p (.sl 7 (List.map GArticle.cs a0e.Claim.Tariff.Articles)), I a0e.Claim.Calendar.Offset, .p (.sl 2 (List.map GChange.cs a0e.Claim.Calendar.Changes)), .p (.sl 1 (List.map ci a0e.Claim.Calendar.Holidays)), .p (.sl 5 (List.map GReading.cs a0e.Claim.Readings)), U a0e.Claim.Seed, I a0e.Claim.Session.From, I a0e.Claim.Session.To, I a0e.Claim.Session.End, .p (.sl 2 (List.map GSlice.cs a0e.Claim.Session.Slices)), .p (.sl 2 (List.map GLine.cs a0e.Claim.Bill.Lines)), I a0e.Claim.Bill.Net, I a0e.Claim.Bill.Tax, I a0e.Claim.Bill.Total, I a0e.follows.From, I a0e.follows.To, I a0e.follows.End, .p (.sl 2 (List.map GSlice.cs a0e.follows.Slices)), .p (.sl 2 (List.map GLine.cs a0e.bill.Lines)), I j4, I (wi (Int.tdiv (wi ((wi ((wi (2 * j4)) * a0e.rate)) + 10000)) 20000)), I a0e.bill.Total, I a0e.rate])]⟩ krf ?_
    refine sim_run Try.fm ⟨[0], [1000], [], []⟩ ⟨[(0, .ptr 1000 0)], [(1000, .box 64 [S a0e.Claim.Tariff.Name, .p (.sl 7 (List.map GArticle.cs a0e.Claim.Tariff.Articles)), I a0e.Claim.Calendar.Offset, .p (.sl 2 (List.map GChange.cs a0e.Claim.Calendar.Changes)), .p (.sl 1 (List.map ci a0e.Claim.Calendar.Holidays)), .p (.sl 5 (List.map GReading.cs a0e.Claim.Readings)), U a0e.Claim.Seed, I a0e.Claim.Session.From, I a0e.Claim.Session.To, I a0e.Claim.Session.End, .p (.sl 2 (List.map GSlice.cs a0e.Claim.Session.Slices)), .p (.sl 2 (List.map GLine.cs a0e.Claim.Bill.Lines)), I a0e.Claim.Bill.Net, I a0e.Claim.Bill.Tax, I a0e.Claim.Bill.Total, I a0e.follows.From, I a0e.follows.To, I a0e.follows.End, .p (.sl 2 (List.map GSlice.cs a0e.follows.Slices)), .p (.sl 2 (List.map GLine.cs a0e.bill.Lines)), I j4, I (wi (Int.tdiv (wi ((wi ((wi (2 * j4)) * a0e.rate)) + 10000)) 20000)), I (wi (j4 + (wi (Int.tdiv (wi ((wi ((wi (2 * j4)) * a0e.rate)) + 10000)) 20000)))), I a0e.rate])]⟩ krf ?_
    refine sim_reg ?_
    refine xs_run 6 krf ?_
    refine xs_exc [] krf (g_auditor_need_ok n (leI (wi (j4 + (wi (Int.tdiv (wi ((wi ((wi (2 * j4)) * a0e.rate)) + 10000)) 20000)))) 1000000000) 5) krf krf (fun _ => by kernel_rfl) (fun _ => by kernel_rfl) (fun r9 => ?_) (fun e10 => ?_)
    ·refine xs_end ?_
     exact hq_n (.id) [1000] [] krf krf krf krf
    ·exact hq_p [1000] [] krf krf krf
   ·refine sq_p ?_
    exact hq_p [1000] [] krf krf krf
def g_auditor_caught (n : Nat) (a1part : Int) : Option Int :=
 some a1part
theorem g_auditor_caught_ok (n : Nat) (a1part : Int) : ∀ r, g_auditor_caught n a1part = some r → ACall Try.prog 31 [.p (.val (.nilIface)), .ptr 1001 0] (Go.Abs.look [(1001, .box 3 [I a1part])]) (heapR (fun r : Int => ((.ret (.tup []), [(1001, .box 3 [I r])]) : AEnd × List (Nat × Blk))) r) := by
 refine acall_sim (X := fun r : Int => ((.ret (.tup []), [(1001, .box 3 [I r])]) : AEnd × List (Nat × Blk))) [(1001, .box 3 [I a1part])] Try.func31 rfl Try.ntmps31 rfl ?_
 unfold g_auditor_caught
 refine sim_seq ?_
 refine sim_run Try.fm ⟨[0, 1, 7], [1001], [], []⟩ ⟨[(0, .p (.val (.nilIface))), (1, .ptr 1001 0), (7, B true)], [(1001, .box 3 [I a1part])]⟩ krf ?_
 refine sim_condT krf ?_
 refine sim_ret ?_
 refine sq_r ?_
 exact hq_ret (.id) [1001] [] krf krf krf krf
def g_auditor_caught_2 (n : Nat) (a0x_0 : Int) (a1part : Int) : Option Int :=
 some a0x_0
theorem g_auditor_caught_2_ok (n : Nat) (a0x_0 : Int) (a1part : Int) : ∀ r, g_auditor_caught_2 n a0x_0 a1part = some r → ACall Try.prog 31 [.ifc 99 (.agg [I a0x_0]), .ptr 1001 0] (Go.Abs.look [(1001, .box 3 [I a1part])]) (heapR (fun r : Int => ((.ret (.tup []), [(1001, .box 3 [I r])]) : AEnd × List (Nat × Blk))) r) := by
 refine acall_sim (X := fun r : Int => ((.ret (.tup []), [(1001, .box 3 [I r])]) : AEnd × List (Nat × Blk))) [(1001, .box 3 [I a1part])] Try.func31 rfl Try.ntmps31 rfl ?_
 unfold g_auditor_caught_2
 refine sim_seq ?_
 refine sim_run Try.fm ⟨[0, 1, 7], [1001], [], []⟩ ⟨[(0, .ifc 99 (.agg [I a0x_0])), (1, .ptr 1001 0), (7, B false)], [(1001, .box 3 [I a1part])]⟩ krf ?_
 refine sim_condF krf ?_
 refine sim_skip ?_
 refine sq_nk ⟨[0, 1], [1001], [], []⟩ ⟨[(0, .ifc 99 (.agg [I a0x_0])), (1, .ptr 1001 0)], [(1001, .box 3 [I a1part])]⟩ krf ?_
 refine sim_run Try.fm ⟨[0, 1, 4, 5], [4, 1001], [], []⟩ ⟨[(0, .ifc 99 (.agg [I a0x_0])), (1, .ptr 1001 0), (4, .ptr 4 0), (5, B true)], [(4, .box 99 [I a0x_0]), (1001, .box 3 [I a1part])]⟩ krf ?_
 refine sim_seq ?_
 refine sim_run Try.fm ⟨[0, 1, 4, 5, 14], [4, 1001], [], []⟩ ⟨[(0, .ifc 99 (.agg [I a0x_0])), (1, .ptr 1001 0), (4, .ptr 4 0), (5, B true), (14, B false)], [(4, .box 99 [I a0x_0]), (1001, .box 3 [I a1part])]⟩ krf ?_
 refine sim_condF krf ?_
 refine sim_skip ?_
 refine sq_nk ⟨[1, 4, 5], [4, 1001], [], []⟩ ⟨[(1, .ptr 1001 0), (4, .ptr 4 0), (5, B true)], [(4, .box 99 [I a0x_0]), (1001, .box 3 [I a1part])]⟩ krf ?_
 refine sim_last Try.fm krf ?_
 exact hq_n (.id) [1001] [] krf krf krf krf
def g_auditor_examine_j12 (n : Nat) (a0c : GClaim) (a1own : Bool) (r10 : GAuditorExamined) : Option (GAuditorExamined × Int) :=
 (g_auditor_examined_add n r10).bind (exc (fun r13 =>
  cond (!a1own)
   ((g_auditor_need n true 5).bind (exc (fun r16 =>
    (g_auditor_caught n 0).bind fun r18 =>
    some (r13, r18)) fun e17 => (g_auditor_caught_2 n e17 0).bind fun r19 =>
   some (r13, r19)))
   (cond (eqI a0c.Bill.Net r13.bill.Net)
    (cond (eqI a0c.Bill.Tax r13.bill.Tax)
     ((g_auditor_need n (eqI a0c.Bill.Total r13.bill.Total) 5).bind (exc (fun r22 =>
      (g_auditor_caught n 0).bind fun r24 =>
      some (r13, r24)) fun e23 => (g_auditor_caught_2 n e23 0).bind fun r25 =>
     some (r13, r25)))
     ((g_auditor_need n false 5).bind (exc (fun r26 =>
      (g_auditor_caught n 0).bind fun r28 =>
      some (r13, r28)) fun e27 => (g_auditor_caught_2 n e27 0).bind fun r29 =>
     some (r13, r29))))
    ((g_auditor_need n false 5).bind (exc (fun r30 =>
     (g_auditor_caught n 0).bind fun r32 =>
     some (r13, r32)) fun e31 => (g_auditor_caught_2 n e31 0).bind fun r33 =>
    some (r13, r33))))) fun e14 => (g_auditor_caught_2 n e14.1 0).bind fun r34 =>
 some (e14.2, r34))
def g_auditor_examine_j9 (n : Nat) (a0c : GClaim) (a1own : Bool) (r7 : GAuditorExamined) : Option (GAuditorExamined × Int) :=
 (g_auditor_examined_price n (⟨r7.Claim, r7.follows, (⟨[], r7.bill.Net, r7.bill.Tax, r7.bill.Total⟩ : GBill), r7.rate⟩ : GAuditorExamined)).bind (exc (fun r10 =>
  cond (!a1own)
   ((g_auditor_need n true 4).bind (exc (fun r36 =>
    g_auditor_examine_j12 n a0c a1own r10) fun e37 => (g_auditor_caught_2 n e37 0).bind fun r38 =>
   some (r10, r38)))
   ((g_auditor_same_api_Line n a0c.Bill.Lines r10.bill.Lines).bind fun r39 =>
   (g_auditor_need n r39 4).bind (exc (fun r40 =>
    g_auditor_examine_j12 n a0c a1own r10) fun e41 => (g_auditor_caught_2 n e41 0).bind fun r42 =>
   some (r10, r42)))) fun e11 => (g_auditor_caught_2 n e11.1 0).bind fun r43 =>
 some (e11.2, r43))
def g_auditor_examine (n : Nat) (a0c : GClaim) (a1own : Bool) : Option (GAuditorExamined × Int) :=
 (g_auditor_examined_chained n (⟨a0c, (⟨0, 0, 0, []⟩ : GSession), (⟨[], 0, 0, 0⟩ : GBill), 0⟩ : GAuditorExamined)).bind (exc (fun r1 =>
  (g_auditor_examined_tariffed n (⟨a0c, (⟨0, 0, 0, []⟩ : GSession), (⟨[], 0, 0, 0⟩ : GBill), 0⟩ : GAuditorExamined)).bind (exc (fun r3 =>
   (g_auditor_examined_dated n (⟨r3.Claim, (⟨r3.follows.From, r3.follows.To, r3.follows.End, []⟩ : GSession), (⟨[], r3.bill.Net, r3.bill.Tax, r3.bill.Total⟩ : GBill), r3.rate⟩ : GAuditorExamined)).bind (exc (fun r5 =>
    (g_auditor_examined_derive n (⟨r3.Claim, (⟨r3.follows.From, r3.follows.To, r3.follows.End, []⟩ : GSession), (⟨[], r3.bill.Net, r3.bill.Tax, r3.bill.Total⟩ : GBill), r3.rate⟩ : GAuditorExamined)).bind (exc (fun r7 =>
     cond a1own
      ((g_auditor_examined_compared n (⟨r7.Claim, r7.follows, (⟨[], r7.bill.Net, r7.bill.Tax, r7.bill.Total⟩ : GBill), r7.rate⟩ : GAuditorExamined)).bind (exc (fun r44 =>
       g_auditor_examine_j9 n a0c a1own r7) fun e45 => (g_auditor_caught_2 n e45 0).bind fun r46 =>
      some ((⟨r7.Claim, r7.follows, (⟨[], r7.bill.Net, r7.bill.Tax, r7.bill.Total⟩ : GBill), r7.rate⟩ : GAuditorExamined), r46)))
      (g_auditor_examine_j9 n a0c a1own r7)) fun e8 => (g_auditor_caught_2 n e8.1 0).bind fun r47 =>
    some ((⟨e8.2.Claim, e8.2.follows, (⟨[], e8.2.bill.Net, e8.2.bill.Tax, e8.2.bill.Total⟩ : GBill), e8.2.rate⟩ : GAuditorExamined), r47))) fun e6 => (g_auditor_caught_2 n e6 0).bind fun r48 =>
   some ((⟨r3.Claim, (⟨r3.follows.From, r3.follows.To, r3.follows.End, []⟩ : GSession), (⟨[], r3.bill.Net, r3.bill.Tax, r3.bill.Total⟩ : GBill), r3.rate⟩ : GAuditorExamined), r48))) fun e4 => (g_auditor_caught_2 n e4.1 0).bind fun r49 =>
  some ((⟨e4.2.Claim, (⟨e4.2.follows.From, e4.2.follows.To, e4.2.follows.End, []⟩ : GSession), (⟨[], e4.2.bill.Net, e4.2.bill.Tax, e4.2.bill.Total⟩ : GBill), e4.2.rate⟩ : GAuditorExamined), r49))) fun e2 => (g_auditor_caught_2 n e2 0).bind fun r50 =>
 some ((⟨a0c, (⟨0, 0, 0, []⟩ : GSession), (⟨[], 0, 0, 0⟩ : GBill), 0⟩ : GAuditorExamined), r50))
theorem g_auditor_examine_ok (n : Nat) (a0c : GClaim) (a1own : Bool) : ∀ r, g_auditor_examine n a0c a1own = some r → ACall Try.prog 17 [ag (GClaim.cs a0c), B a1own] (Go.Abs.look []) (heapR (fun r : GAuditorExamined × Int => ((.ret (.tup [.ptr 9 0, I r.2]), [(9, .box 64 (bxc (GAuditorExamined.cs r.1)))]) : AEnd × List (Nat × Blk))) r) := by
 refine defer_sim (X := fun r : GAuditorExamined × Int => ((.ret (.tup [.ptr 9 0, I r.2]), [(9, .box 64 (bxc (GAuditorExamined.cs r.1)))]) : AEnd × List (Nat × Blk))) [] (⟨Try.f30, _, _, _, 1, _, _, Try.func30, rfl, rfl, rfl, rfl, rfl, rfl, by decide, by decide, rfl, by kernel_rfl⟩ : Catcher Try.prog 30 31) (⟨_, _, _, _, _, 5, 6, _, rfl, rfl, rfl, rfl, rfl, rfl, rfl, by decide⟩ : Deferrer Try.f17 30) 5 Try.func17 Try.ntmps17 rfl krf rfl Try.fm rfl krf krf krf ?_
 unfold g_auditor_examine
 refine sim_keep ⟨[1, 2, 4, 5], [2, 2000], [], []⟩ ⟨[(1, B a1own), (2, .ptr 2 0), (4, .p (.val (.pointer none))), (5, .ptr 2000 0)], [(2, .box 38 (bxc (GClaim.cs a0c))), (2000, .box 3 [I 0])]⟩ krf ?_
 refine sim_run Try.fm ⟨[1, 2, 4, 5], [2, 9, 2000], [], []⟩ ⟨[(1, B a1own), (2, .ptr 2 0), (4, .ptr 9 0), (5, .ptr 2000 0)], [(2, .box 38 (bxc (GClaim.cs a0c))), (9, .box 64 [S a0c.Tariff.Name, .p (.sl 7 (List.map GArticle.cs a0c.Tariff.Articles)), I a0c.Calendar.Offset, .p (.sl 2 (List.map GChange.cs a0c.Calendar.Changes)), .p (.sl 1 (List.map ci a0c.Calendar.Holidays)), .p (.sl 5 (List.map GReading.cs a0c.Readings)), U a0c.Seed, I a0c.Session.From, I a0c.Session.To, I a0c.Session.End, .p (.sl 2 (List.map GSlice.cs a0c.Session.Slices)), .p (.sl 2 (List.map GLine.cs a0c.Bill.Lines)), I a0c.Bill.Net, I a0c.Bill.Tax, I a0c.Bill.Total, I 0, I 0, I 0, .p (.val (.slice none 0 0)), .p (.val (.slice none 0 0)), I 0, I 0, I 0, I 0]), (2000, .box 3 [I 0])]⟩ krf ?_
 refine sim_seq ?_
 refine sim_reg ?_
 refine xs_run 1 krf ?_
 refine xs_roE [.ro [.id, .id, .id, .id, .id, .id, .id, .id, .id, .id, .id, .id, .id, .id, .id, .id, .id, .id, .sl 2, .sl 2, .id, .id, .id, .id]] krf (g_auditor_examined_chained_ok n (⟨a0c, (⟨0, 0, 0, []⟩ : GSession), (⟨[], 0, 0, 0⟩ : GBill), 0⟩ : GAuditorExamined)) krf krf (fun _ => by kernel_rfl) (fun _ => by kernel_rfl) (fun r1 => ?_) (fun e2 => ?_)
 ·refine xs_end ?_
  refine sq_nk ⟨[1, 2, 4, 5], [2, 9, 2000], [], []⟩ ⟨[(1, B a1own), (2, .ptr 2 0), (4, .ptr 9 0), (5, .ptr 2000 0)], [(2, .box 38 (bxc (GClaim.cs a0c))), (9, .box 64 [S a0c.Tariff.Name, .p (.sl 7 (List.map GArticle.cs a0c.Tariff.Articles)), I a0c.Calendar.Offset, .p (.sl 2 (List.map GChange.cs a0c.Calendar.Changes)), .p (.sl 1 (List.map ci a0c.Calendar.Holidays)), .p (.sl 5 (List.map GReading.cs a0c.Readings)), U a0c.Seed, I a0c.Session.From, I a0c.Session.To, I a0c.Session.End, .p (.sl 2 (List.map GSlice.cs a0c.Session.Slices)), .p (.sl 2 (List.map GLine.cs a0c.Bill.Lines)), I a0c.Bill.Net, I a0c.Bill.Tax, I a0c.Bill.Total, I 0, I 0, I 0, .p (.val (.slice none 0 0)), .p (.val (.slice none 0 0)), I 0, I 0, I 0, I 0]), (2000, .box 3 [I 0])]⟩ krf ?_
  refine sim_seq ?_
  refine sim_reg ?_
  refine xs_run 1 krf ?_
  refine xs_heapE [(1000, 9)] [] [] krf (g_auditor_examined_tariffed_ok n (⟨a0c, (⟨0, 0, 0, []⟩ : GSession), (⟨[], 0, 0, 0⟩ : GBill), 0⟩ : GAuditorExamined)) krf krf krf (fun _ => by kernel_rfl) (fun _ => by kernel_rfl) (fun _ => by kernel_rfl) (fun _ => by kernel_rfl) (fun r3 => ?_) (fun e4 => ?_)
  ·refine xs_end ?_
   refine sq_nk ⟨[1, 2, 4, 5], [2, 9, 2000], [], []⟩ ⟨[(1, B a1own), (2, .ptr 2 0), (4, .ptr 9 0), (5, .ptr 2000 0)], [(2, .box 38 (bxc (GClaim.cs a0c))), (9, .box 64 [S r3.Claim.Tariff.Name, .p (.sl 7 (List.map GArticle.cs r3.Claim.Tariff.Articles)), I r3.Claim.Calendar.Offset, .p (.sl 2 (List.map GChange.cs r3.Claim.Calendar.Changes)), .p (.sl 1 (List.map ci r3.Claim.Calendar.Holidays)), .p (.sl 5 (List.map GReading.cs r3.Claim.Readings)), U r3.Claim.Seed, I r3.Claim.Session.From, I r3.Claim.Session.To, I r3.Claim.Session.End, .p (.sl 2 (List.map GSlice.cs r3.Claim.Session.Slices)), .p (.sl 2 (List.map GLine.cs r3.Claim.Bill.Lines)), I r3.Claim.Bill.Net, I r3.Claim.Bill.Tax, I r3.Claim.Bill.Total, I r3.follows.From, I r3.follows.To, I r3.follows.End, .p (.val (.slice none 0 0)), .p (.val (.slice none 0 0)), I r3.bill.Net, I r3.bill.Tax, I r3.bill.Total, I r3.rate]), (2000, .box 3 [I 0])]⟩ krf ?_
   refine sim_seq ?_
   refine sim_reg ?_
   refine xs_run 1 krf ?_
   refine xs_roE [.ro [.id, .id, .id, .id, .id, .id, .id, .id, .id, .id, .id, .id, .id, .id, .id, .id, .id, .id, .sl 2, .sl 2, .id, .id, .id, .id]] krf (g_auditor_examined_dated_ok n (⟨r3.Claim, (⟨r3.follows.From, r3.follows.To, r3.follows.End, []⟩ : GSession), (⟨[], r3.bill.Net, r3.bill.Tax, r3.bill.Total⟩ : GBill), r3.rate⟩ : GAuditorExamined)) krf krf (fun _ => by kernel_rfl) (fun _ => by kernel_rfl) (fun r5 => ?_) (fun e6 => ?_)
   ·refine xs_end ?_
    refine sq_nk ⟨[1, 2, 4, 5], [2, 9, 2000], [], []⟩ ⟨[(1, B a1own), (2, .ptr 2 0), (4, .ptr 9 0), (5, .ptr 2000 0)], [(2, .box 38 (bxc (GClaim.cs a0c))), (9, .box 64 [S r3.Claim.Tariff.Name, .p (.sl 7 (List.map GArticle.cs r3.Claim.Tariff.Articles)), I r3.Claim.Calendar.Offset, .p (.sl 2 (List.map GChange.cs r3.Claim.Calendar.Changes)), .p (.sl 1 (List.map ci r3.Claim.Calendar.Holidays)), .p (.sl 5 (List.map GReading.cs r3.Claim.Readings)), U r3.Claim.Seed, I r3.Claim.Session.From, I r3.Claim.Session.To, I r3.Claim.Session.End, .p (.sl 2 (List.map GSlice.cs r3.Claim.Session.Slices)), .p (.sl 2 (List.map GLine.cs r3.Claim.Bill.Lines)), I r3.Claim.Bill.Net, I r3.Claim.Bill.Tax, I r3.Claim.Bill.Total, I r3.follows.From, I r3.follows.To, I r3.follows.End, .p (.val (.slice none 0 0)), .p (.val (.slice none 0 0)), I r3.bill.Net, I r3.bill.Tax, I r3.bill.Total, I r3.rate]), (2000, .box 3 [I 0])]⟩ krf ?_
    refine sim_seq ?_
    refine sim_reg ?_
    refine xs_run 1 krf ?_
    refine xs_heapE [(1000, 9)] [] [] krf (g_auditor_examined_derive_ok n (⟨r3.Claim, (⟨r3.follows.From, r3.follows.To, r3.follows.End, []⟩ : GSession), (⟨[], r3.bill.Net, r3.bill.Tax, r3.bill.Total⟩ : GBill), r3.rate⟩ : GAuditorExamined)) krf krf krf (fun _ => by kernel_rfl) (fun _ => by kernel_rfl) (fun _ => by kernel_rfl) (fun _ => by kernel_rfl) (fun r7 => ?_) (fun e8 => ?_)
    ·refine xs_end ?_
     refine sq_nk ⟨[1, 2, 4, 5], [2, 9, 2000], [], []⟩ ⟨[(1, B a1own), (2, .ptr 2 0), (4, .ptr 9 0), (5, .ptr 2000 0)], [(2, .box 38 (bxc (GClaim.cs a0c))), (9, .box 64 [S r7.Claim.Tariff.Name, .p (.sl 7 (List.map GArticle.cs r7.Claim.Tariff.Articles)), I r7.Claim.Calendar.Offset, .p (.sl 2 (List.map GChange.cs r7.Claim.Calendar.Changes)), .p (.sl 1 (List.map ci r7.Claim.Calendar.Holidays)), .p (.sl 5 (List.map GReading.cs r7.Claim.Readings)), U r7.Claim.Seed, I r7.Claim.Session.From, I r7.Claim.Session.To, I r7.Claim.Session.End, .p (.sl 2 (List.map GSlice.cs r7.Claim.Session.Slices)), .p (.sl 2 (List.map GLine.cs r7.Claim.Bill.Lines)), I r7.Claim.Bill.Net, I r7.Claim.Bill.Tax, I r7.Claim.Bill.Total, I r7.follows.From, I r7.follows.To, I r7.follows.End, .p (.sl 2 (List.map GSlice.cs r7.follows.Slices)), .p (.val (.slice none 0 0)), I r7.bill.Net, I r7.bill.Tax, I r7.bill.Total, I r7.rate]), (2000, .box 3 [I 0])]⟩ krf ?_
     refine sim_cps (fun _ => ⟨[(1, B a1own), (2, .ptr 2 0), (4, .ptr 9 0), (5, .ptr 2000 0)], [(2, .box 38 (bxc (GClaim.cs a0c))), (9, .box 64 [S r7.Claim.Tariff.Name, .p (.sl 7 (List.map GArticle.cs r7.Claim.Tariff.Articles)), I r7.Claim.Calendar.Offset, .p (.sl 2 (List.map GChange.cs r7.Claim.Calendar.Changes)), .p (.sl 1 (List.map ci r7.Claim.Calendar.Holidays)), .p (.sl 5 (List.map GReading.cs r7.Claim.Readings)), U r7.Claim.Seed, I r7.Claim.Session.From, I r7.Claim.Session.To, I r7.Claim.Session.End, .p (.sl 2 (List.map GSlice.cs r7.Claim.Session.Slices)), .p (.sl 2 (List.map GLine.cs r7.Claim.Bill.Lines)), I r7.Claim.Bill.Net, I r7.Claim.Bill.Tax, I r7.Claim.Bill.Total, I r7.follows.From, I r7.follows.To, I r7.follows.End, .p (.sl 2 (List.map GSlice.cs r7.follows.Slices)), .p (.val (.slice none 0 0)), I r7.bill.Net, I r7.bill.Tax, I r7.bill.Total, I r7.rate]), (2000, .box 3 [I 0])]⟩ : Unit → St) (fun _ => g_auditor_examine_j9 n a0c a1own r7) ?_ ?_
     ·rintro _
      show SimE (g_auditor_examine_j9 n a0c a1own r7) _ _ _ _ _ _
      unfold g_auditor_examine_j9
      refine sim_seq ?_
      refine sim_reg ?_
      refine xs_run 1 krf ?_
      refine xs_heapE [(1000, 9)] [] [] krf (g_auditor_examined_price_ok n (⟨r7.Claim, r7.follows, (⟨[], r7.bill.Net, r7.bill.Tax, r7.bill.Total⟩ : GBill), r7.rate⟩ : GAuditorExamined)) krf krf krf (fun _ => by kernel_rfl) (fun _ => by kernel_rfl) (fun _ => by kernel_rfl) (fun _ => by kernel_rfl) (fun r10 => ?_) (fun e11 => ?_)
      ·refine xs_end ?_
       refine sq_nk ⟨[1, 2, 4, 5], [2, 9, 2000], [], []⟩ ⟨[(1, B a1own), (2, .ptr 2 0), (4, .ptr 9 0), (5, .ptr 2000 0)], [(2, .box 38 (bxc (GClaim.cs a0c))), (9, .box 64 (bxc (GAuditorExamined.cs r10))), (2000, .box 3 [I 0])]⟩ krf ?_
       refine sim_cps (fun _ => ⟨[(1, B a1own), (2, .ptr 2 0), (4, .ptr 9 0), (5, .ptr 2000 0)], [(2, .box 38 (bxc (GClaim.cs a0c))), (9, .box 64 (bxc (GAuditorExamined.cs r10))), (2000, .box 3 [I 0])]⟩ : Unit → St) (fun _ => g_auditor_examine_j12 n a0c a1own r10) ?_ ?_
       ·rintro _
        show SimE (g_auditor_examine_j12 n a0c a1own r10) _ _ _ _ _ _
        unfold g_auditor_examine_j12
        refine sim_seq ?_
        refine sim_reg ?_
        refine xs_run 1 krf ?_
        refine xs_heapE [(1000, 9)] [] [] krf (g_auditor_examined_add_ok n r10) krf krf krf (fun _ => by kernel_rfl) (fun _ => by kernel_rfl) (fun _ => by kernel_rfl) (fun _ => by kernel_rfl) (fun r13 => ?_) (fun e14 => ?_)
        ·refine xs_end ?_
         refine sq_nk ⟨[1, 2, 4, 5], [2, 9, 2000], [], []⟩ ⟨[(1, B a1own), (2, .ptr 2 0), (4, .ptr 9 0), (5, .ptr 2000 0)], [(2, .box 38 (bxc (GClaim.cs a0c))), (9, .box 64 (bxc (GAuditorExamined.cs r13))), (2000, .box 3 [I 0])]⟩ krf ?_
         refine sim_seq ?_
         refine sim_drw Try.fm rfl ?_
         refine xs_run 3 krf ?_
         refine xs_split (!a1own) (fun h15 => ?_) (fun h15 => ?_)
         ·refine xs_no (want_ft krf h15) krf ?_
          refine xs_run 31 krf ?_
          refine xs_excL [] krf (g_auditor_need_ok n true 5) krf krf (fun _ => by kernel_rfl) (fun _ => by kernel_rfl) (fun r16 => ?_) (fun e17 => ?_)
          ·refine sq_nk ⟨[4, 5], [9, 2000], [], []⟩ ⟨[(4, .ptr 9 0), (5, .ptr 2000 0)], [(9, .box 64 (bxc (GAuditorExamined.cs r13))), (2000, .box 3 [I 0])]⟩ krf ?_
           refine sim_run Try.fm ⟨[4, 5], [9, 2000], [], []⟩ ⟨[(4, .ptr 9 0), (5, .ptr 2000 0)], [(9, .box 64 (bxc (GAuditorExamined.cs r13))), (2000, .box 3 [I 0])]⟩ krf ?_
           refine sim_ret ?_
           refine dq_ret ?_
           refine sc_heap [(1001, 2000)] [] [] (g_auditor_caught_ok n 0) krf krf krf (fun _ => by kernel_rfl) (fun _ => by kernel_rfl) (fun r18 => ?_)
           exact ke_end (.id) [9] [] krf krf krf krf
          ·refine sq_p ?_
           refine dq_p ?_
           refine sc_heap [(1001, 2000)] [] [] (g_auditor_caught_2_ok n e17 0) krf krf krf (fun _ => by kernel_rfl) (fun _ => by kernel_rfl) (fun r19 => ?_)
           exact ke_end (.id) [9] [] krf krf krf krf
         ·refine xs_one (want_ff krf h15) krf ?_
          refine xs_run 9 krf ?_
          refine xs_split (eqI a0c.Bill.Net r13.bill.Net) (fun h20 => ?_) (fun h20 => ?_)
          ·refine xs_one (want_tt krf h20) krf ?_
           refine xs_run 10 krf ?_
           refine xs_split (eqI a0c.Bill.Tax r13.bill.Tax) (fun h21 => ?_) (fun h21 => ?_)
           ·refine xs_one (want_tt krf h21) krf ?_
            refine xs_run 10 krf ?_
            refine xs_excL [] krf (g_auditor_need_ok n (eqI a0c.Bill.Total r13.bill.Total) 5) krf krf (fun _ => by kernel_rfl) (fun _ => by kernel_rfl) (fun r22 => ?_) (fun e23 => ?_)
            ·refine sq_nk ⟨[4, 5], [9, 2000], [], []⟩ ⟨[(4, .ptr 9 0), (5, .ptr 2000 0)], [(9, .box 64 (bxc (GAuditorExamined.cs r13))), (2000, .box 3 [I 0])]⟩ krf ?_
             refine sim_run Try.fm ⟨[4, 5], [9, 2000], [], []⟩ ⟨[(4, .ptr 9 0), (5, .ptr 2000 0)], [(9, .box 64 (bxc (GAuditorExamined.cs r13))), (2000, .box 3 [I 0])]⟩ krf ?_
             refine sim_ret ?_
             refine dq_ret ?_
             refine sc_heap [(1001, 2000)] [] [] (g_auditor_caught_ok n 0) krf krf krf (fun _ => by kernel_rfl) (fun _ => by kernel_rfl) (fun r24 => ?_)
             exact ke_end (.id) [9] [] krf krf krf krf
            ·refine sq_p ?_
             refine dq_p ?_
             refine sc_heap [(1001, 2000)] [] [] (g_auditor_caught_2_ok n e23 0) krf krf krf (fun _ => by kernel_rfl) (fun _ => by kernel_rfl) (fun r25 => ?_)
             exact ke_end (.id) [9] [] krf krf krf krf
           ·refine xs_no (want_tf krf h21) krf ?_
            refine xs_run 10 krf ?_
            refine xs_excL [] krf (g_auditor_need_ok n false 5) krf krf (fun _ => by kernel_rfl) (fun _ => by kernel_rfl) (fun r26 => ?_) (fun e27 => ?_)
            ·refine sq_nk ⟨[4, 5], [9, 2000], [], []⟩ ⟨[(4, .ptr 9 0), (5, .ptr 2000 0)], [(9, .box 64 (bxc (GAuditorExamined.cs r13))), (2000, .box 3 [I 0])]⟩ krf ?_
             refine sim_run Try.fm ⟨[4, 5], [9, 2000], [], []⟩ ⟨[(4, .ptr 9 0), (5, .ptr 2000 0)], [(9, .box 64 (bxc (GAuditorExamined.cs r13))), (2000, .box 3 [I 0])]⟩ krf ?_
             refine sim_ret ?_
             refine dq_ret ?_
             refine sc_heap [(1001, 2000)] [] [] (g_auditor_caught_ok n 0) krf krf krf (fun _ => by kernel_rfl) (fun _ => by kernel_rfl) (fun r28 => ?_)
             exact ke_end (.id) [9] [] krf krf krf krf
            ·refine sq_p ?_
             refine dq_p ?_
             refine sc_heap [(1001, 2000)] [] [] (g_auditor_caught_2_ok n e27 0) krf krf krf (fun _ => by kernel_rfl) (fun _ => by kernel_rfl) (fun r29 => ?_)
             exact ke_end (.id) [9] [] krf krf krf krf
          ·refine xs_no (want_tf krf h20) krf ?_
           refine xs_run 21 krf ?_
           refine xs_excL [] krf (g_auditor_need_ok n false 5) krf krf (fun _ => by kernel_rfl) (fun _ => by kernel_rfl) (fun r30 => ?_) (fun e31 => ?_)
           ·refine sq_nk ⟨[4, 5], [9, 2000], [], []⟩ ⟨[(4, .ptr 9 0), (5, .ptr 2000 0)], [(9, .box 64 (bxc (GAuditorExamined.cs r13))), (2000, .box 3 [I 0])]⟩ krf ?_
            refine sim_run Try.fm ⟨[4, 5], [9, 2000], [], []⟩ ⟨[(4, .ptr 9 0), (5, .ptr 2000 0)], [(9, .box 64 (bxc (GAuditorExamined.cs r13))), (2000, .box 3 [I 0])]⟩ krf ?_
            refine sim_ret ?_
            refine dq_ret ?_
            refine sc_heap [(1001, 2000)] [] [] (g_auditor_caught_ok n 0) krf krf krf (fun _ => by kernel_rfl) (fun _ => by kernel_rfl) (fun r32 => ?_)
            exact ke_end (.id) [9] [] krf krf krf krf
           ·refine sq_p ?_
            refine dq_p ?_
            refine sc_heap [(1001, 2000)] [] [] (g_auditor_caught_2_ok n e31 0) krf krf krf (fun _ => by kernel_rfl) (fun _ => by kernel_rfl) (fun r33 => ?_)
            exact ke_end (.id) [9] [] krf krf krf krf
        ·refine sq_p ?_
         refine dq_p ?_
         refine sc_heap [(1001, 2000)] [] [] (g_auditor_caught_2_ok n e14.1 0) krf krf krf (fun _ => by kernel_rfl) (fun _ => by kernel_rfl) (fun r34 => ?_)
         exact ke_end (.id) [9] [] krf krf krf krf
       ·refine sim_drw Try.fm rfl ?_
        refine xs_run 3 krf ?_
        refine xs_split (!a1own) (fun h35 => ?_) (fun h35 => ?_)
        ·refine xs_no (want_ft krf h35) krf ?_
         refine xs_run 9 krf ?_
         refine xs_excL [] krf (g_auditor_need_ok n true 4) krf krf (fun _ => by kernel_rfl) (fun _ => by kernel_rfl) (fun r36 => ?_) (fun e37 => ?_)
         ·exact kq_n (k := fun _ => g_auditor_examine_j12 n a0c a1own r10) () ⟨[1, 2, 4, 5], [2, 9, 2000], [], []⟩ krf
         ·refine kq_p ?_
          refine dq_p ?_
          refine sc_heap [(1001, 2000)] [] [] (g_auditor_caught_2_ok n e37 0) krf krf krf (fun _ => by kernel_rfl) (fun _ => by kernel_rfl) (fun r38 => ?_)
          exact ke_end (.id) [9] [] krf krf krf krf
        ·refine xs_one (want_ff krf h35) krf ?_
         refine xs_run 7 krf ?_
         refine xs_call [] krf (g_auditor_same_api_Line_ok n a0c.Bill.Lines r10.bill.Lines) krf krf (fun _ => by kernel_rfl) (fun r39 => ?_)
         refine xs_run 1 krf ?_
         refine xs_excL [] krf (g_auditor_need_ok n r39 4) krf krf (fun _ => by kernel_rfl) (fun _ => by kernel_rfl) (fun r40 => ?_) (fun e41 => ?_)
         ·exact kq_n (k := fun _ => g_auditor_examine_j12 n a0c a1own r10) () ⟨[1, 2, 4, 5], [2, 9, 2000], [], []⟩ krf
         ·refine kq_p ?_
          refine dq_p ?_
          refine sc_heap [(1001, 2000)] [] [] (g_auditor_caught_2_ok n e41 0) krf krf krf (fun _ => by kernel_rfl) (fun _ => by kernel_rfl) (fun r42 => ?_)
          exact ke_end (.id) [9] [] krf krf krf krf
      ·refine sq_p ?_
       refine dq_p ?_
       refine sc_heap [(1001, 2000)] [] [] (g_auditor_caught_2_ok n e11.1 0) krf krf krf (fun _ => by kernel_rfl) (fun _ => by kernel_rfl) (fun r43 => ?_)
       exact ke_end (.id) [9] [] krf krf krf krf
     ·refine sim_run Try.fm ⟨[1, 2, 4, 5, 18], [2, 9, 2000], [], []⟩ ⟨[(1, B a1own), (2, .ptr 2 0), (4, .ptr 9 0), (5, .ptr 2000 0), (18, B a1own)], [(2, .box 38 (bxc (GClaim.cs a0c))), (9, .box 64 [S r7.Claim.Tariff.Name, .p (.sl 7 (List.map GArticle.cs r7.Claim.Tariff.Articles)), I r7.Claim.Calendar.Offset, .p (.sl 2 (List.map GChange.cs r7.Claim.Calendar.Changes)), .p (.sl 1 (List.map ci r7.Claim.Calendar.Holidays)), .p (.sl 5 (List.map GReading.cs r7.Claim.Readings)), U r7.Claim.Seed, I r7.Claim.Session.From, I r7.Claim.Session.To, I r7.Claim.Session.End, .p (.sl 2 (List.map GSlice.cs r7.Claim.Session.Slices)), .p (.sl 2 (List.map GLine.cs r7.Claim.Bill.Lines)), I r7.Claim.Bill.Net, I r7.Claim.Bill.Tax, I r7.Claim.Bill.Total, I r7.follows.From, I r7.follows.To, I r7.follows.End, .p (.sl 2 (List.map GSlice.cs r7.follows.Slices)), .p (.val (.slice none 0 0)), I r7.bill.Net, I r7.bill.Tax, I r7.bill.Total, I r7.rate]), (2000, .box 3 [I 0])]⟩ krf ?_
      refine sim_cond a1own krf ?_ ?_
      ·refine sim_reg ?_
       refine xs_run 1 krf ?_
       refine xs_roE [.ro [.id, .id, .id, .id, .id, .id, .id, .id, .id, .id, .id, .id, .id, .id, .id, .id, .id, .id, .id, .sl 2, .id, .id, .id, .id]] krf (g_auditor_examined_compared_ok n (⟨r7.Claim, r7.follows, (⟨[], r7.bill.Net, r7.bill.Tax, r7.bill.Total⟩ : GBill), r7.rate⟩ : GAuditorExamined)) krf krf (fun _ => by kernel_rfl) (fun _ => by kernel_rfl) (fun r44 => ?_) (fun e45 => ?_)
       ·refine xs_end ?_
        exact kq_n (k := fun _ => g_auditor_examine_j9 n a0c a1own r7) () ⟨[1, 2, 4, 5], [2, 9, 2000], [], []⟩ krf
       ·refine kq_p ?_
        refine dq_p ?_
        refine sc_heap [(1001, 2000)] [] [] (g_auditor_caught_2_ok n e45 0) krf krf krf (fun _ => by kernel_rfl) (fun _ => by kernel_rfl) (fun r46 => ?_)
        exact ke_end (.id) [9] [(9, [.id, .id, .id, .id, .id, .id, .id, .id, .id, .id, .id, .id, .id, .id, .id, .id, .id, .id, .id, .sl 2, .id, .id, .id, .id])] krf krf krf krf
      ·refine sim_skip ?_
       exact kq_n (k := fun _ => g_auditor_examine_j9 n a0c a1own r7) () ⟨[1, 2, 4, 5], [2, 9, 2000], [], []⟩ krf
    ·refine sq_p ?_
     refine dq_p ?_
     refine sc_heap [(1001, 2000)] [] [] (g_auditor_caught_2_ok n e8.1 0) krf krf krf (fun _ => by kernel_rfl) (fun _ => by kernel_rfl) (fun r47 => ?_)
     exact ke_end (.id) [9] [(9, [.id, .id, .id, .id, .id, .id, .id, .id, .id, .id, .id, .id, .id, .id, .id, .id, .id, .id, .id, .sl 2, .id, .id, .id, .id])] krf krf krf krf
   ·refine sq_p ?_
    refine dq_p ?_
    refine sc_heap [(1001, 2000)] [] [] (g_auditor_caught_2_ok n e6 0) krf krf krf (fun _ => by kernel_rfl) (fun _ => by kernel_rfl) (fun r48 => ?_)
    exact ke_end (.id) [9] [(9, [.id, .id, .id, .id, .id, .id, .id, .id, .id, .id, .id, .id, .id, .id, .id, .id, .id, .id, .sl 2, .sl 2, .id, .id, .id, .id])] krf krf krf krf
  ·refine sq_p ?_
   refine dq_p ?_
   refine sc_heap [(1001, 2000)] [] [] (g_auditor_caught_2_ok n e4.1 0) krf krf krf (fun _ => by kernel_rfl) (fun _ => by kernel_rfl) (fun r49 => ?_)
   exact ke_end (.id) [9] [(9, [.id, .id, .id, .id, .id, .id, .id, .id, .id, .id, .id, .id, .id, .id, .id, .id, .id, .id, .sl 2, .sl 2, .id, .id, .id, .id])] krf krf krf krf
 ·refine sq_p ?_
  refine dq_p ?_
  refine sc_heap [(1001, 2000)] [] [] (g_auditor_caught_2_ok n e2 0) krf krf krf (fun _ => by kernel_rfl) (fun _ => by kernel_rfl) (fun r50 => ?_)
  exact ke_end (.id) [9] [(9, [.id, .id, .id, .id, .id, .id, .id, .id, .id, .id, .id, .id, .id, .id, .id, .id, .id, .id, .sl 2, .sl 2, .id, .id, .id, .id])] krf krf krf krf
def g_auditor_Replay (n : Nat) (a0c : GClaim) : Option (GBill × Int) :=
 (g_auditor_examine n a0c false).bind fun r1 =>
 cond (eqI r1.2 0)
  (some (r1.1.bill, 0))
  (cond (eqI r1.2 1)
   (some ((⟨[], 0, 0, 0⟩ : GBill), 11))
   (cond (eqI r1.2 2)
    (some ((⟨[], 0, 0, 0⟩ : GBill), 1))
    (cond (eqI r1.2 3)
     (some ((⟨[], 0, 0, 0⟩ : GBill), 6))
     (some ((⟨[], 0, 0, 0⟩ : GBill), 3)))))
theorem g_auditor_Replay_ok (n : Nat) (a0c : GClaim) : ∀ r, g_auditor_Replay n a0c = some r → PCall Try.prog 10 [ag (GClaim.cs a0c)] (.ret (.tup [ag (GBill.cs r.1), I r.2])) := by
 refine pcall_sim (X := fun r : GBill × Int => AEnd.ret (.tup [ag (GBill.cs r.1), I r.2])) Try.func10 rfl Try.ntmps10 rfl ?_
 unfold g_auditor_Replay
 refine sim_run Try.fm ⟨[1, 2], [1, 2], [], []⟩ ⟨[(1, .ptr 1 0), (2, .ptr 2 0)], [(1, .box 38 (bxc (GClaim.cs a0c))), (2, .box 36 [.p (.val (.slice none 0 0)), I 0, I 0, I 0])]⟩ krf ?_
 refine sim_seq ?_
 refine sim_reg ?_
 refine xs_run 1 krf ?_
 refine xs_heap [(9, 409)] [] [] krf (g_auditor_examine_ok n a0c false) krf krf krf (fun _ => by kernel_rfl) (fun _ => by kernel_rfl) (fun r1 => ?_)
 refine xs_run 5 krf ?_
 refine xs_end ?_
 refine sq_nk ⟨[2, 4, 5], [2, 409], [], []⟩ ⟨[(2, .ptr 2 0), (4, .ptr 409 0), (5, I r1.2)], [(2, .box 36 [.p (.val (.slice none 0 0)), I 0, I 0, I 0]), (409, .box 64 (bxc (GAuditorExamined.cs r1.1)))]⟩ krf ?_
 refine sim_seq ?_
 refine sim_run Try.fm ⟨[2, 4, 11], [2, 409], [], []⟩ ⟨[(2, .ptr 2 0), (4, .ptr 409 0), (11, I r1.2)], [(2, .box 36 [.p (.val (.slice none 0 0)), I 0, I 0, I 0]), (409, .box 64 (bxc (GAuditorExamined.cs r1.1)))]⟩ krf ?_
 refine sim_block ?_
 refine sim_run Try.fm ⟨[2, 4, 11, 12], [2, 409], [], []⟩ ⟨[(2, .ptr 2 0), (4, .ptr 409 0), (11, I r1.2), (12, B (eqI r1.2 0))], [(2, .box 36 [.p (.val (.slice none 0 0)), I 0, I 0, I 0]), (409, .box 64 (bxc (GAuditorExamined.cs r1.1)))]⟩ krf ?_
 refine sim_cond (eqI r1.2 0) krf ?_ ?_
 ·refine sim_run Try.fm ⟨[2, 3], [2], [], []⟩ ⟨[(2, .ptr 2 0), (3, I 0)], [(2, .box 36 (bxc (GBill.cs r1.1.bill)))]⟩ krf ?_
  refine sim_ret ?_
  refine bq_r ?_
  refine sq_r ?_
  exact rq_ret (.id) krf krf krf
 ·refine sim_run Try.fm ⟨[2, 11, 18], [2], [], []⟩ ⟨[(2, .ptr 2 0), (11, I r1.2), (18, B (eqI r1.2 1))], [(2, .box 36 [.p (.val (.slice none 0 0)), I 0, I 0, I 0])]⟩ krf ?_
  refine sim_cond (eqI r1.2 1) krf ?_ ?_
  ·refine sim_run Try.fm ⟨[2, 3], [2], [], []⟩ ⟨[(2, .ptr 2 0), (3, I 11)], [(2, .box 36 [.p (.val (.slice none 0 0)), I 0, I 0, I 0])]⟩ krf ?_
   refine sim_ret ?_
   refine bq_r ?_
   refine sq_r ?_
   exact rq_ret (.agg [.agg [.sl 2, .id, .id, .id], .id]) krf krf krf
  ·refine sim_run Try.fm ⟨[2, 11, 21], [2], [], []⟩ ⟨[(2, .ptr 2 0), (11, I r1.2), (21, B (eqI r1.2 2))], [(2, .box 36 [.p (.val (.slice none 0 0)), I 0, I 0, I 0])]⟩ krf ?_
   refine sim_cond (eqI r1.2 2) krf ?_ ?_
   ·refine sim_run Try.fm ⟨[2, 3], [2], [], []⟩ ⟨[(2, .ptr 2 0), (3, I 1)], [(2, .box 36 [.p (.val (.slice none 0 0)), I 0, I 0, I 0])]⟩ krf ?_
    refine sim_ret ?_
    refine bq_r ?_
    refine sq_r ?_
    exact rq_ret (.agg [.agg [.sl 2, .id, .id, .id], .id]) krf krf krf
   ·refine sim_run Try.fm ⟨[2, 24], [2], [], []⟩ ⟨[(2, .ptr 2 0), (24, B (eqI r1.2 3))], [(2, .box 36 [.p (.val (.slice none 0 0)), I 0, I 0, I 0])]⟩ krf ?_
    refine sim_cond (eqI r1.2 3) krf ?_ ?_
    ·refine sim_run Try.fm ⟨[2, 3], [2], [], []⟩ ⟨[(2, .ptr 2 0), (3, I 6)], [(2, .box 36 [.p (.val (.slice none 0 0)), I 0, I 0, I 0])]⟩ krf ?_
     refine sim_ret ?_
     refine bq_r ?_
     refine sq_r ?_
     exact rq_ret (.agg [.agg [.sl 2, .id, .id, .id], .id]) krf krf krf
    ·refine sim_skip ?_
     refine bq_n ?_
     refine sq_nk ⟨[2], [2], [], []⟩ ⟨[(2, .ptr 2 0)], [(2, .box 36 [.p (.val (.slice none 0 0)), I 0, I 0, I 0])]⟩ krf ?_
     refine sim_run Try.fm ⟨[2, 3], [2], [], []⟩ ⟨[(2, .ptr 2 0), (3, I 3)], [(2, .box 36 [.p (.val (.slice none 0 0)), I 0, I 0, I 0])]⟩ krf ?_
     refine sim_ret ?_
     exact rq_ret (.agg [.agg [.sl 2, .id, .id, .id], .id]) krf krf krf
def g_ref33_Same_j1 (a0a : GBill) (a1b : GBill) : Option Bool :=
 cond (eqI a0a.Net a1b.Net)
  (cond (eqI a0a.Tax a1b.Tax)
   (some (eqI a0a.Total a1b.Total))
   (some false))
  (some false)
def g_ref33_Same_l4 (a0a : GBill) (a1b : GBill) (recl4 : Int → Option Bool) (l4 : Int) : Option Bool :=
 cond (ltI l4 (lenI (List.map GLine.cs a0a.Lines)))
  ((getI a0a.Lines l4).bind fun x5 =>
  (getI a1b.Lines l4).bind fun x6 =>
  cond (!opq ((eqI x5.Article x6.Article) && ((eqI x5.Amount x6.Amount) && true)))
   (some false)
   (recl4 (wi (l4 + 1))))
  (g_ref33_Same_j1 a0a a1b)
def g_ref33_Same (n : Nat) (a0a : GBill) (a1b : GBill) : Option Bool :=
 cond (!eqI (lenI (List.map GLine.cs a0a.Lines)) (lenI (List.map GLine.cs a1b.Lines)))
  (some false)
  (loopN (fun recl4 l4 => g_ref33_Same_l4 a0a a1b recl4 l4) n 0)
theorem g_ref33_Same_ok (n : Nat) (a0a : GBill) (a1b : GBill) : ∀ r, g_ref33_Same n a0a a1b = some r → PCall Try.prog 14 [ag (GBill.cs a0a), ag (GBill.cs a1b)] (.ret (B r)) := by
 refine pcall_sim (X := fun r : Bool => AEnd.ret (B r)) Try.func14 rfl Try.ntmps14 rfl ?_
 unfold g_ref33_Same
 refine sim_run Try.fm ⟨[2, 3], [2, 3], [], []⟩ ⟨[(2, .ptr 2 0), (3, .ptr 3 0)], [(2, .box 36 (bxc (GBill.cs a0a))), (3, .box 36 (bxc (GBill.cs a1b)))]⟩ krf ?_
 refine sim_seq ?_
 refine sim_run Try.fm ⟨[2, 3, 12], [2, 3], [], []⟩ ⟨[(2, .ptr 2 0), (3, .ptr 3 0), (12, B (!eqI (lenI (List.map GLine.cs a0a.Lines)) (lenI (List.map GLine.cs a1b.Lines))))], [(2, .box 36 (bxc (GBill.cs a0a))), (3, .box 36 (bxc (GBill.cs a1b)))]⟩ krf ?_
 refine sim_cond (!eqI (lenI (List.map GLine.cs a0a.Lines)) (lenI (List.map GLine.cs a1b.Lines))) krf ?_ ?_
 ·refine sim_run Try.fm ⟨[4], [], [], []⟩ ⟨[(4, B false)], []⟩ krf ?_
  refine sim_ret ?_
  refine sq_r ?_
  exact rq_ret (.id) krf krf krf
 ·refine sim_skip ?_
  refine sq_nk ⟨[2, 3], [2, 3], [], []⟩ ⟨[(2, .ptr 2 0), (3, .ptr 3 0)], [(2, .box 36 (bxc (GBill.cs a0a))), (3, .box 36 (bxc (GBill.cs a1b)))]⟩ krf ?_
  refine sim_cps (fun _ => ⟨[(2, .ptr 2 0), (3, .ptr 3 0)], [(2, .box 36 (bxc (GBill.cs a0a))), (3, .box 36 (bxc (GBill.cs a1b)))]⟩ : Unit → St) (fun _ => g_ref33_Same_j1 a0a a1b) ?_ ?_
  ·rintro _
   show SimE (g_ref33_Same_j1 a0a a1b) _ _ _ _ _ _
   unfold g_ref33_Same_j1
   refine sim_seq ?_
   refine sim_reg ?_
   refine xs_run 6 krf ?_
   refine xs_split (eqI a0a.Net a1b.Net) (fun h2 => ?_) (fun h2 => ?_)
   ·refine xs_one (want_tt krf h2) krf ?_
    refine xs_run 6 krf ?_
    refine xs_split (eqI a0a.Tax a1b.Tax) (fun h3 => ?_) (fun h3 => ?_)
    ·refine xs_one (want_tt krf h3) krf ?_
     refine xs_run 6 krf ?_
     refine xs_end ?_
     refine sq_nk ⟨[4], [], [], []⟩ ⟨[(4, B (eqI a0a.Total a1b.Total))], []⟩ krf ?_
     refine sim_ret ?_
     exact rq_ret (.id) krf krf krf
    ·refine xs_no (want_tf krf h3) krf ?_
     refine xs_run 6 krf ?_
     refine xs_end ?_
     refine sq_nk ⟨[4], [], [], []⟩ ⟨[(4, B false)], []⟩ krf ?_
     refine sim_ret ?_
     exact rq_ret (.id) krf krf krf
   ·refine xs_no (want_tf krf h2) krf ?_
    refine xs_run 13 krf ?_
    refine xs_end ?_
    refine sq_nk ⟨[4], [], [], []⟩ ⟨[(4, B false)], []⟩ krf ?_
    refine sim_ret ?_
    exact rq_ret (.id) krf krf krf
  ·refine sim_run Try.fm ⟨[2, 3, 5], [2, 3], [], []⟩ ⟨[(2, .ptr 2 0), (3, .ptr 3 0), (5, I 0)], [(2, .box 36 (bxc (GBill.cs a0a))), (3, .box 36 (bxc (GBill.cs a1b)))]⟩ krf ?_
   refine sim_block ?_
   refine sim_loop (fun l4 => ⟨[(2, .ptr 2 0), (3, .ptr 3 0), (5, I l4)], [(2, .box 36 (bxc (GBill.cs a0a))), (3, .box 36 (bxc (GBill.cs a1b)))]⟩ : Int → St) (weak_shr (K := ⟨[2, 3, 5], [2, 3], [], []⟩) krf) ?_
   rintro recl4 l4
   show SimE (g_ref33_Same_l4 a0a a1b recl4 l4) _ _ _ _ _ _
   unfold g_ref33_Same_l4
   refine sim_seq ?_
   refine sim_run Try.fm ⟨[2, 3, 5, 17], [2, 3], [], []⟩ ⟨[(2, .ptr 2 0), (3, .ptr 3 0), (5, I l4), (17, B (ltI l4 (lenI (List.map GLine.cs a0a.Lines))))], [(2, .box 36 (bxc (GBill.cs a0a))), (3, .box 36 (bxc (GBill.cs a1b)))]⟩ krf ?_
   refine sim_cond (ltI l4 (lenI (List.map GLine.cs a0a.Lines))) krf ?_ ?_
   ·refine sim_skip ?_
    refine sq_nk ⟨[2, 3, 5], [2, 3], [], []⟩ ⟨[(2, .ptr 2 0), (3, .ptr 3 0), (5, I l4)], [(2, .box 36 (bxc (GBill.cs a0a))), (3, .box 36 (bxc (GBill.cs a1b)))]⟩ krf ?_
    refine sim_seq ?_
    refine sim_block ?_
    refine sim_seq ?_
    refine sim_drw Try.fm rfl ?_
    refine xs_run 3 krf ?_
    refine xs_get krf krf (aop_idx (e := 56) (S := 2) (enc := GLine.cs) (l := a0a.Lines) (k := .i64) (n := l4) (sv := .p (.sl 2 (List.map GLine.cs a0a.Lines))) rfl krf krf krf krf krf) (fun x5 => ?_)
    refine xs_run 4 krf ?_
    refine xs_get krf krf (aop_idx (e := 56) (S := 2) (enc := GLine.cs) (l := a1b.Lines) (k := .i64) (n := l4) (sv := .p (.sl 2 (List.map GLine.cs a1b.Lines))) rfl krf krf krf krf krf) (fun x6 => ?_)
    refine xs_run 1 krf ?_
    refine xs_u krf krf (aop_neq (xs := [I x5.Article, I x5.Amount]) (ys := [I x6.Article, I x6.Amount]) (vx := [.int .i64 x5.Article, .int .i64 x5.Amount]) (vy := [.int .i64 x6.Article, .int .i64 x6.Amount]) (b := (eqI x5.Article x6.Article) && ((eqI x5.Amount x6.Amount) && true)) rfl krf krf krf krf krf krf) ?_
    refine xs_endD krf ?_
    refine sq_nk ⟨[2, 3, 5, 30], [2, 3], [], []⟩ ⟨[(2, .ptr 2 0), (3, .ptr 3 0), (5, I l4), (30, B (!opq ((eqI x5.Article x6.Article) && ((eqI x5.Amount x6.Amount) && true))))], [(2, .box 36 (bxc (GBill.cs a0a))), (3, .box 36 (bxc (GBill.cs a1b)))]⟩ krf ?_
    refine sim_cond (!opq ((eqI x5.Article x6.Article) && ((eqI x5.Amount x6.Amount) && true))) krf ?_ ?_
    ·refine sim_run Try.fm ⟨[4], [], [], []⟩ ⟨[(4, B false)], []⟩ krf ?_
     refine sim_ret ?_
     refine bq_r ?_
     refine sq_r ?_
     refine kq_r ?_
     refine bq_r ?_
     refine kq_r ?_
     exact rq_ret (.id) krf krf krf
    ·refine sim_skip ?_
     refine bq_n ?_
     refine sq_nk ⟨[2, 3, 5], [2, 3], [], []⟩ ⟨[(2, .ptr 2 0), (3, .ptr 3 0), (5, I l4)], [(2, .box 36 (bxc (GBill.cs a0a))), (3, .box 36 (bxc (GBill.cs a1b)))]⟩ krf ?_
     refine sim_last Try.fm krf ?_
     exact kq_n (wi (l4 + 1)) ⟨[2, 3, 5], [2, 3], [], []⟩ krf
   ·refine sim_exit ?_
    refine sq_x ?_
    refine kq_x ?_
    refine bq_hit ?_
    exact kq_n (k := fun _ => g_ref33_Same_j1 a0a a1b) () ⟨[2, 3], [2, 3], [], []⟩ krf
def g_auditor_Verify (n : Nat) (a0c : GClaim) : Option Int :=
 (g_auditor_examine n a0c true).bind fun r1 =>
 some r1.2
theorem g_auditor_Verify_ok (n : Nat) (a0c : GClaim) : ∀ r, g_auditor_Verify n a0c = some r → PCall Try.prog 12 [ag (GClaim.cs a0c)] (.ret (I r)) := by
 refine pcall_sim (X := fun r : Int => AEnd.ret (I r)) Try.func12 rfl Try.ntmps12 rfl ?_
 unfold g_auditor_Verify
 refine sim_run Try.fm ⟨[1], [1], [], []⟩ ⟨[(1, .ptr 1 0)], [(1, .box 38 (bxc (GClaim.cs a0c)))]⟩ krf ?_
 refine sim_seq ?_
 refine sim_reg ?_
 refine xs_run 1 krf ?_
 refine xs_heap [(9, 409)] [] [] krf (g_auditor_examine_ok n a0c true) krf krf krf (fun _ => by kernel_rfl) (fun _ => by kernel_rfl) (fun r1 => ?_)
 refine xs_run 5 krf ?_
 refine xs_end ?_
 refine sq_nk ⟨[4], [], [], []⟩ ⟨[(4, I r1.2)], []⟩ krf ?_
 refine sim_run Try.fm ⟨[2], [], [], []⟩ ⟨[(2, I r1.2)], []⟩ krf ?_
 refine sim_ret ?_
 exact rq_ret (.id) krf krf krf
def g_law43_head (n : Nat) : Option Bool :=
 (g_law43_example n).bind fun r1 =>
 cond (!eqI (lenI (List.map GReading.cs r1.Readings)) 3)
  (some false)
  ((g_auditor_Replay n r1).bind fun r2 =>
  cond (sliceB 0 1 (List.length r1.Bill.Lines)) (
   (cond (eqI r2.2 0)
    ((g_ref33_Same n r2.1 r1.Bill).bind fun r5 =>
    cond r5
     ((g_auditor_Verify n r1).bind fun r7 =>
     cond (eqI r7 0)
      ((g_auditor_Verify n (⟨r1.Tariff, r1.Calendar, r1.Readings, wu (r1.Seed + 1), r1.Session, r1.Bill⟩ : GClaim)).bind fun r9 =>
      cond (eqI r9 1)
       ((g_auditor_Verify n (⟨r1.Tariff, r1.Calendar, [], r1.Seed, r1.Session, r1.Bill⟩ : GClaim)).bind fun r11 =>
       cond (eqI r11 1)
        ((g_auditor_Verify n (⟨(⟨[116, 97, 120], r1.Tariff.Articles⟩ : GTariff), r1.Calendar, r1.Readings, r1.Seed, r1.Session, r1.Bill⟩ : GClaim)).bind fun r13 =>
        cond (eqI r13 2)
         ((g_auditor_Verify n (⟨r1.Tariff, r1.Calendar, r1.Readings, r1.Seed, (⟨r1.Session.From, r1.Session.To, wi (r1.Session.End + 1), r1.Session.Slices⟩ : GSession), r1.Bill⟩ : GClaim)).bind fun r15 =>
         cond (eqI r15 3)
          ((g_auditor_Verify n (⟨r1.Tariff, r1.Calendar, r1.Readings, r1.Seed, r1.Session, (⟨List.drop (Int.toNat 0) (List.take (Int.toNat 1) r1.Bill.Lines), r1.Bill.Net, r1.Bill.Tax, r1.Bill.Total⟩ : GBill)⟩ : GClaim)).bind fun r17 =>
          cond (eqI r17 4)
           ((g_auditor_Verify n (⟨r1.Tariff, r1.Calendar, r1.Readings, r1.Seed, r1.Session, (⟨r1.Bill.Lines, r1.Bill.Net, r1.Bill.Tax, wi (r1.Bill.Total + 1)⟩ : GBill)⟩ : GClaim)).bind fun r19 =>
           some (eqI r19 5))
           (some false))
          (some false))
         (some false))
        (some false))
       (some false))
      (some false))
     (some false))
    (some false)).bind fun j3 =>
   some j3) none)
theorem g_law43_head_ok (n : Nat) : ∀ r, g_law43_head n = some r → PCall Try.prog 8 [] (.ret (B r)) := by
 refine pcall_sim (X := fun r : Bool => AEnd.ret (B r)) Try.func8 rfl Try.ntmps8 rfl ?_
 unfold g_law43_head
 refine sim_run Try.fm ⟨[], [], [], []⟩ ⟨[], []⟩ krf ?_
 refine sim_seq ?_
 refine sim_reg ?_
 refine xs_call [] krf (g_law43_example_ok n) krf krf (fun _ => by kernel_rfl) (fun r1 => ?_)
 refine xs_run 2 krf ?_
 refine xs_end ?_
 refine sq_nk ⟨[1], [1], [], []⟩ ⟨[(1, .ptr 1 0)], [(1, .box 38 (bxc (GClaim.cs r1)))]⟩ krf ?_
 refine sim_seq ?_
 refine sim_run Try.fm ⟨[1, 14], [1], [], []⟩ ⟨[(1, .ptr 1 0), (14, B (!eqI (lenI (List.map GReading.cs r1.Readings)) 3))], [(1, .box 38 (bxc (GClaim.cs r1)))]⟩ krf ?_
 refine sim_cond (!eqI (lenI (List.map GReading.cs r1.Readings)) 3) krf ?_ ?_
 ·refine sim_run Try.fm ⟨[0], [], [], []⟩ ⟨[(0, B false)], []⟩ krf ?_
  refine sim_ret ?_
  refine sq_r ?_
  exact rq_ret (.id) krf krf krf
 ·refine sim_skip ?_
  refine sq_nk ⟨[1], [1], [], []⟩ ⟨[(1, .ptr 1 0)], [(1, .box 38 (bxc (GClaim.cs r1)))]⟩ krf ?_
  refine sim_seq ?_
  refine sim_reg ?_
  refine xs_run 1 krf ?_
  refine xs_call [] krf (g_auditor_Replay_ok n r1) krf krf (fun _ => by kernel_rfl) (fun r2 => ?_)
  refine xs_run 6 krf ?_
  refine xs_end ?_
  refine sq_nk ⟨[1, 2, 3], [1, 2], [], []⟩ ⟨[(1, .ptr 1 0), (2, .ptr 2 0), (3, I r2.2)], [(1, .box 38 (bxc (GClaim.cs r1))), (2, .box 36 (bxc (GBill.cs r2.1)))]⟩ krf ?_
  refine sim_run Try.fm ⟨[1, 2, 3, 4, 5, 6, 7, 8], [1, 2, 4, 5, 6, 7, 8], [], []⟩ ⟨[(1, .ptr 1 0), (2, .ptr 2 0), (3, I r2.2), (4, .ptr 4 0), (5, .ptr 5 0), (6, .ptr 6 0), (7, .ptr 7 0), (8, .ptr 8 0)], [(1, .box 38 (bxc (GClaim.cs r1))), (2, .box 36 (bxc (GBill.cs r2.1))), (4, .box 38 (bxc (GClaim.cs r1))), (5, .box 38 (bxc (GClaim.cs r1))), (6, .box 38 (bxc (GClaim.cs r1))), (7, .box 38 (bxc (GClaim.cs r1))), (8, .box 38 (bxc (GClaim.cs r1)))]⟩ krf ?_
  refine sim_run Try.fm ⟨[1, 2, 3, 4, 5, 6, 7, 8], [1, 2, 4, 5, 6, 7, 8], [], []⟩ ⟨[(1, .ptr 1 0), (2, .ptr 2 0), (3, I r2.2), (4, .ptr 4 0), (5, .ptr 5 0), (6, .ptr 6 0), (7, .ptr 7 0), (8, .ptr 8 0)], [(1, .box 38 (bxc (GClaim.cs r1))), (2, .box 36 (bxc (GBill.cs r2.1))), (4, .box 38 [S r1.Tariff.Name, .p (.sl 7 (List.map GArticle.cs r1.Tariff.Articles)), I r1.Calendar.Offset, .p (.sl 2 (List.map GChange.cs r1.Calendar.Changes)), .p (.sl 1 (List.map ci r1.Calendar.Holidays)), .p (.sl 5 (List.map GReading.cs r1.Readings)), U (wu (r1.Seed + 1)), I r1.Session.From, I r1.Session.To, I r1.Session.End, .p (.sl 2 (List.map GSlice.cs r1.Session.Slices)), .p (.sl 2 (List.map GLine.cs r1.Bill.Lines)), I r1.Bill.Net, I r1.Bill.Tax, I r1.Bill.Total]), (5, .box 38 (bxc (GClaim.cs r1))), (6, .box 38 (bxc (GClaim.cs r1))), (7, .box 38 (bxc (GClaim.cs r1))), (8, .box 38 (bxc (GClaim.cs r1)))]⟩ krf ?_
  refine sim_run Try.fm ⟨[1, 2, 3, 4, 5, 6, 7, 8], [1, 2, 4, 5, 6, 7, 8], [], []⟩ ⟨[(1, .ptr 1 0), (2, .ptr 2 0), (3, I r2.2), (4, .ptr 4 0), (5, .ptr 5 0), (6, .ptr 6 0), (7, .ptr 7 0), (8, .ptr 8 0)], [(1, .box 38 (bxc (GClaim.cs r1))), (2, .box 36 (bxc (GBill.cs r2.1))), (4, .box 38 [S r1.Tariff.Name, .p (.sl 7 (List.map GArticle.cs r1.Tariff.Articles)), I r1.Calendar.Offset, .p (.sl 2 (List.map GChange.cs r1.Calendar.Changes)), .p (.sl 1 (List.map ci r1.Calendar.Holidays)), .p (.sl 5 (List.map GReading.cs r1.Readings)), U (wu (r1.Seed + 1)), I r1.Session.From, I r1.Session.To, I r1.Session.End, .p (.sl 2 (List.map GSlice.cs r1.Session.Slices)), .p (.sl 2 (List.map GLine.cs r1.Bill.Lines)), I r1.Bill.Net, I r1.Bill.Tax, I r1.Bill.Total]), (5, .box 38 [S [116, 97, 120], .p (.sl 7 (List.map GArticle.cs r1.Tariff.Articles)), I r1.Calendar.Offset, .p (.sl 2 (List.map GChange.cs r1.Calendar.Changes)), .p (.sl 1 (List.map ci r1.Calendar.Holidays)), .p (.sl 5 (List.map GReading.cs r1.Readings)), U r1.Seed, I r1.Session.From, I r1.Session.To, I r1.Session.End, .p (.sl 2 (List.map GSlice.cs r1.Session.Slices)), .p (.sl 2 (List.map GLine.cs r1.Bill.Lines)), I r1.Bill.Net, I r1.Bill.Tax, I r1.Bill.Total]), (6, .box 38 (bxc (GClaim.cs r1))), (7, .box 38 (bxc (GClaim.cs r1))), (8, .box 38 (bxc (GClaim.cs r1)))]⟩ krf ?_
  refine sim_run Try.fm ⟨[1, 2, 3, 4, 5, 6, 7, 8], [1, 2, 4, 5, 6, 7, 8], [], []⟩ ⟨[(1, .ptr 1 0), (2, .ptr 2 0), (3, I r2.2), (4, .ptr 4 0), (5, .ptr 5 0), (6, .ptr 6 0), (7, .ptr 7 0), (8, .ptr 8 0)], [(1, .box 38 (bxc (GClaim.cs r1))), (2, .box 36 (bxc (GBill.cs r2.1))), (4, .box 38 [S r1.Tariff.Name, .p (.sl 7 (List.map GArticle.cs r1.Tariff.Articles)), I r1.Calendar.Offset, .p (.sl 2 (List.map GChange.cs r1.Calendar.Changes)), .p (.sl 1 (List.map ci r1.Calendar.Holidays)), .p (.sl 5 (List.map GReading.cs r1.Readings)), U (wu (r1.Seed + 1)), I r1.Session.From, I r1.Session.To, I r1.Session.End, .p (.sl 2 (List.map GSlice.cs r1.Session.Slices)), .p (.sl 2 (List.map GLine.cs r1.Bill.Lines)), I r1.Bill.Net, I r1.Bill.Tax, I r1.Bill.Total]), (5, .box 38 [S [116, 97, 120], .p (.sl 7 (List.map GArticle.cs r1.Tariff.Articles)), I r1.Calendar.Offset, .p (.sl 2 (List.map GChange.cs r1.Calendar.Changes)), .p (.sl 1 (List.map ci r1.Calendar.Holidays)), .p (.sl 5 (List.map GReading.cs r1.Readings)), U r1.Seed, I r1.Session.From, I r1.Session.To, I r1.Session.End, .p (.sl 2 (List.map GSlice.cs r1.Session.Slices)), .p (.sl 2 (List.map GLine.cs r1.Bill.Lines)), I r1.Bill.Net, I r1.Bill.Tax, I r1.Bill.Total]), (6, .box 38 [S r1.Tariff.Name, .p (.sl 7 (List.map GArticle.cs r1.Tariff.Articles)), I r1.Calendar.Offset, .p (.sl 2 (List.map GChange.cs r1.Calendar.Changes)), .p (.sl 1 (List.map ci r1.Calendar.Holidays)), .p (.sl 5 (List.map GReading.cs r1.Readings)), U r1.Seed, I r1.Session.From, I r1.Session.To, I (wi (r1.Session.End + 1)), .p (.sl 2 (List.map GSlice.cs r1.Session.Slices)), .p (.sl 2 (List.map GLine.cs r1.Bill.Lines)), I r1.Bill.Net, I r1.Bill.Tax, I r1.Bill.Total]), (7, .box 38 (bxc (GClaim.cs r1))), (8, .box 38 (bxc (GClaim.cs r1)))]⟩ krf ?_
  refine sim_seq ?_
  refine sim_reg ?_
  refine xs_run 3 krf ?_
  refine xs_if krf krf (aop_slice (e := 56) (S := 2) (enc := GLine.cs) (l := r1.Bill.Lines) (sv := .p (.sl 2 (List.map GLine.cs r1.Bill.Lines))) (a := 0) (b := 1) rfl krf krf krf krf krf krf) ?_
  refine xs_run 3 krf ?_
  refine xs_end ?_
  refine sq_nk ⟨[1, 2, 3, 4, 5, 6, 7, 8], [1, 2, 4, 5, 6, 7, 8], [], []⟩ ⟨[(1, .ptr 1 0), (2, .ptr 2 0), (3, I r2.2), (4, .ptr 4 0), (5, .ptr 5 0), (6, .ptr 6 0), (7, .ptr 7 0), (8, .ptr 8 0)], [(1, .box 38 (bxc (GClaim.cs r1))), (2, .box 36 (bxc (GBill.cs r2.1))), (4, .box 38 [S r1.Tariff.Name, .p (.sl 7 (List.map GArticle.cs r1.Tariff.Articles)), I r1.Calendar.Offset, .p (.sl 2 (List.map GChange.cs r1.Calendar.Changes)), .p (.sl 1 (List.map ci r1.Calendar.Holidays)), .p (.sl 5 (List.map GReading.cs r1.Readings)), U (wu (r1.Seed + 1)), I r1.Session.From, I r1.Session.To, I r1.Session.End, .p (.sl 2 (List.map GSlice.cs r1.Session.Slices)), .p (.sl 2 (List.map GLine.cs r1.Bill.Lines)), I r1.Bill.Net, I r1.Bill.Tax, I r1.Bill.Total]), (5, .box 38 [S [116, 97, 120], .p (.sl 7 (List.map GArticle.cs r1.Tariff.Articles)), I r1.Calendar.Offset, .p (.sl 2 (List.map GChange.cs r1.Calendar.Changes)), .p (.sl 1 (List.map ci r1.Calendar.Holidays)), .p (.sl 5 (List.map GReading.cs r1.Readings)), U r1.Seed, I r1.Session.From, I r1.Session.To, I r1.Session.End, .p (.sl 2 (List.map GSlice.cs r1.Session.Slices)), .p (.sl 2 (List.map GLine.cs r1.Bill.Lines)), I r1.Bill.Net, I r1.Bill.Tax, I r1.Bill.Total]), (6, .box 38 [S r1.Tariff.Name, .p (.sl 7 (List.map GArticle.cs r1.Tariff.Articles)), I r1.Calendar.Offset, .p (.sl 2 (List.map GChange.cs r1.Calendar.Changes)), .p (.sl 1 (List.map ci r1.Calendar.Holidays)), .p (.sl 5 (List.map GReading.cs r1.Readings)), U r1.Seed, I r1.Session.From, I r1.Session.To, I (wi (r1.Session.End + 1)), .p (.sl 2 (List.map GSlice.cs r1.Session.Slices)), .p (.sl 2 (List.map GLine.cs r1.Bill.Lines)), I r1.Bill.Net, I r1.Bill.Tax, I r1.Bill.Total]), (7, .box 38 [S r1.Tariff.Name, .p (.sl 7 (List.map GArticle.cs r1.Tariff.Articles)), I r1.Calendar.Offset, .p (.sl 2 (List.map GChange.cs r1.Calendar.Changes)), .p (.sl 1 (List.map ci r1.Calendar.Holidays)), .p (.sl 5 (List.map GReading.cs r1.Readings)), U r1.Seed, I r1.Session.From, I r1.Session.To, I r1.Session.End, .p (.sl 2 (List.map GSlice.cs r1.Session.Slices)), .p (.sl 2 (List.map GLine.cs (List.drop (Int.toNat 0) (List.take (Int.toNat 1) r1.Bill.Lines)))), I r1.Bill.Net, I r1.Bill.Tax, I r1.Bill.Total]), (8, .box 38 (bxc (GClaim.cs r1)))]⟩ krf ?_
  refine sim_run Try.fm ⟨[1, 2, 3, 4, 5, 6, 7, 8], [1, 2, 4, 5, 6, 7, 8], [], []⟩ ⟨[(1, .ptr 1 0), (2, .ptr 2 0), (3, I r2.2), (4, .ptr 4 0), (5, .ptr 5 0), (6, .ptr 6 0), (7, .ptr 7 0), (8, .ptr 8 0)], [(1, .box 38 (bxc (GClaim.cs r1))), (2, .box 36 (bxc (GBill.cs r2.1))), (4, .box 38 [S r1.Tariff.Name, .p (.sl 7 (List.map GArticle.cs r1.Tariff.Articles)), I r1.Calendar.Offset, .p (.sl 2 (List.map GChange.cs r1.Calendar.Changes)), .p (.sl 1 (List.map ci r1.Calendar.Holidays)), .p (.sl 5 (List.map GReading.cs r1.Readings)), U (wu (r1.Seed + 1)), I r1.Session.From, I r1.Session.To, I r1.Session.End, .p (.sl 2 (List.map GSlice.cs r1.Session.Slices)), .p (.sl 2 (List.map GLine.cs r1.Bill.Lines)), I r1.Bill.Net, I r1.Bill.Tax, I r1.Bill.Total]), (5, .box 38 [S [116, 97, 120], .p (.sl 7 (List.map GArticle.cs r1.Tariff.Articles)), I r1.Calendar.Offset, .p (.sl 2 (List.map GChange.cs r1.Calendar.Changes)), .p (.sl 1 (List.map ci r1.Calendar.Holidays)), .p (.sl 5 (List.map GReading.cs r1.Readings)), U r1.Seed, I r1.Session.From, I r1.Session.To, I r1.Session.End, .p (.sl 2 (List.map GSlice.cs r1.Session.Slices)), .p (.sl 2 (List.map GLine.cs r1.Bill.Lines)), I r1.Bill.Net, I r1.Bill.Tax, I r1.Bill.Total]), (6, .box 38 [S r1.Tariff.Name, .p (.sl 7 (List.map GArticle.cs r1.Tariff.Articles)), I r1.Calendar.Offset, .p (.sl 2 (List.map GChange.cs r1.Calendar.Changes)), .p (.sl 1 (List.map ci r1.Calendar.Holidays)), .p (.sl 5 (List.map GReading.cs r1.Readings)), U r1.Seed, I r1.Session.From, I r1.Session.To, I (wi (r1.Session.End + 1)), .p (.sl 2 (List.map GSlice.cs r1.Session.Slices)), .p (.sl 2 (List.map GLine.cs r1.Bill.Lines)), I r1.Bill.Net, I r1.Bill.Tax, I r1.Bill.Total]), (7, .box 38 [S r1.Tariff.Name, .p (.sl 7 (List.map GArticle.cs r1.Tariff.Articles)), I r1.Calendar.Offset, .p (.sl 2 (List.map GChange.cs r1.Calendar.Changes)), .p (.sl 1 (List.map ci r1.Calendar.Holidays)), .p (.sl 5 (List.map GReading.cs r1.Readings)), U r1.Seed, I r1.Session.From, I r1.Session.To, I r1.Session.End, .p (.sl 2 (List.map GSlice.cs r1.Session.Slices)), .p (.sl 2 (List.map GLine.cs (List.drop (Int.toNat 0) (List.take (Int.toNat 1) r1.Bill.Lines)))), I r1.Bill.Net, I r1.Bill.Tax, I r1.Bill.Total]), (8, .box 38 [S r1.Tariff.Name, .p (.sl 7 (List.map GArticle.cs r1.Tariff.Articles)), I r1.Calendar.Offset, .p (.sl 2 (List.map GChange.cs r1.Calendar.Changes)), .p (.sl 1 (List.map ci r1.Calendar.Holidays)), .p (.sl 5 (List.map GReading.cs r1.Readings)), U r1.Seed, I r1.Session.From, I r1.Session.To, I r1.Session.End, .p (.sl 2 (List.map GSlice.cs r1.Session.Slices)), .p (.sl 2 (List.map GLine.cs r1.Bill.Lines)), I r1.Bill.Net, I r1.Bill.Tax, I (wi (r1.Bill.Total + 1))])]⟩ krf ?_
  refine sim_run Try.fm ⟨[1, 2, 3, 4, 5, 6, 7, 8, 9], [1, 2, 4, 5, 6, 7, 8, 9], [], []⟩ ⟨[(1, .ptr 1 0), (2, .ptr 2 0), (3, I r2.2), (4, .ptr 4 0), (5, .ptr 5 0), (6, .ptr 6 0), (7, .ptr 7 0), (8, .ptr 8 0), (9, .ptr 9 0)], [(1, .box 38 (bxc (GClaim.cs r1))), (2, .box 36 (bxc (GBill.cs r2.1))), (4, .box 38 [S r1.Tariff.Name, .p (.sl 7 (List.map GArticle.cs r1.Tariff.Articles)), I r1.Calendar.Offset, .p (.sl 2 (List.map GChange.cs r1.Calendar.Changes)), .p (.sl 1 (List.map ci r1.Calendar.Holidays)), .p (.sl 5 (List.map GReading.cs r1.Readings)), U (wu (r1.Seed + 1)), I r1.Session.From, I r1.Session.To, I r1.Session.End, .p (.sl 2 (List.map GSlice.cs r1.Session.Slices)), .p (.sl 2 (List.map GLine.cs r1.Bill.Lines)), I r1.Bill.Net, I r1.Bill.Tax, I r1.Bill.Total]), (5, .box 38 [S [116, 97, 120], .p (.sl 7 (List.map GArticle.cs r1.Tariff.Articles)), I r1.Calendar.Offset, .p (.sl 2 (List.map GChange.cs r1.Calendar.Changes)), .p (.sl 1 (List.map ci r1.Calendar.Holidays)), .p (.sl 5 (List.map GReading.cs r1.Readings)), U r1.Seed, I r1.Session.From, I r1.Session.To, I r1.Session.End, .p (.sl 2 (List.map GSlice.cs r1.Session.Slices)), .p (.sl 2 (List.map GLine.cs r1.Bill.Lines)), I r1.Bill.Net, I r1.Bill.Tax, I r1.Bill.Total]), (6, .box 38 [S r1.Tariff.Name, .p (.sl 7 (List.map GArticle.cs r1.Tariff.Articles)), I r1.Calendar.Offset, .p (.sl 2 (List.map GChange.cs r1.Calendar.Changes)), .p (.sl 1 (List.map ci r1.Calendar.Holidays)), .p (.sl 5 (List.map GReading.cs r1.Readings)), U r1.Seed, I r1.Session.From, I r1.Session.To, I (wi (r1.Session.End + 1)), .p (.sl 2 (List.map GSlice.cs r1.Session.Slices)), .p (.sl 2 (List.map GLine.cs r1.Bill.Lines)), I r1.Bill.Net, I r1.Bill.Tax, I r1.Bill.Total]), (7, .box 38 [S r1.Tariff.Name, .p (.sl 7 (List.map GArticle.cs r1.Tariff.Articles)), I r1.Calendar.Offset, .p (.sl 2 (List.map GChange.cs r1.Calendar.Changes)), .p (.sl 1 (List.map ci r1.Calendar.Holidays)), .p (.sl 5 (List.map GReading.cs r1.Readings)), U r1.Seed, I r1.Session.From, I r1.Session.To, I r1.Session.End, .p (.sl 2 (List.map GSlice.cs r1.Session.Slices)), .p (.sl 2 (List.map GLine.cs (List.drop (Int.toNat 0) (List.take (Int.toNat 1) r1.Bill.Lines)))), I r1.Bill.Net, I r1.Bill.Tax, I r1.Bill.Total]), (8, .box 38 [S r1.Tariff.Name, .p (.sl 7 (List.map GArticle.cs r1.Tariff.Articles)), I r1.Calendar.Offset, .p (.sl 2 (List.map GChange.cs r1.Calendar.Changes)), .p (.sl 1 (List.map ci r1.Calendar.Holidays)), .p (.sl 5 (List.map GReading.cs r1.Readings)), U r1.Seed, I r1.Session.From, I r1.Session.To, I r1.Session.End, .p (.sl 2 (List.map GSlice.cs r1.Session.Slices)), .p (.sl 2 (List.map GLine.cs r1.Bill.Lines)), I r1.Bill.Net, I r1.Bill.Tax, I (wi (r1.Bill.Total + 1))]), (9, .box 38 (bxc (GClaim.cs r1)))]⟩ krf ?_
  refine sim_run Try.fm ⟨[1, 2, 3, 4, 5, 6, 7, 8, 9], [1, 2, 4, 5, 6, 7, 8, 9], [], []⟩ ⟨[(1, .ptr 1 0), (2, .ptr 2 0), (3, I r2.2), (4, .ptr 4 0), (5, .ptr 5 0), (6, .ptr 6 0), (7, .ptr 7 0), (8, .ptr 8 0), (9, .ptr 9 0)], [(1, .box 38 (bxc (GClaim.cs r1))), (2, .box 36 (bxc (GBill.cs r2.1))), (4, .box 38 [S r1.Tariff.Name, .p (.sl 7 (List.map GArticle.cs r1.Tariff.Articles)), I r1.Calendar.Offset, .p (.sl 2 (List.map GChange.cs r1.Calendar.Changes)), .p (.sl 1 (List.map ci r1.Calendar.Holidays)), .p (.sl 5 (List.map GReading.cs r1.Readings)), U (wu (r1.Seed + 1)), I r1.Session.From, I r1.Session.To, I r1.Session.End, .p (.sl 2 (List.map GSlice.cs r1.Session.Slices)), .p (.sl 2 (List.map GLine.cs r1.Bill.Lines)), I r1.Bill.Net, I r1.Bill.Tax, I r1.Bill.Total]), (5, .box 38 [S [116, 97, 120], .p (.sl 7 (List.map GArticle.cs r1.Tariff.Articles)), I r1.Calendar.Offset, .p (.sl 2 (List.map GChange.cs r1.Calendar.Changes)), .p (.sl 1 (List.map ci r1.Calendar.Holidays)), .p (.sl 5 (List.map GReading.cs r1.Readings)), U r1.Seed, I r1.Session.From, I r1.Session.To, I r1.Session.End, .p (.sl 2 (List.map GSlice.cs r1.Session.Slices)), .p (.sl 2 (List.map GLine.cs r1.Bill.Lines)), I r1.Bill.Net, I r1.Bill.Tax, I r1.Bill.Total]), (6, .box 38 [S r1.Tariff.Name, .p (.sl 7 (List.map GArticle.cs r1.Tariff.Articles)), I r1.Calendar.Offset, .p (.sl 2 (List.map GChange.cs r1.Calendar.Changes)), .p (.sl 1 (List.map ci r1.Calendar.Holidays)), .p (.sl 5 (List.map GReading.cs r1.Readings)), U r1.Seed, I r1.Session.From, I r1.Session.To, I (wi (r1.Session.End + 1)), .p (.sl 2 (List.map GSlice.cs r1.Session.Slices)), .p (.sl 2 (List.map GLine.cs r1.Bill.Lines)), I r1.Bill.Net, I r1.Bill.Tax, I r1.Bill.Total]), (7, .box 38 [S r1.Tariff.Name, .p (.sl 7 (List.map GArticle.cs r1.Tariff.Articles)), I r1.Calendar.Offset, .p (.sl 2 (List.map GChange.cs r1.Calendar.Changes)), .p (.sl 1 (List.map ci r1.Calendar.Holidays)), .p (.sl 5 (List.map GReading.cs r1.Readings)), U r1.Seed, I r1.Session.From, I r1.Session.To, I r1.Session.End, .p (.sl 2 (List.map GSlice.cs r1.Session.Slices)), .p (.sl 2 (List.map GLine.cs (List.drop (Int.toNat 0) (List.take (Int.toNat 1) r1.Bill.Lines)))), I r1.Bill.Net, I r1.Bill.Tax, I r1.Bill.Total]), (8, .box 38 [S r1.Tariff.Name, .p (.sl 7 (List.map GArticle.cs r1.Tariff.Articles)), I r1.Calendar.Offset, .p (.sl 2 (List.map GChange.cs r1.Calendar.Changes)), .p (.sl 1 (List.map ci r1.Calendar.Holidays)), .p (.sl 5 (List.map GReading.cs r1.Readings)), U r1.Seed, I r1.Session.From, I r1.Session.To, I r1.Session.End, .p (.sl 2 (List.map GSlice.cs r1.Session.Slices)), .p (.sl 2 (List.map GLine.cs r1.Bill.Lines)), I r1.Bill.Net, I r1.Bill.Tax, I (wi (r1.Bill.Total + 1))]), (9, .box 38 [S r1.Tariff.Name, .p (.sl 7 (List.map GArticle.cs r1.Tariff.Articles)), I r1.Calendar.Offset, .p (.sl 2 (List.map GChange.cs r1.Calendar.Changes)), .p (.sl 1 (List.map ci r1.Calendar.Holidays)), .p (.val (.slice none 0 0)), U r1.Seed, I r1.Session.From, I r1.Session.To, I r1.Session.End, .p (.sl 2 (List.map GSlice.cs r1.Session.Slices)), .p (.sl 2 (List.map GLine.cs r1.Bill.Lines)), I r1.Bill.Net, I r1.Bill.Tax, I r1.Bill.Total])]⟩ krf ?_
  refine sim_bind (fun j3 => ⟨[(0, B j3)], []⟩ : Bool → St) ?_ ?_
  ·refine sim_reg ?_
   refine xs_run 3 krf ?_
   refine xs_split (eqI r2.2 0) (fun h4 => ?_) (fun h4 => ?_)
   ·refine xs_one (want_tt krf h4) krf ?_
    refine xs_run 2 krf ?_
    refine xs_call [] krf (g_ref33_Same_ok n r2.1 r1.Bill) krf krf (fun _ => by kernel_rfl) (fun r5 => ?_)
    refine xs_run 2 krf ?_
    refine xs_split r5 (fun h6 => ?_) (fun h6 => ?_)
    ·refine xs_one (want_tt krf h6) krf ?_
     refine xs_call [] krf (g_auditor_Verify_ok n r1) krf krf (fun _ => by kernel_rfl) (fun r7 => ?_)
     refine xs_run 3 krf ?_
     refine xs_split (eqI r7 0) (fun h8 => ?_) (fun h8 => ?_)
     ·refine xs_one (want_tt krf h8) krf ?_
      refine xs_call [] krf (g_auditor_Verify_ok n (⟨r1.Tariff, r1.Calendar, r1.Readings, wu (r1.Seed + 1), r1.Session, r1.Bill⟩ : GClaim)) krf krf (fun _ => by kernel_rfl) (fun r9 => ?_)
      refine xs_run 3 krf ?_
      refine xs_split (eqI r9 1) (fun h10 => ?_) (fun h10 => ?_)
      ·refine xs_one (want_tt krf h10) krf ?_
       refine xs_call [.agg [.id, .id, .id, .id, .id, .sl 5, .id, .id, .id, .id, .id, .id, .id, .id, .id]] krf (g_auditor_Verify_ok n (⟨r1.Tariff, r1.Calendar, [], r1.Seed, r1.Session, r1.Bill⟩ : GClaim)) krf krf (fun _ => by kernel_rfl) (fun r11 => ?_)
       refine xs_run 3 krf ?_
       refine xs_split (eqI r11 1) (fun h12 => ?_) (fun h12 => ?_)
       ·refine xs_one (want_tt krf h12) krf ?_
        refine xs_call [] krf (g_auditor_Verify_ok n (⟨(⟨[116, 97, 120], r1.Tariff.Articles⟩ : GTariff), r1.Calendar, r1.Readings, r1.Seed, r1.Session, r1.Bill⟩ : GClaim)) krf krf (fun _ => by kernel_rfl) (fun r13 => ?_)
        refine xs_run 3 krf ?_
        refine xs_split (eqI r13 2) (fun h14 => ?_) (fun h14 => ?_)
        ·refine xs_one (want_tt krf h14) krf ?_
         refine xs_call [] krf (g_auditor_Verify_ok n (⟨r1.Tariff, r1.Calendar, r1.Readings, r1.Seed, (⟨r1.Session.From, r1.Session.To, wi (r1.Session.End + 1), r1.Session.Slices⟩ : GSession), r1.Bill⟩ : GClaim)) krf krf (fun _ => by kernel_rfl) (fun r15 => ?_)
         refine xs_run 3 krf ?_
         refine xs_split (eqI r15 3) (fun h16 => ?_) (fun h16 => ?_)
         ·refine xs_one (want_tt krf h16) krf ?_
          refine xs_call [] krf (g_auditor_Verify_ok n (⟨r1.Tariff, r1.Calendar, r1.Readings, r1.Seed, r1.Session, (⟨List.drop (Int.toNat 0) (List.take (Int.toNat 1) r1.Bill.Lines), r1.Bill.Net, r1.Bill.Tax, r1.Bill.Total⟩ : GBill)⟩ : GClaim)) krf krf (fun _ => by kernel_rfl) (fun r17 => ?_)
          refine xs_run 3 krf ?_
          refine xs_split (eqI r17 4) (fun h18 => ?_) (fun h18 => ?_)
          ·refine xs_one (want_tt krf h18) krf ?_
           refine xs_call [] krf (g_auditor_Verify_ok n (⟨r1.Tariff, r1.Calendar, r1.Readings, r1.Seed, r1.Session, (⟨r1.Bill.Lines, r1.Bill.Net, r1.Bill.Tax, wi (r1.Bill.Total + 1)⟩ : GBill)⟩ : GClaim)) krf krf (fun _ => by kernel_rfl) (fun r19 => ?_)
           refine xs_run 3 krf ?_
           refine xs_end ?_
           exact nq_n (eqI r19 5) ⟨[0], [], [], []⟩ krf
          ·refine xs_no (want_tf krf h18) krf ?_
           refine xs_run 4 krf ?_
           refine xs_end ?_
           exact nq_n false ⟨[0], [], [], []⟩ krf
         ·refine xs_no (want_tf krf h16) krf ?_
          refine xs_run 9 krf ?_
          refine xs_end ?_
          exact nq_n false ⟨[0], [], [], []⟩ krf
        ·refine xs_no (want_tf krf h14) krf ?_
         refine xs_run 14 krf ?_
         refine xs_end ?_
         exact nq_n false ⟨[0], [], [], []⟩ krf
       ·refine xs_no (want_tf krf h12) krf ?_
        refine xs_run 19 krf ?_
        refine xs_end ?_
        exact nq_n false ⟨[0], [], [], []⟩ krf
      ·refine xs_no (want_tf krf h10) krf ?_
       refine xs_run 24 krf ?_
       refine xs_end ?_
       exact nq_n false ⟨[0], [], [], []⟩ krf
     ·refine xs_no (want_tf krf h8) krf ?_
      refine xs_run 29 krf ?_
      refine xs_end ?_
      exact nq_n false ⟨[0], [], [], []⟩ krf
    ·refine xs_no (want_tf krf h6) krf ?_
     refine xs_run 34 krf ?_
     refine xs_end ?_
     exact nq_n false ⟨[0], [], [], []⟩ krf
   ·refine xs_no (want_tf krf h4) krf ?_
    refine xs_run 40 krf ?_
    refine xs_end ?_
    exact nq_n false ⟨[0], [], [], []⟩ krf
  ·rintro j3
   refine sim_ret ?_
   exact rq_ret (.id) krf krf krf
def g_ref26_Few (n : Nat) (a0c : GCalendar) : Option Bool :=
 cond (leI (lenI (List.map GChange.cs a0c.Changes)) 30)
  (some (leI (lenI (List.map ci a0c.Holidays)) 60))
  (some false)
theorem g_ref26_Few_ok (n : Nat) (a0c : GCalendar) : ∀ r, g_ref26_Few n a0c = some r → PCall Try.prog 29 [ag (GCalendar.cs a0c)] (.ret (B r)) := by
 refine pcall_sim (X := fun r : Bool => AEnd.ret (B r)) Try.func29 rfl Try.ntmps29 rfl ?_
 unfold g_ref26_Few
 refine sim_run Try.fm ⟨[1], [1], [], []⟩ ⟨[(1, .ptr 1 0)], [(1, .box 28 (bxc (GCalendar.cs a0c)))]⟩ krf ?_
 refine sim_seq ?_
 refine sim_reg ?_
 refine xs_run 5 krf ?_
 refine xs_split (leI (lenI (List.map GChange.cs a0c.Changes)) 30) (fun h1 => ?_) (fun h1 => ?_)
 ·refine xs_one (want_tt krf h1) krf ?_
  refine xs_run 5 krf ?_
  refine xs_end ?_
  refine sq_nk ⟨[2], [], [], []⟩ ⟨[(2, B (leI (lenI (List.map ci a0c.Holidays)) 60))], []⟩ krf ?_
  refine sim_ret ?_
  exact rq_ret (.id) krf krf krf
 ·refine xs_no (want_tf krf h1) krf ?_
  refine xs_run 5 krf ?_
  refine xs_end ?_
  refine sq_nk ⟨[2], [], [], []⟩ ⟨[(2, B false)], []⟩ krf ?_
  refine sim_ret ?_
  exact rq_ret (.id) krf krf krf
def g_ref33_Few (n : Nat) (a0t : GTariff) (a1c : GCalendar) (a2s : GSession) : Option Bool :=
 (g_ref26_Few n a1c).bind fun r1 =>
 cond r1
  (cond (leI (lenI a0t.Name) 50)
   (cond (leI (lenI (List.map GArticle.cs a0t.Articles)) 20)
    (some (leI (lenI (List.map GSlice.cs a2s.Slices)) 60))
    (some false))
   (some false))
  (some false)
theorem g_ref33_Few_ok (n : Nat) (a0t : GTariff) (a1c : GCalendar) (a2s : GSession) : ∀ r, g_ref33_Few n a0t a1c a2s = some r → PCall Try.prog 16 [ag (GTariff.cs a0t), ag (GCalendar.cs a1c), ag (GSession.cs a2s)] (.ret (B r)) := by
 refine pcall_sim (X := fun r : Bool => AEnd.ret (B r)) Try.func16 rfl Try.ntmps16 rfl ?_
 unfold g_ref33_Few
 refine sim_run Try.fm ⟨[3, 4, 5], [3, 4, 5], [], []⟩ ⟨[(3, .ptr 3 0), (4, .ptr 4 0), (5, .ptr 5 0)], [(3, .box 24 (bxc (GTariff.cs a0t))), (4, .box 28 (bxc (GCalendar.cs a1c))), (5, .box 33 (bxc (GSession.cs a2s)))]⟩ krf ?_
 refine sim_seq ?_
 refine sim_reg ?_
 refine xs_run 1 krf ?_
 refine xs_call [] krf (g_ref26_Few_ok n a1c) krf krf (fun _ => by kernel_rfl) (fun r1 => ?_)
 refine xs_run 1 krf ?_
 refine xs_end ?_
 refine sq_nk ⟨[3, 5, 7], [3, 5], [], []⟩ ⟨[(3, .ptr 3 0), (5, .ptr 5 0), (7, B r1)], [(3, .box 24 (bxc (GTariff.cs a0t))), (5, .box 33 (bxc (GSession.cs a2s)))]⟩ krf ?_
 refine sim_seq ?_
 refine sim_reg ?_
 refine xs_run 2 krf ?_
 refine xs_split r1 (fun h2 => ?_) (fun h2 => ?_)
 ·refine xs_one (want_tt krf h2) krf ?_
  refine xs_run 5 krf ?_
  refine xs_split (leI (lenI a0t.Name) 50) (fun h3 => ?_) (fun h3 => ?_)
  ·refine xs_one (want_tt krf h3) krf ?_
   refine xs_run 5 krf ?_
   refine xs_split (leI (lenI (List.map GArticle.cs a0t.Articles)) 20) (fun h4 => ?_) (fun h4 => ?_)
   ·refine xs_one (want_tt krf h4) krf ?_
    refine xs_run 5 krf ?_
    refine xs_end ?_
    refine sq_nk ⟨[6], [], [], []⟩ ⟨[(6, B (leI (lenI (List.map GSlice.cs a2s.Slices)) 60))], []⟩ krf ?_
    refine sim_ret ?_
    exact rq_ret (.id) krf krf krf
   ·refine xs_no (want_tf krf h4) krf ?_
    refine xs_run 5 krf ?_
    refine xs_end ?_
    refine sq_nk ⟨[6], [], [], []⟩ ⟨[(6, B false)], []⟩ krf ?_
    refine sim_ret ?_
    exact rq_ret (.id) krf krf krf
  ·refine xs_no (want_tf krf h3) krf ?_
   refine xs_run 11 krf ?_
   refine xs_end ?_
   refine sq_nk ⟨[6], [], [], []⟩ ⟨[(6, B false)], []⟩ krf ?_
   refine sim_ret ?_
   exact rq_ret (.id) krf krf krf
 ·refine xs_no (want_tf krf h2) krf ?_
  refine xs_run 17 krf ?_
  refine xs_end ?_
  refine sq_nk ⟨[6], [], [], []⟩ ⟨[(6, B false)], []⟩ krf ?_
  refine sim_ret ?_
  exact rq_ret (.id) krf krf krf
def g_ref43_Few (n : Nat) (a0c : GClaim) : Option Bool :=
 (g_ref33_Few n a0c.Tariff a0c.Calendar a0c.Session).bind fun r1 =>
 cond r1
  (cond (leI (lenI (List.map GReading.cs a0c.Readings)) 80)
   (some (leI (lenI (List.map GLine.cs a0c.Bill.Lines)) 40))
   (some false))
  (some false)
theorem g_ref43_Few_ok (n : Nat) (a0c : GClaim) : ∀ r, g_ref43_Few n a0c = some r → PCall Try.prog 9 [ag (GClaim.cs a0c)] (.ret (B r)) := by
 refine pcall_sim (X := fun r : Bool => AEnd.ret (B r)) Try.func9 rfl Try.ntmps9 rfl ?_
 unfold g_ref43_Few
 refine sim_run Try.fm ⟨[1], [1], [], []⟩ ⟨[(1, .ptr 1 0)], [(1, .box 38 (bxc (GClaim.cs a0c)))]⟩ krf ?_
 refine sim_seq ?_
 refine sim_reg ?_
 refine xs_run 6 krf ?_
 refine xs_call [] krf (g_ref33_Few_ok n a0c.Tariff a0c.Calendar a0c.Session) krf krf (fun _ => by kernel_rfl) (fun r1 => ?_)
 refine xs_run 1 krf ?_
 refine xs_split r1 (fun h2 => ?_) (fun h2 => ?_)
 ·refine xs_one (want_tt krf h2) krf ?_
  refine xs_run 5 krf ?_
  refine xs_split (leI (lenI (List.map GReading.cs a0c.Readings)) 80) (fun h3 => ?_) (fun h3 => ?_)
  ·refine xs_one (want_tt krf h3) krf ?_
   refine xs_run 6 krf ?_
   refine xs_end ?_
   refine sq_nk ⟨[2], [], [], []⟩ ⟨[(2, B (leI (lenI (List.map GLine.cs a0c.Bill.Lines)) 40))], []⟩ krf ?_
   refine sim_ret ?_
   exact rq_ret (.id) krf krf krf
  ·refine xs_no (want_tf krf h3) krf ?_
   refine xs_run 6 krf ?_
   refine xs_end ?_
   refine sq_nk ⟨[2], [], [], []⟩ ⟨[(2, B false)], []⟩ krf ?_
   refine sim_ret ?_
   exact rq_ret (.id) krf krf krf
 ·refine xs_no (want_tf krf h2) krf ?_
  refine xs_run 12 krf ?_
  refine xs_end ?_
  refine sq_nk ⟨[2], [], [], []⟩ ⟨[(2, B false)], []⟩ krf ?_
  refine sim_ret ?_
  exact rq_ret (.id) krf krf krf
def g_ref40_Valid (n : Nat) (a0r : GReading) : Option Bool :=
 (cond (leI 1 a0r.Serial)
  (cond (leI a0r.Serial 1000000)
   (cond (leI 1 a0r.Number)
    (cond (leI a0r.Number 64)
     (cond (leI 0 a0r.Minute)
      (cond (leI a0r.Minute 52560000)
       (cond (leI 0 a0r.Register)
        (some (leI a0r.Register 1000000000))
        (some false))
       (some false))
      (some false))
     (some false))
    (some false))
   (some false))
  (some false)).bind fun j1 =>
 some j1
theorem g_ref40_Valid_ok (n : Nat) (a0r : GReading) : ∀ r, g_ref40_Valid n a0r = some r → PCall Try.prog 83 [ag (GReading.cs a0r)] (.ret (B r)) := by
 refine pcall_sim (X := fun r : Bool => AEnd.ret (B r)) Try.func83 rfl Try.ntmps83 rfl ?_
 unfold g_ref40_Valid
 refine sim_run Try.fm ⟨[1], [1], [], []⟩ ⟨[(1, .ptr 1 0)], [(1, .box 48 (bxc (GReading.cs a0r)))]⟩ krf ?_
 refine sim_bind (fun j1 => ⟨[(2, B j1)], []⟩ : Bool → St) ?_ ?_
 ·refine sim_reg ?_
  refine xs_run 4 krf ?_
  refine xs_split (leI 1 a0r.Serial) (fun h2 => ?_) (fun h2 => ?_)
  ·refine xs_one (want_tt krf h2) krf ?_
   refine xs_run 4 krf ?_
   refine xs_split (leI a0r.Serial 1000000) (fun h3 => ?_) (fun h3 => ?_)
   ·refine xs_one (want_tt krf h3) krf ?_
    refine xs_run 4 krf ?_
    refine xs_split (leI 1 a0r.Number) (fun h4 => ?_) (fun h4 => ?_)
    ·refine xs_one (want_tt krf h4) krf ?_
     refine xs_run 4 krf ?_
     refine xs_split (leI a0r.Number 64) (fun h5 => ?_) (fun h5 => ?_)
     ·refine xs_one (want_tt krf h5) krf ?_
      refine xs_run 4 krf ?_
      refine xs_split (leI 0 a0r.Minute) (fun h6 => ?_) (fun h6 => ?_)
      ·refine xs_one (want_tt krf h6) krf ?_
       refine xs_run 4 krf ?_
       refine xs_split (leI a0r.Minute 52560000) (fun h7 => ?_) (fun h7 => ?_)
       ·refine xs_one (want_tt krf h7) krf ?_
        refine xs_run 4 krf ?_
        refine xs_split (leI 0 a0r.Register) (fun h8 => ?_) (fun h8 => ?_)
        ·refine xs_one (want_tt krf h8) krf ?_
         refine xs_run 4 krf ?_
         refine xs_end ?_
         exact nq_n (leI a0r.Register 1000000000) ⟨[2], [], [], []⟩ krf
        ·refine xs_no (want_tf krf h8) krf ?_
         refine xs_run 4 krf ?_
         refine xs_end ?_
         exact nq_n false ⟨[2], [], [], []⟩ krf
       ·refine xs_no (want_tf krf h7) krf ?_
        refine xs_run 9 krf ?_
        refine xs_end ?_
        exact nq_n false ⟨[2], [], [], []⟩ krf
      ·refine xs_no (want_tf krf h6) krf ?_
       refine xs_run 14 krf ?_
       refine xs_end ?_
       exact nq_n false ⟨[2], [], [], []⟩ krf
     ·refine xs_no (want_tf krf h5) krf ?_
      refine xs_run 19 krf ?_
      refine xs_end ?_
      exact nq_n false ⟨[2], [], [], []⟩ krf
    ·refine xs_no (want_tf krf h4) krf ?_
     refine xs_run 24 krf ?_
     refine xs_end ?_
     exact nq_n false ⟨[2], [], [], []⟩ krf
   ·refine xs_no (want_tf krf h3) krf ?_
    refine xs_run 29 krf ?_
    refine xs_end ?_
    exact nq_n false ⟨[2], [], [], []⟩ krf
  ·refine xs_no (want_tf krf h2) krf ?_
   refine xs_run 34 krf ?_
   refine xs_end ?_
   exact nq_n false ⟨[2], [], [], []⟩ krf
 ·rintro j1
  refine sim_ret ?_
  exact rq_ret (.id) krf krf krf
def g_ref40_follows (n : Nat) (a0r : GReading) (a1before : GReading) : Option Bool :=
 cond (ltI a0r.Minute a1before.Minute)
  (some false)
  (cond (eqI a0r.Serial a1before.Serial)
   (some (leI a1before.Register a0r.Register))
   (some (eqI a0r.Minute a1before.Minute)))
theorem g_ref40_follows_ok (n : Nat) (a0r : GReading) (a1before : GReading) : ∀ r, g_ref40_follows n a0r a1before = some r → PCall Try.prog 84 [ag (GReading.cs a0r), ag (GReading.cs a1before)] (.ret (B r)) := by
 refine pcall_sim (X := fun r : Bool => AEnd.ret (B r)) Try.func84 rfl Try.ntmps84 rfl ?_
 unfold g_ref40_follows
 refine sim_run Try.fm ⟨[2, 3], [2, 3], [], []⟩ ⟨[(2, .ptr 2 0), (3, .ptr 3 0)], [(2, .box 48 (bxc (GReading.cs a0r))), (3, .box 48 (bxc (GReading.cs a1before)))]⟩ krf ?_
 refine sim_seq ?_
 refine sim_run Try.fm ⟨[2, 3, 9], [2, 3], [], []⟩ ⟨[(2, .ptr 2 0), (3, .ptr 3 0), (9, B (ltI a0r.Minute a1before.Minute))], [(2, .box 48 (bxc (GReading.cs a0r))), (3, .box 48 (bxc (GReading.cs a1before)))]⟩ krf ?_
 refine sim_cond (ltI a0r.Minute a1before.Minute) krf ?_ ?_
 ·refine sim_run Try.fm ⟨[4], [], [], []⟩ ⟨[(4, B false)], []⟩ krf ?_
  refine sim_ret ?_
  refine sq_r ?_
  exact rq_ret (.id) krf krf krf
 ·refine sim_skip ?_
  refine sq_nk ⟨[2, 3], [2, 3], [], []⟩ ⟨[(2, .ptr 2 0), (3, .ptr 3 0)], [(2, .box 48 (bxc (GReading.cs a0r))), (3, .box 48 (bxc (GReading.cs a1before)))]⟩ krf ?_
  refine sim_seq ?_
  refine sim_run Try.fm ⟨[2, 3, 14], [2, 3], [], []⟩ ⟨[(2, .ptr 2 0), (3, .ptr 3 0), (14, B (eqI a0r.Serial a1before.Serial))], [(2, .box 48 (bxc (GReading.cs a0r))), (3, .box 48 (bxc (GReading.cs a1before)))]⟩ krf ?_
  refine sim_cond (eqI a0r.Serial a1before.Serial) krf ?_ ?_
  ·refine sim_run Try.fm ⟨[4], [], [], []⟩ ⟨[(4, B (leI a1before.Register a0r.Register))], []⟩ krf ?_
   refine sim_ret ?_
   refine sq_r ?_
   exact rq_ret (.id) krf krf krf
  ·refine sim_skip ?_
   refine sq_nk ⟨[2, 3], [2, 3], [], []⟩ ⟨[(2, .ptr 2 0), (3, .ptr 3 0)], [(2, .box 48 (bxc (GReading.cs a0r))), (3, .box 48 (bxc (GReading.cs a1before)))]⟩ krf ?_
   refine sim_run Try.fm ⟨[4], [], [], []⟩ ⟨[(4, B (eqI a0r.Minute a1before.Minute))], []⟩ krf ?_
   refine sim_ret ?_
   exact rq_ret (.id) krf krf krf
def g_ref40_fits (n : Nat) (a0l : List GReading) (a1i : Int) : Option Bool :=
 (cond (ltI a1i 64)
  ((getI a0l a1i).bind fun x3 =>
  (g_ref40_Valid n x3).bind fun r4 =>
  cond r4
   ((getI a0l a1i).bind fun x6 =>
   cond (eqI x6.Number (wi (a1i + 1)))
    (cond (eqI a1i 0)
     (some true)
     ((getI a0l a1i).bind fun x9 =>
     (getI a0l (wi (a1i - 1))).bind fun x10 =>
     (g_ref40_follows n x9 x10).bind fun r11 =>
     some r11))
    (some false))
   (some false))
  (some false)).bind fun j1 =>
 some j1
theorem g_ref40_fits_ok (n : Nat) (a0l : List GReading) (a1i : Int) : ∀ r, g_ref40_fits n a0l a1i = some r → PCall Try.prog 62 [.p (.sl 5 (List.map GReading.cs a0l)), I a1i] (.ret (B r)) := by
 refine pcall_sim (X := fun r : Bool => AEnd.ret (B r)) Try.func62 rfl Try.ntmps62 rfl ?_
 unfold g_ref40_fits
 refine sim_run Try.fm ⟨[0, 1], [], [], []⟩ ⟨[(0, .p (.sl 5 (List.map GReading.cs a0l))), (1, I a1i)], []⟩ krf ?_
 refine sim_bind (fun j1 => ⟨[(4, B j1)], []⟩ : Bool → St) ?_ ?_
 ·refine sim_drw Try.fm rfl ?_
  refine xs_run 3 krf ?_
  refine xs_split (ltI a1i 64) (fun h2 => ?_) (fun h2 => ?_)
  ·refine xs_one (want_tt krf h2) krf ?_
   refine xs_run 1 krf ?_
   refine xs_get krf krf (aop_idx (e := 48) (S := 5) (enc := GReading.cs) (l := a0l) (k := .i64) (n := a1i) (sv := .p (.sl 5 (List.map GReading.cs a0l))) rfl krf krf krf krf krf) (fun x3 => ?_)
   refine xs_run 1 krf ?_
   refine xs_call [] krf (g_ref40_Valid_ok n x3) krf krf (fun _ => by kernel_rfl) (fun r4 => ?_)
   refine xs_run 2 krf ?_
   refine xs_split r4 (fun h5 => ?_) (fun h5 => ?_)
   ·refine xs_one (want_tt krf h5) krf ?_
    refine xs_run 1 krf ?_
    refine xs_get krf krf (aop_idx (e := 48) (S := 5) (enc := GReading.cs) (l := a0l) (k := .i64) (n := a1i) (sv := .p (.sl 5 (List.map GReading.cs a0l))) rfl krf krf krf krf krf) (fun x6 => ?_)
    refine xs_run 7 krf ?_
    refine xs_split (eqI x6.Number (wi (a1i + 1))) (fun h7 => ?_) (fun h7 => ?_)
    ·refine xs_one (want_tt krf h7) krf ?_
     refine xs_run 2 krf ?_
     refine xs_split (eqI a1i 0) (fun h8 => ?_) (fun h8 => ?_)
     ·refine xs_no (want_ft krf h8) krf ?_
      refine xs_run 12 krf ?_
      refine xs_endD krf ?_
      exact nq_n true ⟨[4], [], [], []⟩ krf
     ·refine xs_one (want_ff krf h8) krf ?_
      refine xs_run 1 krf ?_
      refine xs_get krf krf (aop_idx (e := 48) (S := 5) (enc := GReading.cs) (l := a0l) (k := .i64) (n := a1i) (sv := .p (.sl 5 (List.map GReading.cs a0l))) rfl krf krf krf krf krf) (fun x9 => ?_)
      refine xs_run 4 krf ?_
      refine xs_get krf krf (aop_idx (e := 48) (S := 5) (enc := GReading.cs) (l := a0l) (k := .i64) (n := wi (a1i - 1)) (sv := .p (.sl 5 (List.map GReading.cs a0l))) rfl krf krf krf krf krf) (fun x10 => ?_)
      refine xs_run 1 krf ?_
      refine xs_call [] krf (g_ref40_follows_ok n x9 x10) krf krf (fun _ => by kernel_rfl) (fun r11 => ?_)
      refine xs_run 3 krf ?_
      refine xs_endD krf ?_
      exact nq_n r11 ⟨[4], [], [], []⟩ krf
    ·refine xs_no (want_tf krf h7) krf ?_
     refine xs_run 15 krf ?_
     refine xs_endD krf ?_
     exact nq_n false ⟨[4], [], [], []⟩ krf
   ·refine xs_no (want_tf krf h5) krf ?_
    refine xs_run 25 krf ?_
    refine xs_endD krf ?_
    exact nq_n false ⟨[4], [], [], []⟩ krf
  ·refine xs_no (want_tf krf h2) krf ?_
   refine xs_run 32 krf ?_
   refine xs_endD krf ?_
   exact nq_n false ⟨[4], [], [], []⟩ krf
 ·rintro j1
  refine sim_ret ?_
  exact rq_ret (.id) krf krf krf
def g_ref40_number_l1 (recl1 : (Int × Int × Int) → Option Int) (l1_1 : Int) (l1_2 : Int) (l1_3 : Int) : Option Int :=
 cond (ltI l1_3 8)
  (recl1 (wu ((bXor .u64 l1_1 (shrI .u64 l1_2 56)) * 1099511628211), shlI .u64 l1_2 8, wi (l1_3 + 1)))
  (some l1_1)
def g_ref40_number (n : Nat) (a0x : Int) (a1n : Int) : Option Int :=
 loopN (fun recl1 (l1_1, l1_2, l1_3) => g_ref40_number_l1 recl1 l1_1 l1_2 l1_3) n (a0x, wu a1n, 0)
theorem g_ref40_number_ok (n : Nat) (a0x : Int) (a1n : Int) : ∀ r, g_ref40_number n a0x a1n = some r → PCall Try.prog 85 [U a0x, I a1n] (.ret (U r)) := by
 refine pcall_sim (X := fun r : Int => AEnd.ret (U r)) Try.func85 rfl Try.ntmps85 rfl ?_
 unfold g_ref40_number
 refine sim_run Try.fm ⟨[0, 1], [], [], []⟩ ⟨[(0, U a0x), (1, I a1n)], []⟩ krf ?_
 refine sim_run Try.fm ⟨[0, 5], [], [], []⟩ ⟨[(0, U a0x), (5, U (wu a1n))], []⟩ krf ?_
 refine sim_seq ?_
 refine sim_run Try.fm ⟨[0, 5, 6], [], [], []⟩ ⟨[(0, U a0x), (5, U (wu a1n)), (6, I 0)], []⟩ krf ?_
 refine sim_block ?_
 refine sim_loop (fun (l1_1, l1_2, l1_3) => ⟨[(0, U l1_1), (5, U l1_2), (6, I l1_3)], []⟩ : (Int × Int × Int) → St) (weak_shr (K := ⟨[0, 5, 6], [], [], []⟩) krf) ?_
 rintro recl1 ⟨l1_1, l1_2, l1_3⟩
 show SimE (g_ref40_number_l1 recl1 l1_1 l1_2 l1_3) _ _ _ _ _ _
 unfold g_ref40_number_l1
 refine sim_seq ?_
 refine sim_run Try.fm ⟨[0, 5, 6, 11], [], [], []⟩ ⟨[(0, U l1_1), (5, U l1_2), (6, I l1_3), (11, B (ltI l1_3 8))], []⟩ krf ?_
 refine sim_cond (ltI l1_3 8) krf ?_ ?_
 ·refine sim_skip ?_
  refine sq_nk ⟨[0, 5, 6], [], [], []⟩ ⟨[(0, U l1_1), (5, U l1_2), (6, I l1_3)], []⟩ krf ?_
  refine sim_seq ?_
  refine sim_block ?_
  refine sim_run Try.fm ⟨[0, 5, 6, 7], [], [], []⟩ ⟨[(0, U l1_1), (5, U l1_2), (6, I l1_3), (7, U (shrI .u64 l1_2 56))], []⟩ krf ?_
  refine sim_run Try.fm ⟨[0, 5, 6, 7], [], [], []⟩ ⟨[(0, U l1_1), (5, U (shlI .u64 l1_2 8)), (6, I l1_3), (7, U (shrI .u64 l1_2 56))], []⟩ krf ?_
  refine sim_last Try.fm krf ?_
  refine bq_n ?_
  refine sq_nk ⟨[0, 5, 6], [], [], []⟩ ⟨[(0, U (wu ((bXor .u64 l1_1 (shrI .u64 l1_2 56)) * 1099511628211))), (5, U (shlI .u64 l1_2 8)), (6, I l1_3)], []⟩ krf ?_
  refine sim_last Try.fm krf ?_
  exact kq_n (wu ((bXor .u64 l1_1 (shrI .u64 l1_2 56)) * 1099511628211), shlI .u64 l1_2 8, wi (l1_3 + 1)) ⟨[0, 5, 6], [], [], []⟩ krf
 ·refine sim_exit ?_
  refine sq_x ?_
  refine kq_x ?_
  refine bq_hit ?_
  refine sq_nk ⟨[0], [], [], []⟩ ⟨[(0, U l1_1)], []⟩ krf ?_
  refine sim_run Try.fm ⟨[4], [], [], []⟩ ⟨[(4, U l1_1)], []⟩ krf ?_
  refine sim_ret ?_
  exact rq_ret (.id) krf krf krf
def g_ref40_Link (n : Nat) (a0before : Int) (a1r : GReading) : Option Int :=
 (g_ref40_number n a0before a1r.Serial).bind fun r1 =>
 (g_ref40_number n r1 a1r.Number).bind fun r2 =>
 (g_ref40_number n r2 a1r.Minute).bind fun r3 =>
 (g_ref40_number n r3 a1r.Register).bind fun r4 =>
 some r4
theorem g_ref40_Link_ok (n : Nat) (a0before : Int) (a1r : GReading) : ∀ r, g_ref40_Link n a0before a1r = some r → PCall Try.prog 63 [U a0before, ag (GReading.cs a1r)] (.ret (U r)) := by
 refine pcall_sim (X := fun r : Int => AEnd.ret (U r)) Try.func63 rfl Try.ntmps63 rfl ?_
 unfold g_ref40_Link
 refine sim_run Try.fm ⟨[0, 3], [3], [], []⟩ ⟨[(0, U a0before), (3, .ptr 3 0)], [(3, .box 48 (bxc (GReading.cs a1r)))]⟩ krf ?_
 refine sim_seq ?_
 refine sim_drw Try.fm rfl ?_
 refine xs_run 3 krf ?_
 refine xs_call [] krf (g_ref40_number_ok n a0before a1r.Serial) krf krf (fun _ => by kernel_rfl) (fun r1 => ?_)
 refine xs_run 2 krf ?_
 refine xs_call [] krf (g_ref40_number_ok n r1 a1r.Number) krf krf (fun _ => by kernel_rfl) (fun r2 => ?_)
 refine xs_run 2 krf ?_
 refine xs_call [] krf (g_ref40_number_ok n r2 a1r.Minute) krf krf (fun _ => by kernel_rfl) (fun r3 => ?_)
 refine xs_run 2 krf ?_
 refine xs_call [] krf (g_ref40_number_ok n r3 a1r.Register) krf krf (fun _ => by kernel_rfl) (fun r4 => ?_)
 refine xs_run 1 krf ?_
 refine xs_endD krf ?_
 refine sq_nk ⟨[4], [], [], []⟩ ⟨[(4, U r4)], []⟩ krf ?_
 refine sim_ret ?_
 exact rq_ret (.id) krf krf krf
def g_ref40_Check_l1 (n : Nat) (a1l : List GReading) (recl1 : (Int × Int) → Option Int) (l1_1 : Int) (l1_2 : Int) : Option Int :=
 cond (ltI l1_2 (lenI (List.map GReading.cs a1l)))
  (((g_ref40_fits n a1l l1_2).bind fun r3 =>
  cond (!r3)
   (some true)
   ((getI a1l l1_2).bind fun x5 =>
   (getI a1l l1_2).bind fun x6 =>
   (g_ref40_Link n l1_1 x6).bind fun r7 =>
   some (!eqI x5.Link r7))).bind fun j2 =>
  cond j2
   (some l1_2)
   ((getI a1l l1_2).bind fun x8 =>
   recl1 (x8.Link, wi (l1_2 + 1))))
  (some (-1))
def g_ref40_Check (n : Nat) (a0seed : Int) (a1l : List GReading) : Option Int :=
 loopN (fun recl1 (l1_1, l1_2) => g_ref40_Check_l1 n a1l recl1 l1_1 l1_2) n (a0seed, 0)
theorem g_ref40_Check_ok (n : Nat) (a0seed : Int) (a1l : List GReading) : ∀ r, g_ref40_Check n a0seed a1l = some r → PCall Try.prog 41 [U a0seed, .p (.sl 5 (List.map GReading.cs a1l))] (.ret (I r)) := by
 refine pcall_sim (X := fun r : Int => AEnd.ret (I r)) Try.func41 rfl Try.ntmps41 rfl ?_
 unfold g_ref40_Check
 refine sim_run Try.fm ⟨[0, 1], [], [], []⟩ ⟨[(0, U a0seed), (1, .p (.sl 5 (List.map GReading.cs a1l)))], []⟩ krf ?_
 refine sim_seq ?_
 refine sim_run Try.fm ⟨[0, 1, 5], [], [], []⟩ ⟨[(0, U a0seed), (1, .p (.sl 5 (List.map GReading.cs a1l))), (5, I 0)], []⟩ krf ?_
 refine sim_block ?_
 refine sim_loop (fun (l1_1, l1_2) => ⟨[(0, U l1_1), (1, .p (.sl 5 (List.map GReading.cs a1l))), (5, I l1_2)], []⟩ : (Int × Int) → St) (weak_shr (K := ⟨[0, 1, 5], [], [], []⟩) krf) ?_
 rintro recl1 ⟨l1_1, l1_2⟩
 show SimE (g_ref40_Check_l1 n a1l recl1 l1_1 l1_2) _ _ _ _ _ _
 unfold g_ref40_Check_l1
 refine sim_seq ?_
 refine sim_run Try.fm ⟨[0, 1, 5, 9], [], [], []⟩ ⟨[(0, U l1_1), (1, .p (.sl 5 (List.map GReading.cs a1l))), (5, I l1_2), (9, B (ltI l1_2 (lenI (List.map GReading.cs a1l))))], []⟩ krf ?_
 refine sim_cond (ltI l1_2 (lenI (List.map GReading.cs a1l))) krf ?_ ?_
 ·refine sim_skip ?_
  refine sq_nk ⟨[0, 1, 5], [], [], []⟩ ⟨[(0, U l1_1), (1, .p (.sl 5 (List.map GReading.cs a1l))), (5, I l1_2)], []⟩ krf ?_
  refine sim_seq ?_
  refine sim_block ?_
  refine sim_seq ?_
  refine sim_bind (fun j2 => ⟨[(1, .p (.sl 5 (List.map GReading.cs a1l))), (5, I l1_2), (29, B j2)], []⟩ : Bool → St) ?_ ?_
  ·refine sim_drw Try.fm rfl ?_
   refine xs_run 2 krf ?_
   refine xs_call [] krf (g_ref40_fits_ok n a1l l1_2) krf krf (fun _ => by kernel_rfl) (fun r3 => ?_)
   refine xs_run 2 krf ?_
   refine xs_split (!r3) (fun h4 => ?_) (fun h4 => ?_)
   ·refine xs_no (want_ft krf h4) krf ?_
    refine xs_run 12 krf ?_
    refine xs_endD krf ?_
    exact nq_n true ⟨[1, 5, 29], [], [], []⟩ krf
   ·refine xs_one (want_ff krf h4) krf ?_
    refine xs_run 1 krf ?_
    refine xs_get krf krf (aop_idx (e := 48) (S := 5) (enc := GReading.cs) (l := a1l) (k := .i64) (n := l1_2) (sv := .p (.sl 5 (List.map GReading.cs a1l))) rfl krf krf krf krf krf) (fun x5 => ?_)
    refine xs_run 5 krf ?_
    refine xs_get krf krf (aop_idx (e := 48) (S := 5) (enc := GReading.cs) (l := a1l) (k := .i64) (n := l1_2) (sv := .p (.sl 5 (List.map GReading.cs a1l))) rfl krf krf krf krf krf) (fun x6 => ?_)
    refine xs_run 1 krf ?_
    refine xs_call [] krf (g_ref40_Link_ok n l1_1 x6) krf krf (fun _ => by kernel_rfl) (fun r7 => ?_)
    refine xs_run 2 krf ?_
    refine xs_endD krf ?_
    exact nq_n (!eqI x5.Link r7) ⟨[1, 5, 29], [], [], []⟩ krf
  ·rintro j2
   refine sim_cond j2 krf ?_ ?_
   ·refine sim_run Try.fm ⟨[4], [], [], []⟩ ⟨[(4, I l1_2)], []⟩ krf ?_
    refine sim_ret ?_
    refine sq_r ?_
    refine bq_r ?_
    refine sq_r ?_
    refine kq_r ?_
    refine bq_r ?_
    refine sq_r ?_
    exact rq_ret (.id) krf krf krf
   ·refine sim_skip ?_
    refine sq_nk ⟨[1, 5], [], [], []⟩ ⟨[(1, .p (.sl 5 (List.map GReading.cs a1l))), (5, I l1_2)], []⟩ krf ?_
    refine sim_reg ?_
    refine xs_run 2 krf ?_
    refine xs_get krf krf (aop_idx (e := 48) (S := 5) (enc := GReading.cs) (l := a1l) (k := .i64) (n := l1_2) (sv := .p (.sl 5 (List.map GReading.cs a1l))) rfl krf krf krf krf krf) (fun x8 => ?_)
    refine xs_run 3 krf ?_
    refine xs_end ?_
    refine bq_n ?_
    refine sq_nk ⟨[0, 1, 5], [], [], []⟩ ⟨[(0, U x8.Link), (1, .p (.sl 5 (List.map GReading.cs a1l))), (5, I l1_2)], []⟩ krf ?_
    refine sim_last Try.fm krf ?_
    exact kq_n (x8.Link, wi (l1_2 + 1)) ⟨[0, 1, 5], [], [], []⟩ krf
 ·refine sim_exit ?_
  refine sq_x ?_
  refine kq_x ?_
  refine bq_hit ?_
  refine sq_nk ⟨[], [], [], []⟩ ⟨[], []⟩ krf ?_
  refine sim_run Try.fm ⟨[4], [], [], []⟩ ⟨[(4, I (-1))], []⟩ krf ?_
  refine sim_ret ?_
  exact rq_ret (.id) krf krf krf
def g_ref43_right (n : Nat) (a0c : GClaim) : Option Bool :=
 cond (ltI 0 (lenI (List.map GReading.cs a0c.Readings)))
  ((g_ref40_Check n a0c.Seed a0c.Readings).bind fun r2 =>
  some (eqI r2 (-1)))
  (some false)
theorem g_ref43_right_ok (n : Nat) (a0c : GClaim) : ∀ r, g_ref43_right n a0c = some r → PCall Try.prog 18 [ag (GClaim.cs a0c)] (.ret (B r)) := by
 refine pcall_sim (X := fun r : Bool => AEnd.ret (B r)) Try.func18 rfl Try.ntmps18 rfl ?_
 unfold g_ref43_right
 refine sim_run Try.fm ⟨[1], [1], [], []⟩ ⟨[(1, .ptr 1 0)], [(1, .box 38 (bxc (GClaim.cs a0c)))]⟩ krf ?_
 refine sim_seq ?_
 refine sim_reg ?_
 refine xs_run 5 krf ?_
 refine xs_split (ltI 0 (lenI (List.map GReading.cs a0c.Readings))) (fun h1 => ?_) (fun h1 => ?_)
 ·refine xs_one (want_tt krf h1) krf ?_
  refine xs_run 3 krf ?_
  refine xs_call [] krf (g_ref40_Check_ok n a0c.Seed a0c.Readings) krf krf (fun _ => by kernel_rfl) (fun r2 => ?_)
  refine xs_run 3 krf ?_
  refine xs_end ?_
  refine sq_nk ⟨[2], [], [], []⟩ ⟨[(2, B (eqI r2 (-1)))], []⟩ krf ?_
  refine sim_ret ?_
  exact rq_ret (.id) krf krf krf
 ·refine xs_no (want_tf krf h1) krf ?_
  refine xs_run 7 krf ?_
  refine xs_end ?_
  refine sq_nk ⟨[2], [], [], []⟩ ⟨[(2, B false)], []⟩ krf ?_
  refine sim_ret ?_
  exact rq_ret (.id) krf krf krf
def g_ref02_Kinds (n : Nat) : Option (List (List UInt8)) :=
 some [[102, 101, 101, 100, 101, 114], [99, 97, 98, 108, 101], [111, 119, 110, 101, 114], [99, 111, 110, 116, 114, 97, 99, 116], [99, 104, 97, 114, 103, 101, 114], [98, 97, 121], [116, 97, 114, 105, 102, 102]]
theorem g_ref02_Kinds_ok (n : Nat) : ∀ r, g_ref02_Kinds n = some r → PCall Try.prog 65 [] (.ret (.p (.sl 1 (List.map cstr r)))) := by
 refine pcall_sim (X := fun r : List (List UInt8) => AEnd.ret (.p (.sl 1 (List.map cstr r)))) Try.func65 rfl Try.ntmps65 rfl ?_
 unfold g_ref02_Kinds
 refine sim_run Try.fm ⟨[], [], [], []⟩ ⟨[], []⟩ krf ?_
 refine sim_run Try.fm ⟨[0], [1], [], []⟩ ⟨[(0, .tsl 1 (List.map cstr [[102, 101, 101, 100, 101, 114], [99, 97, 98, 108, 101], [111, 119, 110, 101, 114], [99, 111, 110, 116, 114, 97, 99, 116], [99, 104, 97, 114, 103, 101, 114], [98, 97, 121], [116, 97, 114, 105, 102, 102]]) 1)], [(1, .arr 9 1 (List.map cstr [[102, 101, 101, 100, 101, 114], [99, 97, 98, 108, 101], [111, 119, 110, 101, 114], [99, 111, 110, 116, 114, 97, 99, 116], [99, 104, 97, 114, 103, 101, 114], [98, 97, 121], [116, 97, 114, 105, 102, 102]]).length)]⟩ krf ?_
 refine sim_ret ?_
 exact rq_ret (.sl 1) krf krf krf
def g_ref02_In_l1 (a0l : List (List UInt8)) (a1s : List UInt8) (recl1 : Int → Option Int) (l1 : Int) : Option Int :=
 cond (ltI l1 (lenI (List.map cstr a0l)))
  ((getI a0l l1).bind fun x2 =>
  cond (eqS x2 a1s)
   (some l1)
   (recl1 (wi (l1 + 1))))
  (some (-1))
def g_ref02_In (n : Nat) (a0l : List (List UInt8)) (a1s : List UInt8) : Option Int :=
 loopN (fun recl1 l1 => g_ref02_In_l1 a0l a1s recl1 l1) n 0
theorem g_ref02_In_ok (n : Nat) (a0l : List (List UInt8)) (a1s : List UInt8) : ∀ r, g_ref02_In n a0l a1s = some r → PCall Try.prog 64 [.p (.sl 1 (List.map cstr a0l)), S a1s] (.ret (I r)) := by
 refine pcall_sim (X := fun r : Int => AEnd.ret (I r)) Try.func64 rfl Try.ntmps64 rfl ?_
 unfold g_ref02_In
 refine sim_run Try.fm ⟨[0, 1], [], [], []⟩ ⟨[(0, .p (.sl 1 (List.map cstr a0l))), (1, S a1s)], []⟩ krf ?_
 refine sim_seq ?_
 refine sim_run Try.fm ⟨[0, 1, 5], [], [], []⟩ ⟨[(0, .p (.sl 1 (List.map cstr a0l))), (1, S a1s), (5, I 0)], []⟩ krf ?_
 refine sim_block ?_
 refine sim_loop (fun l1 => ⟨[(0, .p (.sl 1 (List.map cstr a0l))), (1, S a1s), (5, I l1)], []⟩ : Int → St) (weak_shr (K := ⟨[0, 1, 5], [], [], []⟩) krf) ?_
 rintro recl1 l1
 show SimE (g_ref02_In_l1 a0l a1s recl1 l1) _ _ _ _ _ _
 unfold g_ref02_In_l1
 refine sim_seq ?_
 refine sim_run Try.fm ⟨[0, 1, 5, 9], [], [], []⟩ ⟨[(0, .p (.sl 1 (List.map cstr a0l))), (1, S a1s), (5, I l1), (9, B (ltI l1 (lenI (List.map cstr a0l))))], []⟩ krf ?_
 refine sim_cond (ltI l1 (lenI (List.map cstr a0l))) krf ?_ ?_
 ·refine sim_skip ?_
  refine sq_nk ⟨[0, 1, 5], [], [], []⟩ ⟨[(0, .p (.sl 1 (List.map cstr a0l))), (1, S a1s), (5, I l1)], []⟩ krf ?_
  refine sim_seq ?_
  refine sim_block ?_
  refine sim_seq ?_
  refine sim_reg ?_
  refine xs_run 2 krf ?_
  refine xs_get krf krf (aop_idx (e := 9) (S := 1) (enc := cstr) (l := a0l) (k := .i64) (n := l1) (sv := .p (.sl 1 (List.map cstr a0l))) rfl krf krf krf krf krf) (fun x2 => ?_)
  refine xs_run 3 krf ?_
  refine xs_end ?_
  refine sq_nk ⟨[0, 1, 5, 17], [], [], []⟩ ⟨[(0, .p (.sl 1 (List.map cstr a0l))), (1, S a1s), (5, I l1), (17, B (eqS x2 a1s))], []⟩ krf ?_
  refine sim_cond (eqS x2 a1s) krf ?_ ?_
  ·refine sim_run Try.fm ⟨[4], [], [], []⟩ ⟨[(4, I l1)], []⟩ krf ?_
   refine sim_ret ?_
   refine bq_r ?_
   refine sq_r ?_
   refine kq_r ?_
   refine bq_r ?_
   refine sq_r ?_
   exact rq_ret (.id) krf krf krf
  ·refine sim_skip ?_
   refine bq_n ?_
   refine sq_nk ⟨[0, 1, 5], [], [], []⟩ ⟨[(0, .p (.sl 1 (List.map cstr a0l))), (1, S a1s), (5, I l1)], []⟩ krf ?_
   refine sim_last Try.fm krf ?_
   exact kq_n (wi (l1 + 1)) ⟨[0, 1, 5], [], [], []⟩ krf
 ·refine sim_exit ?_
  refine sq_x ?_
  refine kq_x ?_
  refine bq_hit ?_
  refine sq_nk ⟨[], [], [], []⟩ ⟨[], []⟩ krf ?_
  refine sim_run Try.fm ⟨[4], [], [], []⟩ ⟨[(4, I (-1))], []⟩ krf ?_
  refine sim_ret ?_
  exact rq_ret (.id) krf krf krf
def g_ref02_Attrs (n : Nat) : Option (List (List UInt8)) :=
 some [[108, 105, 109, 105, 116], [110, 101, 117, 116, 114, 97, 108], [102, 117, 115, 101], [116, 104, 101, 114, 109, 97, 108], [102, 114, 111, 109], [97, 116], [112, 104, 97, 115, 101, 115], [97, 109, 112, 115], [102, 97, 108, 108, 98, 97, 99, 107], [111, 119, 110, 101, 114], [99, 97, 114, 100], [114, 97, 110, 107], [99, 104, 97, 114, 103, 101, 114]]
theorem g_ref02_Attrs_ok (n : Nat) : ∀ r, g_ref02_Attrs n = some r → PCall Try.prog 66 [] (.ret (.p (.sl 1 (List.map cstr r)))) := by
 refine pcall_sim (X := fun r : List (List UInt8) => AEnd.ret (.p (.sl 1 (List.map cstr r)))) Try.func66 rfl Try.ntmps66 rfl ?_
 unfold g_ref02_Attrs
 refine sim_run Try.fm ⟨[], [], [], []⟩ ⟨[], []⟩ krf ?_
 refine sim_run Try.fm ⟨[0], [1], [], []⟩ ⟨[(0, .tsl 1 (List.map cstr [[108, 105, 109, 105, 116], [110, 101, 117, 116, 114, 97, 108], [102, 117, 115, 101], [116, 104, 101, 114, 109, 97, 108], [102, 114, 111, 109], [97, 116], [112, 104, 97, 115, 101, 115], [97, 109, 112, 115], [102, 97, 108, 108, 98, 97, 99, 107], [111, 119, 110, 101, 114], [99, 97, 114, 100], [114, 97, 110, 107], [99, 104, 97, 114, 103, 101, 114]]) 1)], [(1, .arr 9 1 (List.map cstr [[108, 105, 109, 105, 116], [110, 101, 117, 116, 114, 97, 108], [102, 117, 115, 101], [116, 104, 101, 114, 109, 97, 108], [102, 114, 111, 109], [97, 116], [112, 104, 97, 115, 101, 115], [97, 109, 112, 115], [102, 97, 108, 108, 98, 97, 99, 107], [111, 119, 110, 101, 114], [99, 97, 114, 100], [114, 97, 110, 107], [99, 104, 97, 114, 103, 101, 114]]).length)]⟩ krf ?_
 refine sim_ret ?_
 exact rq_ret (.sl 1) krf krf krf
def g_ref02_Articles (n : Nat) : Option (List (List UInt8)) :=
 some [[115, 116, 97, 114, 116], [101, 110, 101, 114, 103, 121], [116, 105, 109, 101], [105, 100, 108, 101], [99, 97, 112], [116, 97, 120]]
theorem g_ref02_Articles_ok (n : Nat) : ∀ r, g_ref02_Articles n = some r → PCall Try.prog 67 [] (.ret (.p (.sl 1 (List.map cstr r)))) := by
 refine pcall_sim (X := fun r : List (List UInt8) => AEnd.ret (.p (.sl 1 (List.map cstr r)))) Try.func67 rfl Try.ntmps67 rfl ?_
 unfold g_ref02_Articles
 refine sim_run Try.fm ⟨[], [], [], []⟩ ⟨[], []⟩ krf ?_
 refine sim_run Try.fm ⟨[0], [1], [], []⟩ ⟨[(0, .tsl 1 (List.map cstr [[115, 116, 97, 114, 116], [101, 110, 101, 114, 103, 121], [116, 105, 109, 101], [105, 100, 108, 101], [99, 97, 112], [116, 97, 120]]) 1)], [(1, .arr 9 1 (List.map cstr [[115, 116, 97, 114, 116], [101, 110, 101, 114, 103, 121], [116, 105, 109, 101], [105, 100, 108, 101], [99, 97, 112], [116, 97, 120]]).length)]⟩ krf ?_
 refine sim_ret ?_
 exact rq_ret (.sl 1) krf krf krf
def g_ref02_Words (n : Nat) : Option (List (List UInt8)) :=
 some [[111, 110], [119, 111, 114, 107], [115, 97, 116, 117, 114, 100, 97, 121], [115, 117, 110, 100, 97, 121], [98, 101, 116, 119, 101, 101, 110], [112, 101, 114], [102, 114, 101, 101]]
theorem g_ref02_Words_ok (n : Nat) : ∀ r, g_ref02_Words n = some r → PCall Try.prog 68 [] (.ret (.p (.sl 1 (List.map cstr r)))) := by
 refine pcall_sim (X := fun r : List (List UInt8) => AEnd.ret (.p (.sl 1 (List.map cstr r)))) Try.func68 rfl Try.ntmps68 rfl ?_
 unfold g_ref02_Words
 refine sim_run Try.fm ⟨[], [], [], []⟩ ⟨[], []⟩ krf ?_
 refine sim_run Try.fm ⟨[0], [1], [], []⟩ ⟨[(0, .tsl 1 (List.map cstr [[111, 110], [119, 111, 114, 107], [115, 97, 116, 117, 114, 100, 97, 121], [115, 117, 110, 100, 97, 121], [98, 101, 116, 119, 101, 101, 110], [112, 101, 114], [102, 114, 101, 101]]) 1)], [(1, .arr 9 1 (List.map cstr [[111, 110], [119, 111, 114, 107], [115, 97, 116, 117, 114, 100, 97, 121], [115, 117, 110, 100, 97, 121], [98, 101, 116, 119, 101, 101, 110], [112, 101, 114], [102, 114, 101, 101]]).length)]⟩ krf ?_
 refine sim_ret ?_
 exact rq_ret (.sl 1) krf krf krf
def g_ref02_Name_j1 (n : Nat) (a0s : List UInt8) : Option Bool :=
 ((g_ref02_Kinds n).bind fun r3 =>
 (g_ref02_In n r3 a0s).bind fun r4 =>
 cond (leI 0 r4)
  (some true)
  ((g_ref02_Attrs n).bind fun r6 =>
  (g_ref02_In n r6 a0s).bind fun r7 =>
  cond (leI 0 r7)
   (some true)
   ((g_ref02_Articles n).bind fun r9 =>
   (g_ref02_In n r9 a0s).bind fun r10 =>
   cond (leI 0 r10)
    (some true)
    ((g_ref02_Words n).bind fun r12 =>
    (g_ref02_In n r12 a0s).bind fun r13 =>
    some (leI 0 r13))))).bind fun j2 =>
 cond (leI 1 (lenI a0s))
  (cond (leI (lenI a0s) 12)
   (some (!j2))
   (some false))
  (some false)
def g_ref02_Name_l16 (n : Nat) (a0s : List UInt8) (recl16 : Int → Option Bool) (l16 : Int) : Option Bool :=
 cond (ltI l16 (lenI a0s))
  ((getI a0s l16).bind fun x17 =>
  (cond (ltI (b2i x17) 97)
   (cond (eqI l16 0)
    (some true)
    (cond (ltI (b2i x17) 48)
     (some (!eqI (b2i x17) 95))
     (cond (ltI 57 (b2i x17))
      (some (!eqI (b2i x17) 95))
      (some false))))
   (cond (ltI 122 (b2i x17))
    (cond (eqI l16 0)
     (some true)
     (cond (ltI (b2i x17) 48)
      (some (!eqI (b2i x17) 95))
      (cond (ltI 57 (b2i x17))
       (some (!eqI (b2i x17) 95))
       (some false))))
    (some false))).bind fun j18 =>
  cond j18
   (some false)
   (recl16 (wi (l16 + 1))))
  (g_ref02_Name_j1 n a0s)
def g_ref02_Name (n : Nat) (a0s : List UInt8) : Option Bool :=
 loopN (fun recl16 l16 => g_ref02_Name_l16 n a0s recl16 l16) n 0
theorem g_ref02_Name_ok (n : Nat) (a0s : List UInt8) : ∀ r, g_ref02_Name n a0s = some r → PCall Try.prog 42 [S a0s] (.ret (B r)) := by
 refine pcall_sim (X := fun r : Bool => AEnd.ret (B r)) Try.func42 rfl Try.ntmps42 rfl ?_
 unfold g_ref02_Name
 refine sim_run Try.fm ⟨[0], [], [], []⟩ ⟨[(0, S a0s)], []⟩ krf ?_
 refine sim_cps (fun _ => ⟨[(0, S a0s)], []⟩ : Unit → St) (fun _ => g_ref02_Name_j1 n a0s) ?_ ?_
 ·rintro _
  show SimE (g_ref02_Name_j1 n a0s) _ _ _ _ _ _
  unfold g_ref02_Name_j1
  refine sim_bind (fun j2 => ⟨[(0, S a0s), (5, B j2)], []⟩ : Bool → St) ?_ ?_
  ·refine sim_reg ?_
   refine xs_call [] krf (g_ref02_Kinds_ok n) krf krf (fun _ => by kernel_rfl) (fun r3 => ?_)
   refine xs_run 1 krf ?_
   refine xs_call [] krf (g_ref02_In_ok n r3 a0s) krf krf (fun _ => by kernel_rfl) (fun r4 => ?_)
   refine xs_run 2 krf ?_
   refine xs_split (leI 0 r4) (fun h5 => ?_) (fun h5 => ?_)
   ·refine xs_no (want_ft krf h5) krf ?_
    refine xs_run 17 krf ?_
    refine xs_end ?_
    exact nq_n true ⟨[0, 5], [], [], []⟩ krf
   ·refine xs_call [] (want_ff krf h5) (g_ref02_Attrs_ok n) krf krf (fun _ => by kernel_rfl) (fun r6 => ?_)
    refine xs_run 1 krf ?_
    refine xs_call [] krf (g_ref02_In_ok n r6 a0s) krf krf (fun _ => by kernel_rfl) (fun r7 => ?_)
    refine xs_run 3 krf ?_
    refine xs_split (leI 0 r7) (fun h8 => ?_) (fun h8 => ?_)
    ·refine xs_no (want_ft krf h8) krf ?_
     refine xs_run 11 krf ?_
     refine xs_end ?_
     exact nq_n true ⟨[0, 5], [], [], []⟩ krf
    ·refine xs_call [] (want_ff krf h8) (g_ref02_Articles_ok n) krf krf (fun _ => by kernel_rfl) (fun r9 => ?_)
     refine xs_run 1 krf ?_
     refine xs_call [] krf (g_ref02_In_ok n r9 a0s) krf krf (fun _ => by kernel_rfl) (fun r10 => ?_)
     refine xs_run 3 krf ?_
     refine xs_split (leI 0 r10) (fun h11 => ?_) (fun h11 => ?_)
     ·refine xs_no (want_ft krf h11) krf ?_
      refine xs_run 5 krf ?_
      refine xs_end ?_
      exact nq_n true ⟨[0, 5], [], [], []⟩ krf
     ·refine xs_call [] (want_ff krf h11) (g_ref02_Words_ok n) krf krf (fun _ => by kernel_rfl) (fun r12 => ?_)
      refine xs_run 1 krf ?_
      refine xs_call [] krf (g_ref02_In_ok n r12 a0s) krf krf (fun _ => by kernel_rfl) (fun r13 => ?_)
      refine xs_run 3 krf ?_
      refine xs_end ?_
      exact nq_n (leI 0 r13) ⟨[0, 5], [], [], []⟩ krf
  ·rintro j2
   refine sim_seq ?_
   refine sim_reg ?_
   refine xs_run 4 krf ?_
   refine xs_split (leI 1 (lenI a0s)) (fun h14 => ?_) (fun h14 => ?_)
   ·refine xs_one (want_tt krf h14) krf ?_
    refine xs_run 4 krf ?_
    refine xs_split (leI (lenI a0s) 12) (fun h15 => ?_) (fun h15 => ?_)
    ·refine xs_one (want_tt krf h15) krf ?_
     refine xs_run 3 krf ?_
     refine xs_end ?_
     refine sq_nk ⟨[2], [], [], []⟩ ⟨[(2, B (!j2))], []⟩ krf ?_
     refine sim_ret ?_
     exact rq_ret (.id) krf krf krf
    ·refine xs_no (want_tf krf h15) krf ?_
     refine xs_run 3 krf ?_
     refine xs_end ?_
     refine sq_nk ⟨[2], [], [], []⟩ ⟨[(2, B false)], []⟩ krf ?_
     refine sim_ret ?_
     exact rq_ret (.id) krf krf krf
   ·refine xs_no (want_tf krf h14) krf ?_
    refine xs_run 8 krf ?_
    refine xs_end ?_
    refine sq_nk ⟨[2], [], [], []⟩ ⟨[(2, B false)], []⟩ krf ?_
    refine sim_ret ?_
    exact rq_ret (.id) krf krf krf
 ·refine sim_run Try.fm ⟨[0, 3], [], [], []⟩ ⟨[(0, S a0s), (3, I 0)], []⟩ krf ?_
  refine sim_block ?_
  refine sim_loop (fun l16 => ⟨[(0, S a0s), (3, I l16)], []⟩ : Int → St) (weak_shr (K := ⟨[0, 3], [], [], []⟩) krf) ?_
  rintro recl16 l16
  show SimE (g_ref02_Name_l16 n a0s recl16 l16) _ _ _ _ _ _
  unfold g_ref02_Name_l16
  refine sim_seq ?_
  refine sim_run Try.fm ⟨[0, 3, 9], [], [], []⟩ ⟨[(0, S a0s), (3, I l16), (9, B (ltI l16 (lenI a0s)))], []⟩ krf ?_
  refine sim_cond (ltI l16 (lenI a0s)) krf ?_ ?_
  ·refine sim_skip ?_
   refine sq_nk ⟨[0, 3], [], [], []⟩ ⟨[(0, S a0s), (3, I l16)], []⟩ krf ?_
   refine sim_seq ?_
   refine sim_block ?_
   refine sim_seq ?_
   refine sim_reg ?_
   refine xs_run 2 krf ?_
   refine xs_get krf krf (aop_sidx (l := a0s) (k := .i64) (n := l16) rfl krf krf krf) (fun x17 => ?_)
   refine xs_run 1 krf ?_
   refine xs_end ?_
   refine sq_nk ⟨[0, 3, 4], [], [], []⟩ ⟨[(0, S a0s), (3, I l16), (4, B8 (b2i x17))], []⟩ krf ?_
   refine sim_bind (fun j18 => ⟨[(0, S a0s), (3, I l16), (36, B j18)], []⟩ : Bool → St) ?_ ?_
   ·refine sim_reg ?_
    refine xs_run 3 krf ?_
    refine xs_split (ltI (b2i x17) 97) (fun h19 => ?_) (fun h19 => ?_)
    ·refine xs_no (want_ft krf h19) krf ?_
     refine xs_run 6 krf ?_
     refine xs_split (eqI l16 0) (fun h20 => ?_) (fun h20 => ?_)
     ·refine xs_no (want_ft krf h20) krf ?_
      refine xs_run 11 krf ?_
      refine xs_end ?_
      exact nq_n true ⟨[0, 3, 36], [], [], []⟩ krf
     ·refine xs_one (want_ff krf h20) krf ?_
      refine xs_run 2 krf ?_
      refine xs_split (ltI (b2i x17) 48) (fun h21 => ?_) (fun h21 => ?_)
      ·refine xs_no (want_ft krf h21) krf ?_
       refine xs_run 8 krf ?_
       refine xs_end ?_
       exact nq_n (!eqI (b2i x17) 95) ⟨[0, 3, 36], [], [], []⟩ krf
      ·refine xs_one (want_ff krf h21) krf ?_
       refine xs_run 3 krf ?_
       refine xs_split (ltI 57 (b2i x17)) (fun h22 => ?_) (fun h22 => ?_)
       ·refine xs_one (want_tt krf h22) krf ?_
        refine xs_run 4 krf ?_
        refine xs_end ?_
        exact nq_n (!eqI (b2i x17) 95) ⟨[0, 3, 36], [], [], []⟩ krf
       ·refine xs_no (want_tf krf h22) krf ?_
        refine xs_run 4 krf ?_
        refine xs_end ?_
        exact nq_n false ⟨[0, 3, 36], [], [], []⟩ krf
    ·refine xs_one (want_ff krf h19) krf ?_
     refine xs_run 3 krf ?_
     refine xs_split (ltI 122 (b2i x17)) (fun h23 => ?_) (fun h23 => ?_)
     ·refine xs_one (want_tt krf h23) krf ?_
      refine xs_run 2 krf ?_
      refine xs_split (eqI l16 0) (fun h24 => ?_) (fun h24 => ?_)
      ·refine xs_no (want_ft krf h24) krf ?_
       refine xs_run 11 krf ?_
       refine xs_end ?_
       exact nq_n true ⟨[0, 3, 36], [], [], []⟩ krf
      ·refine xs_one (want_ff krf h24) krf ?_
       refine xs_run 2 krf ?_
       refine xs_split (ltI (b2i x17) 48) (fun h25 => ?_) (fun h25 => ?_)
       ·refine xs_no (want_ft krf h25) krf ?_
        refine xs_run 8 krf ?_
        refine xs_end ?_
        exact nq_n (!eqI (b2i x17) 95) ⟨[0, 3, 36], [], [], []⟩ krf
       ·refine xs_one (want_ff krf h25) krf ?_
        refine xs_run 3 krf ?_
        refine xs_split (ltI 57 (b2i x17)) (fun h26 => ?_) (fun h26 => ?_)
        ·refine xs_one (want_tt krf h26) krf ?_
         refine xs_run 4 krf ?_
         refine xs_end ?_
         exact nq_n (!eqI (b2i x17) 95) ⟨[0, 3, 36], [], [], []⟩ krf
        ·refine xs_no (want_tf krf h26) krf ?_
         refine xs_run 4 krf ?_
         refine xs_end ?_
         exact nq_n false ⟨[0, 3, 36], [], [], []⟩ krf
     ·refine xs_no (want_tf krf h23) krf ?_
      refine xs_run 14 krf ?_
      refine xs_end ?_
      exact nq_n false ⟨[0, 3, 36], [], [], []⟩ krf
   ·rintro j18
    refine sim_cond j18 krf ?_ ?_
    ·refine sim_run Try.fm ⟨[2], [], [], []⟩ ⟨[(2, B false)], []⟩ krf ?_
     refine sim_ret ?_
     refine bq_r ?_
     refine sq_r ?_
     refine kq_r ?_
     refine bq_r ?_
     refine kq_r ?_
     exact rq_ret (.id) krf krf krf
    ·refine sim_skip ?_
     refine bq_n ?_
     refine sq_nk ⟨[0, 3], [], [], []⟩ ⟨[(0, S a0s), (3, I l16)], []⟩ krf ?_
     refine sim_last Try.fm krf ?_
     exact kq_n (wi (l16 + 1)) ⟨[0, 3], [], [], []⟩ krf
  ·refine sim_exit ?_
   refine sq_x ?_
   refine kq_x ?_
   refine bq_hit ?_
   exact kq_n (k := fun _ => g_ref02_Name_j1 n a0s) () ⟨[0], [], [], []⟩ krf
def g_ref32_Article (n : Nat) (a0a : GArticle) : Option Bool :=
 (cond (ltI a0a.Price 0)
  (some true)
  (cond (ltI 1000000 a0a.Price)
   (some true)
   (cond (ltI a0a.From 0)
    (some true)
    (cond (ltI 1439 a0a.From)
     (some true)
     (cond (leI a0a.To a0a.From)
      (some true)
      (cond (ltI 1440 a0a.To)
       (some true)
       (cond (ltI a0a.Days 1)
        (some true)
        (some (ltI 7 a0a.Days))))))))).bind fun j1 =>
 cond j1
  (some false)
  ((cond (eqI a0a.Kind 3)
   (some true)
   (some (eqI a0a.Kind 4))).bind fun j9 =>
  cond j9
   ((cond (leI 1 a0a.Unit)
    (cond (leI a0a.Unit 1440)
     (cond (leI 0 a0a.Free)
      (some (leI a0a.Free 1440))
      (some false))
     (some false))
    (some false)).bind fun j11 =>
   some j11)
   ((cond (!eqI a0a.Unit 0)
    (some true)
    (some (!eqI a0a.Free 0))).bind fun j15 =>
   cond j15
    (some false)
    ((cond (eqI a0a.From 0)
     (cond (eqI a0a.To 1440)
      (some (eqI a0a.Days 7))
      (some false))
     (some false)).bind fun j17 =>
    cond (eqI a0a.Kind 6)
     ((cond j17
      (some (leI a0a.Price 10000))
      (some false)).bind fun j20 =>
     some j20)
     (cond (eqI a0a.Kind 5)
      (some j17)
      (cond (eqI a0a.Kind 1)
       (some true)
       (some (eqI a0a.Kind 2)))))))
theorem g_ref32_Article_ok (n : Nat) (a0a : GArticle) : ∀ r, g_ref32_Article n a0a = some r → PCall Try.prog 43 [ag (GArticle.cs a0a)] (.ret (B r)) := by
 refine pcall_sim (X := fun r : Bool => AEnd.ret (B r)) Try.func43 rfl Try.ntmps43 rfl ?_
 unfold g_ref32_Article
 refine sim_run Try.fm ⟨[1], [1], [], []⟩ ⟨[(1, .ptr 1 0)], [(1, .box 75 (bxc (GArticle.cs a0a)))]⟩ krf ?_
 refine sim_seq ?_
 refine sim_bind (fun j1 => ⟨[(1, .ptr 1 0), (43, B j1)], [(1, .box 75 (bxc (GArticle.cs a0a)))]⟩ : Bool → St) ?_ ?_
 ·refine sim_reg ?_
  refine xs_run 4 krf ?_
  refine xs_split (ltI a0a.Price 0) (fun h2 => ?_) (fun h2 => ?_)
  ·refine xs_no (want_ft krf h2) krf ?_
   refine xs_run 35 krf ?_
   refine xs_end ?_
   exact nq_n true ⟨[1, 43], [1], [], []⟩ krf
  ·refine xs_one (want_ff krf h2) krf ?_
   refine xs_run 4 krf ?_
   refine xs_split (ltI 1000000 a0a.Price) (fun h3 => ?_) (fun h3 => ?_)
   ·refine xs_no (want_ft krf h3) krf ?_
    refine xs_run 30 krf ?_
    refine xs_end ?_
    exact nq_n true ⟨[1, 43], [1], [], []⟩ krf
   ·refine xs_one (want_ff krf h3) krf ?_
    refine xs_run 4 krf ?_
    refine xs_split (ltI a0a.From 0) (fun h4 => ?_) (fun h4 => ?_)
    ·refine xs_no (want_ft krf h4) krf ?_
     refine xs_run 25 krf ?_
     refine xs_end ?_
     exact nq_n true ⟨[1, 43], [1], [], []⟩ krf
    ·refine xs_one (want_ff krf h4) krf ?_
     refine xs_run 4 krf ?_
     refine xs_split (ltI 1439 a0a.From) (fun h5 => ?_) (fun h5 => ?_)
     ·refine xs_no (want_ft krf h5) krf ?_
      refine xs_run 20 krf ?_
      refine xs_end ?_
      exact nq_n true ⟨[1, 43], [1], [], []⟩ krf
     ·refine xs_one (want_ff krf h5) krf ?_
      refine xs_run 6 krf ?_
      refine xs_split (leI a0a.To a0a.From) (fun h6 => ?_) (fun h6 => ?_)
      ·refine xs_no (want_ft krf h6) krf ?_
       refine xs_run 13 krf ?_
       refine xs_end ?_
       exact nq_n true ⟨[1, 43], [1], [], []⟩ krf
      ·refine xs_one (want_ff krf h6) krf ?_
       refine xs_run 4 krf ?_
       refine xs_split (ltI 1440 a0a.To) (fun h7 => ?_) (fun h7 => ?_)
       ·refine xs_no (want_ft krf h7) krf ?_
        refine xs_run 8 krf ?_
        refine xs_end ?_
        exact nq_n true ⟨[1, 43], [1], [], []⟩ krf
       ·refine xs_one (want_ff krf h7) krf ?_
        refine xs_run 4 krf ?_
        refine xs_split (ltI a0a.Days 1) (fun h8 => ?_) (fun h8 => ?_)
        ·refine xs_no (want_ft krf h8) krf ?_
         refine xs_run 3 krf ?_
         refine xs_end ?_
         exact nq_n true ⟨[1, 43], [1], [], []⟩ krf
        ·refine xs_one (want_ff krf h8) krf ?_
         refine xs_run 3 krf ?_
         refine xs_end ?_
         exact nq_n (ltI 7 a0a.Days) ⟨[1, 43], [1], [], []⟩ krf
 ·rintro j1
  refine sim_cond j1 krf ?_ ?_
  ·refine sim_run Try.fm ⟨[2], [], [], []⟩ ⟨[(2, B false)], []⟩ krf ?_
   refine sim_ret ?_
   refine sq_r ?_
   exact rq_ret (.id) krf krf krf
  ·refine sim_skip ?_
   refine sq_nk ⟨[1], [1], [], []⟩ ⟨[(1, .ptr 1 0)], [(1, .box 75 (bxc (GArticle.cs a0a)))]⟩ krf ?_
   refine sim_seq ?_
   refine sim_bind (fun j9 => ⟨[(1, .ptr 1 0), (51, B j9)], [(1, .box 75 (bxc (GArticle.cs a0a)))]⟩ : Bool → St) ?_ ?_
   ·refine sim_reg ?_
    refine xs_run 4 krf ?_
    refine xs_split (eqI a0a.Kind 3) (fun h10 => ?_) (fun h10 => ?_)
    ·refine xs_no (want_ft krf h10) krf ?_
     refine xs_run 3 krf ?_
     refine xs_end ?_
     exact nq_n true ⟨[1, 51], [1], [], []⟩ krf
    ·refine xs_one (want_ff krf h10) krf ?_
     refine xs_run 3 krf ?_
     refine xs_end ?_
     exact nq_n (eqI a0a.Kind 4) ⟨[1, 51], [1], [], []⟩ krf
   ·rintro j9
    refine sim_cond j9 krf ?_ ?_
    ·refine sim_bind (fun j11 => ⟨[(2, B j11)], []⟩ : Bool → St) ?_ ?_
     ·refine sim_reg ?_
      refine xs_run 4 krf ?_
      refine xs_split (leI 1 a0a.Unit) (fun h12 => ?_) (fun h12 => ?_)
      ·refine xs_one (want_tt krf h12) krf ?_
       refine xs_run 4 krf ?_
       refine xs_split (leI a0a.Unit 1440) (fun h13 => ?_) (fun h13 => ?_)
       ·refine xs_one (want_tt krf h13) krf ?_
        refine xs_run 4 krf ?_
        refine xs_split (leI 0 a0a.Free) (fun h14 => ?_) (fun h14 => ?_)
        ·refine xs_one (want_tt krf h14) krf ?_
         refine xs_run 4 krf ?_
         refine xs_end ?_
         exact nq_n (leI a0a.Free 1440) ⟨[2], [], [], []⟩ krf
        ·refine xs_no (want_tf krf h14) krf ?_
         refine xs_run 4 krf ?_
         refine xs_end ?_
         exact nq_n false ⟨[2], [], [], []⟩ krf
       ·refine xs_no (want_tf krf h13) krf ?_
        refine xs_run 9 krf ?_
        refine xs_end ?_
        exact nq_n false ⟨[2], [], [], []⟩ krf
      ·refine xs_no (want_tf krf h12) krf ?_
       refine xs_run 14 krf ?_
       refine xs_end ?_
       exact nq_n false ⟨[2], [], [], []⟩ krf
     ·rintro j11
      refine sim_ret ?_
      refine sq_r ?_
      exact rq_ret (.id) krf krf krf
    ·refine sim_skip ?_
     refine sq_nk ⟨[1], [1], [], []⟩ ⟨[(1, .ptr 1 0)], [(1, .box 75 (bxc (GArticle.cs a0a)))]⟩ krf ?_
     refine sim_seq ?_
     refine sim_bind (fun j15 => ⟨[(1, .ptr 1 0), (77, B j15)], [(1, .box 75 (bxc (GArticle.cs a0a)))]⟩ : Bool → St) ?_ ?_
     ·refine sim_reg ?_
      refine xs_run 4 krf ?_
      refine xs_split (!eqI a0a.Unit 0) (fun h16 => ?_) (fun h16 => ?_)
      ·refine xs_no (want_ft krf h16) krf ?_
       refine xs_run 3 krf ?_
       refine xs_end ?_
       exact nq_n true ⟨[1, 77], [1], [], []⟩ krf
      ·refine xs_one (want_ff krf h16) krf ?_
       refine xs_run 3 krf ?_
       refine xs_end ?_
       exact nq_n (!eqI a0a.Free 0) ⟨[1, 77], [1], [], []⟩ krf
     ·rintro j15
      refine sim_cond j15 krf ?_ ?_
      ·refine sim_run Try.fm ⟨[2], [], [], []⟩ ⟨[(2, B false)], []⟩ krf ?_
       refine sim_ret ?_
       refine sq_r ?_
       exact rq_ret (.id) krf krf krf
      ·refine sim_skip ?_
       refine sq_nk ⟨[1], [1], [], []⟩ ⟨[(1, .ptr 1 0)], [(1, .box 75 (bxc (GArticle.cs a0a)))]⟩ krf ?_
       refine sim_bind (fun j17 => ⟨[(1, .ptr 1 0), (3, B j17)], [(1, .box 75 (bxc (GArticle.cs a0a)))]⟩ : Bool → St) ?_ ?_
       ·refine sim_reg ?_
        refine xs_run 4 krf ?_
        refine xs_split (eqI a0a.From 0) (fun h18 => ?_) (fun h18 => ?_)
        ·refine xs_one (want_tt krf h18) krf ?_
         refine xs_run 4 krf ?_
         refine xs_split (eqI a0a.To 1440) (fun h19 => ?_) (fun h19 => ?_)
         ·refine xs_one (want_tt krf h19) krf ?_
          refine xs_run 4 krf ?_
          refine xs_end ?_
          exact nq_n (eqI a0a.Days 7) ⟨[1, 3], [1], [], []⟩ krf
         ·refine xs_no (want_tf krf h19) krf ?_
          refine xs_run 4 krf ?_
          refine xs_end ?_
          exact nq_n false ⟨[1, 3], [1], [], []⟩ krf
        ·refine xs_no (want_tf krf h18) krf ?_
         refine xs_run 9 krf ?_
         refine xs_end ?_
         exact nq_n false ⟨[1, 3], [1], [], []⟩ krf
       ·rintro j17
        refine sim_seq ?_
        refine sim_run Try.fm ⟨[1, 3, 93], [1], [], []⟩ ⟨[(1, .ptr 1 0), (3, B j17), (93, B (eqI a0a.Kind 6))], [(1, .box 75 (bxc (GArticle.cs a0a)))]⟩ krf ?_
        refine sim_cond (eqI a0a.Kind 6) krf ?_ ?_
        ·refine sim_bind (fun j20 => ⟨[(2, B j20)], []⟩ : Bool → St) ?_ ?_
         ·refine sim_reg ?_
          refine xs_run 2 krf ?_
          refine xs_split j17 (fun h21 => ?_) (fun h21 => ?_)
          ·refine xs_one (want_tt krf h21) krf ?_
           refine xs_run 4 krf ?_
           refine xs_end ?_
           exact nq_n (leI a0a.Price 10000) ⟨[2], [], [], []⟩ krf
          ·refine xs_no (want_tf krf h21) krf ?_
           refine xs_run 4 krf ?_
           refine xs_end ?_
           exact nq_n false ⟨[2], [], [], []⟩ krf
         ·rintro j20
          refine sim_ret ?_
          refine sq_r ?_
          exact rq_ret (.id) krf krf krf
        ·refine sim_skip ?_
         refine sq_nk ⟨[1, 3], [1], [], []⟩ ⟨[(1, .ptr 1 0), (3, B j17)], [(1, .box 75 (bxc (GArticle.cs a0a)))]⟩ krf ?_
         refine sim_seq ?_
         refine sim_run Try.fm ⟨[1, 3, 102], [1], [], []⟩ ⟨[(1, .ptr 1 0), (3, B j17), (102, B (eqI a0a.Kind 5))], [(1, .box 75 (bxc (GArticle.cs a0a)))]⟩ krf ?_
         refine sim_cond (eqI a0a.Kind 5) krf ?_ ?_
         ·refine sim_run Try.fm ⟨[2], [], [], []⟩ ⟨[(2, B j17)], []⟩ krf ?_
          refine sim_ret ?_
          refine sq_r ?_
          exact rq_ret (.id) krf krf krf
         ·refine sim_skip ?_
          refine sq_nk ⟨[1], [1], [], []⟩ ⟨[(1, .ptr 1 0)], [(1, .box 75 (bxc (GArticle.cs a0a)))]⟩ krf ?_
          refine sim_seq ?_
          refine sim_reg ?_
          refine xs_run 4 krf ?_
          refine xs_split (eqI a0a.Kind 1) (fun h22 => ?_) (fun h22 => ?_)
          ·refine xs_no (want_ft krf h22) krf ?_
           refine xs_run 4 krf ?_
           refine xs_end ?_
           refine sq_nk ⟨[2], [], [], []⟩ ⟨[(2, B true)], []⟩ krf ?_
           refine sim_ret ?_
           exact rq_ret (.id) krf krf krf
          ·refine xs_one (want_ff krf h22) krf ?_
           refine xs_run 4 krf ?_
           refine xs_end ?_
           refine sq_nk ⟨[2], [], [], []⟩ ⟨[(2, B (eqI a0a.Kind 2))], []⟩ krf ?_
           refine sim_ret ?_
           exact rq_ret (.id) krf krf krf
def g_ref32_Valid_l4 (n : Nat) (a0t : GTariff) (recl4 : (Int × Int) → Option Bool) (l4_1 : Int) (l4_2 : Int) : Option Bool :=
 cond (ltI l4_2 (lenI (List.map GArticle.cs a0t.Articles)))
  ((getI a0t.Articles l4_2).bind fun x5 =>
  (g_ref32_Article n x5).bind fun r6 =>
  cond (!r6)
   (some false)
   ((getI a0t.Articles l4_2).bind fun x7 =>
   cond (eqI x7.Kind 6)
    (recl4 (wi (l4_1 + 1), wi (l4_2 + 1)))
    (recl4 (l4_1, wi (l4_2 + 1)))))
  (some (leI l4_1 1))
def g_ref32_Valid (n : Nat) (a0t : GTariff) : Option Bool :=
 ((g_ref02_Name n a0t.Name).bind fun r2 =>
 cond (!r2)
  (some true)
  (some (ltI 12 (lenI (List.map GArticle.cs a0t.Articles))))).bind fun j1 =>
 cond j1
  (some false)
  (loopN (fun recl4 (l4_1, l4_2) => g_ref32_Valid_l4 n a0t recl4 l4_1 l4_2) n (0, 0))
theorem g_ref32_Valid_ok (n : Nat) (a0t : GTariff) : ∀ r, g_ref32_Valid n a0t = some r → PCall Try.prog 19 [ag (GTariff.cs a0t)] (.ret (B r)) := by
 refine pcall_sim (X := fun r : Bool => AEnd.ret (B r)) Try.func19 rfl Try.ntmps19 rfl ?_
 unfold g_ref32_Valid
 refine sim_run Try.fm ⟨[1], [1], [], []⟩ ⟨[(1, .ptr 1 0)], [(1, .box 24 (bxc (GTariff.cs a0t)))]⟩ krf ?_
 refine sim_seq ?_
 refine sim_bind (fun j1 => ⟨[(1, .ptr 1 0), (14, B j1)], [(1, .box 24 (bxc (GTariff.cs a0t)))]⟩ : Bool → St) ?_ ?_
 ·refine sim_reg ?_
  refine xs_run 2 krf ?_
  refine xs_call [] krf (g_ref02_Name_ok n a0t.Name) krf krf (fun _ => by kernel_rfl) (fun r2 => ?_)
  refine xs_run 2 krf ?_
  refine xs_split (!r2) (fun h3 => ?_) (fun h3 => ?_)
  ·refine xs_no (want_ft krf h3) krf ?_
   refine xs_run 4 krf ?_
   refine xs_end ?_
   exact nq_n true ⟨[1, 14], [1], [], []⟩ krf
  ·refine xs_one (want_ff krf h3) krf ?_
   refine xs_run 4 krf ?_
   refine xs_end ?_
   exact nq_n (ltI 12 (lenI (List.map GArticle.cs a0t.Articles))) ⟨[1, 14], [1], [], []⟩ krf
 ·rintro j1
  refine sim_cond j1 krf ?_ ?_
  ·refine sim_run Try.fm ⟨[2], [], [], []⟩ ⟨[(2, B false)], []⟩ krf ?_
   refine sim_ret ?_
   refine sq_r ?_
   exact rq_ret (.id) krf krf krf
  ·refine sim_skip ?_
   refine sq_nk ⟨[1], [1], [], []⟩ ⟨[(1, .ptr 1 0)], [(1, .box 24 (bxc (GTariff.cs a0t)))]⟩ krf ?_
   refine sim_run Try.fm ⟨[1, 3], [1], [], []⟩ ⟨[(1, .ptr 1 0), (3, I 0)], [(1, .box 24 (bxc (GTariff.cs a0t)))]⟩ krf ?_
   refine sim_seq ?_
   refine sim_run Try.fm ⟨[1, 3, 4], [1], [], []⟩ ⟨[(1, .ptr 1 0), (3, I 0), (4, I 0)], [(1, .box 24 (bxc (GTariff.cs a0t)))]⟩ krf ?_
   refine sim_block ?_
   refine sim_loop (fun (l4_1, l4_2) => ⟨[(1, .ptr 1 0), (3, I l4_1), (4, I l4_2)], [(1, .box 24 (bxc (GTariff.cs a0t)))]⟩ : (Int × Int) → St) (weak_shr (K := ⟨[1, 3, 4], [1], [], []⟩) krf) ?_
   rintro recl4 ⟨l4_1, l4_2⟩
   show SimE (g_ref32_Valid_l4 n a0t recl4 l4_1 l4_2) _ _ _ _ _ _
   unfold g_ref32_Valid_l4
   refine sim_seq ?_
   refine sim_run Try.fm ⟨[1, 3, 4, 19], [1], [], []⟩ ⟨[(1, .ptr 1 0), (3, I l4_1), (4, I l4_2), (19, B (ltI l4_2 (lenI (List.map GArticle.cs a0t.Articles))))], [(1, .box 24 (bxc (GTariff.cs a0t)))]⟩ krf ?_
   refine sim_cond (ltI l4_2 (lenI (List.map GArticle.cs a0t.Articles))) krf ?_ ?_
   ·refine sim_skip ?_
    refine sq_nk ⟨[1, 3, 4], [1], [], []⟩ ⟨[(1, .ptr 1 0), (3, I l4_1), (4, I l4_2)], [(1, .box 24 (bxc (GTariff.cs a0t)))]⟩ krf ?_
    refine sim_seq ?_
    refine sim_block ?_
    refine sim_seq ?_
    refine sim_seq ?_
    refine sim_reg ?_
    refine xs_run 3 krf ?_
    refine xs_get krf krf (aop_idx (e := 75) (S := 7) (enc := GArticle.cs) (l := a0t.Articles) (k := .i64) (n := l4_2) (sv := .p (.sl 7 (List.map GArticle.cs a0t.Articles))) rfl krf krf krf krf krf) (fun x5 => ?_)
    refine xs_run 1 krf ?_
    refine xs_call [] krf (g_ref32_Article_ok n x5) krf krf (fun _ => by kernel_rfl) (fun r6 => ?_)
    refine xs_run 1 krf ?_
    refine xs_end ?_
    refine sq_nk ⟨[1, 3, 4, 28], [1], [], []⟩ ⟨[(1, .ptr 1 0), (3, I l4_1), (4, I l4_2), (28, B (!r6))], [(1, .box 24 (bxc (GTariff.cs a0t)))]⟩ krf ?_
    refine sim_cond (!r6) krf ?_ ?_
    ·refine sim_run Try.fm ⟨[2], [], [], []⟩ ⟨[(2, B false)], []⟩ krf ?_
     refine sim_ret ?_
     refine sq_r ?_
     refine bq_r ?_
     refine sq_r ?_
     refine kq_r ?_
     refine bq_r ?_
     refine sq_r ?_
     exact rq_ret (.id) krf krf krf
    ·refine sim_skip ?_
     refine sq_nk ⟨[1, 3, 4], [1], [], []⟩ ⟨[(1, .ptr 1 0), (3, I l4_1), (4, I l4_2)], [(1, .box 24 (bxc (GTariff.cs a0t)))]⟩ krf ?_
     refine sim_seq ?_
     refine sim_reg ?_
     refine xs_run 3 krf ?_
     refine xs_get krf krf (aop_idx (e := 75) (S := 7) (enc := GArticle.cs) (l := a0t.Articles) (k := .i64) (n := l4_2) (sv := .p (.sl 7 (List.map GArticle.cs a0t.Articles))) rfl krf krf krf krf krf) (fun x7 => ?_)
     refine xs_run 3 krf ?_
     refine xs_end ?_
     refine sq_nk ⟨[1, 3, 4, 35], [1], [], []⟩ ⟨[(1, .ptr 1 0), (3, I l4_1), (4, I l4_2), (35, B (eqI x7.Kind 6))], [(1, .box 24 (bxc (GTariff.cs a0t)))]⟩ krf ?_
     refine sim_cond (eqI x7.Kind 6) krf ?_ ?_
     ·refine sim_last Try.fm krf ?_
      refine bq_n ?_
      refine sq_nk ⟨[1, 3, 4], [1], [], []⟩ ⟨[(1, .ptr 1 0), (3, I (wi (l4_1 + 1))), (4, I l4_2)], [(1, .box 24 (bxc (GTariff.cs a0t)))]⟩ krf ?_
      refine sim_last Try.fm krf ?_
      exact kq_n (wi (l4_1 + 1), wi (l4_2 + 1)) ⟨[1, 3, 4], [1], [], []⟩ krf
     ·refine sim_skip ?_
      refine bq_n ?_
      refine sq_nk ⟨[1, 3, 4], [1], [], []⟩ ⟨[(1, .ptr 1 0), (3, I l4_1), (4, I l4_2)], [(1, .box 24 (bxc (GTariff.cs a0t)))]⟩ krf ?_
      refine sim_last Try.fm krf ?_
      exact kq_n (l4_1, wi (l4_2 + 1)) ⟨[1, 3, 4], [1], [], []⟩ krf
   ·refine sim_exit ?_
    refine sq_x ?_
    refine kq_x ?_
    refine bq_hit ?_
    refine sq_nk ⟨[3], [], [], []⟩ ⟨[(3, I l4_1)], []⟩ krf ?_
    refine sim_run Try.fm ⟨[2], [], [], []⟩ ⟨[(2, B (leI l4_1 1))], []⟩ krf ?_
    refine sim_ret ?_
    exact rq_ret (.id) krf krf krf
def g_ref26_offset (n : Nat) (a0n : Int) : Option Bool :=
 cond (leI (-1440) a0n)
  (some (leI a0n 1440))
  (some false)
theorem g_ref26_offset_ok (n : Nat) (a0n : Int) : ∀ r, g_ref26_offset n a0n = some r → PCall Try.prog 44 [I a0n] (.ret (B r)) := by
 refine pcall_sim (X := fun r : Bool => AEnd.ret (B r)) Try.func44 rfl Try.ntmps44 rfl ?_
 unfold g_ref26_offset
 refine sim_run Try.fm ⟨[0], [], [], []⟩ ⟨[(0, I a0n)], []⟩ krf ?_
 refine sim_seq ?_
 refine sim_reg ?_
 refine xs_run 3 krf ?_
 refine xs_split (leI (-1440) a0n) (fun h1 => ?_) (fun h1 => ?_)
 ·refine xs_one (want_tt krf h1) krf ?_
  refine xs_run 3 krf ?_
  refine xs_end ?_
  refine sq_nk ⟨[2], [], [], []⟩ ⟨[(2, B (leI a0n 1440))], []⟩ krf ?_
  refine sim_ret ?_
  exact rq_ret (.id) krf krf krf
 ·refine xs_no (want_tf krf h1) krf ?_
  refine xs_run 3 krf ?_
  refine xs_end ?_
  refine sq_nk ⟨[2], [], [], []⟩ ⟨[(2, B false)], []⟩ krf ?_
  refine sim_ret ?_
  exact rq_ret (.id) krf krf krf
def g_ref26_Valid_l6 (a0c : GCalendar) (recl6 : Int → Option Bool) (l6 : Int) : Option Bool :=
 cond (ltI l6 (lenI (List.map ci a0c.Holidays)))
  ((getI a0c.Holidays l6).bind fun x7 =>
  (cond (ltI x7 0)
   (some true)
   (cond (ltI 36500 x7)
    (some true)
    (cond (ltI 0 l6)
     ((getI a0c.Holidays (wi (l6 - 1))).bind fun x12 =>
     some (leI x7 x12))
     (some false)))).bind fun j8 =>
  cond j8
   (some false)
   (recl6 (wi (l6 + 1))))
  (some true)
def g_ref26_Valid_j5 (n : Nat) (a0c : GCalendar) : Option Bool :=
 loopN (fun recl6 l6 => g_ref26_Valid_l6 a0c recl6 l6) n 0
def g_ref26_Valid_l13 (n : Nat) (a0c : GCalendar) (recl13 : Int → Option Bool) (l13 : Int) : Option Bool :=
 cond (ltI l13 (lenI (List.map GChange.cs a0c.Changes)))
  ((getI a0c.Changes l13).bind fun x14 =>
  ((g_ref26_offset n x14.Offset).bind fun r16 =>
  cond (!r16)
   (some true)
   (cond (ltI x14.At 0)
    (some true)
    (cond (ltI 52560000 x14.At)
     (some true)
     (cond (ltI 0 l13)
      ((getI a0c.Changes (wi (l13 - 1))).bind fun x21 =>
      some (leI x14.At x21.At))
      (some false))))).bind fun j15 =>
  cond j15
   (some false)
   (recl13 (wi (l13 + 1))))
  (g_ref26_Valid_j5 n a0c)
def g_ref26_Valid (n : Nat) (a0c : GCalendar) : Option Bool :=
 ((g_ref26_offset n a0c.Offset).bind fun r2 =>
 cond (!r2)
  (some true)
  (cond (ltI 16 (lenI (List.map GChange.cs a0c.Changes)))
   (some true)
   (some (ltI 32 (lenI (List.map ci a0c.Holidays)))))).bind fun j1 =>
 cond j1
  (some false)
  (loopN (fun recl13 l13 => g_ref26_Valid_l13 n a0c recl13 l13) n 0)
theorem g_ref26_Valid_ok (n : Nat) (a0c : GCalendar) : ∀ r, g_ref26_Valid n a0c = some r → PCall Try.prog 20 [ag (GCalendar.cs a0c)] (.ret (B r)) := by
 refine pcall_sim (X := fun r : Bool => AEnd.ret (B r)) Try.func20 rfl Try.ntmps20 rfl ?_
 unfold g_ref26_Valid
 refine sim_run Try.fm ⟨[1], [1], [], []⟩ ⟨[(1, .ptr 1 0)], [(1, .box 28 (bxc (GCalendar.cs a0c)))]⟩ krf ?_
 refine sim_seq ?_
 refine sim_bind (fun j1 => ⟨[(1, .ptr 1 0), (22, B j1)], [(1, .box 28 (bxc (GCalendar.cs a0c)))]⟩ : Bool → St) ?_ ?_
 ·refine sim_reg ?_
  refine xs_run 2 krf ?_
  refine xs_call [] krf (g_ref26_offset_ok n a0c.Offset) krf krf (fun _ => by kernel_rfl) (fun r2 => ?_)
  refine xs_run 2 krf ?_
  refine xs_split (!r2) (fun h3 => ?_) (fun h3 => ?_)
  ·refine xs_no (want_ft krf h3) krf ?_
   refine xs_run 10 krf ?_
   refine xs_end ?_
   exact nq_n true ⟨[1, 22], [1], [], []⟩ krf
  ·refine xs_one (want_ff krf h3) krf ?_
   refine xs_run 5 krf ?_
   refine xs_split (ltI 16 (lenI (List.map GChange.cs a0c.Changes))) (fun h4 => ?_) (fun h4 => ?_)
   ·refine xs_no (want_ft krf h4) krf ?_
    refine xs_run 4 krf ?_
    refine xs_end ?_
    exact nq_n true ⟨[1, 22], [1], [], []⟩ krf
   ·refine xs_one (want_ff krf h4) krf ?_
    refine xs_run 4 krf ?_
    refine xs_end ?_
    exact nq_n (ltI 32 (lenI (List.map ci a0c.Holidays))) ⟨[1, 22], [1], [], []⟩ krf
 ·rintro j1
  refine sim_cond j1 krf ?_ ?_
  ·refine sim_run Try.fm ⟨[2], [], [], []⟩ ⟨[(2, B false)], []⟩ krf ?_
   refine sim_ret ?_
   refine sq_r ?_
   exact rq_ret (.id) krf krf krf
  ·refine sim_skip ?_
   refine sq_nk ⟨[1], [1], [], []⟩ ⟨[(1, .ptr 1 0)], [(1, .box 28 (bxc (GCalendar.cs a0c)))]⟩ krf ?_
   refine sim_cps (fun _ => ⟨[(1, .ptr 1 0)], [(1, .box 28 (bxc (GCalendar.cs a0c)))]⟩ : Unit → St) (fun _ => g_ref26_Valid_j5 n a0c) ?_ ?_
   ·rintro _
    show SimE (g_ref26_Valid_j5 n a0c) _ _ _ _ _ _
    unfold g_ref26_Valid_j5
    refine sim_seq ?_
    refine sim_run Try.fm ⟨[1, 5], [1], [], []⟩ ⟨[(1, .ptr 1 0), (5, I 0)], [(1, .box 28 (bxc (GCalendar.cs a0c)))]⟩ krf ?_
    refine sim_block ?_
    refine sim_loop (fun l6 => ⟨[(1, .ptr 1 0), (5, I l6)], [(1, .box 28 (bxc (GCalendar.cs a0c)))]⟩ : Int → St) (weak_shr (K := ⟨[1, 5], [1], [], []⟩) krf) ?_
    rintro recl6 l6
    show SimE (g_ref26_Valid_l6 a0c recl6 l6) _ _ _ _ _ _
    unfold g_ref26_Valid_l6
    refine sim_seq ?_
    refine sim_run Try.fm ⟨[1, 5, 69], [1], [], []⟩ ⟨[(1, .ptr 1 0), (5, I l6), (69, B (ltI l6 (lenI (List.map ci a0c.Holidays))))], [(1, .box 28 (bxc (GCalendar.cs a0c)))]⟩ krf ?_
    refine sim_cond (ltI l6 (lenI (List.map ci a0c.Holidays))) krf ?_ ?_
    ·refine sim_skip ?_
     refine sq_nk ⟨[1, 5], [1], [], []⟩ ⟨[(1, .ptr 1 0), (5, I l6)], [(1, .box 28 (bxc (GCalendar.cs a0c)))]⟩ krf ?_
     refine sim_seq ?_
     refine sim_block ?_
     refine sim_seq ?_
     refine sim_reg ?_
     refine xs_run 3 krf ?_
     refine xs_get krf krf (aop_idx (e := 3) (S := 1) (enc := ci) (l := a0c.Holidays) (k := .i64) (n := l6) (sv := .p (.sl 1 (List.map ci a0c.Holidays))) rfl krf krf krf krf krf) (fun x7 => ?_)
     refine xs_run 2 krf ?_
     refine xs_end ?_
     refine sq_nk ⟨[1, 5, 6], [1], [], []⟩ ⟨[(1, .ptr 1 0), (5, I l6), (6, I x7)], [(1, .box 28 (bxc (GCalendar.cs a0c)))]⟩ krf ?_
     refine sim_bind (fun j8 => ⟨[(1, .ptr 1 0), (5, I l6), (96, B j8)], [(1, .box 28 (bxc (GCalendar.cs a0c)))]⟩ : Bool → St) ?_ ?_
     ·refine sim_reg ?_
      refine xs_run 3 krf ?_
      refine xs_split (ltI x7 0) (fun h9 => ?_) (fun h9 => ?_)
      ·refine xs_no (want_ft krf h9) krf ?_
       refine xs_run 16 krf ?_
       refine xs_end ?_
       exact nq_n true ⟨[1, 5, 96], [1], [], []⟩ krf
      ·refine xs_one (want_ff krf h9) krf ?_
       refine xs_run 3 krf ?_
       refine xs_split (ltI 36500 x7) (fun h10 => ?_) (fun h10 => ?_)
       ·refine xs_no (want_ft krf h10) krf ?_
        refine xs_run 12 krf ?_
        refine xs_end ?_
        exact nq_n true ⟨[1, 5, 96], [1], [], []⟩ krf
       ·refine xs_one (want_ff krf h10) krf ?_
        refine xs_run 2 krf ?_
        refine xs_split (ltI 0 l6) (fun h11 => ?_) (fun h11 => ?_)
        ·refine xs_one (want_tt krf h11) krf ?_
         refine xs_run 4 krf ?_
         refine xs_get krf krf (aop_idx (e := 3) (S := 1) (enc := ci) (l := a0c.Holidays) (k := .i64) (n := wi (l6 - 1)) (sv := .p (.sl 1 (List.map ci a0c.Holidays))) rfl krf krf krf krf krf) (fun x12 => ?_)
         refine xs_run 4 krf ?_
         refine xs_end ?_
         exact nq_n (leI x7 x12) ⟨[1, 5, 96], [1], [], []⟩ krf
        ·refine xs_no (want_tf krf h11) krf ?_
         refine xs_run 9 krf ?_
         refine xs_end ?_
         exact nq_n false ⟨[1, 5, 96], [1], [], []⟩ krf
     ·rintro j8
      refine sim_cond j8 krf ?_ ?_
      ·refine sim_run Try.fm ⟨[2], [], [], []⟩ ⟨[(2, B false)], []⟩ krf ?_
       refine sim_ret ?_
       refine bq_r ?_
       refine sq_r ?_
       refine kq_r ?_
       refine bq_r ?_
       refine sq_r ?_
       exact rq_ret (.id) krf krf krf
      ·refine sim_skip ?_
       refine bq_n ?_
       refine sq_nk ⟨[1, 5], [1], [], []⟩ ⟨[(1, .ptr 1 0), (5, I l6)], [(1, .box 28 (bxc (GCalendar.cs a0c)))]⟩ krf ?_
       refine sim_last Try.fm krf ?_
       exact kq_n (wi (l6 + 1)) ⟨[1, 5], [1], [], []⟩ krf
    ·refine sim_exit ?_
     refine sq_x ?_
     refine kq_x ?_
     refine bq_hit ?_
     refine sq_nk ⟨[], [], [], []⟩ ⟨[], []⟩ krf ?_
     refine sim_run Try.fm ⟨[2], [], [], []⟩ ⟨[(2, B true)], []⟩ krf ?_
     refine sim_ret ?_
     exact rq_ret (.id) krf krf krf
   ·refine sim_run Try.fm ⟨[1, 3], [1], [], []⟩ ⟨[(1, .ptr 1 0), (3, I 0)], [(1, .box 28 (bxc (GCalendar.cs a0c)))]⟩ krf ?_
    refine sim_block ?_
    refine sim_loop (fun l13 => ⟨[(1, .ptr 1 0), (3, I l13)], [(1, .box 28 (bxc (GCalendar.cs a0c)))]⟩ : Int → St) (weak_shr (K := ⟨[1, 3], [1], [], []⟩) krf) ?_
    rintro recl13 l13
    show SimE (g_ref26_Valid_l13 n a0c recl13 l13) _ _ _ _ _ _
    unfold g_ref26_Valid_l13
    refine sim_seq ?_
    refine sim_run Try.fm ⟨[1, 3, 27], [1], [], []⟩ ⟨[(1, .ptr 1 0), (3, I l13), (27, B (ltI l13 (lenI (List.map GChange.cs a0c.Changes))))], [(1, .box 28 (bxc (GCalendar.cs a0c)))]⟩ krf ?_
    refine sim_cond (ltI l13 (lenI (List.map GChange.cs a0c.Changes))) krf ?_ ?_
    ·refine sim_skip ?_
     refine sq_nk ⟨[1, 3], [1], [], []⟩ ⟨[(1, .ptr 1 0), (3, I l13)], [(1, .box 28 (bxc (GCalendar.cs a0c)))]⟩ krf ?_
     refine sim_seq ?_
     refine sim_block ?_
     refine sim_seq ?_
     refine sim_reg ?_
     refine xs_run 3 krf ?_
     refine xs_get krf krf (aop_idx (e := 89) (S := 2) (enc := GChange.cs) (l := a0c.Changes) (k := .i64) (n := l13) (sv := .p (.sl 2 (List.map GChange.cs a0c.Changes))) rfl krf krf krf krf krf) (fun x14 => ?_)
     refine xs_run 3 krf ?_
     refine xs_end ?_
     refine sq_nk ⟨[1, 3, 4], [1, 4], [], []⟩ ⟨[(1, .ptr 1 0), (3, I l13), (4, .ptr 4 0)], [(1, .box 28 (bxc (GCalendar.cs a0c))), (4, .box 89 (bxc (GChange.cs x14)))]⟩ krf ?_
     refine sim_bind (fun j15 => ⟨[(1, .ptr 1 0), (3, I l13), (64, B j15)], [(1, .box 28 (bxc (GCalendar.cs a0c)))]⟩ : Bool → St) ?_ ?_
     ·refine sim_drw Try.fm rfl ?_
      refine xs_run 2 krf ?_
      refine xs_call [] krf (g_ref26_offset_ok n x14.Offset) krf krf (fun _ => by kernel_rfl) (fun r16 => ?_)
      refine xs_run 2 krf ?_
      refine xs_split (!r16) (fun h17 => ?_) (fun h17 => ?_)
      ·refine xs_no (want_ft krf h17) krf ?_
       refine xs_run 24 krf ?_
       refine xs_endD krf ?_
       exact nq_n true ⟨[1, 3, 64], [1], [], []⟩ krf
      ·refine xs_one (want_ff krf h17) krf ?_
       refine xs_run 4 krf ?_
       refine xs_split (ltI x14.At 0) (fun h18 => ?_) (fun h18 => ?_)
       ·refine xs_no (want_ft krf h18) krf ?_
        refine xs_run 19 krf ?_
        refine xs_endD krf ?_
        exact nq_n true ⟨[1, 3, 64], [1], [], []⟩ krf
       ·refine xs_one (want_ff krf h18) krf ?_
        refine xs_run 4 krf ?_
        refine xs_split (ltI 52560000 x14.At) (fun h19 => ?_) (fun h19 => ?_)
        ·refine xs_no (want_ft krf h19) krf ?_
         refine xs_run 14 krf ?_
         refine xs_endD krf ?_
         exact nq_n true ⟨[1, 3, 64], [1], [], []⟩ krf
        ·refine xs_one (want_ff krf h19) krf ?_
         refine xs_run 2 krf ?_
         refine xs_split (ltI 0 l13) (fun h20 => ?_) (fun h20 => ?_)
         ·refine xs_one (want_tt krf h20) krf ?_
          refine xs_run 5 krf ?_
          refine xs_get krf krf (aop_idx (e := 89) (S := 2) (enc := GChange.cs) (l := a0c.Changes) (k := .i64) (n := wi (l13 - 1)) (sv := .p (.sl 2 (List.map GChange.cs a0c.Changes))) rfl krf krf krf krf krf) (fun x21 => ?_)
          refine xs_run 5 krf ?_
          refine xs_endD krf ?_
          exact nq_n (leI x14.At x21.At) ⟨[1, 3, 64], [1], [], []⟩ krf
         ·refine xs_no (want_tf krf h20) krf ?_
          refine xs_run 11 krf ?_
          refine xs_endD krf ?_
          exact nq_n false ⟨[1, 3, 64], [1], [], []⟩ krf
     ·rintro j15
      refine sim_cond j15 krf ?_ ?_
      ·refine sim_run Try.fm ⟨[2], [], [], []⟩ ⟨[(2, B false)], []⟩ krf ?_
       refine sim_ret ?_
       refine bq_r ?_
       refine sq_r ?_
       refine kq_r ?_
       refine bq_r ?_
       refine kq_r ?_
       exact rq_ret (.id) krf krf krf
      ·refine sim_skip ?_
       refine bq_n ?_
       refine sq_nk ⟨[1, 3], [1], [], []⟩ ⟨[(1, .ptr 1 0), (3, I l13)], [(1, .box 28 (bxc (GCalendar.cs a0c)))]⟩ krf ?_
       refine sim_last Try.fm krf ?_
       exact kq_n (wi (l13 + 1)) ⟨[1, 3], [1], [], []⟩ krf
    ·refine sim_exit ?_
     refine sq_x ?_
     refine kq_x ?_
     refine bq_hit ?_
     exact kq_n (k := fun _ => g_ref26_Valid_j5 n a0c) () ⟨[1], [1], [], []⟩ krf
def g_ref43_At_l1 (a0l : List GReading) (a1minute : Int) (recl1 : (Int × Int) → Option Int) (l1_1 : Int) (l1_2 : Int) : Option Int :=
 cond (ltI l1_2 (lenI (List.map GReading.cs a0l)))
  ((getI a0l l1_2).bind fun x2 =>
  cond (leI x2.Minute a1minute)
   (recl1 (wi (l1_2 + 1), wi (l1_2 + 1)))
   (recl1 (l1_1, wi (l1_2 + 1))))
  (some l1_1)
def g_ref43_At (n : Nat) (a0l : List GReading) (a1minute : Int) : Option Int :=
 loopN (fun recl1 (l1_1, l1_2) => g_ref43_At_l1 a0l a1minute recl1 l1_1 l1_2) n (0, 0)
theorem g_ref43_At_ok (n : Nat) (a0l : List GReading) (a1minute : Int) : ∀ r, g_ref43_At n a0l a1minute = some r → PCall Try.prog 46 [.p (.sl 5 (List.map GReading.cs a0l)), I a1minute] (.ret (I r)) := by
 refine pcall_sim (X := fun r : Int => AEnd.ret (I r)) Try.func46 rfl Try.ntmps46 rfl ?_
 unfold g_ref43_At
 refine sim_run Try.fm ⟨[0, 1], [], [], []⟩ ⟨[(0, .p (.sl 5 (List.map GReading.cs a0l))), (1, I a1minute)], []⟩ krf ?_
 refine sim_run Try.fm ⟨[0, 1, 5], [], [], []⟩ ⟨[(0, .p (.sl 5 (List.map GReading.cs a0l))), (1, I a1minute), (5, I 0)], []⟩ krf ?_
 refine sim_seq ?_
 refine sim_run Try.fm ⟨[0, 1, 5, 6], [], [], []⟩ ⟨[(0, .p (.sl 5 (List.map GReading.cs a0l))), (1, I a1minute), (5, I 0), (6, I 0)], []⟩ krf ?_
 refine sim_block ?_
 refine sim_loop (fun (l1_1, l1_2) => ⟨[(0, .p (.sl 5 (List.map GReading.cs a0l))), (1, I a1minute), (5, I l1_1), (6, I l1_2)], []⟩ : (Int × Int) → St) (weak_shr (K := ⟨[0, 1, 5, 6], [], [], []⟩) krf) ?_
 rintro recl1 ⟨l1_1, l1_2⟩
 show SimE (g_ref43_At_l1 a0l a1minute recl1 l1_1 l1_2) _ _ _ _ _ _
 unfold g_ref43_At_l1
 refine sim_seq ?_
 refine sim_run Try.fm ⟨[0, 1, 5, 6, 10], [], [], []⟩ ⟨[(0, .p (.sl 5 (List.map GReading.cs a0l))), (1, I a1minute), (5, I l1_1), (6, I l1_2), (10, B (ltI l1_2 (lenI (List.map GReading.cs a0l))))], []⟩ krf ?_
 refine sim_cond (ltI l1_2 (lenI (List.map GReading.cs a0l))) krf ?_ ?_
 ·refine sim_skip ?_
  refine sq_nk ⟨[0, 1, 5, 6], [], [], []⟩ ⟨[(0, .p (.sl 5 (List.map GReading.cs a0l))), (1, I a1minute), (5, I l1_1), (6, I l1_2)], []⟩ krf ?_
  refine sim_seq ?_
  refine sim_block ?_
  refine sim_seq ?_
  refine sim_reg ?_
  refine xs_run 2 krf ?_
  refine xs_get krf krf (aop_idx (e := 48) (S := 5) (enc := GReading.cs) (l := a0l) (k := .i64) (n := l1_2) (sv := .p (.sl 5 (List.map GReading.cs a0l))) rfl krf krf krf krf krf) (fun x2 => ?_)
  refine xs_run 4 krf ?_
  refine xs_end ?_
  refine sq_nk ⟨[0, 1, 5, 6, 19], [], [], []⟩ ⟨[(0, .p (.sl 5 (List.map GReading.cs a0l))), (1, I a1minute), (5, I l1_1), (6, I l1_2), (19, B (leI x2.Minute a1minute))], []⟩ krf ?_
  refine sim_cond (leI x2.Minute a1minute) krf ?_ ?_
  ·refine sim_last Try.fm krf ?_
   refine bq_n ?_
   refine sq_nk ⟨[0, 1, 5, 6], [], [], []⟩ ⟨[(0, .p (.sl 5 (List.map GReading.cs a0l))), (1, I a1minute), (5, I (wi (l1_2 + 1))), (6, I l1_2)], []⟩ krf ?_
   refine sim_last Try.fm krf ?_
   exact kq_n (wi (l1_2 + 1), wi (l1_2 + 1)) ⟨[0, 1, 5, 6], [], [], []⟩ krf
  ·refine sim_skip ?_
   refine bq_n ?_
   refine sq_nk ⟨[0, 1, 5, 6], [], [], []⟩ ⟨[(0, .p (.sl 5 (List.map GReading.cs a0l))), (1, I a1minute), (5, I l1_1), (6, I l1_2)], []⟩ krf ?_
   refine sim_last Try.fm krf ?_
   exact kq_n (l1_1, wi (l1_2 + 1)) ⟨[0, 1, 5, 6], [], [], []⟩ krf
 ·refine sim_exit ?_
  refine sq_x ?_
  refine kq_x ?_
  refine bq_hit ?_
  refine sq_nk ⟨[5], [], [], []⟩ ⟨[(5, I l1_1)], []⟩ krf ?_
  refine sim_run Try.fm ⟨[4], [], [], []⟩ ⟨[(4, I l1_1)], []⟩ krf ?_
  refine sim_ret ?_
  exact rq_ret (.id) krf krf krf
def g_ref40_Ordered_l1 (n : Nat) (a0l : List GReading) (recl1 : Int → Option Bool) (l1 : Int) : Option Bool :=
 cond (ltI l1 (lenI (List.map GReading.cs a0l)))
  ((g_ref40_fits n a0l l1).bind fun r2 =>
  cond (!r2)
   (some false)
   (recl1 (wi (l1 + 1))))
  (some true)
def g_ref40_Ordered (n : Nat) (a0l : List GReading) : Option Bool :=
 loopN (fun recl1 l1 => g_ref40_Ordered_l1 n a0l recl1 l1) n 0
theorem g_ref40_Ordered_ok (n : Nat) (a0l : List GReading) : ∀ r, g_ref40_Ordered n a0l = some r → PCall Try.prog 69 [.p (.sl 5 (List.map GReading.cs a0l))] (.ret (B r)) := by
 refine pcall_sim (X := fun r : Bool => AEnd.ret (B r)) Try.func69 rfl Try.ntmps69 rfl ?_
 unfold g_ref40_Ordered
 refine sim_run Try.fm ⟨[0], [], [], []⟩ ⟨[(0, .p (.sl 5 (List.map GReading.cs a0l)))], []⟩ krf ?_
 refine sim_seq ?_
 refine sim_run Try.fm ⟨[0, 3], [], [], []⟩ ⟨[(0, .p (.sl 5 (List.map GReading.cs a0l))), (3, I 0)], []⟩ krf ?_
 refine sim_block ?_
 refine sim_loop (fun l1 => ⟨[(0, .p (.sl 5 (List.map GReading.cs a0l))), (3, I l1)], []⟩ : Int → St) (weak_shr (K := ⟨[0, 3], [], [], []⟩) krf) ?_
 rintro recl1 l1
 show SimE (g_ref40_Ordered_l1 n a0l recl1 l1) _ _ _ _ _ _
 unfold g_ref40_Ordered_l1
 refine sim_seq ?_
 refine sim_run Try.fm ⟨[0, 3, 7], [], [], []⟩ ⟨[(0, .p (.sl 5 (List.map GReading.cs a0l))), (3, I l1), (7, B (ltI l1 (lenI (List.map GReading.cs a0l))))], []⟩ krf ?_
 refine sim_cond (ltI l1 (lenI (List.map GReading.cs a0l))) krf ?_ ?_
 ·refine sim_skip ?_
  refine sq_nk ⟨[0, 3], [], [], []⟩ ⟨[(0, .p (.sl 5 (List.map GReading.cs a0l))), (3, I l1)], []⟩ krf ?_
  refine sim_seq ?_
  refine sim_block ?_
  refine sim_seq ?_
  refine sim_reg ?_
  refine xs_run 2 krf ?_
  refine xs_call [] krf (g_ref40_fits_ok n a0l l1) krf krf (fun _ => by kernel_rfl) (fun r2 => ?_)
  refine xs_run 1 krf ?_
  refine xs_end ?_
  refine sq_nk ⟨[0, 3, 13], [], [], []⟩ ⟨[(0, .p (.sl 5 (List.map GReading.cs a0l))), (3, I l1), (13, B (!r2))], []⟩ krf ?_
  refine sim_cond (!r2) krf ?_ ?_
  ·refine sim_run Try.fm ⟨[2], [], [], []⟩ ⟨[(2, B false)], []⟩ krf ?_
   refine sim_ret ?_
   refine bq_r ?_
   refine sq_r ?_
   refine kq_r ?_
   refine bq_r ?_
   refine sq_r ?_
   exact rq_ret (.id) krf krf krf
  ·refine sim_skip ?_
   refine bq_n ?_
   refine sq_nk ⟨[0, 3], [], [], []⟩ ⟨[(0, .p (.sl 5 (List.map GReading.cs a0l))), (3, I l1)], []⟩ krf ?_
   refine sim_last Try.fm krf ?_
   exact kq_n (wi (l1 + 1)) ⟨[0, 3], [], [], []⟩ krf
 ·refine sim_exit ?_
  refine sq_x ?_
  refine kq_x ?_
  refine bq_hit ?_
  refine sq_nk ⟨[], [], [], []⟩ ⟨[], []⟩ krf ?_
  refine sim_run Try.fm ⟨[2], [], [], []⟩ ⟨[(2, B true)], []⟩ krf ?_
  refine sim_ret ?_
  exact rq_ret (.id) krf krf krf
def g_ref40_Energy_l6 (a0l : List GReading) (a2last : Int) (recl6 : (Int × Int) → Option (Int × Int)) (l6_1 : Int) (l6_2 : Int) : Option (Int × Int) :=
 cond (ltI l6_2 a2last)
  ((getI a0l l6_2).bind fun x7 =>
  (getI a0l (wi (l6_2 - 1))).bind fun x8 =>
  cond (eqI x7.Serial x8.Serial)
   ((getI a0l l6_2).bind fun x9 =>
   (getI a0l (wi (l6_2 - 1))).bind fun x10 =>
   recl6 (wi ((wi (l6_1 + x9.Register)) - x10.Register), wi (l6_2 + 1)))
   (recl6 (l6_1, wi (l6_2 + 1))))
  (some (l6_1, 0))
def g_ref40_Energy (n : Nat) (a0l : List GReading) (a1first : Int) (a2last : Int) : Option (Int × Int) :=
 ((g_ref40_Ordered n a0l).bind fun r2 =>
 cond (!r2)
  (some true)
  (cond (ltI a1first 1)
   (some true)
   (cond (ltI a2last a1first)
    (some true)
    (some (ltI (lenI (List.map GReading.cs a0l)) a2last))))).bind fun j1 =>
 cond j1
  (some (0, 1))
  (loopN (fun recl6 (l6_1, l6_2) => g_ref40_Energy_l6 a0l a2last recl6 l6_1 l6_2) n (0, a1first))
theorem g_ref40_Energy_ok (n : Nat) (a0l : List GReading) (a1first : Int) (a2last : Int) : ∀ r, g_ref40_Energy n a0l a1first a2last = some r → PCall Try.prog 45 [.p (.sl 5 (List.map GReading.cs a0l)), I a1first, I a2last] (.ret (.tup [I r.1, I r.2])) := by
 refine pcall_sim (X := fun r : Int × Int => AEnd.ret (.tup [I r.1, I r.2])) Try.func45 rfl Try.ntmps45 rfl ?_
 unfold g_ref40_Energy
 refine sim_run Try.fm ⟨[0, 1, 2], [], [], []⟩ ⟨[(0, .p (.sl 5 (List.map GReading.cs a0l))), (1, I a1first), (2, I a2last)], []⟩ krf ?_
 refine sim_seq ?_
 refine sim_bind (fun j1 => ⟨[(0, .p (.sl 5 (List.map GReading.cs a0l))), (1, I a1first), (2, I a2last), (27, B j1)], []⟩ : Bool → St) ?_ ?_
 ·refine sim_reg ?_
  refine xs_run 1 krf ?_
  refine xs_call [] krf (g_ref40_Ordered_ok n a0l) krf krf (fun _ => by kernel_rfl) (fun r2 => ?_)
  refine xs_run 2 krf ?_
  refine xs_split (!r2) (fun h3 => ?_) (fun h3 => ?_)
  ·refine xs_no (want_ft krf h3) krf ?_
   refine xs_run 13 krf ?_
   refine xs_end ?_
   exact nq_n true ⟨[0, 1, 2, 27], [], [], []⟩ krf
  ·refine xs_one (want_ff krf h3) krf ?_
   refine xs_run 3 krf ?_
   refine xs_split (ltI a1first 1) (fun h4 => ?_) (fun h4 => ?_)
   ·refine xs_no (want_ft krf h4) krf ?_
    refine xs_run 9 krf ?_
    refine xs_end ?_
    exact nq_n true ⟨[0, 1, 2, 27], [], [], []⟩ krf
   ·refine xs_one (want_ff krf h4) krf ?_
    refine xs_run 4 krf ?_
    refine xs_split (ltI a2last a1first) (fun h5 => ?_) (fun h5 => ?_)
    ·refine xs_no (want_ft krf h5) krf ?_
     refine xs_run 4 krf ?_
     refine xs_end ?_
     exact nq_n true ⟨[0, 1, 2, 27], [], [], []⟩ krf
    ·refine xs_one (want_ff krf h5) krf ?_
     refine xs_run 4 krf ?_
     refine xs_end ?_
     exact nq_n (ltI (lenI (List.map GReading.cs a0l)) a2last) ⟨[0, 1, 2, 27], [], [], []⟩ krf
 ·rintro j1
  refine sim_cond j1 krf ?_ ?_
  ·refine sim_run Try.fm ⟨[6, 7], [], [], []⟩ ⟨[(6, I 0), (7, I 1)], []⟩ krf ?_
   refine sim_ret ?_
   refine sq_r ?_
   exact rq_ret (.id) krf krf krf
  ·refine sim_skip ?_
   refine sq_nk ⟨[0, 1, 2], [], [], []⟩ ⟨[(0, .p (.sl 5 (List.map GReading.cs a0l))), (1, I a1first), (2, I a2last)], []⟩ krf ?_
   refine sim_run Try.fm ⟨[0, 1, 2, 8], [], [], []⟩ ⟨[(0, .p (.sl 5 (List.map GReading.cs a0l))), (1, I a1first), (2, I a2last), (8, I 0)], []⟩ krf ?_
   refine sim_seq ?_
   refine sim_run Try.fm ⟨[0, 2, 8, 9], [], [], []⟩ ⟨[(0, .p (.sl 5 (List.map GReading.cs a0l))), (2, I a2last), (8, I 0), (9, I a1first)], []⟩ krf ?_
   refine sim_block ?_
   refine sim_loop (fun (l6_1, l6_2) => ⟨[(0, .p (.sl 5 (List.map GReading.cs a0l))), (2, I a2last), (8, I l6_1), (9, I l6_2)], []⟩ : (Int × Int) → St) (weak_shr (K := ⟨[0, 2, 8, 9], [], [], []⟩) krf) ?_
   rintro recl6 ⟨l6_1, l6_2⟩
   show SimE (g_ref40_Energy_l6 a0l a2last recl6 l6_1 l6_2) _ _ _ _ _ _
   unfold g_ref40_Energy_l6
   refine sim_seq ?_
   refine sim_run Try.fm ⟨[0, 2, 8, 9, 31], [], [], []⟩ ⟨[(0, .p (.sl 5 (List.map GReading.cs a0l))), (2, I a2last), (8, I l6_1), (9, I l6_2), (31, B (ltI l6_2 a2last))], []⟩ krf ?_
   refine sim_cond (ltI l6_2 a2last) krf ?_ ?_
   ·refine sim_skip ?_
    refine sq_nk ⟨[0, 2, 8, 9], [], [], []⟩ ⟨[(0, .p (.sl 5 (List.map GReading.cs a0l))), (2, I a2last), (8, I l6_1), (9, I l6_2)], []⟩ krf ?_
    refine sim_seq ?_
    refine sim_block ?_
    refine sim_seq ?_
    refine sim_drw Try.fm rfl ?_
    refine xs_run 2 krf ?_
    refine xs_get krf krf (aop_idx (e := 48) (S := 5) (enc := GReading.cs) (l := a0l) (k := .i64) (n := l6_2) (sv := .p (.sl 5 (List.map GReading.cs a0l))) rfl krf krf krf krf krf) (fun x7 => ?_)
    refine xs_run 5 krf ?_
    refine xs_get krf krf (aop_idx (e := 48) (S := 5) (enc := GReading.cs) (l := a0l) (k := .i64) (n := wi (l6_2 - 1)) (sv := .p (.sl 5 (List.map GReading.cs a0l))) rfl krf krf krf krf krf) (fun x8 => ?_)
    refine xs_run 3 krf ?_
    refine xs_endD krf ?_
    refine sq_nk ⟨[0, 2, 8, 9, 45], [], [], []⟩ ⟨[(0, .p (.sl 5 (List.map GReading.cs a0l))), (2, I a2last), (8, I l6_1), (9, I l6_2), (45, B (eqI x7.Serial x8.Serial))], []⟩ krf ?_
    refine sim_cond (eqI x7.Serial x8.Serial) krf ?_ ?_
    ·refine sim_drw Try.fm rfl ?_
     refine xs_run 3 krf ?_
     refine xs_get krf krf (aop_idx (e := 48) (S := 5) (enc := GReading.cs) (l := a0l) (k := .i64) (n := l6_2) (sv := .p (.sl 5 (List.map GReading.cs a0l))) rfl krf krf krf krf krf) (fun x9 => ?_)
     refine xs_run 6 krf ?_
     refine xs_get krf krf (aop_idx (e := 48) (S := 5) (enc := GReading.cs) (l := a0l) (k := .i64) (n := wi (l6_2 - 1)) (sv := .p (.sl 5 (List.map GReading.cs a0l))) rfl krf krf krf krf krf) (fun x10 => ?_)
     refine xs_run 4 krf ?_
     refine xs_endD krf ?_
     refine bq_n ?_
     refine sq_nk ⟨[0, 2, 8, 9], [], [], []⟩ ⟨[(0, .p (.sl 5 (List.map GReading.cs a0l))), (2, I a2last), (8, I (wi ((wi (l6_1 + x9.Register)) - x10.Register))), (9, I l6_2)], []⟩ krf ?_
     refine sim_last Try.fm krf ?_
     exact kq_n (wi ((wi (l6_1 + x9.Register)) - x10.Register), wi (l6_2 + 1)) ⟨[0, 2, 8, 9], [], [], []⟩ krf
    ·refine sim_skip ?_
     refine bq_n ?_
     refine sq_nk ⟨[0, 2, 8, 9], [], [], []⟩ ⟨[(0, .p (.sl 5 (List.map GReading.cs a0l))), (2, I a2last), (8, I l6_1), (9, I l6_2)], []⟩ krf ?_
     refine sim_last Try.fm krf ?_
     exact kq_n (l6_1, wi (l6_2 + 1)) ⟨[0, 2, 8, 9], [], [], []⟩ krf
   ·refine sim_exit ?_
    refine sq_x ?_
    refine kq_x ?_
    refine bq_hit ?_
    refine sq_nk ⟨[8], [], [], []⟩ ⟨[(8, I l6_1)], []⟩ krf ?_
    refine sim_run Try.fm ⟨[6, 7], [], [], []⟩ ⟨[(6, I l6_1), (7, I 0)], []⟩ krf ?_
    refine sim_ret ?_
    exact rq_ret (.id) krf krf krf
def g_ref43_Session_l3 (n : Nat) (a0l : List GReading) (x1 : GReading) (x2 : GReading) (recl3 : (Int × Int × (OL GSlice)) → Option GSession) (l3_1 : Int) (l3_2 : Int) (l3_3 : OL GSlice) : Option GSession :=
 cond (ltI l3_1 x2.Minute)
  ((g_ref43_At n a0l l3_1).bind fun r4 =>
  (g_ref43_At n a0l (wi (l3_1 + 1))).bind fun r5 =>
  (g_ref40_Energy n a0l r4 r5).bind fun r6 =>
  cond (!eqI r6.1 0)
   (cond (roomB (List.length (l3_3.toL ++ [(⟨l3_1, r6.1⟩ : GSlice)])) 16) (
    recl3 (wi (l3_1 + 1), wi (l3_1 + 1), OL.own (l3_3.toL ++ [(⟨l3_1, r6.1⟩ : GSlice)]))) none)
   (recl3 (wi (l3_1 + 1), l3_2, l3_3)))
  (some (⟨x1.Minute, x2.Minute, l3_2, l3_3.toL⟩ : GSession))
def g_ref43_Session (n : Nat) (a0l : List GReading) : Option GSession :=
 (getI a0l 0).bind fun x1 =>
 (getI a0l (wi ((lenI (List.map GReading.cs a0l)) - 1))).bind fun x2 =>
 cond (ltI 2880 (wi (x2.Minute - x1.Minute)))
  (some (⟨x1.Minute, x2.Minute, x1.Minute, []⟩ : GSession))
  (loopN (fun recl3 (l3_1, l3_2, l3_3) => g_ref43_Session_l3 n a0l x1 x2 recl3 l3_1 l3_2 l3_3) n (x1.Minute, x1.Minute, OL.nil))
theorem g_ref43_Session_ok (n : Nat) (a0l : List GReading) : ∀ r, g_ref43_Session n a0l = some r → PCall Try.prog 21 [.p (.sl 5 (List.map GReading.cs a0l))] (.ret (ag (GSession.cs r))) := by
 refine pcall_sim (X := fun r : GSession => AEnd.ret (ag (GSession.cs r))) Try.func21 rfl Try.ntmps21 rfl ?_
 unfold g_ref43_Session
 refine sim_run Try.fm ⟨[0, 2], [2], [], []⟩ ⟨[(0, .p (.sl 5 (List.map GReading.cs a0l))), (2, .ptr 2 0)], [(2, .box 33 [I 0, I 0, I 0, .p (.val (.slice none 0 0))])]⟩ krf ?_
 refine sim_seq ?_
 refine sim_drw Try.fm rfl ?_
 refine xs_run 1 krf ?_
 refine xs_get krf krf (aop_idx (e := 48) (S := 5) (enc := GReading.cs) (l := a0l) (k := .i64) (n := 0) (sv := .p (.sl 5 (List.map GReading.cs a0l))) rfl krf krf krf krf krf) (fun x1 => ?_)
 refine xs_run 6 krf ?_
 refine xs_get krf krf (aop_idx (e := 48) (S := 5) (enc := GReading.cs) (l := a0l) (k := .i64) (n := wi ((lenI (List.map GReading.cs a0l)) - 1)) (sv := .p (.sl 5 (List.map GReading.cs a0l))) rfl krf krf krf krf krf) (fun x2 => ?_)
 refine xs_run 5 krf ?_
 refine xs_endD krf ?_
 refine sq_nk ⟨[0, 2, 3], [2, 3], [], []⟩ ⟨[(0, .p (.sl 5 (List.map GReading.cs a0l))), (2, .ptr 2 0), (3, .ptr 3 0)], [(2, .box 33 [I 0, I 0, I 0, .p (.val (.slice none 0 0))]), (3, .box 33 [I x1.Minute, I x2.Minute, I 0, .p (.val (.slice none 0 0))])]⟩ krf ?_
 refine sim_run Try.fm ⟨[0, 2, 3], [2, 3], [], []⟩ ⟨[(0, .p (.sl 5 (List.map GReading.cs a0l))), (2, .ptr 2 0), (3, .ptr 3 0)], [(2, .box 33 [I 0, I 0, I 0, .p (.val (.slice none 0 0))]), (3, .box 33 [I x1.Minute, I x2.Minute, I x1.Minute, .p (.val (.slice none 0 0))])]⟩ krf ?_
 refine sim_seq ?_
 refine sim_run Try.fm ⟨[0, 2, 3, 27], [2, 3], [], []⟩ ⟨[(0, .p (.sl 5 (List.map GReading.cs a0l))), (2, .ptr 2 0), (3, .ptr 3 0), (27, B (ltI 2880 (wi (x2.Minute - x1.Minute))))], [(2, .box 33 [I 0, I 0, I 0, .p (.val (.slice none 0 0))]), (3, .box 33 [I x1.Minute, I x2.Minute, I x1.Minute, .p (.val (.slice none 0 0))])]⟩ krf ?_
 refine sim_cond (ltI 2880 (wi (x2.Minute - x1.Minute))) krf ?_ ?_
 ·refine sim_run Try.fm ⟨[2], [2], [], []⟩ ⟨[(2, .ptr 2 0)], [(2, .box 33 [I x1.Minute, I x2.Minute, I x1.Minute, .p (.val (.slice none 0 0))])]⟩ krf ?_
  refine sim_ret ?_
  refine sq_r ?_
  exact rq_ret (.agg [.id, .id, .id, .sl 2]) krf krf krf
 ·refine sim_skip ?_
  refine sq_nk ⟨[0, 2, 3], [2, 3], [], []⟩ ⟨[(0, .p (.sl 5 (List.map GReading.cs a0l))), (2, .ptr 2 0), (3, .ptr 3 0)], [(2, .box 33 [I 0, I 0, I 0, .p (.val (.slice none 0 0))]), (3, .box 33 [I x1.Minute, I x2.Minute, I x1.Minute, .p (.val (.slice none 0 0))])]⟩ krf ?_
  refine sim_seq ?_
  refine sim_run Try.fm ⟨[0, 2, 3, 4], [2, 3], [], []⟩ ⟨[(0, .p (.sl 5 (List.map GReading.cs a0l))), (2, .ptr 2 0), (3, .ptr 3 0), (4, I x1.Minute)], [(2, .box 33 [I 0, I 0, I 0, .p (.val (.slice none 0 0))]), (3, .box 33 [I x1.Minute, I x2.Minute, I x1.Minute, .p (.val (.slice none 0 0))])]⟩ krf ?_
  refine sim_block ?_
  refine sim_loop (fun (l3_1, l3_2, l3_3) => ⟨[(0, .p (.sl 5 (List.map GReading.cs a0l))), (2, .ptr 2 0), (3, .ptr 3 0), (4, I l3_1)], [(2, .box 33 [I 0, I 0, I 0, .p (.val (.slice none 0 0))]), (3, .box 33 [I x1.Minute, I x2.Minute, I l3_2, osl 2 GSlice.cs l3_3 57])] ++ oarr 52 2 GSlice.cs l3_3 57⟩ : (Int × Int × (OL GSlice)) → St) (weak_shr (K := ⟨[0, 2, 3, 4], [2, 3], [], []⟩) krf) ?_
  rintro recl3 ⟨l3_1, l3_2, l3_3⟩
  show SimE (g_ref43_Session_l3 n a0l x1 x2 recl3 l3_1 l3_2 l3_3) _ _ _ _ _ _
  unfold g_ref43_Session_l3
  rcases l3_3 with _ | ow_l3_3
  ·refine sim_seq ?_
   refine sim_run Try.fm ⟨[0, 2, 3, 4, 34], [2, 3], [], []⟩ ⟨[(0, .p (.sl 5 (List.map GReading.cs a0l))), (2, .ptr 2 0), (3, .ptr 3 0), (4, I l3_1), (34, B (ltI l3_1 x2.Minute))], [(2, .box 33 [I 0, I 0, I 0, .p (.val (.slice none 0 0))]), (3, .box 33 [I x1.Minute, I x2.Minute, I l3_2, .p (.val (.slice none 0 0))])]⟩ krf ?_
   refine sim_cond (ltI l3_1 x2.Minute) krf ?_ ?_
   ·refine sim_skip ?_
    refine sq_nk ⟨[0, 2, 3, 4], [2, 3], [], []⟩ ⟨[(0, .p (.sl 5 (List.map GReading.cs a0l))), (2, .ptr 2 0), (3, .ptr 3 0), (4, I l3_1)], [(2, .box 33 [I 0, I 0, I 0, .p (.val (.slice none 0 0))]), (3, .box 33 [I x1.Minute, I x2.Minute, I l3_2, .p (.val (.slice none 0 0))])]⟩ krf ?_
    refine sim_seq ?_
    refine sim_block ?_
    refine sim_seq ?_
    refine sim_reg ?_
    refine xs_run 3 krf ?_
    refine xs_call [] krf (g_ref43_At_ok n a0l l3_1) krf krf (fun _ => by kernel_rfl) (fun r4 => ?_)
    refine xs_run 3 krf ?_
    refine xs_call [] krf (g_ref43_At_ok n a0l (wi (l3_1 + 1))) krf krf (fun _ => by kernel_rfl) (fun r5 => ?_)
    refine xs_call [] krf (g_ref40_Energy_ok n a0l r4 r5) krf krf (fun _ => by kernel_rfl) (fun r6 => ?_)
    refine xs_run 5 krf ?_
    refine xs_end ?_
    refine sq_nk ⟨[0, 2, 3, 4, 5], [2, 3], [], []⟩ ⟨[(0, .p (.sl 5 (List.map GReading.cs a0l))), (2, .ptr 2 0), (3, .ptr 3 0), (4, I l3_1), (5, I r6.1)], [(2, .box 33 [I 0, I 0, I 0, .p (.val (.slice none 0 0))]), (3, .box 33 [I x1.Minute, I x2.Minute, I l3_2, .p (.val (.slice none 0 0))])]⟩ krf ?_
    refine sim_run Try.fm ⟨[0, 2, 3, 4, 5, 50], [2, 3], [], []⟩ ⟨[(0, .p (.sl 5 (List.map GReading.cs a0l))), (2, .ptr 2 0), (3, .ptr 3 0), (4, I l3_1), (5, I r6.1), (50, B (!eqI r6.1 0))], [(2, .box 33 [I 0, I 0, I 0, .p (.val (.slice none 0 0))]), (3, .box 33 [I x1.Minute, I x2.Minute, I l3_2, .p (.val (.slice none 0 0))])]⟩ krf ?_
    refine sim_cond (!eqI r6.1 0) krf ?_ ?_
    ·refine sim_seq ?_
     refine sim_reg ?_
     refine xs_run 6 krf ?_
     refine xs_if krf krf (aop_app0 (e := 52) (S := 2) (by_ := 16) (enc := GSlice.cs) (d := 57) (l2 := [(⟨l3_1, r6.1⟩ : GSlice)]) (xv := .tsl 2 (List.map GSlice.cs [(⟨l3_1, r6.1⟩ : GSlice)]) 56) rfl rfl krf krf rfl krf krf krf rfl krf) ?_
     refine xs_run 2 krf ?_
     refine xs_end ?_
     refine sq_nk ⟨[0, 2, 3, 4], [2, 3, 57], [], []⟩ ⟨[(0, .p (.sl 5 (List.map GReading.cs a0l))), (2, .ptr 2 0), (3, .ptr 3 0), (4, I l3_1)], [(2, .box 33 [I 0, I 0, I 0, .p (.val (.slice none 0 0))]), (3, .box 33 [I x1.Minute, I x2.Minute, I l3_2, .tsl 2 (List.map GSlice.cs (OL.nil.toL ++ [(⟨l3_1, r6.1⟩ : GSlice)])) 57]), (57, .arr 52 2 (List.map GSlice.cs (OL.nil.toL ++ [(⟨l3_1, r6.1⟩ : GSlice)])).length)]⟩ krf ?_
     refine sim_last Try.fm krf ?_
     refine bq_n ?_
     refine sq_nk ⟨[0, 2, 3, 4], [2, 3, 57], [], []⟩ ⟨[(0, .p (.sl 5 (List.map GReading.cs a0l))), (2, .ptr 2 0), (3, .ptr 3 0), (4, I l3_1)], [(2, .box 33 [I 0, I 0, I 0, .p (.val (.slice none 0 0))]), (3, .box 33 [I x1.Minute, I x2.Minute, I (wi (l3_1 + 1)), .tsl 2 (List.map GSlice.cs (OL.nil.toL ++ [(⟨l3_1, r6.1⟩ : GSlice)])) 57]), (57, .arr 52 2 (List.map GSlice.cs (OL.nil.toL ++ [(⟨l3_1, r6.1⟩ : GSlice)])).length)]⟩ krf ?_
     refine sim_last Try.fm krf ?_
     exact kq_n (wi (l3_1 + 1), wi (l3_1 + 1), OL.own (OL.nil.toL ++ [(⟨l3_1, r6.1⟩ : GSlice)])) ⟨[0, 2, 3, 4], [2, 3, 57], [], []⟩ krf
    ·refine sim_skip ?_
     refine bq_n ?_
     refine sq_nk ⟨[0, 2, 3, 4], [2, 3], [], []⟩ ⟨[(0, .p (.sl 5 (List.map GReading.cs a0l))), (2, .ptr 2 0), (3, .ptr 3 0), (4, I l3_1)], [(2, .box 33 [I 0, I 0, I 0, .p (.val (.slice none 0 0))]), (3, .box 33 [I x1.Minute, I x2.Minute, I l3_2, .p (.val (.slice none 0 0))])]⟩ krf ?_
     refine sim_last Try.fm krf ?_
     exact kq_n (wi (l3_1 + 1), l3_2, OL.nil) ⟨[0, 2, 3, 4], [2, 3], [], []⟩ krf
   ·refine sim_exit ?_
    refine sq_x ?_
    refine kq_x ?_
    refine bq_hit ?_
    refine sq_nk ⟨[2, 3], [2, 3], [], []⟩ ⟨[(2, .ptr 2 0), (3, .ptr 3 0)], [(2, .box 33 [I 0, I 0, I 0, .p (.val (.slice none 0 0))]), (3, .box 33 [I x1.Minute, I x2.Minute, I l3_2, .p (.val (.slice none 0 0))])]⟩ krf ?_
    refine sim_run Try.fm ⟨[2], [2], [], []⟩ ⟨[(2, .ptr 2 0)], [(2, .box 33 [I x1.Minute, I x2.Minute, I l3_2, .p (.val (.slice none 0 0))])]⟩ krf ?_
    refine sim_ret ?_
    exact rq_ret (.agg [.id, .id, .id, .sl 2]) krf krf krf
  ·refine sim_seq ?_
   refine sim_run Try.fm ⟨[0, 2, 3, 4, 34], [2, 3, 57], [], []⟩ ⟨[(0, .p (.sl 5 (List.map GReading.cs a0l))), (2, .ptr 2 0), (3, .ptr 3 0), (4, I l3_1), (34, B (ltI l3_1 x2.Minute))], [(2, .box 33 [I 0, I 0, I 0, .p (.val (.slice none 0 0))]), (3, .box 33 [I x1.Minute, I x2.Minute, I l3_2, .tsl 2 (List.map GSlice.cs (OL.own ow_l3_3).toL) 57]), (57, .arr 52 2 (List.map GSlice.cs (OL.own ow_l3_3).toL).length)]⟩ krf ?_
   refine sim_cond (ltI l3_1 x2.Minute) krf ?_ ?_
   ·refine sim_skip ?_
    refine sq_nk ⟨[0, 2, 3, 4], [2, 3, 57], [], []⟩ ⟨[(0, .p (.sl 5 (List.map GReading.cs a0l))), (2, .ptr 2 0), (3, .ptr 3 0), (4, I l3_1)], [(2, .box 33 [I 0, I 0, I 0, .p (.val (.slice none 0 0))]), (3, .box 33 [I x1.Minute, I x2.Minute, I l3_2, .tsl 2 (List.map GSlice.cs (OL.own ow_l3_3).toL) 57]), (57, .arr 52 2 (List.map GSlice.cs (OL.own ow_l3_3).toL).length)]⟩ krf ?_
    refine sim_seq ?_
    refine sim_block ?_
    refine sim_seq ?_
    refine sim_reg ?_
    refine xs_run 3 krf ?_
    refine xs_call [] krf (g_ref43_At_ok n a0l l3_1) krf krf (fun _ => by kernel_rfl) (fun r4 => ?_)
    refine xs_run 3 krf ?_
    refine xs_call [] krf (g_ref43_At_ok n a0l (wi (l3_1 + 1))) krf krf (fun _ => by kernel_rfl) (fun r5 => ?_)
    refine xs_call [] krf (g_ref40_Energy_ok n a0l r4 r5) krf krf (fun _ => by kernel_rfl) (fun r6 => ?_)
    refine xs_run 5 krf ?_
    refine xs_end ?_
    refine sq_nk ⟨[0, 2, 3, 4, 5], [2, 3, 57], [], []⟩ ⟨[(0, .p (.sl 5 (List.map GReading.cs a0l))), (2, .ptr 2 0), (3, .ptr 3 0), (4, I l3_1), (5, I r6.1)], [(2, .box 33 [I 0, I 0, I 0, .p (.val (.slice none 0 0))]), (3, .box 33 [I x1.Minute, I x2.Minute, I l3_2, .tsl 2 (List.map GSlice.cs (OL.own ow_l3_3).toL) 57]), (57, .arr 52 2 (List.map GSlice.cs (OL.own ow_l3_3).toL).length)]⟩ krf ?_
    refine sim_run Try.fm ⟨[0, 2, 3, 4, 5, 50], [2, 3, 57], [], []⟩ ⟨[(0, .p (.sl 5 (List.map GReading.cs a0l))), (2, .ptr 2 0), (3, .ptr 3 0), (4, I l3_1), (5, I r6.1), (50, B (!eqI r6.1 0))], [(2, .box 33 [I 0, I 0, I 0, .p (.val (.slice none 0 0))]), (3, .box 33 [I x1.Minute, I x2.Minute, I l3_2, .tsl 2 (List.map GSlice.cs (OL.own ow_l3_3).toL) 57]), (57, .arr 52 2 (List.map GSlice.cs (OL.own ow_l3_3).toL).length)]⟩ krf ?_
    refine sim_cond (!eqI r6.1 0) krf ?_ ?_
    ·refine sim_seq ?_
     refine sim_reg ?_
     refine xs_run 6 krf ?_
     refine xs_if krf krf (aop_app (e := 52) (S := 2) (by_ := 16) (enc := GSlice.cs) (tk := 57) (l := (OL.own ow_l3_3).toL) (l2 := [(⟨l3_1, r6.1⟩ : GSlice)]) (xv := .tsl 2 (List.map GSlice.cs [(⟨l3_1, r6.1⟩ : GSlice)]) 56) rfl krf krf rfl krf krf krf rfl krf) ?_
     refine xs_run 2 krf ?_
     refine xs_end ?_
     refine sq_nk ⟨[0, 2, 3, 4], [2, 3, 57], [], []⟩ ⟨[(0, .p (.sl 5 (List.map GReading.cs a0l))), (2, .ptr 2 0), (3, .ptr 3 0), (4, I l3_1)], [(2, .box 33 [I 0, I 0, I 0, .p (.val (.slice none 0 0))]), (3, .box 33 [I x1.Minute, I x2.Minute, I l3_2, .tsl 2 (List.map GSlice.cs ((OL.own ow_l3_3).toL ++ [(⟨l3_1, r6.1⟩ : GSlice)])) 57]), (57, .arr 52 2 (List.map GSlice.cs ((OL.own ow_l3_3).toL ++ [(⟨l3_1, r6.1⟩ : GSlice)])).length)]⟩ krf ?_
     refine sim_last Try.fm krf ?_
     refine bq_n ?_
     refine sq_nk ⟨[0, 2, 3, 4], [2, 3, 57], [], []⟩ ⟨[(0, .p (.sl 5 (List.map GReading.cs a0l))), (2, .ptr 2 0), (3, .ptr 3 0), (4, I l3_1)], [(2, .box 33 [I 0, I 0, I 0, .p (.val (.slice none 0 0))]), (3, .box 33 [I x1.Minute, I x2.Minute, I (wi (l3_1 + 1)), .tsl 2 (List.map GSlice.cs ((OL.own ow_l3_3).toL ++ [(⟨l3_1, r6.1⟩ : GSlice)])) 57]), (57, .arr 52 2 (List.map GSlice.cs ((OL.own ow_l3_3).toL ++ [(⟨l3_1, r6.1⟩ : GSlice)])).length)]⟩ krf ?_
     refine sim_last Try.fm krf ?_
     exact kq_n (wi (l3_1 + 1), wi (l3_1 + 1), OL.own ((OL.own ow_l3_3).toL ++ [(⟨l3_1, r6.1⟩ : GSlice)])) ⟨[0, 2, 3, 4], [2, 3, 57], [], []⟩ krf
    ·refine sim_skip ?_
     refine bq_n ?_
     refine sq_nk ⟨[0, 2, 3, 4], [2, 3, 57], [], []⟩ ⟨[(0, .p (.sl 5 (List.map GReading.cs a0l))), (2, .ptr 2 0), (3, .ptr 3 0), (4, I l3_1)], [(2, .box 33 [I 0, I 0, I 0, .p (.val (.slice none 0 0))]), (3, .box 33 [I x1.Minute, I x2.Minute, I l3_2, .tsl 2 (List.map GSlice.cs (OL.own ow_l3_3).toL) 57]), (57, .arr 52 2 (List.map GSlice.cs (OL.own ow_l3_3).toL).length)]⟩ krf ?_
     refine sim_last Try.fm krf ?_
     exact kq_n (wi (l3_1 + 1), l3_2, (OL.own ow_l3_3)) ⟨[0, 2, 3, 4], [2, 3, 57], [], []⟩ krf
   ·refine sim_exit ?_
    refine sq_x ?_
    refine kq_x ?_
    refine bq_hit ?_
    refine sq_nk ⟨[2, 3], [2, 3, 57], [], []⟩ ⟨[(2, .ptr 2 0), (3, .ptr 3 0)], [(2, .box 33 [I 0, I 0, I 0, .p (.val (.slice none 0 0))]), (3, .box 33 [I x1.Minute, I x2.Minute, I l3_2, .tsl 2 (List.map GSlice.cs (OL.own ow_l3_3).toL) 57]), (57, .arr 52 2 (List.map GSlice.cs (OL.own ow_l3_3).toL).length)]⟩ krf ?_
    refine sim_run Try.fm ⟨[2], [2, 57], [], []⟩ ⟨[(2, .ptr 2 0)], [(2, .box 33 [I x1.Minute, I x2.Minute, I l3_2, .tsl 2 (List.map GSlice.cs (OL.own ow_l3_3).toL) 57]), (57, .arr 52 2 (List.map GSlice.cs (OL.own ow_l3_3).toL).length)]⟩ krf ?_
    refine sim_ret ?_
    exact rq_ret (.agg [.id, .id, .id, .sl 2]) krf krf krf
def g_ref33_Valid_l8 (a0s : GSession) (recl8 : Int → Option Bool) (l8 : Int) : Option Bool :=
 cond (ltI l8 (lenI (List.map GSlice.cs a0s.Slices)))
  ((getI a0s.Slices l8).bind fun x9 =>
  (cond (ltI x9.Minute a0s.From)
   (some true)
   (cond (leI a0s.End x9.Minute)
    (some true)
    (cond (ltI x9.Energy 0)
     (some true)
     (cond (ltI 10000 x9.Energy)
      (some true)
      (cond (ltI 0 l8)
       ((getI a0s.Slices (wi (l8 - 1))).bind fun x16 =>
       some (leI x9.Minute x16.Minute))
       (some false)))))).bind fun j10 =>
  cond j10
   (some false)
   (recl8 (wi (l8 + 1))))
  (some true)
def g_ref33_Valid (n : Nat) (a0s : GSession) : Option Bool :=
 (cond (ltI a0s.From 0)
  (some true)
  (cond (leI a0s.To a0s.From)
   (some true)
   (cond (ltI 52560000 a0s.To)
    (some true)
    (cond (ltI 2880 (wi (a0s.To - a0s.From)))
     (some true)
     (cond (ltI a0s.End a0s.From)
      (some true)
      (cond (ltI a0s.To a0s.End)
       (some true)
       (some (ltI 48 (lenI (List.map GSlice.cs a0s.Slices)))))))))).bind fun j1 =>
 cond j1
  (some false)
  (loopN (fun recl8 l8 => g_ref33_Valid_l8 a0s recl8 l8) n 0)
theorem g_ref33_Valid_ok (n : Nat) (a0s : GSession) : ∀ r, g_ref33_Valid n a0s = some r → PCall Try.prog 22 [ag (GSession.cs a0s)] (.ret (B r)) := by
 refine pcall_sim (X := fun r : Bool => AEnd.ret (B r)) Try.func22 rfl Try.ntmps22 rfl ?_
 unfold g_ref33_Valid
 refine sim_run Try.fm ⟨[1], [1], [], []⟩ ⟨[(1, .ptr 1 0)], [(1, .box 33 (bxc (GSession.cs a0s)))]⟩ krf ?_
 refine sim_seq ?_
 refine sim_bind (fun j1 => ⟨[(1, .ptr 1 0), (47, B j1)], [(1, .box 33 (bxc (GSession.cs a0s)))]⟩ : Bool → St) ?_ ?_
 ·refine sim_reg ?_
  refine xs_run 4 krf ?_
  refine xs_split (ltI a0s.From 0) (fun h2 => ?_) (fun h2 => ?_)
  ·refine xs_no (want_ft krf h2) krf ?_
   refine xs_run 38 krf ?_
   refine xs_end ?_
   exact nq_n true ⟨[1, 47], [1], [], []⟩ krf
  ·refine xs_one (want_ff krf h2) krf ?_
   refine xs_run 6 krf ?_
   refine xs_split (leI a0s.To a0s.From) (fun h3 => ?_) (fun h3 => ?_)
   ·refine xs_no (want_ft krf h3) krf ?_
    refine xs_run 31 krf ?_
    refine xs_end ?_
    exact nq_n true ⟨[1, 47], [1], [], []⟩ krf
   ·refine xs_one (want_ff krf h3) krf ?_
    refine xs_run 4 krf ?_
    refine xs_split (ltI 52560000 a0s.To) (fun h4 => ?_) (fun h4 => ?_)
    ·refine xs_no (want_ft krf h4) krf ?_
     refine xs_run 26 krf ?_
     refine xs_end ?_
     exact nq_n true ⟨[1, 47], [1], [], []⟩ krf
    ·refine xs_one (want_ff krf h4) krf ?_
     refine xs_run 7 krf ?_
     refine xs_split (ltI 2880 (wi (a0s.To - a0s.From))) (fun h5 => ?_) (fun h5 => ?_)
     ·refine xs_no (want_ft krf h5) krf ?_
      refine xs_run 18 krf ?_
      refine xs_end ?_
      exact nq_n true ⟨[1, 47], [1], [], []⟩ krf
     ·refine xs_one (want_ff krf h5) krf ?_
      refine xs_run 6 krf ?_
      refine xs_split (ltI a0s.End a0s.From) (fun h6 => ?_) (fun h6 => ?_)
      ·refine xs_no (want_ft krf h6) krf ?_
       refine xs_run 11 krf ?_
       refine xs_end ?_
       exact nq_n true ⟨[1, 47], [1], [], []⟩ krf
      ·refine xs_one (want_ff krf h6) krf ?_
       refine xs_run 6 krf ?_
       refine xs_split (ltI a0s.To a0s.End) (fun h7 => ?_) (fun h7 => ?_)
       ·refine xs_no (want_ft krf h7) krf ?_
        refine xs_run 4 krf ?_
        refine xs_end ?_
        exact nq_n true ⟨[1, 47], [1], [], []⟩ krf
       ·refine xs_one (want_ff krf h7) krf ?_
        refine xs_run 4 krf ?_
        refine xs_end ?_
        exact nq_n (ltI 48 (lenI (List.map GSlice.cs a0s.Slices))) ⟨[1, 47], [1], [], []⟩ krf
 ·rintro j1
  refine sim_cond j1 krf ?_ ?_
  ·refine sim_run Try.fm ⟨[2], [], [], []⟩ ⟨[(2, B false)], []⟩ krf ?_
   refine sim_ret ?_
   refine sq_r ?_
   exact rq_ret (.id) krf krf krf
  ·refine sim_skip ?_
   refine sq_nk ⟨[1], [1], [], []⟩ ⟨[(1, .ptr 1 0)], [(1, .box 33 (bxc (GSession.cs a0s)))]⟩ krf ?_
   refine sim_seq ?_
   refine sim_run Try.fm ⟨[1, 3], [1], [], []⟩ ⟨[(1, .ptr 1 0), (3, I 0)], [(1, .box 33 (bxc (GSession.cs a0s)))]⟩ krf ?_
   refine sim_block ?_
   refine sim_loop (fun l8 => ⟨[(1, .ptr 1 0), (3, I l8)], [(1, .box 33 (bxc (GSession.cs a0s)))]⟩ : Int → St) (weak_shr (K := ⟨[1, 3], [1], [], []⟩) krf) ?_
   rintro recl8 l8
   show SimE (g_ref33_Valid_l8 a0s recl8 l8) _ _ _ _ _ _
   unfold g_ref33_Valid_l8
   refine sim_seq ?_
   refine sim_run Try.fm ⟨[1, 3, 52], [1], [], []⟩ ⟨[(1, .ptr 1 0), (3, I l8), (52, B (ltI l8 (lenI (List.map GSlice.cs a0s.Slices))))], [(1, .box 33 (bxc (GSession.cs a0s)))]⟩ krf ?_
   refine sim_cond (ltI l8 (lenI (List.map GSlice.cs a0s.Slices))) krf ?_ ?_
   ·refine sim_skip ?_
    refine sq_nk ⟨[1, 3], [1], [], []⟩ ⟨[(1, .ptr 1 0), (3, I l8)], [(1, .box 33 (bxc (GSession.cs a0s)))]⟩ krf ?_
    refine sim_seq ?_
    refine sim_block ?_
    refine sim_seq ?_
    refine sim_reg ?_
    refine xs_run 3 krf ?_
    refine xs_get krf krf (aop_idx (e := 52) (S := 2) (enc := GSlice.cs) (l := a0s.Slices) (k := .i64) (n := l8) (sv := .p (.sl 2 (List.map GSlice.cs a0s.Slices))) rfl krf krf krf krf krf) (fun x9 => ?_)
    refine xs_run 3 krf ?_
    refine xs_end ?_
    refine sq_nk ⟨[1, 3, 4], [1, 4], [], []⟩ ⟨[(1, .ptr 1 0), (3, I l8), (4, .ptr 4 0)], [(1, .box 33 (bxc (GSession.cs a0s))), (4, .box 52 (bxc (GSlice.cs x9)))]⟩ krf ?_
    refine sim_bind (fun j10 => ⟨[(1, .ptr 1 0), (3, I l8), (97, B j10)], [(1, .box 33 (bxc (GSession.cs a0s)))]⟩ : Bool → St) ?_ ?_
    ·refine sim_drw Try.fm rfl ?_
     refine xs_run 6 krf ?_
     refine xs_split (ltI x9.Minute a0s.From) (fun h11 => ?_) (fun h11 => ?_)
     ·refine xs_no (want_ft krf h11) krf ?_
      refine xs_run 31 krf ?_
      refine xs_endD krf ?_
      exact nq_n true ⟨[1, 3, 97], [1], [], []⟩ krf
     ·refine xs_one (want_ff krf h11) krf ?_
      refine xs_run 6 krf ?_
      refine xs_split (leI a0s.End x9.Minute) (fun h12 => ?_) (fun h12 => ?_)
      ·refine xs_no (want_ft krf h12) krf ?_
       refine xs_run 24 krf ?_
       refine xs_endD krf ?_
       exact nq_n true ⟨[1, 3, 97], [1], [], []⟩ krf
      ·refine xs_one (want_ff krf h12) krf ?_
       refine xs_run 4 krf ?_
       refine xs_split (ltI x9.Energy 0) (fun h13 => ?_) (fun h13 => ?_)
       ·refine xs_no (want_ft krf h13) krf ?_
        refine xs_run 19 krf ?_
        refine xs_endD krf ?_
        exact nq_n true ⟨[1, 3, 97], [1], [], []⟩ krf
       ·refine xs_one (want_ff krf h13) krf ?_
        refine xs_run 4 krf ?_
        refine xs_split (ltI 10000 x9.Energy) (fun h14 => ?_) (fun h14 => ?_)
        ·refine xs_no (want_ft krf h14) krf ?_
         refine xs_run 14 krf ?_
         refine xs_endD krf ?_
         exact nq_n true ⟨[1, 3, 97], [1], [], []⟩ krf
        ·refine xs_one (want_ff krf h14) krf ?_
         refine xs_run 2 krf ?_
         refine xs_split (ltI 0 l8) (fun h15 => ?_) (fun h15 => ?_)
         ·refine xs_one (want_tt krf h15) krf ?_
          refine xs_run 5 krf ?_
          refine xs_get krf krf (aop_idx (e := 52) (S := 2) (enc := GSlice.cs) (l := a0s.Slices) (k := .i64) (n := wi (l8 - 1)) (sv := .p (.sl 2 (List.map GSlice.cs a0s.Slices))) rfl krf krf krf krf krf) (fun x16 => ?_)
          refine xs_run 5 krf ?_
          refine xs_endD krf ?_
          exact nq_n (leI x9.Minute x16.Minute) ⟨[1, 3, 97], [1], [], []⟩ krf
         ·refine xs_no (want_tf krf h15) krf ?_
          refine xs_run 11 krf ?_
          refine xs_endD krf ?_
          exact nq_n false ⟨[1, 3, 97], [1], [], []⟩ krf
    ·rintro j10
     refine sim_cond j10 krf ?_ ?_
     ·refine sim_run Try.fm ⟨[2], [], [], []⟩ ⟨[(2, B false)], []⟩ krf ?_
      refine sim_ret ?_
      refine bq_r ?_
      refine sq_r ?_
      refine kq_r ?_
      refine bq_r ?_
      refine sq_r ?_
      exact rq_ret (.id) krf krf krf
     ·refine sim_skip ?_
      refine bq_n ?_
      refine sq_nk ⟨[1, 3], [1], [], []⟩ ⟨[(1, .ptr 1 0), (3, I l8)], [(1, .box 33 (bxc (GSession.cs a0s)))]⟩ krf ?_
      refine sim_last Try.fm krf ?_
      exact kq_n (wi (l8 + 1)) ⟨[1, 3], [1], [], []⟩ krf
   ·refine sim_exit ?_
    refine sq_x ?_
    refine kq_x ?_
    refine bq_hit ?_
    refine sq_nk ⟨[], [], [], []⟩ ⟨[], []⟩ krf ?_
    refine sim_run Try.fm ⟨[2], [], [], []⟩ ⟨[(2, B true)], []⟩ krf ?_
    refine sim_ret ?_
    exact rq_ret (.id) krf krf krf
def g_ref26_Offset_l1 (a0c : GCalendar) (a1minute : Int) (recl1 : (Int × Int) → Option Int) (l1_1 : Int) (l1_2 : Int) : Option Int :=
 cond (ltI l1_2 (lenI (List.map GChange.cs a0c.Changes)))
  ((getI a0c.Changes l1_2).bind fun x2 =>
  cond (leI x2.At a1minute)
   ((getI a0c.Changes l1_2).bind fun x3 =>
   recl1 (x3.Offset, wi (l1_2 + 1)))
   (recl1 (l1_1, wi (l1_2 + 1))))
  (some l1_1)
def g_ref26_Offset (n : Nat) (a0c : GCalendar) (a1minute : Int) : Option Int :=
 loopN (fun recl1 (l1_1, l1_2) => g_ref26_Offset_l1 a0c a1minute recl1 l1_1 l1_2) n (a0c.Offset, 0)
end Go.Proofs
