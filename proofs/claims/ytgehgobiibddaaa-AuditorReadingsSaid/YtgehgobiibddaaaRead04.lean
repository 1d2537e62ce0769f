/-
  A part of the proof of a statement of the seat Ytgehgobiibddaaa.
-/
import Derived.Test.YtgehgobiibddaaaRead03
namespace Go.Proofs
open Go Go.Abs
set_option maxRecDepth 100000
set_option linter.unusedVariables false
theorem g_auditor_examined_derive_ok (n : Nat) (a0e : GAuditorExamined) : ∀ r, g_auditor_examined_derive n a0e = some r → ACall Try.prog 35 [.ptr 1000 0] (Go.Abs.look [(1000, .box 64 [S a0e.Claim.Tariff.Name, .p (.sl 7 (List.map GArticle.cs a0e.Claim.Tariff.Articles)), I a0e.Claim.Calendar.Offset, .p (.sl 2 (List.map GChange.cs a0e.Claim.Calendar.Changes)), .p (.sl 1 (List.map ci a0e.Claim.Calendar.Holidays)), .p (.sl 5 (List.map GReading.cs a0e.Claim.Readings)), U a0e.Claim.Seed, I a0e.Claim.Session.From, I a0e.Claim.Session.To, I a0e.Claim.Session.End, .p (.sl 2 (List.map GSlice.cs a0e.Claim.Session.Slices)), .p (.sl 2 (List.map GLine.cs a0e.Claim.Bill.Lines)), I a0e.Claim.Bill.Net, I a0e.Claim.Bill.Tax, I a0e.Claim.Bill.Total, I a0e.follows.From, I a0e.follows.To, I a0e.follows.End, .p (.val (.slice none 0 0)), .p (.val (.slice none 0 0)), I a0e.bill.Net, I a0e.bill.Tax, I a0e.bill.Total, I a0e.rate])]) (heapR (excX (fun r : GAuditorExamined => ((.ret (.tup []), [(1000, .box 64 [S r.Claim.Tariff.Name, .p (.sl 7 (List.map GArticle.cs r.Claim.Tariff.Articles)), I r.Claim.Calendar.Offset, .p (.sl 2 (List.map GChange.cs r.Claim.Calendar.Changes)), .p (.sl 1 (List.map ci r.Claim.Calendar.Holidays)), .p (.sl 5 (List.map GReading.cs r.Claim.Readings)), U r.Claim.Seed, I r.Claim.Session.From, I r.Claim.Session.To, I r.Claim.Session.End, .p (.sl 2 (List.map GSlice.cs r.Claim.Session.Slices)), .p (.sl 2 (List.map GLine.cs r.Claim.Bill.Lines)), I r.Claim.Bill.Net, I r.Claim.Bill.Tax, I r.Claim.Bill.Total, I r.follows.From, I r.follows.To, I r.follows.End, .p (.sl 2 (List.map GSlice.cs r.follows.Slices)), .p (.val (.slice none 0 0)), I r.bill.Net, I r.bill.Tax, I r.bill.Total, I r.rate])]) : AEnd × List (Nat × Blk))) (fun e : Int × GAuditorExamined => ((.panic (.ifc 99 (.agg [I e.1])), [(1000, .box 64 [S e.2.Claim.Tariff.Name, .p (.sl 7 (List.map GArticle.cs e.2.Claim.Tariff.Articles)), I e.2.Claim.Calendar.Offset, .p (.sl 2 (List.map GChange.cs e.2.Claim.Calendar.Changes)), .p (.sl 1 (List.map ci e.2.Claim.Calendar.Holidays)), .p (.sl 5 (List.map GReading.cs e.2.Claim.Readings)), U e.2.Claim.Seed, I e.2.Claim.Session.From, I e.2.Claim.Session.To, I e.2.Claim.Session.End, .p (.sl 2 (List.map GSlice.cs e.2.Claim.Session.Slices)), .p (.sl 2 (List.map GLine.cs e.2.Claim.Bill.Lines)), I e.2.Claim.Bill.Net, I e.2.Claim.Bill.Tax, I e.2.Claim.Bill.Total, I e.2.follows.From, I e.2.follows.To, I e.2.follows.End, .p (.sl 2 (List.map GSlice.cs e.2.follows.Slices)), .p (.val (.slice none 0 0)), I e.2.bill.Net, I e.2.bill.Tax, I e.2.bill.Total, I e.2.rate])]) : AEnd × List (Nat × Blk)))) r) := by
  refine acall_sim (X := excX (fun r : GAuditorExamined => ((.ret (.tup []), [(1000, .box 64 [S r.Claim.Tariff.Name, .p (.sl 7 (List.map GArticle.cs r.Claim.Tariff.Articles)), I r.Claim.Calendar.Offset, .p (.sl 2 (List.map GChange.cs r.Claim.Calendar.Changes)), .p (.sl 1 (List.map ci r.Claim.Calendar.Holidays)), .p (.sl 5 (List.map GReading.cs r.Claim.Readings)), U r.Claim.Seed, I r.Claim.Session.From, I r.Claim.Session.To, I r.Claim.Session.End, .p (.sl 2 (List.map GSlice.cs r.Claim.Session.Slices)), .p (.sl 2 (List.map GLine.cs r.Claim.Bill.Lines)), I r.Claim.Bill.Net, I r.Claim.Bill.Tax, I r.Claim.Bill.Total, I r.follows.From, I r.follows.To, I r.follows.End, .p (.sl 2 (List.map GSlice.cs r.follows.Slices)), .p (.val (.slice none 0 0)), I r.bill.Net, I r.bill.Tax, I r.bill.Total, I r.rate])]) : AEnd × List (Nat × Blk))) (fun e : Int × GAuditorExamined => ((.panic (.ifc 99 (.agg [I e.1])), [(1000, .box 64 [S e.2.Claim.Tariff.Name, .p (.sl 7 (List.map GArticle.cs e.2.Claim.Tariff.Articles)), I e.2.Claim.Calendar.Offset, .p (.sl 2 (List.map GChange.cs e.2.Claim.Calendar.Changes)), .p (.sl 1 (List.map ci e.2.Claim.Calendar.Holidays)), .p (.sl 5 (List.map GReading.cs e.2.Claim.Readings)), U e.2.Claim.Seed, I e.2.Claim.Session.From, I e.2.Claim.Session.To, I e.2.Claim.Session.End, .p (.sl 2 (List.map GSlice.cs e.2.Claim.Session.Slices)), .p (.sl 2 (List.map GLine.cs e.2.Claim.Bill.Lines)), I e.2.Claim.Bill.Net, I e.2.Claim.Bill.Tax, I e.2.Claim.Bill.Total, I e.2.follows.From, I e.2.follows.To, I e.2.follows.End, .p (.sl 2 (List.map GSlice.cs e.2.follows.Slices)), .p (.val (.slice none 0 0)), I e.2.bill.Net, I e.2.bill.Tax, I e.2.bill.Total, I e.2.rate])]) : AEnd × List (Nat × Blk)))) [(1000, .box 64 [S a0e.Claim.Tariff.Name, .p (.sl 7 (List.map GArticle.cs a0e.Claim.Tariff.Articles)), I a0e.Claim.Calendar.Offset, .p (.sl 2 (List.map GChange.cs a0e.Claim.Calendar.Changes)), .p (.sl 1 (List.map ci a0e.Claim.Calendar.Holidays)), .p (.sl 5 (List.map GReading.cs a0e.Claim.Readings)), U a0e.Claim.Seed, I a0e.Claim.Session.From, I a0e.Claim.Session.To, I a0e.Claim.Session.End, .p (.sl 2 (List.map GSlice.cs a0e.Claim.Session.Slices)), .p (.sl 2 (List.map GLine.cs a0e.Claim.Bill.Lines)), I a0e.Claim.Bill.Net, I a0e.Claim.Bill.Tax, I a0e.Claim.Bill.Total, I a0e.follows.From, I a0e.follows.To, I a0e.follows.End, .p (.val (.slice none 0 0)), .p (.val (.slice none 0 0)), I a0e.bill.Net, I a0e.bill.Tax, I a0e.bill.Total, I a0e.rate])] Try.func35 rfl Try.ntmps35 rfl ?_
  unfold g_auditor_examined_derive
  refine sim_run Try.fm ⟨[0, 2], [1000], [], []⟩ ⟨[(0, .ptr 1000 0), (2, I (lenI (List.map GReading.cs a0e.Claim.Readings)))], [(1000, .box 64 [S a0e.Claim.Tariff.Name, .p (.sl 7 (List.map GArticle.cs a0e.Claim.Tariff.Articles)), I a0e.Claim.Calendar.Offset, .p (.sl 2 (List.map GChange.cs a0e.Claim.Calendar.Changes)), .p (.sl 1 (List.map ci a0e.Claim.Calendar.Holidays)), .p (.sl 5 (List.map GReading.cs a0e.Claim.Readings)), U a0e.Claim.Seed, I a0e.Claim.Session.From, I a0e.Claim.Session.To, I a0e.Claim.Session.End, .p (.sl 2 (List.map GSlice.cs a0e.Claim.Session.Slices)), .p (.sl 2 (List.map GLine.cs a0e.Claim.Bill.Lines)), I a0e.Claim.Bill.Net, I a0e.Claim.Bill.Tax, I a0e.Claim.Bill.Total, I a0e.follows.From, I a0e.follows.To, I a0e.follows.End, .p (.val (.slice none 0 0)), .p (.val (.slice none 0 0)), I a0e.bill.Net, I a0e.bill.Tax, I a0e.bill.Total, I a0e.rate])]⟩ (by kernel_rfl) ?_
  refine sim_seq ?_
  refine sim_drw Try.fm rfl ?_
  refine xs_run 5 (by kernel_rfl) ?_
  refine xs_get (by kernel_rfl) (by kernel_rfl) (aop_idx (e := 48) (S := 5) (enc := GReading.cs) (l := a0e.Claim.Readings) (k := .i64) (n := 0) (sv := .p (.sl 5 (List.map GReading.cs a0e.Claim.Readings))) rfl (by kernel_rfl) (by kernel_rfl) (by kernel_rfl) (by kernel_rfl) (by kernel_rfl)) (fun x1 => ?_)
  refine xs_run 9 (by kernel_rfl) ?_
  refine xs_get (by kernel_rfl) (by kernel_rfl) (aop_idx (e := 48) (S := 5) (enc := GReading.cs) (l := a0e.Claim.Readings) (k := .i64) (n := wi ((lenI (List.map GReading.cs a0e.Claim.Readings)) - 1)) (sv := .p (.sl 5 (List.map GReading.cs a0e.Claim.Readings))) rfl (by kernel_rfl) (by kernel_rfl) (by kernel_rfl) (by kernel_rfl) (by kernel_rfl)) (fun x2 => ?_)
  refine xs_run 5 (by kernel_rfl) ?_
  refine xs_endD (by kernel_rfl) ?_
  refine sq_nk ⟨[0, 2, 3], [3, 1000], [], [(3, [.id, .id, .id, .vn])]⟩ ⟨[(0, .ptr 1000 0), (2, I (lenI (List.map GReading.cs a0e.Claim.Readings))), (3, .ptr 3 0)], [(3, .box 33 [I x1.Minute, I x2.Minute, I 0, .vnil]), (1000, .box 64 [S a0e.Claim.Tariff.Name, .p (.sl 7 (List.map GArticle.cs a0e.Claim.Tariff.Articles)), I a0e.Claim.Calendar.Offset, .p (.sl 2 (List.map GChange.cs a0e.Claim.Calendar.Changes)), .p (.sl 1 (List.map ci a0e.Claim.Calendar.Holidays)), .p (.sl 5 (List.map GReading.cs a0e.Claim.Readings)), U a0e.Claim.Seed, I a0e.Claim.Session.From, I a0e.Claim.Session.To, I a0e.Claim.Session.End, .p (.sl 2 (List.map GSlice.cs a0e.Claim.Session.Slices)), .p (.sl 2 (List.map GLine.cs a0e.Claim.Bill.Lines)), I a0e.Claim.Bill.Net, I a0e.Claim.Bill.Tax, I a0e.Claim.Bill.Total, I a0e.follows.From, I a0e.follows.To, I a0e.follows.End, .p (.val (.slice none 0 0)), .p (.val (.slice none 0 0)), I a0e.bill.Net, I a0e.bill.Tax, I a0e.bill.Total, I a0e.rate])]⟩ (by kernel_rfl) ?_
  refine sim_run Try.fm ⟨[0, 2, 3], [3, 1000], [], []⟩ ⟨[(0, .ptr 1000 0), (2, I (lenI (List.map GReading.cs a0e.Claim.Readings))), (3, .ptr 3 0)], [(3, .box 33 [I x1.Minute, I x2.Minute, I x1.Minute, .vnil]), (1000, .box 64 [S a0e.Claim.Tariff.Name, .p (.sl 7 (List.map GArticle.cs a0e.Claim.Tariff.Articles)), I a0e.Claim.Calendar.Offset, .p (.sl 2 (List.map GChange.cs a0e.Claim.Calendar.Changes)), .p (.sl 1 (List.map ci a0e.Claim.Calendar.Holidays)), .p (.sl 5 (List.map GReading.cs a0e.Claim.Readings)), U a0e.Claim.Seed, I a0e.Claim.Session.From, I a0e.Claim.Session.To, I a0e.Claim.Session.End, .p (.sl 2 (List.map GSlice.cs a0e.Claim.Session.Slices)), .p (.sl 2 (List.map GLine.cs a0e.Claim.Bill.Lines)), I a0e.Claim.Bill.Net, I a0e.Claim.Bill.Tax, I a0e.Claim.Bill.Total, I a0e.follows.From, I a0e.follows.To, I a0e.follows.End, .p (.val (.slice none 0 0)), .p (.val (.slice none 0 0)), I a0e.bill.Net, I a0e.bill.Tax, I a0e.bill.Total, I a0e.rate])]⟩ (by kernel_rfl) ?_
  refine sim_run Try.fm ⟨[0, 2, 3, 4], [3, 1000], [], []⟩ ⟨[(0, .ptr 1000 0), (2, I (lenI (List.map GReading.cs a0e.Claim.Readings))), (3, .ptr 3 0), (4, .fn (.func 59) [] [.ptr 3 0])], [(3, .box 33 [I x1.Minute, I x2.Minute, I x1.Minute, .vnil]), (1000, .box 64 [S a0e.Claim.Tariff.Name, .p (.sl 7 (List.map GArticle.cs a0e.Claim.Tariff.Articles)), I a0e.Claim.Calendar.Offset, .p (.sl 2 (List.map GChange.cs a0e.Claim.Calendar.Changes)), .p (.sl 1 (List.map ci a0e.Claim.Calendar.Holidays)), .p (.sl 5 (List.map GReading.cs a0e.Claim.Readings)), U a0e.Claim.Seed, I a0e.Claim.Session.From, I a0e.Claim.Session.To, I a0e.Claim.Session.End, .p (.sl 2 (List.map GSlice.cs a0e.Claim.Session.Slices)), .p (.sl 2 (List.map GLine.cs a0e.Claim.Bill.Lines)), I a0e.Claim.Bill.Net, I a0e.Claim.Bill.Tax, I a0e.Claim.Bill.Total, I a0e.follows.From, I a0e.follows.To, I a0e.follows.End, .p (.val (.slice none 0 0)), .p (.val (.slice none 0 0)), I a0e.bill.Net, I a0e.bill.Tax, I a0e.bill.Total, I a0e.rate])]⟩ (by kernel_rfl) ?_
  refine sim_bind (fun (j3_1, j3_2, j3_3) => ⟨[(0, .ptr 1000 0), (3, .ptr 3 0), (4, .fn (.func 59) [] [.ptr 3 0]), (5, I j3_1)], [(3, .box 33 [I x1.Minute, I x2.Minute, I j3_2, .p (.sl 2 (List.map GSlice.cs j3_3))]), (1000, .box 64 [S a0e.Claim.Tariff.Name, .p (.sl 7 (List.map GArticle.cs a0e.Claim.Tariff.Articles)), I a0e.Claim.Calendar.Offset, .p (.sl 2 (List.map GChange.cs a0e.Claim.Calendar.Changes)), .p (.sl 1 (List.map ci a0e.Claim.Calendar.Holidays)), .p (.sl 5 (List.map GReading.cs a0e.Claim.Readings)), U a0e.Claim.Seed, I a0e.Claim.Session.From, I a0e.Claim.Session.To, I a0e.Claim.Session.End, .p (.sl 2 (List.map GSlice.cs a0e.Claim.Session.Slices)), .p (.sl 2 (List.map GLine.cs a0e.Claim.Bill.Lines)), I a0e.Claim.Bill.Net, I a0e.Claim.Bill.Tax, I a0e.Claim.Bill.Total, I a0e.follows.From, I a0e.follows.To, I a0e.follows.End, .p (.val (.slice none 0 0)), .p (.val (.slice none 0 0)), I a0e.bill.Net, I a0e.bill.Tax, I a0e.bill.Total, I a0e.rate])]⟩ : (Int × Int × (List GSlice)) → St) ?_ ?_
  · refine sim_run Try.fm ⟨[0, 2, 3, 4, 5], [3, 1000], [], []⟩ ⟨[(0, .ptr 1000 0), (2, I (lenI (List.map GReading.cs a0e.Claim.Readings))), (3, .ptr 3 0), (4, .fn (.func 59) [] [.ptr 3 0]), (5, I 1)], [(3, .box 33 [I x1.Minute, I x2.Minute, I x1.Minute, .vnil]), (1000, .box 64 [S a0e.Claim.Tariff.Name, .p (.sl 7 (List.map GArticle.cs a0e.Claim.Tariff.Articles)), I a0e.Claim.Calendar.Offset, .p (.sl 2 (List.map GChange.cs a0e.Claim.Calendar.Changes)), .p (.sl 1 (List.map ci a0e.Claim.Calendar.Holidays)), .p (.sl 5 (List.map GReading.cs a0e.Claim.Readings)), U a0e.Claim.Seed, I a0e.Claim.Session.From, I a0e.Claim.Session.To, I a0e.Claim.Session.End, .p (.sl 2 (List.map GSlice.cs a0e.Claim.Session.Slices)), .p (.sl 2 (List.map GLine.cs a0e.Claim.Bill.Lines)), I a0e.Claim.Bill.Net, I a0e.Claim.Bill.Tax, I a0e.Claim.Bill.Total, I a0e.follows.From, I a0e.follows.To, I a0e.follows.End, .p (.val (.slice none 0 0)), .p (.val (.slice none 0 0)), I a0e.bill.Net, I a0e.bill.Tax, I a0e.bill.Total, I a0e.rate])]⟩ (by kernel_rfl) ?_
    refine sim_block ?_
    refine sim_loop (fun (l4_1, l4_2, l4_3) => ⟨[(0, .ptr 1000 0), (2, I (lenI (List.map GReading.cs a0e.Claim.Readings))), (3, .ptr 3 0), (4, .fn (.func 59) [] [.ptr 3 0]), (5, I l4_1)], [(3, .box 33 [I x1.Minute, I x2.Minute, I l4_2, ovsl 2 GSlice.cs l4_3 441]), (1000, .box 64 [S a0e.Claim.Tariff.Name, .p (.sl 7 (List.map GArticle.cs a0e.Claim.Tariff.Articles)), I a0e.Claim.Calendar.Offset, .p (.sl 2 (List.map GChange.cs a0e.Claim.Calendar.Changes)), .p (.sl 1 (List.map ci a0e.Claim.Calendar.Holidays)), .p (.sl 5 (List.map GReading.cs a0e.Claim.Readings)), U a0e.Claim.Seed, I a0e.Claim.Session.From, I a0e.Claim.Session.To, I a0e.Claim.Session.End, .p (.sl 2 (List.map GSlice.cs a0e.Claim.Session.Slices)), .p (.sl 2 (List.map GLine.cs a0e.Claim.Bill.Lines)), I a0e.Claim.Bill.Net, I a0e.Claim.Bill.Tax, I a0e.Claim.Bill.Total, I a0e.follows.From, I a0e.follows.To, I a0e.follows.End, .p (.val (.slice none 0 0)), .p (.val (.slice none 0 0)), I a0e.bill.Net, I a0e.bill.Tax, I a0e.bill.Total, I a0e.rate])] ++ ovec 52 2 GSlice.cs l4_3 441⟩ : (Int × Int × (OL GSlice)) → St) (weak_shr (K := ⟨[0, 2, 3, 4, 5], [3, 1000], [], []⟩) (by kernel_rfl)) ?_
    rintro recl4 ⟨l4_1, l4_2, l4_3⟩
    show SimE (g_auditor_examined_derive_l4 a0e x1 recl4 l4_1 l4_2 l4_3) _ _ _ _ _ _
    unfold g_auditor_examined_derive_l4
    rcases l4_3 with _ | ow_l4_3
    · refine sim_seq ?_
      refine sim_run Try.fm ⟨[0, 2, 3, 4, 5, 41], [3, 1000], [], []⟩ ⟨[(0, .ptr 1000 0), (2, I (lenI (List.map GReading.cs a0e.Claim.Readings))), (3, .ptr 3 0), (4, .fn (.func 59) [] [.ptr 3 0]), (5, I l4_1), (41, B (ltI l4_1 (lenI (List.map GReading.cs a0e.Claim.Readings))))], [(3, .box 33 [I x1.Minute, I x2.Minute, I l4_2, .vnil]), (1000, .box 64 [S a0e.Claim.Tariff.Name, .p (.sl 7 (List.map GArticle.cs a0e.Claim.Tariff.Articles)), I a0e.Claim.Calendar.Offset, .p (.sl 2 (List.map GChange.cs a0e.Claim.Calendar.Changes)), .p (.sl 1 (List.map ci a0e.Claim.Calendar.Holidays)), .p (.sl 5 (List.map GReading.cs a0e.Claim.Readings)), U a0e.Claim.Seed, I a0e.Claim.Session.From, I a0e.Claim.Session.To, I a0e.Claim.Session.End, .p (.sl 2 (List.map GSlice.cs a0e.Claim.Session.Slices)), .p (.sl 2 (List.map GLine.cs a0e.Claim.Bill.Lines)), I a0e.Claim.Bill.Net, I a0e.Claim.Bill.Tax, I a0e.Claim.Bill.Total, I a0e.follows.From, I a0e.follows.To, I a0e.follows.End, .p (.val (.slice none 0 0)), .p (.val (.slice none 0 0)), I a0e.bill.Net, I a0e.bill.Tax, I a0e.bill.Total, I a0e.rate])]⟩ (by kernel_rfl) ?_
      refine sim_cond (ltI l4_1 (lenI (List.map GReading.cs a0e.Claim.Readings))) (by kernel_rfl) ?_ ?_
      · refine sim_skip ?_
        refine sq_nk ⟨[0, 2, 3, 4, 5], [3, 1000], [], []⟩ ⟨[(0, .ptr 1000 0), (2, I (lenI (List.map GReading.cs a0e.Claim.Readings))), (3, .ptr 3 0), (4, .fn (.func 59) [] [.ptr 3 0]), (5, I l4_1)], [(3, .box 33 [I x1.Minute, I x2.Minute, I l4_2, .vnil]), (1000, .box 64 [S a0e.Claim.Tariff.Name, .p (.sl 7 (List.map GArticle.cs a0e.Claim.Tariff.Articles)), I a0e.Claim.Calendar.Offset, .p (.sl 2 (List.map GChange.cs a0e.Claim.Calendar.Changes)), .p (.sl 1 (List.map ci a0e.Claim.Calendar.Holidays)), .p (.sl 5 (List.map GReading.cs a0e.Claim.Readings)), U a0e.Claim.Seed, I a0e.Claim.Session.From, I a0e.Claim.Session.To, I a0e.Claim.Session.End, .p (.sl 2 (List.map GSlice.cs a0e.Claim.Session.Slices)), .p (.sl 2 (List.map GLine.cs a0e.Claim.Bill.Lines)), I a0e.Claim.Bill.Net, I a0e.Claim.Bill.Tax, I a0e.Claim.Bill.Total, I a0e.follows.From, I a0e.follows.To, I a0e.follows.End, .p (.val (.slice none 0 0)), .p (.val (.slice none 0 0)), I a0e.bill.Net, I a0e.bill.Tax, I a0e.bill.Total, I a0e.rate])]⟩ (by kernel_rfl) ?_
        refine sim_seq ?_
        refine sim_block ?_
        refine sim_seq ?_
        refine sim_drw Try.fm rfl ?_
        refine xs_run 7 (by kernel_rfl) ?_
        refine xs_get (by kernel_rfl) (by kernel_rfl) (aop_idx (e := 48) (S := 5) (enc := GReading.cs) (l := a0e.Claim.Readings) (k := .i64) (n := wi (l4_1 - 1)) (sv := .p (.sl 5 (List.map GReading.cs a0e.Claim.Readings))) rfl (by kernel_rfl) (by kernel_rfl) (by kernel_rfl) (by kernel_rfl) (by kernel_rfl)) (fun x5 => ?_)
        refine xs_run 7 (by kernel_rfl) ?_
        refine xs_get (by kernel_rfl) (by kernel_rfl) (aop_idx (e := 48) (S := 5) (enc := GReading.cs) (l := a0e.Claim.Readings) (k := .i64) (n := l4_1) (sv := .p (.sl 5 (List.map GReading.cs a0e.Claim.Readings))) rfl (by kernel_rfl) (by kernel_rfl) (by kernel_rfl) (by kernel_rfl) (by kernel_rfl)) (fun x6 => ?_)
        refine xs_run 5 (by kernel_rfl) ?_
        refine xs_endD (by kernel_rfl) ?_
        refine sq_nk ⟨[0, 2, 3, 4, 5, 6, 7], [3, 6, 7, 1000], [], []⟩ ⟨[(0, .ptr 1000 0), (2, I (lenI (List.map GReading.cs a0e.Claim.Readings))), (3, .ptr 3 0), (4, .fn (.func 59) [] [.ptr 3 0]), (5, I l4_1), (6, .ptr 6 0), (7, .ptr 7 0)], [(3, .box 33 [I x1.Minute, I x2.Minute, I l4_2, .vnil]), (6, .box 48 (bxc (GReading.cs x5))), (7, .box 48 (bxc (GReading.cs x6))), (1000, .box 64 [S a0e.Claim.Tariff.Name, .p (.sl 7 (List.map GArticle.cs a0e.Claim.Tariff.Articles)), I a0e.Claim.Calendar.Offset, .p (.sl 2 (List.map GChange.cs a0e.Claim.Calendar.Changes)), .p (.sl 1 (List.map ci a0e.Claim.Calendar.Holidays)), .p (.sl 5 (List.map GReading.cs a0e.Claim.Readings)), U a0e.Claim.Seed, I a0e.Claim.Session.From, I a0e.Claim.Session.To, I a0e.Claim.Session.End, .p (.sl 2 (List.map GSlice.cs a0e.Claim.Session.Slices)), .p (.sl 2 (List.map GLine.cs a0e.Claim.Bill.Lines)), I a0e.Claim.Bill.Net, I a0e.Claim.Bill.Tax, I a0e.Claim.Bill.Total, I a0e.follows.From, I a0e.follows.To, I a0e.follows.End, .p (.val (.slice none 0 0)), .p (.val (.slice none 0 0)), I a0e.bill.Net, I a0e.bill.Tax, I a0e.bill.Total, I a0e.rate])]⟩ (by kernel_rfl) ?_
        refine sim_bind (fun j7 => ⟨[(0, .ptr 1000 0), (2, I (lenI (List.map GReading.cs a0e.Claim.Readings))), (3, .ptr 3 0), (4, .fn (.func 59) [] [.ptr 3 0]), (5, I l4_1), (6, .ptr 6 0), (7, .ptr 7 0), (72, B j7)], [(3, .box 33 [I x1.Minute, I x2.Minute, I l4_2, .vnil]), (6, .box 48 (bxc (GReading.cs x5))), (7, .box 48 (bxc (GReading.cs x6))), (1000, .box 64 [S a0e.Claim.Tariff.Name, .p (.sl 7 (List.map GArticle.cs a0e.Claim.Tariff.Articles)), I a0e.Claim.Calendar.Offset, .p (.sl 2 (List.map GChange.cs a0e.Claim.Calendar.Changes)), .p (.sl 1 (List.map ci a0e.Claim.Calendar.Holidays)), .p (.sl 5 (List.map GReading.cs a0e.Claim.Readings)), U a0e.Claim.Seed, I a0e.Claim.Session.From, I a0e.Claim.Session.To, I a0e.Claim.Session.End, .p (.sl 2 (List.map GSlice.cs a0e.Claim.Session.Slices)), .p (.sl 2 (List.map GLine.cs a0e.Claim.Bill.Lines)), I a0e.Claim.Bill.Net, I a0e.Claim.Bill.Tax, I a0e.Claim.Bill.Total, I a0e.follows.From, I a0e.follows.To, I a0e.follows.End, .p (.val (.slice none 0 0)), .p (.val (.slice none 0 0)), I a0e.bill.Net, I a0e.bill.Tax, I a0e.bill.Total, I a0e.rate])]⟩ : Bool → St) ?_ ?_
        · refine sim_reg ?_
          refine xs_run 6 (by kernel_rfl) ?_
          refine xs_split (eqI x6.Serial x5.Serial) (fun h8 => ?_) (fun h8 => ?_)
          · refine xs_one (want_tt (by kernel_rfl) h8) (by kernel_rfl) ?_
            refine xs_run 5 (by kernel_rfl) ?_
            refine xs_end ?_
            exact nq_n (ltI x1.Minute x6.Minute) ⟨[0, 2, 3, 4, 5, 6, 7, 72], [3, 6, 7, 1000], [], []⟩ (by kernel_rfl)
          · refine xs_no (want_tf (by kernel_rfl) h8) (by kernel_rfl) ?_
            refine xs_run 5 (by kernel_rfl) ?_
            refine xs_end ?_
            exact nq_n false ⟨[0, 2, 3, 4, 5, 6, 7, 72], [3, 6, 7, 1000], [], []⟩ (by kernel_rfl)
        · rintro j7
          refine sim_cond j7 (by kernel_rfl) ?_ ?_
          · refine sim_reg ?_
            refine xs_run 9 (by kernel_rfl) ?_
            refine xs_inline [(1003, .box 33 [I x1.Minute, I x2.Minute, I l4_2, .vnil])] [I (wi (x6.Minute - 1)), I (wi (x6.Register - x5.Register)), .ptr 1003 0] [(1003, 3), (441, 441), (41, 441)] [] [] (by kernel_rfl) Try.func59 rfl Try.ntmps59 rfl (by kernel_rfl) (by kernel_rfl) (by kernel_rfl) ?_
            refine sim_seq ?_
            refine sim_run Try.fm ⟨[0, 1, 2, 7], [1003], [], []⟩ ⟨[(0, I (wi (x6.Minute - 1))), (1, I (wi (x6.Register - x5.Register))), (2, .ptr 1003 0), (7, B (eqI (wi (x6.Register - x5.Register)) 0))], [(1003, .box 33 [I x1.Minute, I x2.Minute, I l4_2, .vnil])]⟩ (by kernel_rfl) ?_
            refine sim_cond (eqI (wi (x6.Register - x5.Register)) 0) (by kernel_rfl) ?_ ?_
            · refine sim_ret ?_
              refine sq_r ?_
              refine iq_ret .id [1003] [] (.tup []) (by kernel_rfl) (by kernel_rfl) ?_
              refine kr0 ?_
              refine xs_end ?_
              refine bq_n ?_
              refine sq_nk ⟨[0, 2, 3, 4, 5], [3, 1000], [], []⟩ ⟨[(0, .ptr 1000 0), (2, I (lenI (List.map GReading.cs a0e.Claim.Readings))), (3, .ptr 3 0), (4, .fn (.func 59) [] [.ptr 3 0]), (5, I l4_1)], [(3, .box 33 [I x1.Minute, I x2.Minute, I l4_2, .vnil]), (1000, .box 64 [S a0e.Claim.Tariff.Name, .p (.sl 7 (List.map GArticle.cs a0e.Claim.Tariff.Articles)), I a0e.Claim.Calendar.Offset, .p (.sl 2 (List.map GChange.cs a0e.Claim.Calendar.Changes)), .p (.sl 1 (List.map ci a0e.Claim.Calendar.Holidays)), .p (.sl 5 (List.map GReading.cs a0e.Claim.Readings)), U a0e.Claim.Seed, I a0e.Claim.Session.From, I a0e.Claim.Session.To, I a0e.Claim.Session.End, .p (.sl 2 (List.map GSlice.cs a0e.Claim.Session.Slices)), .p (.sl 2 (List.map GLine.cs a0e.Claim.Bill.Lines)), I a0e.Claim.Bill.Net, I a0e.Claim.Bill.Tax, I a0e.Claim.Bill.Total, I a0e.follows.From, I a0e.follows.To, I a0e.follows.End, .p (.val (.slice none 0 0)), .p (.val (.slice none 0 0)), I a0e.bill.Net, I a0e.bill.Tax, I a0e.bill.Total, I a0e.rate])]⟩ (by kernel_rfl) ?_
              refine sim_last Try.fm (by kernel_rfl) ?_
              exact kq_n (wi (l4_1 + 1), l4_2, OL.nil) ⟨[0, 2, 3, 4, 5], [3, 1000], [], []⟩ (by kernel_rfl)
            · refine sim_skip ?_
              refine sq_nk ⟨[0, 1, 2], [1003], [], []⟩ ⟨[(0, I (wi (x6.Minute - 1))), (1, I (wi (x6.Register - x5.Register))), (2, .ptr 1003 0)], [(1003, .box 33 [I x1.Minute, I x2.Minute, I l4_2, .vnil])]⟩ (by kernel_rfl) ?_
              refine sim_seq ?_
              refine sim_run Try.fm ⟨[0, 1, 2, 5], [1003], [], []⟩ ⟨[(0, I (wi (x6.Minute - 1))), (1, I (wi (x6.Register - x5.Register))), (2, .ptr 1003 0), (5, I (lenI (List.map GSlice.cs OL.nil.toL)))], [(1003, .box 33 [I x1.Minute, I x2.Minute, I l4_2, .vnil])]⟩ (by kernel_rfl) ?_
              refine sim_bind (fun j9 => ⟨[(0, I (wi (x6.Minute - 1))), (1, I (wi (x6.Register - x5.Register))), (2, .ptr 1003 0), (5, I (lenI (List.map GSlice.cs OL.nil.toL))), (23, B j9)], [(1003, .box 33 [I x1.Minute, I x2.Minute, I l4_2, .vnil])]⟩ : Bool → St) ?_ ?_
              · refine sim_reg ?_
                refine xs_run 3 (by kernel_rfl) ?_
                refine xs_split (ltI 0 (lenI (List.map GSlice.cs OL.nil.toL))) (fun h10 => ?_) (fun h10 => ?_)
                · refine xs_one (want_tt (by kernel_rfl) h10) (by kernel_rfl) ?_
                  refine xs_run 3 (by kernel_rfl) ?_
                  exact xs_dead (getI_nil _)
                · refine xs_no (want_tf (by kernel_rfl) h10) (by kernel_rfl) ?_
                  refine xs_run 9 (by kernel_rfl) ?_
                  refine xs_end ?_
                  exact nq_n false ⟨[0, 1, 2, 5, 23], [1003], [], []⟩ (by kernel_rfl)
              · rintro j9
                refine sim_cond j9 (by kernel_rfl) ?_ ?_
                · refine sim_seq ?_
                  refine sim_reg ?_
                  refine xs_run 4 (by kernel_rfl) ?_
                  exact xs_dead (getI_nil _)
                · refine sim_skip ?_
                  refine sq_nk ⟨[0, 1, 2, 5], [1003], [], []⟩ ⟨[(0, I (wi (x6.Minute - 1))), (1, I (wi (x6.Register - x5.Register))), (2, .ptr 1003 0), (5, I (lenI (List.map GSlice.cs OL.nil.toL)))], [(1003, .box 33 [I x1.Minute, I x2.Minute, I l4_2, .vnil])]⟩ (by kernel_rfl) ?_
                  refine sim_seq ?_
                  refine sim_reg ?_
                  refine xs_run 6 (by kernel_rfl) ?_
                  refine xs_if (by kernel_rfl) (by kernel_rfl) (aop_vapp0 (e := 52) (S := 2) (by_ := 16) (enc := GSlice.cs) (d := 41) (l2 := [(⟨wi (x6.Minute - 1), wi (x6.Register - x5.Register)⟩ : GSlice)]) (xv := .tsl 2 (List.map GSlice.cs [(⟨wi (x6.Minute - 1), wi (x6.Register - x5.Register)⟩ : GSlice)]) 40) rfl rfl (by kernel_rfl) (by kernel_rfl) rfl (by kernel_rfl) (by kernel_rfl) (by kernel_rfl) rfl (by kernel_rfl)) ?_
                  refine xs_run 2 (by kernel_rfl) ?_
                  refine xs_end ?_
                  refine sq_nk ⟨[0, 2, 5], [41, 1003], [], []⟩ ⟨[(0, I (wi (x6.Minute - 1))), (2, .ptr 1003 0), (5, I (lenI (List.map GSlice.cs OL.nil.toL)))], [(41, .vec 52 2 (List.map GSlice.cs (OL.nil.toL ++ [(⟨wi (x6.Minute - 1), wi (x6.Register - x5.Register)⟩ : GSlice)]))), (1003, .box 33 [I x1.Minute, I x2.Minute, I l4_2, .vsl 2 41 (List.map GSlice.cs (OL.nil.toL ++ [(⟨wi (x6.Minute - 1), wi (x6.Register - x5.Register)⟩ : GSlice)])).length])]⟩ (by kernel_rfl) ?_
                  refine sim_last Try.fm (by kernel_rfl) ?_
                  refine iq_n .id [41, 1003] [] (.tup []) (by kernel_rfl) (by kernel_rfl) ?_
                  refine kr0 ?_
                  refine xs_end ?_
                  refine bq_n ?_
                  refine sq_nk ⟨[0, 2, 3, 4, 5], [3, 441, 1000], [], []⟩ ⟨[(0, .ptr 1000 0), (2, I (lenI (List.map GReading.cs a0e.Claim.Readings))), (3, .ptr 3 0), (4, .fn (.func 59) [] [.ptr 3 0]), (5, I l4_1)], [(3, .box 33 [I x1.Minute, I x2.Minute, I (wi ((wi (x6.Minute - 1)) + 1)), .vsl 2 441 (List.map GSlice.cs (OL.nil.toL ++ [(⟨wi (x6.Minute - 1), wi (x6.Register - x5.Register)⟩ : GSlice)])).length]), (441, .vec 52 2 (List.map GSlice.cs (OL.nil.toL ++ [(⟨wi (x6.Minute - 1), wi (x6.Register - x5.Register)⟩ : GSlice)]))), (1000, .box 64 [S a0e.Claim.Tariff.Name, .p (.sl 7 (List.map GArticle.cs a0e.Claim.Tariff.Articles)), I a0e.Claim.Calendar.Offset, .p (.sl 2 (List.map GChange.cs a0e.Claim.Calendar.Changes)), .p (.sl 1 (List.map ci a0e.Claim.Calendar.Holidays)), .p (.sl 5 (List.map GReading.cs a0e.Claim.Readings)), U a0e.Claim.Seed, I a0e.Claim.Session.From, I a0e.Claim.Session.To, I a0e.Claim.Session.End, .p (.sl 2 (List.map GSlice.cs a0e.Claim.Session.Slices)), .p (.sl 2 (List.map GLine.cs a0e.Claim.Bill.Lines)), I a0e.Claim.Bill.Net, I a0e.Claim.Bill.Tax, I a0e.Claim.Bill.Total, I a0e.follows.From, I a0e.follows.To, I a0e.follows.End, .p (.val (.slice none 0 0)), .p (.val (.slice none 0 0)), I a0e.bill.Net, I a0e.bill.Tax, I a0e.bill.Total, I a0e.rate])]⟩ (by kernel_rfl) ?_
                  refine sim_last Try.fm (by kernel_rfl) ?_
                  exact kq_n (wi (l4_1 + 1), wi ((wi (x6.Minute - 1)) + 1), OL.own (OL.nil.toL ++ [(⟨wi (x6.Minute - 1), wi (x6.Register - x5.Register)⟩ : GSlice)])) ⟨[0, 2, 3, 4, 5], [3, 1000, 441], [], []⟩ (by kernel_rfl)
          · refine sim_skip ?_
            refine bq_n ?_
            refine sq_nk ⟨[0, 2, 3, 4, 5], [3, 1000], [], []⟩ ⟨[(0, .ptr 1000 0), (2, I (lenI (List.map GReading.cs a0e.Claim.Readings))), (3, .ptr 3 0), (4, .fn (.func 59) [] [.ptr 3 0]), (5, I l4_1)], [(3, .box 33 [I x1.Minute, I x2.Minute, I l4_2, .vnil]), (1000, .box 64 [S a0e.Claim.Tariff.Name, .p (.sl 7 (List.map GArticle.cs a0e.Claim.Tariff.Articles)), I a0e.Claim.Calendar.Offset, .p (.sl 2 (List.map GChange.cs a0e.Claim.Calendar.Changes)), .p (.sl 1 (List.map ci a0e.Claim.Calendar.Holidays)), .p (.sl 5 (List.map GReading.cs a0e.Claim.Readings)), U a0e.Claim.Seed, I a0e.Claim.Session.From, I a0e.Claim.Session.To, I a0e.Claim.Session.End, .p (.sl 2 (List.map GSlice.cs a0e.Claim.Session.Slices)), .p (.sl 2 (List.map GLine.cs a0e.Claim.Bill.Lines)), I a0e.Claim.Bill.Net, I a0e.Claim.Bill.Tax, I a0e.Claim.Bill.Total, I a0e.follows.From, I a0e.follows.To, I a0e.follows.End, .p (.val (.slice none 0 0)), .p (.val (.slice none 0 0)), I a0e.bill.Net, I a0e.bill.Tax, I a0e.bill.Total, I a0e.rate])]⟩ (by kernel_rfl) ?_
            refine sim_last Try.fm (by kernel_rfl) ?_
            exact kq_n (wi (l4_1 + 1), l4_2, OL.nil) ⟨[0, 2, 3, 4, 5], [3, 1000], [], []⟩ (by kernel_rfl)
      · refine sim_exit ?_
        refine sq_x ?_
        refine kq_x ?_
        refine bq_hit ?_
        exact nq_n (l4_1, l4_2, OL.nil.toL) ⟨[0, 3, 4, 5], [3, 1000], [], [(3, [.id, .id, .id, .sl 2])]⟩ (by kernel_rfl)
    · refine sim_seq ?_
      refine sim_run Try.fm ⟨[0, 2, 3, 4, 5, 41], [3, 441, 1000], [], []⟩ ⟨[(0, .ptr 1000 0), (2, I (lenI (List.map GReading.cs a0e.Claim.Readings))), (3, .ptr 3 0), (4, .fn (.func 59) [] [.ptr 3 0]), (5, I l4_1), (41, B (ltI l4_1 (lenI (List.map GReading.cs a0e.Claim.Readings))))], [(3, .box 33 [I x1.Minute, I x2.Minute, I l4_2, .vsl 2 441 (List.map GSlice.cs (OL.own ow_l4_3).toL).length]), (441, .vec 52 2 (List.map GSlice.cs (OL.own ow_l4_3).toL)), (1000, .box 64 [S a0e.Claim.Tariff.Name, .p (.sl 7 (List.map GArticle.cs a0e.Claim.Tariff.Articles)), I a0e.Claim.Calendar.Offset, .p (.sl 2 (List.map GChange.cs a0e.Claim.Calendar.Changes)), .p (.sl 1 (List.map ci a0e.Claim.Calendar.Holidays)), .p (.sl 5 (List.map GReading.cs a0e.Claim.Readings)), U a0e.Claim.Seed, I a0e.Claim.Session.From, I a0e.Claim.Session.To, I a0e.Claim.Session.End, .p (.sl 2 (List.map GSlice.cs a0e.Claim.Session.Slices)), .p (.sl 2 (List.map GLine.cs a0e.Claim.Bill.Lines)), I a0e.Claim.Bill.Net, I a0e.Claim.Bill.Tax, I a0e.Claim.Bill.Total, I a0e.follows.From, I a0e.follows.To, I a0e.follows.End, .p (.val (.slice none 0 0)), .p (.val (.slice none 0 0)), I a0e.bill.Net, I a0e.bill.Tax, I a0e.bill.Total, I a0e.rate])]⟩ (by kernel_rfl) ?_
      refine sim_cond (ltI l4_1 (lenI (List.map GReading.cs a0e.Claim.Readings))) (by kernel_rfl) ?_ ?_
      · refine sim_skip ?_
        refine sq_nk ⟨[0, 2, 3, 4, 5], [3, 441, 1000], [], []⟩ ⟨[(0, .ptr 1000 0), (2, I (lenI (List.map GReading.cs a0e.Claim.Readings))), (3, .ptr 3 0), (4, .fn (.func 59) [] [.ptr 3 0]), (5, I l4_1)], [(3, .box 33 [I x1.Minute, I x2.Minute, I l4_2, .vsl 2 441 (List.map GSlice.cs (OL.own ow_l4_3).toL).length]), (441, .vec 52 2 (List.map GSlice.cs (OL.own ow_l4_3).toL)), (1000, .box 64 [S a0e.Claim.Tariff.Name, .p (.sl 7 (List.map GArticle.cs a0e.Claim.Tariff.Articles)), I a0e.Claim.Calendar.Offset, .p (.sl 2 (List.map GChange.cs a0e.Claim.Calendar.Changes)), .p (.sl 1 (List.map ci a0e.Claim.Calendar.Holidays)), .p (.sl 5 (List.map GReading.cs a0e.Claim.Readings)), U a0e.Claim.Seed, I a0e.Claim.Session.From, I a0e.Claim.Session.To, I a0e.Claim.Session.End, .p (.sl 2 (List.map GSlice.cs a0e.Claim.Session.Slices)), .p (.sl 2 (List.map GLine.cs a0e.Claim.Bill.Lines)), I a0e.Claim.Bill.Net, I a0e.Claim.Bill.Tax, I a0e.Claim.Bill.Total, I a0e.follows.From, I a0e.follows.To, I a0e.follows.End, .p (.val (.slice none 0 0)), .p (.val (.slice none 0 0)), I a0e.bill.Net, I a0e.bill.Tax, I a0e.bill.Total, I a0e.rate])]⟩ (by kernel_rfl) ?_
        refine sim_seq ?_
        refine sim_block ?_
        refine sim_seq ?_
        refine sim_drw Try.fm rfl ?_
        refine xs_run 7 (by kernel_rfl) ?_
        refine xs_get (by kernel_rfl) (by kernel_rfl) (aop_idx (e := 48) (S := 5) (enc := GReading.cs) (l := a0e.Claim.Readings) (k := .i64) (n := wi (l4_1 - 1)) (sv := .p (.sl 5 (List.map GReading.cs a0e.Claim.Readings))) rfl (by kernel_rfl) (by kernel_rfl) (by kernel_rfl) (by kernel_rfl) (by kernel_rfl)) (fun x5 => ?_)
        refine xs_run 7 (by kernel_rfl) ?_
        refine xs_get (by kernel_rfl) (by kernel_rfl) (aop_idx (e := 48) (S := 5) (enc := GReading.cs) (l := a0e.Claim.Readings) (k := .i64) (n := l4_1) (sv := .p (.sl 5 (List.map GReading.cs a0e.Claim.Readings))) rfl (by kernel_rfl) (by kernel_rfl) (by kernel_rfl) (by kernel_rfl) (by kernel_rfl)) (fun x6 => ?_)
        refine xs_run 5 (by kernel_rfl) ?_
        refine xs_endD (by kernel_rfl) ?_
        refine sq_nk ⟨[0, 2, 3, 4, 5, 6, 7], [3, 6, 7, 441, 1000], [], []⟩ ⟨[(0, .ptr 1000 0), (2, I (lenI (List.map GReading.cs a0e.Claim.Readings))), (3, .ptr 3 0), (4, .fn (.func 59) [] [.ptr 3 0]), (5, I l4_1), (6, .ptr 6 0), (7, .ptr 7 0)], [(3, .box 33 [I x1.Minute, I x2.Minute, I l4_2, .vsl 2 441 (List.map GSlice.cs (OL.own ow_l4_3).toL).length]), (6, .box 48 (bxc (GReading.cs x5))), (7, .box 48 (bxc (GReading.cs x6))), (441, .vec 52 2 (List.map GSlice.cs (OL.own ow_l4_3).toL)), (1000, .box 64 [S a0e.Claim.Tariff.Name, .p (.sl 7 (List.map GArticle.cs a0e.Claim.Tariff.Articles)), I a0e.Claim.Calendar.Offset, .p (.sl 2 (List.map GChange.cs a0e.Claim.Calendar.Changes)), .p (.sl 1 (List.map ci a0e.Claim.Calendar.Holidays)), .p (.sl 5 (List.map GReading.cs a0e.Claim.Readings)), U a0e.Claim.Seed, I a0e.Claim.Session.From, I a0e.Claim.Session.To, I a0e.Claim.Session.End, .p (.sl 2 (List.map GSlice.cs a0e.Claim.Session.Slices)), .p (.sl 2 (List.map GLine.cs a0e.Claim.Bill.Lines)), I a0e.Claim.Bill.Net, I a0e.Claim.Bill.Tax, I a0e.Claim.Bill.Total, I a0e.follows.From, I a0e.follows.To, I a0e.follows.End, .p (.val (.slice none 0 0)), .p (.val (.slice none 0 0)), I a0e.bill.Net, I a0e.bill.Tax, I a0e.bill.Total, I a0e.rate])]⟩ (by kernel_rfl) ?_
        refine sim_bind (fun j7 => ⟨[(0, .ptr 1000 0), (2, I (lenI (List.map GReading.cs a0e.Claim.Readings))), (3, .ptr 3 0), (4, .fn (.func 59) [] [.ptr 3 0]), (5, I l4_1), (6, .ptr 6 0), (7, .ptr 7 0), (72, B j7)], [(3, .box 33 [I x1.Minute, I x2.Minute, I l4_2, .vsl 2 441 (List.map GSlice.cs (OL.own ow_l4_3).toL).length]), (6, .box 48 (bxc (GReading.cs x5))), (7, .box 48 (bxc (GReading.cs x6))), (441, .vec 52 2 (List.map GSlice.cs (OL.own ow_l4_3).toL)), (1000, .box 64 [S a0e.Claim.Tariff.Name, .p (.sl 7 (List.map GArticle.cs a0e.Claim.Tariff.Articles)), I a0e.Claim.Calendar.Offset, .p (.sl 2 (List.map GChange.cs a0e.Claim.Calendar.Changes)), .p (.sl 1 (List.map ci a0e.Claim.Calendar.Holidays)), .p (.sl 5 (List.map GReading.cs a0e.Claim.Readings)), U a0e.Claim.Seed, I a0e.Claim.Session.From, I a0e.Claim.Session.To, I a0e.Claim.Session.End, .p (.sl 2 (List.map GSlice.cs a0e.Claim.Session.Slices)), .p (.sl 2 (List.map GLine.cs a0e.Claim.Bill.Lines)), I a0e.Claim.Bill.Net, I a0e.Claim.Bill.Tax, I a0e.Claim.Bill.Total, I a0e.follows.From, I a0e.follows.To, I a0e.follows.End, .p (.val (.slice none 0 0)), .p (.val (.slice none 0 0)), I a0e.bill.Net, I a0e.bill.Tax, I a0e.bill.Total, I a0e.rate])]⟩ : Bool → St) ?_ ?_
        · refine sim_reg ?_
          refine xs_run 6 (by kernel_rfl) ?_
          refine xs_split (eqI x6.Serial x5.Serial) (fun h8 => ?_) (fun h8 => ?_)
          · refine xs_one (want_tt (by kernel_rfl) h8) (by kernel_rfl) ?_
            refine xs_run 5 (by kernel_rfl) ?_
            refine xs_end ?_
            exact nq_n (ltI x1.Minute x6.Minute) ⟨[0, 2, 3, 4, 5, 6, 7, 72], [3, 6, 7, 441, 1000], [], []⟩ (by kernel_rfl)
          · refine xs_no (want_tf (by kernel_rfl) h8) (by kernel_rfl) ?_
            refine xs_run 5 (by kernel_rfl) ?_
            refine xs_end ?_
            exact nq_n false ⟨[0, 2, 3, 4, 5, 6, 7, 72], [3, 6, 7, 441, 1000], [], []⟩ (by kernel_rfl)
        · rintro j7
          refine sim_cond j7 (by kernel_rfl) ?_ ?_
          · refine sim_reg ?_
            refine xs_run 9 (by kernel_rfl) ?_
            refine xs_inline [(1003, .box 33 [I x1.Minute, I x2.Minute, I l4_2, .vsl 2 1441 (List.map GSlice.cs (OL.own ow_l4_3).toL).length]), (1441, .vec 52 2 (List.map GSlice.cs (OL.own ow_l4_3).toL))] [I (wi (x6.Minute - 1)), I (wi (x6.Register - x5.Register)), .ptr 1003 0] [(1003, 3), (1441, 441)] [] [] (by kernel_rfl) Try.func59 rfl Try.ntmps59 rfl (by kernel_rfl) (by kernel_rfl) (by kernel_rfl) ?_
            refine sim_seq ?_
            refine sim_run Try.fm ⟨[0, 1, 2, 7], [1003, 1441], [], []⟩ ⟨[(0, I (wi (x6.Minute - 1))), (1, I (wi (x6.Register - x5.Register))), (2, .ptr 1003 0), (7, B (eqI (wi (x6.Register - x5.Register)) 0))], [(1003, .box 33 [I x1.Minute, I x2.Minute, I l4_2, .vsl 2 1441 (List.map GSlice.cs (OL.own ow_l4_3).toL).length]), (1441, .vec 52 2 (List.map GSlice.cs (OL.own ow_l4_3).toL))]⟩ (by kernel_rfl) ?_
            refine sim_cond (eqI (wi (x6.Register - x5.Register)) 0) (by kernel_rfl) ?_ ?_
            · refine sim_ret ?_
              refine sq_r ?_
              refine iq_ret .id [1003, 1441] [] (.tup []) (by kernel_rfl) (by kernel_rfl) ?_
              refine kr0 ?_
              refine xs_end ?_
              refine bq_n ?_
              refine sq_nk ⟨[0, 2, 3, 4, 5], [3, 441, 1000], [], []⟩ ⟨[(0, .ptr 1000 0), (2, I (lenI (List.map GReading.cs a0e.Claim.Readings))), (3, .ptr 3 0), (4, .fn (.func 59) [] [.ptr 3 0]), (5, I l4_1)], [(3, .box 33 [I x1.Minute, I x2.Minute, I l4_2, .vsl 2 441 (List.map GSlice.cs (OL.own ow_l4_3).toL).length]), (441, .vec 52 2 (List.map GSlice.cs (OL.own ow_l4_3).toL)), (1000, .box 64 [S a0e.Claim.Tariff.Name, .p (.sl 7 (List.map GArticle.cs a0e.Claim.Tariff.Articles)), I a0e.Claim.Calendar.Offset, .p (.sl 2 (List.map GChange.cs a0e.Claim.Calendar.Changes)), .p (.sl 1 (List.map ci a0e.Claim.Calendar.Holidays)), .p (.sl 5 (List.map GReading.cs a0e.Claim.Readings)), U a0e.Claim.Seed, I a0e.Claim.Session.From, I a0e.Claim.Session.To, I a0e.Claim.Session.End, .p (.sl 2 (List.map GSlice.cs a0e.Claim.Session.Slices)), .p (.sl 2 (List.map GLine.cs a0e.Claim.Bill.Lines)), I a0e.Claim.Bill.Net, I a0e.Claim.Bill.Tax, I a0e.Claim.Bill.Total, I a0e.follows.From, I a0e.follows.To, I a0e.follows.End, .p (.val (.slice none 0 0)), .p (.val (.slice none 0 0)), I a0e.bill.Net, I a0e.bill.Tax, I a0e.bill.Total, I a0e.rate])]⟩ (by kernel_rfl) ?_
              refine sim_last Try.fm (by kernel_rfl) ?_
              exact kq_n (wi (l4_1 + 1), l4_2, (OL.own ow_l4_3)) ⟨[0, 2, 3, 4, 5], [3, 1000, 441], [], []⟩ (by kernel_rfl)
            · refine sim_skip ?_
              refine sq_nk ⟨[0, 1, 2], [1003, 1441], [], []⟩ ⟨[(0, I (wi (x6.Minute - 1))), (1, I (wi (x6.Register - x5.Register))), (2, .ptr 1003 0)], [(1003, .box 33 [I x1.Minute, I x2.Minute, I l4_2, .vsl 2 1441 (List.map GSlice.cs (OL.own ow_l4_3).toL).length]), (1441, .vec 52 2 (List.map GSlice.cs (OL.own ow_l4_3).toL))]⟩ (by kernel_rfl) ?_
              refine sim_seq ?_
              refine sim_seq ?_
              refine sim_reg ?_
              refine xs_run 2 (by kernel_rfl) ?_
              refine xs_u (by kernel_rfl) (by kernel_rfl) (aop_vlen (tk := 1441) (es := List.map GSlice.cs (OL.own ow_l4_3).toL) (S := 2) (n := (List.map GSlice.cs (OL.own ow_l4_3).toL).length) (e := 52) (ty := 52) rfl (by kernel_rfl) (by kernel_rfl) (by kernel_rfl) (by simp)) ?_
              refine xs_run 1 (by kernel_rfl) ?_
              refine xs_end ?_
              refine sq_nk ⟨[0, 1, 2, 5], [1003, 1441], [], []⟩ ⟨[(0, I (wi (x6.Minute - 1))), (1, I (wi (x6.Register - x5.Register))), (2, .ptr 1003 0), (5, I (lenI (List.map GSlice.cs (OL.own ow_l4_3).toL)))], [(1003, .box 33 [I x1.Minute, I x2.Minute, I l4_2, .vsl 2 1441 (List.map GSlice.cs (OL.own ow_l4_3).toL).length]), (1441, .vec 52 2 (List.map GSlice.cs (OL.own ow_l4_3).toL))]⟩ (by kernel_rfl) ?_
              refine sim_bind (fun j9 => ⟨[(0, I (wi (x6.Minute - 1))), (1, I (wi (x6.Register - x5.Register))), (2, .ptr 1003 0), (5, I (lenI (List.map GSlice.cs (OL.own ow_l4_3).toL))), (23, B j9)], [(1003, .box 33 [I x1.Minute, I x2.Minute, I l4_2, .vsl 2 1441 (List.map GSlice.cs (OL.own ow_l4_3).toL).length]), (1441, .vec 52 2 (List.map GSlice.cs (OL.own ow_l4_3).toL))]⟩ : Bool → St) ?_ ?_
              · refine sim_reg ?_
                refine xs_run 3 (by kernel_rfl) ?_
                refine xs_split (ltI 0 (lenI (List.map GSlice.cs (OL.own ow_l4_3).toL))) (fun h10 => ?_) (fun h10 => ?_)
                · refine xs_one (want_tt (by kernel_rfl) h10) (by kernel_rfl) ?_
                  refine xs_run 3 (by kernel_rfl) ?_
                  refine xs_getH (by kernel_rfl) (by kernel_rfl) (aop_vidx (e := 52) (S := 2) (tk := 1441) (ty := 52) (enc := GSlice.cs) (l := (OL.own ow_l4_3).toL) (k := .i64) (n := wi ((lenI (List.map GSlice.cs (OL.own ow_l4_3).toL)) - 1)) (nn := (List.map GSlice.cs (OL.own ow_l4_3).toL).length) rfl (by kernel_rfl) (by kernel_rfl) (by kernel_rfl) (by kernel_rfl) (by kernel_rfl) (by simp)) (fun x11 hx11 => ?_)
                  refine xs_u (by kernel_rfl) (by kernel_rfl) (aop_vfld (S := 2) (ty := 52) (tk := 1441) (k := Int.toNat (wi ((lenI (List.map GSlice.cs (OL.own ow_l4_3).toL)) - 1))) (g := 0) (off := 0) (es := List.map GSlice.cs (OL.own ow_l4_3).toL) rfl (by kernel_rfl) (by kernel_rfl) (by kernel_rfl)) ?_
                  refine xs_u (by kernel_rfl) (by kernel_rfl) (aop_vld (S := 2) (tb := 52) (tk := 1441) (n := Int.toNat (wi ((lenI (List.map GSlice.cs (OL.own ow_l4_3).toL)) - 1))) (f := 0) (enc := GSlice.cs) (l := (OL.own ow_l4_3).toL) (v := x11) (c := I x11.Minute) rfl (by kernel_rfl) (by kernel_rfl) (getI_at hx11) (by kernel_rfl)) ?_
                  refine xs_run 3 (by kernel_rfl) ?_
                  refine xs_end ?_
                  exact nq_n (eqI x11.Minute (wi (x6.Minute - 1))) ⟨[0, 1, 2, 5, 23], [1003, 1441], [], []⟩ (by kernel_rfl)
                · refine xs_no (want_tf (by kernel_rfl) h10) (by kernel_rfl) ?_
                  refine xs_run 9 (by kernel_rfl) ?_
                  refine xs_end ?_
                  exact nq_n false ⟨[0, 1, 2, 5, 23], [1003, 1441], [], []⟩ (by kernel_rfl)
              · rintro j9
                refine sim_cond j9 (by kernel_rfl) ?_ ?_
                · refine sim_seq ?_
                  refine sim_reg ?_
                  refine xs_run 4 (by kernel_rfl) ?_
                  refine xs_getH (by kernel_rfl) (by kernel_rfl) (aop_vidx (e := 52) (S := 2) (tk := 1441) (ty := 52) (enc := GSlice.cs) (l := (OL.own ow_l4_3).toL) (k := .i64) (n := wi ((lenI (List.map GSlice.cs (OL.own ow_l4_3).toL)) - 1)) (nn := (List.map GSlice.cs (OL.own ow_l4_3).toL).length) rfl (by kernel_rfl) (by kernel_rfl) (by kernel_rfl) (by kernel_rfl) (by kernel_rfl) (by simp)) (fun x12 hx12 => ?_)
                  refine xs_u (by kernel_rfl) (by kernel_rfl) (aop_vfld (S := 2) (ty := 52) (tk := 1441) (k := Int.toNat (wi ((lenI (List.map GSlice.cs (OL.own ow_l4_3).toL)) - 1))) (g := 0) (off := 1) (es := List.map GSlice.cs (OL.own ow_l4_3).toL) rfl (by kernel_rfl) (by kernel_rfl) (by kernel_rfl)) ?_
                  refine xs_u (by kernel_rfl) (by kernel_rfl) (aop_vld (S := 2) (tb := 52) (tk := 1441) (n := Int.toNat (wi ((lenI (List.map GSlice.cs (OL.own ow_l4_3).toL)) - 1))) (f := 1) (enc := GSlice.cs) (l := (OL.own ow_l4_3).toL) (v := x12) (c := I x12.Energy) rfl (by kernel_rfl) (by kernel_rfl) (getI_at hx12) (by kernel_rfl)) ?_
                  refine xs_run 2 (by kernel_rfl) ?_
                  refine xs_getH (by kernel_rfl) (by kernel_rfl) (aop_vidx (e := 52) (S := 2) (tk := 1441) (ty := 52) (enc := GSlice.cs) (l := (OL.own ow_l4_3).toL) (k := .i64) (n := wi ((lenI (List.map GSlice.cs (OL.own ow_l4_3).toL)) - 1)) (nn := (List.map GSlice.cs (OL.own ow_l4_3).toL).length) rfl (by kernel_rfl) (by kernel_rfl) (by kernel_rfl) (by kernel_rfl) (by kernel_rfl) (by simp)) (fun x13 hx13 => ?_)
                  refine xs_u (by kernel_rfl) (by kernel_rfl) (aop_vfld (S := 2) (ty := 52) (tk := 1441) (k := Int.toNat (wi ((lenI (List.map GSlice.cs (OL.own ow_l4_3).toL)) - 1))) (g := 0) (off := 1) (es := List.map GSlice.cs (OL.own ow_l4_3).toL) rfl (by kernel_rfl) (by kernel_rfl) (by kernel_rfl)) ?_
                  refine xs_u (by kernel_rfl) (by kernel_rfl) (aop_vst (S := 2) (tb := 52) (tk := 1441) (n := Int.toNat (wi ((lenI (List.map GSlice.cs (OL.own ow_l4_3).toL)) - 1))) (f := 1) (enc := GSlice.cs) (l := (OL.own ow_l4_3).toL) (v := x13) (v' := (⟨x13.Minute, wi (x12.Energy + (wi (x6.Register - x5.Register)))⟩ : GSlice)) (xv := I (wi (x12.Energy + (wi (x6.Register - x5.Register))))) rfl (by kernel_rfl) (by kernel_rfl) (by kernel_rfl) (getI_at hx13) (by kernel_rfl)) ?_
                  refine xs_end ?_
                  refine sq_nk ⟨[], [1003, 1441], [], []⟩ ⟨[], [(1003, .box 33 [I x1.Minute, I x2.Minute, I l4_2, .vsl 2 1441 (List.map GSlice.cs (OL.own ow_l4_3).toL).length]), (1441, .vec 52 2 (List.map GSlice.cs (List.set (OL.own ow_l4_3).toL (Int.toNat (wi ((lenI (List.map GSlice.cs (OL.own ow_l4_3).toL)) - 1))) (⟨x13.Minute, wi (x12.Energy + (wi (x6.Register - x5.Register)))⟩ : GSlice))))]⟩ (by kernel_rfl) ?_
                  refine sim_ret ?_
                  refine sq_r ?_
                  refine iq_ret .id [1003, 1441] [] (.tup []) (by kernel_rfl) (by kernel_rfl) ?_
                  refine kr0 ?_
                  refine xs_end ?_
                  refine bq_n ?_
                  refine sq_nk ⟨[0, 2, 3, 4, 5], [3, 441, 1000], [], []⟩ ⟨[(0, .ptr 1000 0), (2, I (lenI (List.map GReading.cs a0e.Claim.Readings))), (3, .ptr 3 0), (4, .fn (.func 59) [] [.ptr 3 0]), (5, I l4_1)], [(3, .box 33 [I x1.Minute, I x2.Minute, I l4_2, .vsl 2 441 (List.map GSlice.cs (OL.own ow_l4_3).toL).length]), (441, .vec 52 2 (List.map GSlice.cs (List.set (OL.own ow_l4_3).toL (Int.toNat (wi ((lenI (List.map GSlice.cs (OL.own ow_l4_3).toL)) - 1))) (⟨x13.Minute, wi (x12.Energy + (wi (x6.Register - x5.Register)))⟩ : GSlice)))), (1000, .box 64 [S a0e.Claim.Tariff.Name, .p (.sl 7 (List.map GArticle.cs a0e.Claim.Tariff.Articles)), I a0e.Claim.Calendar.Offset, .p (.sl 2 (List.map GChange.cs a0e.Claim.Calendar.Changes)), .p (.sl 1 (List.map ci a0e.Claim.Calendar.Holidays)), .p (.sl 5 (List.map GReading.cs a0e.Claim.Readings)), U a0e.Claim.Seed, I a0e.Claim.Session.From, I a0e.Claim.Session.To, I a0e.Claim.Session.End, .p (.sl 2 (List.map GSlice.cs a0e.Claim.Session.Slices)), .p (.sl 2 (List.map GLine.cs a0e.Claim.Bill.Lines)), I a0e.Claim.Bill.Net, I a0e.Claim.Bill.Tax, I a0e.Claim.Bill.Total, I a0e.follows.From, I a0e.follows.To, I a0e.follows.End, .p (.val (.slice none 0 0)), .p (.val (.slice none 0 0)), I a0e.bill.Net, I a0e.bill.Tax, I a0e.bill.Total, I a0e.rate])]⟩ (by kernel_rfl) ?_
                  refine sim_last Try.fm (by kernel_rfl) ?_
                  exact kq_e  (wi (l4_1 + 1), l4_2, OL.own (List.set (OL.own ow_l4_3).toL (Int.toNat (wi ((lenI (List.map GSlice.cs (OL.own ow_l4_3).toL)) - 1))) (⟨x13.Minute, wi (x12.Energy + (wi (x6.Register - x5.Register)))⟩ : GSlice))) ⟨[0, 2, 3, 4, 5], [3, 1000, 441], [], []⟩ ⟨[(0, .ptr 1000 0), (2, I (lenI (List.map GReading.cs a0e.Claim.Readings))), (3, .ptr 3 0), (4, .fn (.func 59) [] [.ptr 3 0]), (5, I (wi (l4_1 + 1)))], [(3, .box 33 [I x1.Minute, I x2.Minute, I l4_2, .vsl 2 441 (List.map GSlice.cs (OL.own ow_l4_3).toL).length]), (1000, .box 64 [S a0e.Claim.Tariff.Name, .p (.sl 7 (List.map GArticle.cs a0e.Claim.Tariff.Articles)), I a0e.Claim.Calendar.Offset, .p (.sl 2 (List.map GChange.cs a0e.Claim.Calendar.Changes)), .p (.sl 1 (List.map ci a0e.Claim.Calendar.Holidays)), .p (.sl 5 (List.map GReading.cs a0e.Claim.Readings)), U a0e.Claim.Seed, I a0e.Claim.Session.From, I a0e.Claim.Session.To, I a0e.Claim.Session.End, .p (.sl 2 (List.map GSlice.cs a0e.Claim.Session.Slices)), .p (.sl 2 (List.map GLine.cs a0e.Claim.Bill.Lines)), I a0e.Claim.Bill.Net, I a0e.Claim.Bill.Tax, I a0e.Claim.Bill.Total, I a0e.follows.From, I a0e.follows.To, I a0e.follows.End, .p (.val (.slice none 0 0)), .p (.val (.slice none 0 0)), I a0e.bill.Net, I a0e.bill.Tax, I a0e.bill.Total, I a0e.rate]), (441, .vec 52 2 (List.map GSlice.cs (List.set (OL.own ow_l4_3).toL (Int.toNat (wi ((lenI (List.map GSlice.cs (OL.own ow_l4_3).toL)) - 1))) (⟨x13.Minute, wi (x12.Energy + (wi (x6.Register - x5.Register)))⟩ : GSlice))))]⟩ (by kernel_rfl) (by simp)
                · refine sim_skip ?_
                  refine sq_nk ⟨[0, 1, 2, 5], [1003, 1441], [], []⟩ ⟨[(0, I (wi (x6.Minute - 1))), (1, I (wi (x6.Register - x5.Register))), (2, .ptr 1003 0), (5, I (lenI (List.map GSlice.cs (OL.own ow_l4_3).toL)))], [(1003, .box 33 [I x1.Minute, I x2.Minute, I l4_2, .vsl 2 1441 (List.map GSlice.cs (OL.own ow_l4_3).toL).length]), (1441, .vec 52 2 (List.map GSlice.cs (OL.own ow_l4_3).toL))]⟩ (by kernel_rfl) ?_
                  refine sim_seq ?_
                  refine sim_reg ?_
                  refine xs_run 6 (by kernel_rfl) ?_
                  refine xs_if (by kernel_rfl) (by kernel_rfl) (aop_vapp (e := 52) (S := 2) (by_ := 16) (enc := GSlice.cs) (tk := 1441) (l := (OL.own ow_l4_3).toL) (l2 := [(⟨wi (x6.Minute - 1), wi (x6.Register - x5.Register)⟩ : GSlice)]) (xv := .tsl 2 (List.map GSlice.cs [(⟨wi (x6.Minute - 1), wi (x6.Register - x5.Register)⟩ : GSlice)]) 40) (n := (List.map GSlice.cs (OL.own ow_l4_3).toL).length) rfl (by kernel_rfl) (by kernel_rfl) rfl (by kernel_rfl) (by kernel_rfl) (by kernel_rfl) (by kernel_rfl) (by simp)) ?_
                  refine xs_run 2 (by kernel_rfl) ?_
                  refine xs_end ?_
                  refine sq_nk ⟨[0, 2, 5], [1003, 1441], [], []⟩ ⟨[(0, I (wi (x6.Minute - 1))), (2, .ptr 1003 0), (5, I (lenI (List.map GSlice.cs (OL.own ow_l4_3).toL)))], [(1003, .box 33 [I x1.Minute, I x2.Minute, I l4_2, .vsl 2 1441 (List.map GSlice.cs ((OL.own ow_l4_3).toL ++ [(⟨wi (x6.Minute - 1), wi (x6.Register - x5.Register)⟩ : GSlice)])).length]), (1441, .vec 52 2 (List.map GSlice.cs ((OL.own ow_l4_3).toL ++ [(⟨wi (x6.Minute - 1), wi (x6.Register - x5.Register)⟩ : GSlice)])))]⟩ (by kernel_rfl) ?_
                  refine sim_last Try.fm (by kernel_rfl) ?_
                  refine iq_n .id [1003, 1441] [] (.tup []) (by kernel_rfl) (by kernel_rfl) ?_
                  refine kr0 ?_
                  refine xs_end ?_
                  refine bq_n ?_
                  refine sq_nk ⟨[0, 2, 3, 4, 5], [3, 441, 1000], [], []⟩ ⟨[(0, .ptr 1000 0), (2, I (lenI (List.map GReading.cs a0e.Claim.Readings))), (3, .ptr 3 0), (4, .fn (.func 59) [] [.ptr 3 0]), (5, I l4_1)], [(3, .box 33 [I x1.Minute, I x2.Minute, I (wi ((wi (x6.Minute - 1)) + 1)), .vsl 2 441 (List.map GSlice.cs ((OL.own ow_l4_3).toL ++ [(⟨wi (x6.Minute - 1), wi (x6.Register - x5.Register)⟩ : GSlice)])).length]), (441, .vec 52 2 (List.map GSlice.cs ((OL.own ow_l4_3).toL ++ [(⟨wi (x6.Minute - 1), wi (x6.Register - x5.Register)⟩ : GSlice)]))), (1000, .box 64 [S a0e.Claim.Tariff.Name, .p (.sl 7 (List.map GArticle.cs a0e.Claim.Tariff.Articles)), I a0e.Claim.Calendar.Offset, .p (.sl 2 (List.map GChange.cs a0e.Claim.Calendar.Changes)), .p (.sl 1 (List.map ci a0e.Claim.Calendar.Holidays)), .p (.sl 5 (List.map GReading.cs a0e.Claim.Readings)), U a0e.Claim.Seed, I a0e.Claim.Session.From, I a0e.Claim.Session.To, I a0e.Claim.Session.End, .p (.sl 2 (List.map GSlice.cs a0e.Claim.Session.Slices)), .p (.sl 2 (List.map GLine.cs a0e.Claim.Bill.Lines)), I a0e.Claim.Bill.Net, I a0e.Claim.Bill.Tax, I a0e.Claim.Bill.Total, I a0e.follows.From, I a0e.follows.To, I a0e.follows.End, .p (.val (.slice none 0 0)), .p (.val (.slice none 0 0)), I a0e.bill.Net, I a0e.bill.Tax, I a0e.bill.Total, I a0e.rate])]⟩ (by kernel_rfl) ?_
                  refine sim_last Try.fm (by kernel_rfl) ?_
                  exact kq_n (wi (l4_1 + 1), wi ((wi (x6.Minute - 1)) + 1), OL.own ((OL.own ow_l4_3).toL ++ [(⟨wi (x6.Minute - 1), wi (x6.Register - x5.Register)⟩ : GSlice)])) ⟨[0, 2, 3, 4, 5], [3, 1000, 441], [], []⟩ (by kernel_rfl)
          · refine sim_skip ?_
            refine bq_n ?_
            refine sq_nk ⟨[0, 2, 3, 4, 5], [3, 441, 1000], [], []⟩ ⟨[(0, .ptr 1000 0), (2, I (lenI (List.map GReading.cs a0e.Claim.Readings))), (3, .ptr 3 0), (4, .fn (.func 59) [] [.ptr 3 0]), (5, I l4_1)], [(3, .box 33 [I x1.Minute, I x2.Minute, I l4_2, .vsl 2 441 (List.map GSlice.cs (OL.own ow_l4_3).toL).length]), (441, .vec 52 2 (List.map GSlice.cs (OL.own ow_l4_3).toL)), (1000, .box 64 [S a0e.Claim.Tariff.Name, .p (.sl 7 (List.map GArticle.cs a0e.Claim.Tariff.Articles)), I a0e.Claim.Calendar.Offset, .p (.sl 2 (List.map GChange.cs a0e.Claim.Calendar.Changes)), .p (.sl 1 (List.map ci a0e.Claim.Calendar.Holidays)), .p (.sl 5 (List.map GReading.cs a0e.Claim.Readings)), U a0e.Claim.Seed, I a0e.Claim.Session.From, I a0e.Claim.Session.To, I a0e.Claim.Session.End, .p (.sl 2 (List.map GSlice.cs a0e.Claim.Session.Slices)), .p (.sl 2 (List.map GLine.cs a0e.Claim.Bill.Lines)), I a0e.Claim.Bill.Net, I a0e.Claim.Bill.Tax, I a0e.Claim.Bill.Total, I a0e.follows.From, I a0e.follows.To, I a0e.follows.End, .p (.val (.slice none 0 0)), .p (.val (.slice none 0 0)), I a0e.bill.Net, I a0e.bill.Tax, I a0e.bill.Total, I a0e.rate])]⟩ (by kernel_rfl) ?_
            refine sim_last Try.fm (by kernel_rfl) ?_
            exact kq_n (wi (l4_1 + 1), l4_2, (OL.own ow_l4_3)) ⟨[0, 2, 3, 4, 5], [3, 1000, 441], [], []⟩ (by kernel_rfl)
      · refine sim_exit ?_
        refine sq_x ?_
        refine kq_x ?_
        refine bq_hit ?_
        exact nq_f (l4_1, l4_2, (OL.own ow_l4_3).toL) ⟨[0, 3, 4, 5], [3, 441, 1000], [], []⟩ ⟨[(0, .ptr 1000 0), (3, .ptr 3 0), (4, .fn (.func 59) [] [.ptr 3 0]), (5, I l4_1)], [(3, .box 33 [I x1.Minute, I x2.Minute, I l4_2, .vsl 2 441 (List.map GSlice.cs (OL.own ow_l4_3).toL).length]), (441, .vec 52 2 (List.map GSlice.cs (OL.own ow_l4_3).toL)), (1000, .box 64 [S a0e.Claim.Tariff.Name, .p (.sl 7 (List.map GArticle.cs a0e.Claim.Tariff.Articles)), I a0e.Claim.Calendar.Offset, .p (.sl 2 (List.map GChange.cs a0e.Claim.Calendar.Changes)), .p (.sl 1 (List.map ci a0e.Claim.Calendar.Holidays)), .p (.sl 5 (List.map GReading.cs a0e.Claim.Readings)), U a0e.Claim.Seed, I a0e.Claim.Session.From, I a0e.Claim.Session.To, I a0e.Claim.Session.End, .p (.sl 2 (List.map GSlice.cs a0e.Claim.Session.Slices)), .p (.sl 2 (List.map GLine.cs a0e.Claim.Bill.Lines)), I a0e.Claim.Bill.Net, I a0e.Claim.Bill.Tax, I a0e.Claim.Bill.Total, I a0e.follows.From, I a0e.follows.To, I a0e.follows.End, .p (.val (.slice none 0 0)), .p (.val (.slice none 0 0)), I a0e.bill.Net, I a0e.bill.Tax, I a0e.bill.Total, I a0e.rate])]⟩ (by kernel_rfl) (weak_vfz 441 52 2 (List.map GSlice.cs (OL.own ow_l4_3).toL) [(List.map GSlice.cs (OL.own ow_l4_3).toL).length] (by kernel_rfl) (by kernel_rfl) (by simp) (by kernel_rfl) (by kernel_rfl)) ⟨[0, 3, 4, 5], [3, 1000], [], []⟩ (by kernel_rfl)
  · rintro ⟨j3_1, j3_2, j3_3⟩
    refine sim_cps (fun _ => ⟨[(0, .ptr 1000 0), (3, .ptr 3 0), (4, .fn (.func 59) [] [.ptr 3 0]), (5, I j3_1)], [(3, .box 33 [I x1.Minute, I x2.Minute, I j3_2, .p (.sl 2 (List.map GSlice.cs j3_3))]), (1000, .box 64 [S a0e.Claim.Tariff.Name, .p (.sl 7 (List.map GArticle.cs a0e.Claim.Tariff.Articles)), I a0e.Claim.Calendar.Offset, .p (.sl 2 (List.map GChange.cs a0e.Claim.Calendar.Changes)), .p (.sl 1 (List.map ci a0e.Claim.Calendar.Holidays)), .p (.sl 5 (List.map GReading.cs a0e.Claim.Readings)), U a0e.Claim.Seed, I a0e.Claim.Session.From, I a0e.Claim.Session.To, I a0e.Claim.Session.End, .p (.sl 2 (List.map GSlice.cs a0e.Claim.Session.Slices)), .p (.sl 2 (List.map GLine.cs a0e.Claim.Bill.Lines)), I a0e.Claim.Bill.Net, I a0e.Claim.Bill.Tax, I a0e.Claim.Bill.Total, I a0e.follows.From, I a0e.follows.To, I a0e.follows.End, .p (.val (.slice none 0 0)), .p (.val (.slice none 0 0)), I a0e.bill.Net, I a0e.bill.Tax, I a0e.bill.Total, I a0e.rate])]⟩ : Unit → St) (fun _ => g_auditor_examined_derive_j14 n a0e x1 x2 j3_2 j3_3) ?_ ?_
    · rintro _
      show SimE (g_auditor_examined_derive_j14 n a0e x1 x2 j3_2 j3_3) _ _ _ _ _ _
      unfold g_auditor_examined_derive_j14
      refine sim_seq ?_
      refine sim_run Try.fm ⟨[0, 3, 4, 5, 104, 105, 106], [3, 1000], [], []⟩ ⟨[(0, .ptr 1000 0), (3, .ptr 3 0), (4, .fn (.func 59) [] [.ptr 3 0]), (5, I j3_1), (104, .p (.sl 2 (List.map GSlice.cs j3_3))), (105, I (lenI (List.map GSlice.cs j3_3))), (106, I 0)], [(3, .box 33 [I x1.Minute, I x2.Minute, I j3_2, .p (.sl 2 (List.map GSlice.cs j3_3))]), (1000, .box 64 [S a0e.Claim.Tariff.Name, .p (.sl 7 (List.map GArticle.cs a0e.Claim.Tariff.Articles)), I a0e.Claim.Calendar.Offset, .p (.sl 2 (List.map GChange.cs a0e.Claim.Calendar.Changes)), .p (.sl 1 (List.map ci a0e.Claim.Calendar.Holidays)), .p (.sl 5 (List.map GReading.cs a0e.Claim.Readings)), U a0e.Claim.Seed, I a0e.Claim.Session.From, I a0e.Claim.Session.To, I a0e.Claim.Session.End, .p (.sl 2 (List.map GSlice.cs a0e.Claim.Session.Slices)), .p (.sl 2 (List.map GLine.cs a0e.Claim.Bill.Lines)), I a0e.Claim.Bill.Net, I a0e.Claim.Bill.Tax, I a0e.Claim.Bill.Total, I a0e.follows.From, I a0e.follows.To, I a0e.follows.End, .p (.val (.slice none 0 0)), .p (.val (.slice none 0 0)), I a0e.bill.Net, I a0e.bill.Tax, I a0e.bill.Total, I a0e.rate])]⟩ (by kernel_rfl) ?_
      refine sim_block ?_
      refine sim_loop (fun l15 => ⟨[(0, .ptr 1000 0), (3, .ptr 3 0), (4, .fn (.func 59) [] [.ptr 3 0]), (5, I j3_1), (104, .p (.sl 2 (List.map GSlice.cs j3_3))), (105, I (lenI (List.map GSlice.cs j3_3))), (106, I l15)], [(3, .box 33 [I x1.Minute, I x2.Minute, I j3_2, .p (.sl 2 (List.map GSlice.cs j3_3))]), (1000, .box 64 [S a0e.Claim.Tariff.Name, .p (.sl 7 (List.map GArticle.cs a0e.Claim.Tariff.Articles)), I a0e.Claim.Calendar.Offset, .p (.sl 2 (List.map GChange.cs a0e.Claim.Calendar.Changes)), .p (.sl 1 (List.map ci a0e.Claim.Calendar.Holidays)), .p (.sl 5 (List.map GReading.cs a0e.Claim.Readings)), U a0e.Claim.Seed, I a0e.Claim.Session.From, I a0e.Claim.Session.To, I a0e.Claim.Session.End, .p (.sl 2 (List.map GSlice.cs a0e.Claim.Session.Slices)), .p (.sl 2 (List.map GLine.cs a0e.Claim.Bill.Lines)), I a0e.Claim.Bill.Net, I a0e.Claim.Bill.Tax, I a0e.Claim.Bill.Total, I a0e.follows.From, I a0e.follows.To, I a0e.follows.End, .p (.val (.slice none 0 0)), .p (.val (.slice none 0 0)), I a0e.bill.Net, I a0e.bill.Tax, I a0e.bill.Total, I a0e.rate])]⟩ : Int → St) (weak_shr (K := ⟨[0, 3, 4, 5, 104, 105, 106], [3, 1000], [], []⟩) (by kernel_rfl)) ?_
      rintro recl15 l15
      show SimE (g_auditor_examined_derive_l15 n a0e x1 x2 j3_2 j3_3 recl15 l15) _ _ _ _ _ _
      unfold g_auditor_examined_derive_l15
      refine sim_run Try.fm ⟨[0, 3, 4, 5, 104, 105, 106, 107], [3, 1000], [], []⟩ ⟨[(0, .ptr 1000 0), (3, .ptr 3 0), (4, .fn (.func 59) [] [.ptr 3 0]), (5, I j3_1), (104, .p (.sl 2 (List.map GSlice.cs j3_3))), (105, I (lenI (List.map GSlice.cs j3_3))), (106, I l15), (107, B (ltI l15 (lenI (List.map GSlice.cs j3_3))))], [(3, .box 33 [I x1.Minute, I x2.Minute, I j3_2, .p (.sl 2 (List.map GSlice.cs j3_3))]), (1000, .box 64 [S a0e.Claim.Tariff.Name, .p (.sl 7 (List.map GArticle.cs a0e.Claim.Tariff.Articles)), I a0e.Claim.Calendar.Offset, .p (.sl 2 (List.map GChange.cs a0e.Claim.Calendar.Changes)), .p (.sl 1 (List.map ci a0e.Claim.Calendar.Holidays)), .p (.sl 5 (List.map GReading.cs a0e.Claim.Readings)), U a0e.Claim.Seed, I a0e.Claim.Session.From, I a0e.Claim.Session.To, I a0e.Claim.Session.End, .p (.sl 2 (List.map GSlice.cs a0e.Claim.Session.Slices)), .p (.sl 2 (List.map GLine.cs a0e.Claim.Bill.Lines)), I a0e.Claim.Bill.Net, I a0e.Claim.Bill.Tax, I a0e.Claim.Bill.Total, I a0e.follows.From, I a0e.follows.To, I a0e.follows.End, .p (.val (.slice none 0 0)), .p (.val (.slice none 0 0)), I a0e.bill.Net, I a0e.bill.Tax, I a0e.bill.Total, I a0e.rate])]⟩ (by kernel_rfl) ?_
      refine sim_seq ?_
      refine sim_cond (ltI l15 (lenI (List.map GSlice.cs j3_3))) (by kernel_rfl) ?_ ?_
      · refine sim_skip ?_
        refine sq_nk ⟨[0, 3, 4, 5, 104, 105, 106], [3, 1000], [], []⟩ ⟨[(0, .ptr 1000 0), (3, .ptr 3 0), (4, .fn (.func 59) [] [.ptr 3 0]), (5, I j3_1), (104, .p (.sl 2 (List.map GSlice.cs j3_3))), (105, I (lenI (List.map GSlice.cs j3_3))), (106, I l15)], [(3, .box 33 [I x1.Minute, I x2.Minute, I j3_2, .p (.sl 2 (List.map GSlice.cs j3_3))]), (1000, .box 64 [S a0e.Claim.Tariff.Name, .p (.sl 7 (List.map GArticle.cs a0e.Claim.Tariff.Articles)), I a0e.Claim.Calendar.Offset, .p (.sl 2 (List.map GChange.cs a0e.Claim.Calendar.Changes)), .p (.sl 1 (List.map ci a0e.Claim.Calendar.Holidays)), .p (.sl 5 (List.map GReading.cs a0e.Claim.Readings)), U a0e.Claim.Seed, I a0e.Claim.Session.From, I a0e.Claim.Session.To, I a0e.Claim.Session.End, .p (.sl 2 (List.map GSlice.cs a0e.Claim.Session.Slices)), .p (.sl 2 (List.map GLine.cs a0e.Claim.Bill.Lines)), I a0e.Claim.Bill.Net, I a0e.Claim.Bill.Tax, I a0e.Claim.Bill.Total, I a0e.follows.From, I a0e.follows.To, I a0e.follows.End, .p (.val (.slice none 0 0)), .p (.val (.slice none 0 0)), I a0e.bill.Net, I a0e.bill.Tax, I a0e.bill.Total, I a0e.rate])]⟩ (by kernel_rfl) ?_
        refine sim_seq ?_
        refine sim_block ?_
        refine sim_seq ?_
        refine sim_reg ?_
        refine xs_get (by kernel_rfl) (by kernel_rfl) (aop_idx (e := 52) (S := 2) (enc := GSlice.cs) (l := j3_3) (k := .i64) (n := l15) (sv := .p (.sl 2 (List.map GSlice.cs j3_3))) rfl (by kernel_rfl) (by kernel_rfl) (by kernel_rfl) (by kernel_rfl) (by kernel_rfl)) (fun x16 => ?_)
        refine xs_run 3 (by kernel_rfl) ?_
        refine xs_end ?_
        refine sq_nk ⟨[0, 3, 4, 5, 9, 104, 105, 106], [3, 9, 1000], [], []⟩ ⟨[(0, .ptr 1000 0), (3, .ptr 3 0), (4, .fn (.func 59) [] [.ptr 3 0]), (5, I j3_1), (9, .ptr 9 0), (104, .p (.sl 2 (List.map GSlice.cs j3_3))), (105, I (lenI (List.map GSlice.cs j3_3))), (106, I l15)], [(3, .box 33 [I x1.Minute, I x2.Minute, I j3_2, .p (.sl 2 (List.map GSlice.cs j3_3))]), (9, .box 52 (bxc (GSlice.cs x16))), (1000, .box 64 [S a0e.Claim.Tariff.Name, .p (.sl 7 (List.map GArticle.cs a0e.Claim.Tariff.Articles)), I a0e.Claim.Calendar.Offset, .p (.sl 2 (List.map GChange.cs a0e.Claim.Calendar.Changes)), .p (.sl 1 (List.map ci a0e.Claim.Calendar.Holidays)), .p (.sl 5 (List.map GReading.cs a0e.Claim.Readings)), U a0e.Claim.Seed, I a0e.Claim.Session.From, I a0e.Claim.Session.To, I a0e.Claim.Session.End, .p (.sl 2 (List.map GSlice.cs a0e.Claim.Session.Slices)), .p (.sl 2 (List.map GLine.cs a0e.Claim.Bill.Lines)), I a0e.Claim.Bill.Net, I a0e.Claim.Bill.Tax, I a0e.Claim.Bill.Total, I a0e.follows.From, I a0e.follows.To, I a0e.follows.End, .p (.val (.slice none 0 0)), .p (.val (.slice none 0 0)), I a0e.bill.Net, I a0e.bill.Tax, I a0e.bill.Total, I a0e.rate])]⟩ (by kernel_rfl) ?_
        refine sim_reg ?_
        refine xs_run 3 (by kernel_rfl) ?_
        refine xs_exc [] (by kernel_rfl) (g_auditor_need_ok n (leI x16.Energy 10000) 3) (by kernel_rfl) (by kernel_rfl) (fun _ => by kernel_rfl) (fun _ => by kernel_rfl) (fun r17 => ?_) (fun e18 => ?_)
        · refine xs_end ?_
          refine bq_n ?_
          refine sq_nk ⟨[0, 3, 4, 5, 104, 105, 106], [3, 1000], [], []⟩ ⟨[(0, .ptr 1000 0), (3, .ptr 3 0), (4, .fn (.func 59) [] [.ptr 3 0]), (5, I j3_1), (104, .p (.sl 2 (List.map GSlice.cs j3_3))), (105, I (lenI (List.map GSlice.cs j3_3))), (106, I l15)], [(3, .box 33 [I x1.Minute, I x2.Minute, I j3_2, .p (.sl 2 (List.map GSlice.cs j3_3))]), (1000, .box 64 [S a0e.Claim.Tariff.Name, .p (.sl 7 (List.map GArticle.cs a0e.Claim.Tariff.Articles)), I a0e.Claim.Calendar.Offset, .p (.sl 2 (List.map GChange.cs a0e.Claim.Calendar.Changes)), .p (.sl 1 (List.map ci a0e.Claim.Calendar.Holidays)), .p (.sl 5 (List.map GReading.cs a0e.Claim.Readings)), U a0e.Claim.Seed, I a0e.Claim.Session.From, I a0e.Claim.Session.To, I a0e.Claim.Session.End, .p (.sl 2 (List.map GSlice.cs a0e.Claim.Session.Slices)), .p (.sl 2 (List.map GLine.cs a0e.Claim.Bill.Lines)), I a0e.Claim.Bill.Net, I a0e.Claim.Bill.Tax, I a0e.Claim.Bill.Total, I a0e.follows.From, I a0e.follows.To, I a0e.follows.End, .p (.val (.slice none 0 0)), .p (.val (.slice none 0 0)), I a0e.bill.Net, I a0e.bill.Tax, I a0e.bill.Total, I a0e.rate])]⟩ (by kernel_rfl) ?_
          refine sim_last Try.fm (by kernel_rfl) ?_
          exact kq_n (wi (l15 + 1)) ⟨[0, 3, 4, 5, 104, 105, 106], [3, 1000], [], []⟩ (by kernel_rfl)
        · refine bq_p ?_
          refine sq_p ?_
          refine kq_p ?_
          refine bq_p ?_
          refine sq_p ?_
          exact hq_p [1000] [(1000, [.id, .id, .id, .id, .id, .id, .id, .id, .id, .id, .id, .id, .id, .id, .id, .id, .id, .id, .sl 2, .id, .id, .id, .id, .id])] (by kernel_rfl) (by kernel_rfl) (by kernel_rfl)
      · refine sim_exit ?_
        refine sq_x ?_
        refine kq_x ?_
        refine bq_hit ?_
        refine sq_nk ⟨[0, 3, 4, 5], [3, 1000], [], []⟩ ⟨[(0, .ptr 1000 0), (3, .ptr 3 0), (4, .fn (.func 59) [] [.ptr 3 0]), (5, I j3_1)], [(3, .box 33 [I x1.Minute, I x2.Minute, I j3_2, .p (.sl 2 (List.map GSlice.cs j3_3))]), (1000, .box 64 [S a0e.Claim.Tariff.Name, .p (.sl 7 (List.map GArticle.cs a0e.Claim.Tariff.Articles)), I a0e.Claim.Calendar.Offset, .p (.sl 2 (List.map GChange.cs a0e.Claim.Calendar.Changes)), .p (.sl 1 (List.map ci a0e.Claim.Calendar.Holidays)), .p (.sl 5 (List.map GReading.cs a0e.Claim.Readings)), U a0e.Claim.Seed, I a0e.Claim.Session.From, I a0e.Claim.Session.To, I a0e.Claim.Session.End, .p (.sl 2 (List.map GSlice.cs a0e.Claim.Session.Slices)), .p (.sl 2 (List.map GLine.cs a0e.Claim.Bill.Lines)), I a0e.Claim.Bill.Net, I a0e.Claim.Bill.Tax, I a0e.Claim.Bill.Total, I a0e.follows.From, I a0e.follows.To, I a0e.follows.End, .p (.val (.slice none 0 0)), .p (.val (.slice none 0 0)), I a0e.bill.Net, I a0e.bill.Tax, I a0e.bill.Total, I a0e.rate])]⟩ (by kernel_rfl) ?_
        refine sim_last Try.fm (by kernel_rfl) ?_
        exact hq_n (.id) [1000] [] (by kernel_rfl) (by kernel_rfl) (by kernel_rfl) (by kernel_rfl)
    · refine sim_reg ?_
      refine xs_run 6 (by kernel_rfl) ?_
      refine xs_split (ltI x1.Minute x2.Minute) (fun h19 => ?_) (fun h19 => ?_)
      · refine xs_one (want_tt (by kernel_rfl) h19) (by kernel_rfl) ?_
        refine xs_run 7 (by kernel_rfl) ?_
        refine xs_split (leI (wi (x2.Minute - x1.Minute)) 2880) (fun h20 => ?_) (fun h20 => ?_)
        · refine xs_one (want_tt (by kernel_rfl) h20) (by kernel_rfl) ?_
          refine xs_run 4 (by kernel_rfl) ?_
          refine xs_exc [] (by kernel_rfl) (g_auditor_need_ok n (leI (lenI (List.map GSlice.cs j3_3)) 48) 3) (by kernel_rfl) (by kernel_rfl) (fun _ => by kernel_rfl) (fun _ => by kernel_rfl) (fun r21 => ?_) (fun e22 => ?_)
          · refine xs_end ?_
            exact kq_n (k := fun _ => g_auditor_examined_derive_j14 n a0e x1 x2 j3_2 j3_3) () ⟨[0, 3, 4, 5], [3, 1000], [], []⟩ (by kernel_rfl)
          · refine kq_p ?_
            exact hq_p [1000] [(1000, [.id, .id, .id, .id, .id, .id, .id, .id, .id, .id, .id, .id, .id, .id, .id, .id, .id, .id, .sl 2, .id, .id, .id, .id, .id])] (by kernel_rfl) (by kernel_rfl) (by kernel_rfl)
        · refine xs_no (want_tf (by kernel_rfl) h20) (by kernel_rfl) ?_
          refine xs_run 4 (by kernel_rfl) ?_
          refine xs_exc [] (by kernel_rfl) (g_auditor_need_ok n false 3) (by kernel_rfl) (by kernel_rfl) (fun _ => by kernel_rfl) (fun _ => by kernel_rfl) (fun r23 => ?_) (fun e24 => ?_)
          · refine xs_end ?_
            exact kq_n (k := fun _ => g_auditor_examined_derive_j14 n a0e x1 x2 j3_2 j3_3) () ⟨[0, 3, 4, 5], [3, 1000], [], []⟩ (by kernel_rfl)
          · refine kq_p ?_
            exact hq_p [1000] [(1000, [.id, .id, .id, .id, .id, .id, .id, .id, .id, .id, .id, .id, .id, .id, .id, .id, .id, .id, .sl 2, .id, .id, .id, .id, .id])] (by kernel_rfl) (by kernel_rfl) (by kernel_rfl)
      · refine xs_no (want_tf (by kernel_rfl) h19) (by kernel_rfl) ?_
        refine xs_run 12 (by kernel_rfl) ?_
        refine xs_exc [] (by kernel_rfl) (g_auditor_need_ok n false 3) (by kernel_rfl) (by kernel_rfl) (fun _ => by kernel_rfl) (fun _ => by kernel_rfl) (fun r25 => ?_) (fun e26 => ?_)
        · refine xs_end ?_
          exact kq_n (k := fun _ => g_auditor_examined_derive_j14 n a0e x1 x2 j3_2 j3_3) () ⟨[0, 3, 4, 5], [3, 1000], [], []⟩ (by kernel_rfl)
        · refine kq_p ?_
          exact hq_p [1000] [(1000, [.id, .id, .id, .id, .id, .id, .id, .id, .id, .id, .id, .id, .id, .id, .id, .id, .id, .id, .sl 2, .id, .id, .id, .id, .id])] (by kernel_rfl) (by kernel_rfl) (by kernel_rfl)
def g_auditor_same_api_Slice_l1 (a0a : List GSlice) (a1b : List GSlice) (recl1 : Int → Option Bool) (l1 : Int) : Option Bool :=
  cond (ltI l1 (lenI (List.map GSlice.cs a0a)))
    ((getI a0a l1).bind fun x2 =>
    (getI a1b l1).bind fun x3 =>
    cond (!opq ((eqI x2.Minute x3.Minute) && ((eqI x2.Energy x3.Energy) && true)))
      (some false)
      (recl1 (wi (l1 + 1))))
    (some true)
def g_auditor_same_api_Slice (n : Nat) (a0a : List GSlice) (a1b : List GSlice) : Option Bool :=
  cond (!eqI (lenI (List.map GSlice.cs a0a)) (lenI (List.map GSlice.cs a1b)))
    (some false)
    (loopN (fun recl1 l1 => g_auditor_same_api_Slice_l1 a0a a1b recl1 l1) n 0)
theorem g_auditor_same_api_Slice_ok (n : Nat) (a0a : List GSlice) (a1b : List GSlice) : ∀ r, g_auditor_same_api_Slice n a0a a1b = some r → PCall Try.prog 60 [.p (.sl 2 (List.map GSlice.cs a0a)), .p (.sl 2 (List.map GSlice.cs a1b))] (.ret (B r)) := by
  refine pcall_sim (X := fun r : Bool => AEnd.ret (B r)) Try.func60 rfl Try.ntmps60 rfl ?_
  unfold g_auditor_same_api_Slice
  refine sim_run Try.fm ⟨[0, 1, 4], [], [], []⟩ ⟨[(0, .p (.sl 2 (List.map GSlice.cs a0a))), (1, .p (.sl 2 (List.map GSlice.cs a1b))), (4, B false)], []⟩ (by kernel_rfl) ?_
  refine sim_seq ?_
  refine sim_run Try.fm ⟨[0, 1, 4, 10], [], [], []⟩ ⟨[(0, .p (.sl 2 (List.map GSlice.cs a0a))), (1, .p (.sl 2 (List.map GSlice.cs a1b))), (4, B false), (10, B (!eqI (lenI (List.map GSlice.cs a0a)) (lenI (List.map GSlice.cs a1b))))], []⟩ (by kernel_rfl) ?_
  refine sim_cond (!eqI (lenI (List.map GSlice.cs a0a)) (lenI (List.map GSlice.cs a1b))) (by kernel_rfl) ?_ ?_
  · refine sim_run Try.fm ⟨[4], [], [], []⟩ ⟨[(4, B false)], []⟩ (by kernel_rfl) ?_
    refine sim_ret ?_
    refine sq_r ?_
    exact rq_ret (.id) (by kernel_rfl) (by kernel_rfl) (by kernel_rfl)
  · refine sim_skip ?_
    refine sq_nk ⟨[0, 1, 4], [], [], []⟩ ⟨[(0, .p (.sl 2 (List.map GSlice.cs a0a))), (1, .p (.sl 2 (List.map GSlice.cs a1b))), (4, B false)], []⟩ (by kernel_rfl) ?_
    refine sim_seq ?_
    refine sim_run Try.fm ⟨[0, 1, 4, 12, 13], [], [], []⟩ ⟨[(0, .p (.sl 2 (List.map GSlice.cs a0a))), (1, .p (.sl 2 (List.map GSlice.cs a1b))), (4, B false), (12, I (lenI (List.map GSlice.cs a0a))), (13, I 0)], []⟩ (by kernel_rfl) ?_
    refine sim_block ?_
    refine sim_loop (fun l1 => ⟨[(0, .p (.sl 2 (List.map GSlice.cs a0a))), (1, .p (.sl 2 (List.map GSlice.cs a1b))), (4, B false), (12, I (lenI (List.map GSlice.cs a0a))), (13, I l1)], []⟩ : Int → St) (weak_shr (K := ⟨[0, 1, 4, 12, 13], [], [], []⟩) (by kernel_rfl)) ?_
    rintro recl1 l1
    show SimE (g_auditor_same_api_Slice_l1 a0a a1b recl1 l1) _ _ _ _ _ _
    unfold g_auditor_same_api_Slice_l1
    refine sim_run Try.fm ⟨[0, 1, 4, 12, 13, 14], [], [], []⟩ ⟨[(0, .p (.sl 2 (List.map GSlice.cs a0a))), (1, .p (.sl 2 (List.map GSlice.cs a1b))), (4, B false), (12, I (lenI (List.map GSlice.cs a0a))), (13, I l1), (14, B (ltI l1 (lenI (List.map GSlice.cs a0a))))], []⟩ (by kernel_rfl) ?_
    refine sim_seq ?_
    refine sim_cond (ltI l1 (lenI (List.map GSlice.cs a0a))) (by kernel_rfl) ?_ ?_
    · refine sim_skip ?_
      refine sq_nk ⟨[0, 1, 4, 12, 13], [], [], []⟩ ⟨[(0, .p (.sl 2 (List.map GSlice.cs a0a))), (1, .p (.sl 2 (List.map GSlice.cs a1b))), (4, B false), (12, I (lenI (List.map GSlice.cs a0a))), (13, I l1)], []⟩ (by kernel_rfl) ?_
      refine sim_seq ?_
      refine sim_block ?_
      refine sim_run Try.fm ⟨[0, 1, 4, 5, 12, 13], [], [], []⟩ ⟨[(0, .p (.sl 2 (List.map GSlice.cs a0a))), (1, .p (.sl 2 (List.map GSlice.cs a1b))), (4, B false), (5, I l1), (12, I (lenI (List.map GSlice.cs a0a))), (13, I l1)], []⟩ (by kernel_rfl) ?_
      refine sim_seq ?_
      refine sim_drw Try.fm rfl ?_
      refine xs_run 2 (by kernel_rfl) ?_
      refine xs_get (by kernel_rfl) (by kernel_rfl) (aop_idx (e := 52) (S := 2) (enc := GSlice.cs) (l := a0a) (k := .i64) (n := l1) (sv := .p (.sl 2 (List.map GSlice.cs a0a))) rfl (by kernel_rfl) (by kernel_rfl) (by kernel_rfl) (by kernel_rfl) (by kernel_rfl)) (fun x2 => ?_)
      refine xs_run 3 (by kernel_rfl) ?_
      refine xs_get (by kernel_rfl) (by kernel_rfl) (aop_idx (e := 52) (S := 2) (enc := GSlice.cs) (l := a1b) (k := .i64) (n := l1) (sv := .p (.sl 2 (List.map GSlice.cs a1b))) rfl (by kernel_rfl) (by kernel_rfl) (by kernel_rfl) (by kernel_rfl) (by kernel_rfl)) (fun x3 => ?_)
      refine xs_run 1 (by kernel_rfl) ?_
      refine xs_u (by kernel_rfl) (by kernel_rfl) (aop_neq (xs := [I x2.Minute, I x2.Energy]) (ys := [I x3.Minute, I x3.Energy]) (vx := [.int .i64 x2.Minute, .int .i64 x2.Energy]) (vy := [.int .i64 x3.Minute, .int .i64 x3.Energy]) (b := (eqI x2.Minute x3.Minute) && ((eqI x2.Energy x3.Energy) && true)) rfl (by kernel_rfl) (by kernel_rfl) (by kernel_rfl) (by kernel_rfl) (by kernel_rfl) (by kernel_rfl)) ?_
      refine xs_endD (by kernel_rfl) ?_
      refine sq_nk ⟨[0, 1, 4, 5, 12, 13, 24], [], [], []⟩ ⟨[(0, .p (.sl 2 (List.map GSlice.cs a0a))), (1, .p (.sl 2 (List.map GSlice.cs a1b))), (4, B false), (5, I l1), (12, I (lenI (List.map GSlice.cs a0a))), (13, I l1), (24, B (!opq ((eqI x2.Minute x3.Minute) && ((eqI x2.Energy x3.Energy) && true))))], []⟩ (by kernel_rfl) ?_
      refine sim_cond (!opq ((eqI x2.Minute x3.Minute) && ((eqI x2.Energy x3.Energy) && true))) (by kernel_rfl) ?_ ?_
      · refine sim_run Try.fm ⟨[4], [], [], []⟩ ⟨[(4, B false)], []⟩ (by kernel_rfl) ?_
        refine sim_ret ?_
        refine bq_r ?_
        refine sq_r ?_
        refine kq_r ?_
        refine bq_r ?_
        refine sq_r ?_
        exact rq_ret (.id) (by kernel_rfl) (by kernel_rfl) (by kernel_rfl)
      · refine sim_skip ?_
        refine bq_n ?_
        refine sq_nk ⟨[0, 1, 4, 5, 12, 13], [], [], []⟩ ⟨[(0, .p (.sl 2 (List.map GSlice.cs a0a))), (1, .p (.sl 2 (List.map GSlice.cs a1b))), (4, B false), (5, I l1), (12, I (lenI (List.map GSlice.cs a0a))), (13, I l1)], []⟩ (by kernel_rfl) ?_
        refine sim_last Try.fm (by kernel_rfl) ?_
        exact kq_n (wi (l1 + 1)) ⟨[0, 1, 4, 12, 13], [], [], []⟩ (by kernel_rfl)
    · refine sim_exit ?_
      refine sq_x ?_
      refine kq_x ?_
      refine bq_hit ?_
      refine sq_nk ⟨[4], [], [], []⟩ ⟨[(4, B false)], []⟩ (by kernel_rfl) ?_
      refine sim_run Try.fm ⟨[4], [], [], []⟩ ⟨[(4, B true)], []⟩ (by kernel_rfl) ?_
      refine sim_ret ?_
      exact rq_ret (.id) (by kernel_rfl) (by kernel_rfl) (by kernel_rfl)
def g_auditor_examined_compared (n : Nat) (a0e : GAuditorExamined) : Option (Except Int Unit) :=
  cond (eqI a0e.Claim.Session.From a0e.follows.From)
    (cond (eqI a0e.Claim.Session.To a0e.follows.To)
      (cond (eqI a0e.Claim.Session.End a0e.follows.End)
        ((g_auditor_same_api_Slice n a0e.Claim.Session.Slices a0e.follows.Slices).bind fun r4 =>
        (g_auditor_need n r4 3).bind (exc (fun r5 =>
          some (.ok ())) fun e6 => some (.error e6)))
        ((g_auditor_need n false 3).bind (exc (fun r7 =>
          some (.ok ())) fun e8 => some (.error e8))))
      ((g_auditor_need n false 3).bind (exc (fun r9 =>
        some (.ok ())) fun e10 => some (.error e10))))
    ((g_auditor_need n false 3).bind (exc (fun r11 =>
      some (.ok ())) fun e12 => some (.error e12)))
theorem g_auditor_examined_compared_ok (n : Nat) (a0e : GAuditorExamined) : ∀ r, g_auditor_examined_compared n a0e = some r → PCall Try.prog 36 [.eptr [VS a0e.Claim.Tariff.Name, .sl 7 (List.map GArticle.cs a0e.Claim.Tariff.Articles), VI a0e.Claim.Calendar.Offset, .sl 2 (List.map GChange.cs a0e.Claim.Calendar.Changes), .sl 1 (List.map ci a0e.Claim.Calendar.Holidays), .sl 5 (List.map GReading.cs a0e.Claim.Readings), VU a0e.Claim.Seed, VI a0e.Claim.Session.From, VI a0e.Claim.Session.To, VI a0e.Claim.Session.End, .sl 2 (List.map GSlice.cs a0e.Claim.Session.Slices), .sl 2 (List.map GLine.cs a0e.Claim.Bill.Lines), VI a0e.Claim.Bill.Net, VI a0e.Claim.Bill.Tax, VI a0e.Claim.Bill.Total, VI a0e.follows.From, VI a0e.follows.To, VI a0e.follows.End, .sl 2 (List.map GSlice.cs a0e.follows.Slices), .sl 2 (List.map GLine.cs a0e.bill.Lines), VI a0e.bill.Net, VI a0e.bill.Tax, VI a0e.bill.Total, VI a0e.rate]] (excE (fun r : Unit => (.tup [] : AV)) (fun e : Int => (.ifc 99 (.agg [I e]) : AV)) r) := by
  refine pcall_sim (X := excE (fun r : Unit => (.tup [] : AV)) (fun e : Int => (.ifc 99 (.agg [I e]) : AV))) Try.func36 rfl Try.ntmps36 rfl ?_
  unfold g_auditor_examined_compared
  refine sim_run Try.fm ⟨[2, 3, 4, 5], [2, 3], [], []⟩ ⟨[(2, .ptr 2 0), (3, .ptr 3 0), (4, .eptr [VS a0e.Claim.Tariff.Name, .sl 7 (List.map GArticle.cs a0e.Claim.Tariff.Articles), VI a0e.Claim.Calendar.Offset, .sl 2 (List.map GChange.cs a0e.Claim.Calendar.Changes), .sl 1 (List.map ci a0e.Claim.Calendar.Holidays), .sl 5 (List.map GReading.cs a0e.Claim.Readings), VU a0e.Claim.Seed, VI a0e.Claim.Session.From, VI a0e.Claim.Session.To, VI a0e.Claim.Session.End, .sl 2 (List.map GSlice.cs a0e.Claim.Session.Slices), .sl 2 (List.map GLine.cs a0e.Claim.Bill.Lines), VI a0e.Claim.Bill.Net, VI a0e.Claim.Bill.Tax, VI a0e.Claim.Bill.Total, VI a0e.follows.From, VI a0e.follows.To, VI a0e.follows.End, .sl 2 (List.map GSlice.cs a0e.follows.Slices), .sl 2 (List.map GLine.cs a0e.bill.Lines), VI a0e.bill.Net, VI a0e.bill.Tax, VI a0e.bill.Total, VI a0e.rate]), (5, .eptr [VS a0e.Claim.Tariff.Name, .sl 7 (List.map GArticle.cs a0e.Claim.Tariff.Articles), VI a0e.Claim.Calendar.Offset, .sl 2 (List.map GChange.cs a0e.Claim.Calendar.Changes), .sl 1 (List.map ci a0e.Claim.Calendar.Holidays), .sl 5 (List.map GReading.cs a0e.Claim.Readings), VU a0e.Claim.Seed, VI a0e.Claim.Session.From, VI a0e.Claim.Session.To, VI a0e.Claim.Session.End, .sl 2 (List.map GSlice.cs a0e.Claim.Session.Slices), .sl 2 (List.map GLine.cs a0e.Claim.Bill.Lines), VI a0e.Claim.Bill.Net, VI a0e.Claim.Bill.Tax, VI a0e.Claim.Bill.Total, VI a0e.follows.From, VI a0e.follows.To, VI a0e.follows.End, .sl 2 (List.map GSlice.cs a0e.follows.Slices), .sl 2 (List.map GLine.cs a0e.bill.Lines), VI a0e.bill.Net, VI a0e.bill.Tax, VI a0e.bill.Total, VI a0e.rate])], [(2, .box 33 (bxc (GSession.cs a0e.Claim.Session))), (3, .box 33 (bxc (GSession.cs a0e.follows)))]⟩ (by kernel_rfl) ?_
  refine sim_reg ?_
  refine xs_run 6 (by kernel_rfl) ?_
  refine xs_split (eqI a0e.Claim.Session.From a0e.follows.From) (fun h1 => ?_) (fun h1 => ?_)
  · refine xs_one (want_tt (by kernel_rfl) h1) (by kernel_rfl) ?_
    refine xs_run 6 (by kernel_rfl) ?_
    refine xs_split (eqI a0e.Claim.Session.To a0e.follows.To) (fun h2 => ?_) (fun h2 => ?_)
    · refine xs_one (want_tt (by kernel_rfl) h2) (by kernel_rfl) ?_
      refine xs_run 6 (by kernel_rfl) ?_
      refine xs_split (eqI a0e.Claim.Session.End a0e.follows.End) (fun h3 => ?_) (fun h3 => ?_)
      · refine xs_one (want_tt (by kernel_rfl) h3) (by kernel_rfl) ?_
        refine xs_run 3 (by kernel_rfl) ?_
        refine xs_call [] (by kernel_rfl) (g_auditor_same_api_Slice_ok n a0e.Claim.Session.Slices a0e.follows.Slices) (by kernel_rfl) (by kernel_rfl) (fun _ => by kernel_rfl) (fun r4 => ?_)
        refine xs_run 1 (by kernel_rfl) ?_
        refine xs_exc [] (by kernel_rfl) (g_auditor_need_ok n r4 3) (by kernel_rfl) (by kernel_rfl) (fun _ => by kernel_rfl) (fun _ => by kernel_rfl) (fun r5 => ?_) (fun e6 => ?_)
        · refine xs_end ?_
          exact rq_n (.id) (by kernel_rfl) (by kernel_rfl) (by kernel_rfl)
        · exact rq_p (by kernel_rfl) (by kernel_rfl)
      · refine xs_no (want_tf (by kernel_rfl) h3) (by kernel_rfl) ?_
        refine xs_run 5 (by kernel_rfl) ?_
        refine xs_exc [] (by kernel_rfl) (g_auditor_need_ok n false 3) (by kernel_rfl) (by kernel_rfl) (fun _ => by kernel_rfl) (fun _ => by kernel_rfl) (fun r7 => ?_) (fun e8 => ?_)
        · refine xs_end ?_
          exact rq_n (.id) (by kernel_rfl) (by kernel_rfl) (by kernel_rfl)
        · exact rq_p (by kernel_rfl) (by kernel_rfl)
    · refine xs_no (want_tf (by kernel_rfl) h2) (by kernel_rfl) ?_
      refine xs_run 12 (by kernel_rfl) ?_
      refine xs_exc [] (by kernel_rfl) (g_auditor_need_ok n false 3) (by kernel_rfl) (by kernel_rfl) (fun _ => by kernel_rfl) (fun _ => by kernel_rfl) (fun r9 => ?_) (fun e10 => ?_)
      · refine xs_end ?_
        exact rq_n (.id) (by kernel_rfl) (by kernel_rfl) (by kernel_rfl)
      · exact rq_p (by kernel_rfl) (by kernel_rfl)
  · refine xs_no (want_tf (by kernel_rfl) h1) (by kernel_rfl) ?_
    refine xs_run 19 (by kernel_rfl) ?_
    refine xs_exc [] (by kernel_rfl) (g_auditor_need_ok n false 3) (by kernel_rfl) (by kernel_rfl) (fun _ => by kernel_rfl) (fun _ => by kernel_rfl) (fun r11 => ?_) (fun e12 => ?_)
    · refine xs_end ?_
      exact rq_n (.id) (by kernel_rfl) (by kernel_rfl) (by kernel_rfl)
    · exact rq_p (by kernel_rfl) (by kernel_rfl)
def g_auditor_examined_offset_l1 (a0e : GAuditorExamined) (a1minute : Int) (recl1 : (Int × Int) → Option Int) (l1_1 : Int) (l1_2 : Int) : Option Int :=
  cond (ltI l1_2 (lenI (List.map GChange.cs a0e.Claim.Calendar.Changes)))
    ((getI a0e.Claim.Calendar.Changes l1_2).bind fun x2 =>
    cond (leI x2.At a1minute)
      (recl1 (x2.Offset, wi (l1_2 + 1)))
      (recl1 (l1_1, wi (l1_2 + 1))))
    (some l1_1)
def g_auditor_examined_offset (n : Nat) (a0e : GAuditorExamined) (a1minute : Int) : Option Int :=
  loopN (fun recl1 (l1_1, l1_2) => g_auditor_examined_offset_l1 a0e a1minute recl1 l1_1 l1_2) n (a0e.Claim.Calendar.Offset, 0)
theorem g_auditor_examined_offset_ok (n : Nat) (a0e : GAuditorExamined) (a1minute : Int) : ∀ r, g_auditor_examined_offset n a0e a1minute = some r → PCall Try.prog 88 [.eptr [VS a0e.Claim.Tariff.Name, .sl 7 (List.map GArticle.cs a0e.Claim.Tariff.Articles), VI a0e.Claim.Calendar.Offset, .sl 2 (List.map GChange.cs a0e.Claim.Calendar.Changes), .sl 1 (List.map ci a0e.Claim.Calendar.Holidays), .sl 5 (List.map GReading.cs a0e.Claim.Readings), VU a0e.Claim.Seed, VI a0e.Claim.Session.From, VI a0e.Claim.Session.To, VI a0e.Claim.Session.End, .sl 2 (List.map GSlice.cs a0e.Claim.Session.Slices), .sl 2 (List.map GLine.cs a0e.Claim.Bill.Lines), VI a0e.Claim.Bill.Net, VI a0e.Claim.Bill.Tax, VI a0e.Claim.Bill.Total, VI a0e.follows.From, VI a0e.follows.To, VI a0e.follows.End, .sl 2 (List.map GSlice.cs a0e.follows.Slices), .sl 2 (List.map GLine.cs a0e.bill.Lines), VI a0e.bill.Net, VI a0e.bill.Tax, VI a0e.bill.Total, VI a0e.rate], I a1minute] (.ret (I r)) := by
  refine pcall_sim (X := fun r : Int => AEnd.ret (I r)) Try.func88 rfl Try.ntmps88 rfl ?_
  unfold g_auditor_examined_offset
  refine sim_run Try.fm ⟨[0, 1, 4], [], [], []⟩ ⟨[(0, .eptr [VS a0e.Claim.Tariff.Name, .sl 7 (List.map GArticle.cs a0e.Claim.Tariff.Articles), VI a0e.Claim.Calendar.Offset, .sl 2 (List.map GChange.cs a0e.Claim.Calendar.Changes), .sl 1 (List.map ci a0e.Claim.Calendar.Holidays), .sl 5 (List.map GReading.cs a0e.Claim.Readings), VU a0e.Claim.Seed, VI a0e.Claim.Session.From, VI a0e.Claim.Session.To, VI a0e.Claim.Session.End, .sl 2 (List.map GSlice.cs a0e.Claim.Session.Slices), .sl 2 (List.map GLine.cs a0e.Claim.Bill.Lines), VI a0e.Claim.Bill.Net, VI a0e.Claim.Bill.Tax, VI a0e.Claim.Bill.Total, VI a0e.follows.From, VI a0e.follows.To, VI a0e.follows.End, .sl 2 (List.map GSlice.cs a0e.follows.Slices), .sl 2 (List.map GLine.cs a0e.bill.Lines), VI a0e.bill.Net, VI a0e.bill.Tax, VI a0e.bill.Total, VI a0e.rate]), (1, I a1minute), (4, I 0)], []⟩ (by kernel_rfl) ?_
  refine sim_run Try.fm ⟨[0, 1, 4, 5], [], [], []⟩ ⟨[(0, .eptr [VS a0e.Claim.Tariff.Name, .sl 7 (List.map GArticle.cs a0e.Claim.Tariff.Articles), VI a0e.Claim.Calendar.Offset, .sl 2 (List.map GChange.cs a0e.Claim.Calendar.Changes), .sl 1 (List.map ci a0e.Claim.Calendar.Holidays), .sl 5 (List.map GReading.cs a0e.Claim.Readings), VU a0e.Claim.Seed, VI a0e.Claim.Session.From, VI a0e.Claim.Session.To, VI a0e.Claim.Session.End, .sl 2 (List.map GSlice.cs a0e.Claim.Session.Slices), .sl 2 (List.map GLine.cs a0e.Claim.Bill.Lines), VI a0e.Claim.Bill.Net, VI a0e.Claim.Bill.Tax, VI a0e.Claim.Bill.Total, VI a0e.follows.From, VI a0e.follows.To, VI a0e.follows.End, .sl 2 (List.map GSlice.cs a0e.follows.Slices), .sl 2 (List.map GLine.cs a0e.bill.Lines), VI a0e.bill.Net, VI a0e.bill.Tax, VI a0e.bill.Total, VI a0e.rate]), (1, I a1minute), (4, I 0), (5, I a0e.Claim.Calendar.Offset)], []⟩ (by kernel_rfl) ?_
  refine sim_seq ?_
  refine sim_run Try.fm ⟨[1, 4, 5, 19, 20, 21], [], [], []⟩ ⟨[(1, I a1minute), (4, I 0), (5, I a0e.Claim.Calendar.Offset), (19, .p (.sl 2 (List.map GChange.cs a0e.Claim.Calendar.Changes))), (20, I (lenI (List.map GChange.cs a0e.Claim.Calendar.Changes))), (21, I 0)], []⟩ (by kernel_rfl) ?_
  refine sim_block ?_
  refine sim_loop (fun (l1_1, l1_2) => ⟨[(1, I a1minute), (4, I 0), (5, I l1_1), (19, .p (.sl 2 (List.map GChange.cs a0e.Claim.Calendar.Changes))), (20, I (lenI (List.map GChange.cs a0e.Claim.Calendar.Changes))), (21, I l1_2)], []⟩ : (Int × Int) → St) (weak_shr (K := ⟨[1, 4, 5, 19, 20, 21], [], [], []⟩) (by kernel_rfl)) ?_
  rintro recl1 ⟨l1_1, l1_2⟩
  show SimE (g_auditor_examined_offset_l1 a0e a1minute recl1 l1_1 l1_2) _ _ _ _ _ _
  unfold g_auditor_examined_offset_l1
  refine sim_run Try.fm ⟨[1, 4, 5, 19, 20, 21, 22], [], [], []⟩ ⟨[(1, I a1minute), (4, I 0), (5, I l1_1), (19, .p (.sl 2 (List.map GChange.cs a0e.Claim.Calendar.Changes))), (20, I (lenI (List.map GChange.cs a0e.Claim.Calendar.Changes))), (21, I l1_2), (22, B (ltI l1_2 (lenI (List.map GChange.cs a0e.Claim.Calendar.Changes))))], []⟩ (by kernel_rfl) ?_
  refine sim_seq ?_
  refine sim_cond (ltI l1_2 (lenI (List.map GChange.cs a0e.Claim.Calendar.Changes))) (by kernel_rfl) ?_ ?_
  · refine sim_skip ?_
    refine sq_nk ⟨[1, 4, 5, 19, 20, 21], [], [], []⟩ ⟨[(1, I a1minute), (4, I 0), (5, I l1_1), (19, .p (.sl 2 (List.map GChange.cs a0e.Claim.Calendar.Changes))), (20, I (lenI (List.map GChange.cs a0e.Claim.Calendar.Changes))), (21, I l1_2)], []⟩ (by kernel_rfl) ?_
    refine sim_seq ?_
    refine sim_block ?_
    refine sim_seq ?_
    refine sim_reg ?_
    refine xs_get (by kernel_rfl) (by kernel_rfl) (aop_idx (e := 89) (S := 2) (enc := GChange.cs) (l := a0e.Claim.Calendar.Changes) (k := .i64) (n := l1_2) (sv := .p (.sl 2 (List.map GChange.cs a0e.Claim.Calendar.Changes))) rfl (by kernel_rfl) (by kernel_rfl) (by kernel_rfl) (by kernel_rfl) (by kernel_rfl)) (fun x2 => ?_)
    refine xs_run 3 (by kernel_rfl) ?_
    refine xs_end ?_
    refine sq_nk ⟨[1, 4, 5, 7, 19, 20, 21], [7], [], []⟩ ⟨[(1, I a1minute), (4, I 0), (5, I l1_1), (7, .ptr 7 0), (19, .p (.sl 2 (List.map GChange.cs a0e.Claim.Calendar.Changes))), (20, I (lenI (List.map GChange.cs a0e.Claim.Calendar.Changes))), (21, I l1_2)], [(7, .box 89 (bxc (GChange.cs x2)))]⟩ (by kernel_rfl) ?_
    refine sim_run Try.fm ⟨[1, 4, 5, 7, 19, 20, 21, 28], [7], [], []⟩ ⟨[(1, I a1minute), (4, I 0), (5, I l1_1), (7, .ptr 7 0), (19, .p (.sl 2 (List.map GChange.cs a0e.Claim.Calendar.Changes))), (20, I (lenI (List.map GChange.cs a0e.Claim.Calendar.Changes))), (21, I l1_2), (28, B (leI x2.At a1minute))], [(7, .box 89 (bxc (GChange.cs x2)))]⟩ (by kernel_rfl) ?_
    refine sim_cond (leI x2.At a1minute) (by kernel_rfl) ?_ ?_
    · refine sim_last Try.fm (by kernel_rfl) ?_
      refine bq_n ?_
      refine sq_nk ⟨[1, 4, 5, 19, 20, 21], [], [], []⟩ ⟨[(1, I a1minute), (4, I 0), (5, I x2.Offset), (19, .p (.sl 2 (List.map GChange.cs a0e.Claim.Calendar.Changes))), (20, I (lenI (List.map GChange.cs a0e.Claim.Calendar.Changes))), (21, I l1_2)], []⟩ (by kernel_rfl) ?_
      refine sim_last Try.fm (by kernel_rfl) ?_
      exact kq_n (x2.Offset, wi (l1_2 + 1)) ⟨[1, 4, 5, 19, 20, 21], [], [], []⟩ (by kernel_rfl)
    · refine sim_skip ?_
      refine bq_n ?_
      refine sq_nk ⟨[1, 4, 5, 19, 20, 21], [], [], []⟩ ⟨[(1, I a1minute), (4, I 0), (5, I l1_1), (19, .p (.sl 2 (List.map GChange.cs a0e.Claim.Calendar.Changes))), (20, I (lenI (List.map GChange.cs a0e.Claim.Calendar.Changes))), (21, I l1_2)], []⟩ (by kernel_rfl) ?_
      refine sim_last Try.fm (by kernel_rfl) ?_
      exact kq_n (l1_1, wi (l1_2 + 1)) ⟨[1, 4, 5, 19, 20, 21], [], [], []⟩ (by kernel_rfl)
  · refine sim_exit ?_
    refine sq_x ?_
    refine kq_x ?_
    refine bq_hit ?_
    refine sq_nk ⟨[4, 5], [], [], []⟩ ⟨[(4, I 0), (5, I l1_1)], []⟩ (by kernel_rfl) ?_
    refine sim_run Try.fm ⟨[4], [], [], []⟩ ⟨[(4, I l1_1)], []⟩ (by kernel_rfl) ?_
    refine sim_ret ?_
    exact rq_ret (.id) (by kernel_rfl) (by kernel_rfl) (by kernel_rfl)
def g_auditor_examined_typeOf_j1 (a1day : Int) : Option Int :=
  cond (eqI (Int.tmod (wi (a1day + 7)) 7) 5)
    (some 1)
    (cond (eqI (Int.tmod (wi (a1day + 7)) 7) 6)
      (some 2)
      (some 0))
def g_auditor_examined_typeOf_l2 (a0e : GAuditorExamined) (a1day : Int) (recl2 : Int → Option Int) (l2 : Int) : Option Int :=
  cond (ltI l2 (lenI (List.map ci a0e.Claim.Calendar.Holidays)))
    ((getI a0e.Claim.Calendar.Holidays l2).bind fun x3 =>
    cond (eqI x3 a1day)
      (some 2)
      (recl2 (wi (l2 + 1))))
    (g_auditor_examined_typeOf_j1 a1day)
def g_auditor_examined_typeOf (n : Nat) (a0e : GAuditorExamined) (a1day : Int) : Option Int :=
  loopN (fun recl2 l2 => g_auditor_examined_typeOf_l2 a0e a1day recl2 l2) n 0
theorem g_auditor_examined_typeOf_ok (n : Nat) (a0e : GAuditorExamined) (a1day : Int) : ∀ r, g_auditor_examined_typeOf n a0e a1day = some r → PCall Try.prog 89 [.eptr [VS a0e.Claim.Tariff.Name, .sl 7 (List.map GArticle.cs a0e.Claim.Tariff.Articles), VI a0e.Claim.Calendar.Offset, .sl 2 (List.map GChange.cs a0e.Claim.Calendar.Changes), .sl 1 (List.map ci a0e.Claim.Calendar.Holidays), .sl 5 (List.map GReading.cs a0e.Claim.Readings), VU a0e.Claim.Seed, VI a0e.Claim.Session.From, VI a0e.Claim.Session.To, VI a0e.Claim.Session.End, .sl 2 (List.map GSlice.cs a0e.Claim.Session.Slices), .sl 2 (List.map GLine.cs a0e.Claim.Bill.Lines), VI a0e.Claim.Bill.Net, VI a0e.Claim.Bill.Tax, VI a0e.Claim.Bill.Total, VI a0e.follows.From, VI a0e.follows.To, VI a0e.follows.End, .sl 2 (List.map GSlice.cs a0e.follows.Slices), .sl 2 (List.map GLine.cs a0e.bill.Lines), VI a0e.bill.Net, VI a0e.bill.Tax, VI a0e.bill.Total, VI a0e.rate], I a1day] (.ret (I r)) := by
  refine pcall_sim (X := fun r : Int => AEnd.ret (I r)) Try.func89 rfl Try.ntmps89 rfl ?_
  unfold g_auditor_examined_typeOf
  refine sim_run Try.fm ⟨[0, 1, 4], [], [], []⟩ ⟨[(0, .eptr [VS a0e.Claim.Tariff.Name, .sl 7 (List.map GArticle.cs a0e.Claim.Tariff.Articles), VI a0e.Claim.Calendar.Offset, .sl 2 (List.map GChange.cs a0e.Claim.Calendar.Changes), .sl 1 (List.map ci a0e.Claim.Calendar.Holidays), .sl 5 (List.map GReading.cs a0e.Claim.Readings), VU a0e.Claim.Seed, VI a0e.Claim.Session.From, VI a0e.Claim.Session.To, VI a0e.Claim.Session.End, .sl 2 (List.map GSlice.cs a0e.Claim.Session.Slices), .sl 2 (List.map GLine.cs a0e.Claim.Bill.Lines), VI a0e.Claim.Bill.Net, VI a0e.Claim.Bill.Tax, VI a0e.Claim.Bill.Total, VI a0e.follows.From, VI a0e.follows.To, VI a0e.follows.End, .sl 2 (List.map GSlice.cs a0e.follows.Slices), .sl 2 (List.map GLine.cs a0e.bill.Lines), VI a0e.bill.Net, VI a0e.bill.Tax, VI a0e.bill.Total, VI a0e.rate]), (1, I a1day), (4, I 0)], []⟩ (by kernel_rfl) ?_
  refine sim_cps (fun _ => ⟨[(1, I a1day), (4, I 0)], []⟩ : Unit → St) (fun _ => g_auditor_examined_typeOf_j1 a1day) ?_ ?_
  · rintro _
    show SimE (g_auditor_examined_typeOf_j1 a1day) _ _ _ _ _ _
    unfold g_auditor_examined_typeOf_j1
    refine sim_seq ?_
    refine sim_run Try.fm ⟨[4, 24], [], [], []⟩ ⟨[(4, I 0), (24, I (Int.tmod (wi (a1day + 7)) 7))], []⟩ (by kernel_rfl) ?_
    refine sim_block ?_
    refine sim_run Try.fm ⟨[4, 24, 25], [], [], []⟩ ⟨[(4, I 0), (24, I (Int.tmod (wi (a1day + 7)) 7)), (25, B (eqI (Int.tmod (wi (a1day + 7)) 7) 5))], []⟩ (by kernel_rfl) ?_
    refine sim_cond (eqI (Int.tmod (wi (a1day + 7)) 7) 5) (by kernel_rfl) ?_ ?_
    · refine sim_run Try.fm ⟨[4], [], [], []⟩ ⟨[(4, I 1)], []⟩ (by kernel_rfl) ?_
      refine sim_ret ?_
      refine bq_r ?_
      refine sq_r ?_
      exact rq_ret (.id) (by kernel_rfl) (by kernel_rfl) (by kernel_rfl)
    · refine sim_run Try.fm ⟨[4, 27], [], [], []⟩ ⟨[(4, I 0), (27, B (eqI (Int.tmod (wi (a1day + 7)) 7) 6))], []⟩ (by kernel_rfl) ?_
      refine sim_cond (eqI (Int.tmod (wi (a1day + 7)) 7) 6) (by kernel_rfl) ?_ ?_
      · refine sim_run Try.fm ⟨[4], [], [], []⟩ ⟨[(4, I 2)], []⟩ (by kernel_rfl) ?_
        refine sim_ret ?_
        refine bq_r ?_
        refine sq_r ?_
        exact rq_ret (.id) (by kernel_rfl) (by kernel_rfl) (by kernel_rfl)
      · refine sim_skip ?_
        refine bq_n ?_
        refine sq_nk ⟨[4], [], [], []⟩ ⟨[(4, I 0)], []⟩ (by kernel_rfl) ?_
        refine sim_run Try.fm ⟨[4], [], [], []⟩ ⟨[(4, I 0)], []⟩ (by kernel_rfl) ?_
        refine sim_ret ?_
        exact rq_ret (.id) (by kernel_rfl) (by kernel_rfl) (by kernel_rfl)
  · refine sim_run Try.fm ⟨[1, 4, 12, 13, 14], [], [], []⟩ ⟨[(1, I a1day), (4, I 0), (12, .p (.sl 1 (List.map ci a0e.Claim.Calendar.Holidays))), (13, I (lenI (List.map ci a0e.Claim.Calendar.Holidays))), (14, I 0)], []⟩ (by kernel_rfl) ?_
    refine sim_block ?_
    refine sim_loop (fun l2 => ⟨[(1, I a1day), (4, I 0), (12, .p (.sl 1 (List.map ci a0e.Claim.Calendar.Holidays))), (13, I (lenI (List.map ci a0e.Claim.Calendar.Holidays))), (14, I l2)], []⟩ : Int → St) (weak_shr (K := ⟨[1, 4, 12, 13, 14], [], [], []⟩) (by kernel_rfl)) ?_
    rintro recl2 l2
    show SimE (g_auditor_examined_typeOf_l2 a0e a1day recl2 l2) _ _ _ _ _ _
    unfold g_auditor_examined_typeOf_l2
    refine sim_run Try.fm ⟨[1, 4, 12, 13, 14, 15], [], [], []⟩ ⟨[(1, I a1day), (4, I 0), (12, .p (.sl 1 (List.map ci a0e.Claim.Calendar.Holidays))), (13, I (lenI (List.map ci a0e.Claim.Calendar.Holidays))), (14, I l2), (15, B (ltI l2 (lenI (List.map ci a0e.Claim.Calendar.Holidays))))], []⟩ (by kernel_rfl) ?_
    refine sim_seq ?_
    refine sim_cond (ltI l2 (lenI (List.map ci a0e.Claim.Calendar.Holidays))) (by kernel_rfl) ?_ ?_
    · refine sim_skip ?_
      refine sq_nk ⟨[1, 4, 12, 13, 14], [], [], []⟩ ⟨[(1, I a1day), (4, I 0), (12, .p (.sl 1 (List.map ci a0e.Claim.Calendar.Holidays))), (13, I (lenI (List.map ci a0e.Claim.Calendar.Holidays))), (14, I l2)], []⟩ (by kernel_rfl) ?_
      refine sim_seq ?_
      refine sim_block ?_
      refine sim_seq ?_
      refine sim_reg ?_
      refine xs_get (by kernel_rfl) (by kernel_rfl) (aop_idx (e := 3) (S := 1) (enc := ci) (l := a0e.Claim.Calendar.Holidays) (k := .i64) (n := l2) (sv := .p (.sl 1 (List.map ci a0e.Claim.Calendar.Holidays))) rfl (by kernel_rfl) (by kernel_rfl) (by kernel_rfl) (by kernel_rfl) (by kernel_rfl)) (fun x3 => ?_)
      refine xs_run 2 (by kernel_rfl) ?_
      refine xs_end ?_
      refine sq_nk ⟨[1, 4, 6, 12, 13, 14], [], [], []⟩ ⟨[(1, I a1day), (4, I 0), (6, I x3), (12, .p (.sl 1 (List.map ci a0e.Claim.Calendar.Holidays))), (13, I (lenI (List.map ci a0e.Claim.Calendar.Holidays))), (14, I l2)], []⟩ (by kernel_rfl) ?_
      refine sim_run Try.fm ⟨[1, 4, 12, 13, 14, 20], [], [], []⟩ ⟨[(1, I a1day), (4, I 0), (12, .p (.sl 1 (List.map ci a0e.Claim.Calendar.Holidays))), (13, I (lenI (List.map ci a0e.Claim.Calendar.Holidays))), (14, I l2), (20, B (eqI x3 a1day))], []⟩ (by kernel_rfl) ?_
      refine sim_cond (eqI x3 a1day) (by kernel_rfl) ?_ ?_
      · refine sim_run Try.fm ⟨[4], [], [], []⟩ ⟨[(4, I 2)], []⟩ (by kernel_rfl) ?_
        refine sim_ret ?_
        refine bq_r ?_
        refine sq_r ?_
        refine kq_r ?_
        refine bq_r ?_
        refine kq_r ?_
        exact rq_ret (.id) (by kernel_rfl) (by kernel_rfl) (by kernel_rfl)
      · refine sim_skip ?_
        refine bq_n ?_
        refine sq_nk ⟨[1, 4, 12, 13, 14], [], [], []⟩ ⟨[(1, I a1day), (4, I 0), (12, .p (.sl 1 (List.map ci a0e.Claim.Calendar.Holidays))), (13, I (lenI (List.map ci a0e.Claim.Calendar.Holidays))), (14, I l2)], []⟩ (by kernel_rfl) ?_
        refine sim_last Try.fm (by kernel_rfl) ?_
        exact kq_n (wi (l2 + 1)) ⟨[1, 4, 12, 13, 14], [], [], []⟩ (by kernel_rfl)
    · refine sim_exit ?_
      refine sq_x ?_
      refine kq_x ?_
      refine bq_hit ?_
      exact kq_n (k := fun _ => g_auditor_examined_typeOf_j1 a1day) () ⟨[1, 4], [], [], []⟩ (by kernel_rfl)
def g_auditor_examined_applies (n : Nat) (a0e : GAuditorExamined) (a1a : GArticle) (a2minute : Int) : Option Bool :=
  (g_auditor_examined_offset n a0e a2minute).bind fun r1 =>
  cond (leI a1a.From (Int.tmod (wi ((wi (a2minute + r1)) + 1440)) 1440))
    (cond (ltI (Int.tmod (wi ((wi (a2minute + r1)) + 1440)) 1440) a1a.To)
      ((g_auditor_examined_typeOf n a0e (wi ((wi (Int.tdiv (wi ((wi (a2minute + r1)) + 1440)) 1440)) - 1))).bind fun r4 =>
      cond (!ltI r4 0) (
        some (!eqI (bAnd .i64 a1a.Days (shlI .i64 1 r4)) 0)) none)
      (some false))
    (some false)
theorem g_auditor_examined_applies_ok (n : Nat) (a0e : GAuditorExamined) (a1a : GArticle) (a2minute : Int) : ∀ r, g_auditor_examined_applies n a0e a1a a2minute = some r → PCall Try.prog 81 [.eptr [VS a0e.Claim.Tariff.Name, .sl 7 (List.map GArticle.cs a0e.Claim.Tariff.Articles), VI a0e.Claim.Calendar.Offset, .sl 2 (List.map GChange.cs a0e.Claim.Calendar.Changes), .sl 1 (List.map ci a0e.Claim.Calendar.Holidays), .sl 5 (List.map GReading.cs a0e.Claim.Readings), VU a0e.Claim.Seed, VI a0e.Claim.Session.From, VI a0e.Claim.Session.To, VI a0e.Claim.Session.End, .sl 2 (List.map GSlice.cs a0e.Claim.Session.Slices), .sl 2 (List.map GLine.cs a0e.Claim.Bill.Lines), VI a0e.Claim.Bill.Net, VI a0e.Claim.Bill.Tax, VI a0e.Claim.Bill.Total, VI a0e.follows.From, VI a0e.follows.To, VI a0e.follows.End, .sl 2 (List.map GSlice.cs a0e.follows.Slices), .sl 2 (List.map GLine.cs a0e.bill.Lines), VI a0e.bill.Net, VI a0e.bill.Tax, VI a0e.bill.Total, VI a0e.rate], ag (GArticle.cs a1a), I a2minute] (.ret (B r)) := by
  refine pcall_sim (X := fun r : Bool => AEnd.ret (B r)) Try.func81 rfl Try.ntmps81 rfl ?_
  unfold g_auditor_examined_applies
  refine sim_run Try.fm ⟨[0, 2, 4], [4], [], []⟩ ⟨[(0, .eptr [VS a0e.Claim.Tariff.Name, .sl 7 (List.map GArticle.cs a0e.Claim.Tariff.Articles), VI a0e.Claim.Calendar.Offset, .sl 2 (List.map GChange.cs a0e.Claim.Calendar.Changes), .sl 1 (List.map ci a0e.Claim.Calendar.Holidays), .sl 5 (List.map GReading.cs a0e.Claim.Readings), VU a0e.Claim.Seed, VI a0e.Claim.Session.From, VI a0e.Claim.Session.To, VI a0e.Claim.Session.End, .sl 2 (List.map GSlice.cs a0e.Claim.Session.Slices), .sl 2 (List.map GLine.cs a0e.Claim.Bill.Lines), VI a0e.Claim.Bill.Net, VI a0e.Claim.Bill.Tax, VI a0e.Claim.Bill.Total, VI a0e.follows.From, VI a0e.follows.To, VI a0e.follows.End, .sl 2 (List.map GSlice.cs a0e.follows.Slices), .sl 2 (List.map GLine.cs a0e.bill.Lines), VI a0e.bill.Net, VI a0e.bill.Tax, VI a0e.bill.Total, VI a0e.rate]), (2, I a2minute), (4, .ptr 4 0)], [(4, .box 75 (bxc (GArticle.cs a1a)))]⟩ (by kernel_rfl) ?_
  refine sim_seq ?_
  refine sim_reg ?_
  refine xs_run 3 (by kernel_rfl) ?_
  refine xs_call [] (by kernel_rfl) (g_auditor_examined_offset_ok n a0e a2minute) (by kernel_rfl) (by kernel_rfl) (fun _ => by kernel_rfl) (fun r1 => ?_)
  refine xs_run 3 (by kernel_rfl) ?_
  refine xs_end ?_
  refine sq_nk ⟨[0, 4, 7], [4], [], []⟩ ⟨[(0, .eptr [VS a0e.Claim.Tariff.Name, .sl 7 (List.map GArticle.cs a0e.Claim.Tariff.Articles), VI a0e.Claim.Calendar.Offset, .sl 2 (List.map GChange.cs a0e.Claim.Calendar.Changes), .sl 1 (List.map ci a0e.Claim.Calendar.Holidays), .sl 5 (List.map GReading.cs a0e.Claim.Readings), VU a0e.Claim.Seed, VI a0e.Claim.Session.From, VI a0e.Claim.Session.To, VI a0e.Claim.Session.End, .sl 2 (List.map GSlice.cs a0e.Claim.Session.Slices), .sl 2 (List.map GLine.cs a0e.Claim.Bill.Lines), VI a0e.Claim.Bill.Net, VI a0e.Claim.Bill.Tax, VI a0e.Claim.Bill.Total, VI a0e.follows.From, VI a0e.follows.To, VI a0e.follows.End, .sl 2 (List.map GSlice.cs a0e.follows.Slices), .sl 2 (List.map GLine.cs a0e.bill.Lines), VI a0e.bill.Net, VI a0e.bill.Tax, VI a0e.bill.Total, VI a0e.rate]), (4, .ptr 4 0), (7, I (wi ((wi (a2minute + r1)) + 1440)))], [(4, .box 75 (bxc (GArticle.cs a1a)))]⟩ (by kernel_rfl) ?_
  refine sim_run Try.fm ⟨[0, 4, 8, 9], [4], [], []⟩ ⟨[(0, .eptr [VS a0e.Claim.Tariff.Name, .sl 7 (List.map GArticle.cs a0e.Claim.Tariff.Articles), VI a0e.Claim.Calendar.Offset, .sl 2 (List.map GChange.cs a0e.Claim.Calendar.Changes), .sl 1 (List.map ci a0e.Claim.Calendar.Holidays), .sl 5 (List.map GReading.cs a0e.Claim.Readings), VU a0e.Claim.Seed, VI a0e.Claim.Session.From, VI a0e.Claim.Session.To, VI a0e.Claim.Session.End, .sl 2 (List.map GSlice.cs a0e.Claim.Session.Slices), .sl 2 (List.map GLine.cs a0e.Claim.Bill.Lines), VI a0e.Claim.Bill.Net, VI a0e.Claim.Bill.Tax, VI a0e.Claim.Bill.Total, VI a0e.follows.From, VI a0e.follows.To, VI a0e.follows.End, .sl 2 (List.map GSlice.cs a0e.follows.Slices), .sl 2 (List.map GLine.cs a0e.bill.Lines), VI a0e.bill.Net, VI a0e.bill.Tax, VI a0e.bill.Total, VI a0e.rate]), (4, .ptr 4 0), (8, I (wi ((wi (Int.tdiv (wi ((wi (a2minute + r1)) + 1440)) 1440)) - 1))), (9, I (Int.tmod (wi ((wi (a2minute + r1)) + 1440)) 1440))], [(4, .box 75 (bxc (GArticle.cs a1a)))]⟩ (by kernel_rfl) ?_
  refine sim_seq ?_
  refine sim_drw Try.fm rfl ?_
  refine xs_run 5 (by kernel_rfl) ?_
  refine xs_split (leI a1a.From (Int.tmod (wi ((wi (a2minute + r1)) + 1440)) 1440)) (fun h2 => ?_) (fun h2 => ?_)
  · refine xs_one (want_tt (by kernel_rfl) h2) (by kernel_rfl) ?_
    refine xs_run 5 (by kernel_rfl) ?_
    refine xs_split (ltI (Int.tmod (wi ((wi (a2minute + r1)) + 1440)) 1440) a1a.To) (fun h3 => ?_) (fun h3 => ?_)
    · refine xs_one (want_tt (by kernel_rfl) h3) (by kernel_rfl) ?_
      refine xs_run 3 (by kernel_rfl) ?_
      refine xs_call [] (by kernel_rfl) (g_auditor_examined_typeOf_ok n a0e (wi ((wi (Int.tdiv (wi ((wi (a2minute + r1)) + 1440)) 1440)) - 1))) (by kernel_rfl) (by kernel_rfl) (fun _ => by kernel_rfl) (fun r4 => ?_)
      refine xs_if (by kernel_rfl) (by kernel_rfl) (aop_shl (k := .i64) (k' := .i64) (a := 1) (b := r4) rfl (by kernel_rfl) (by kernel_rfl)) ?_
      refine xs_run 4 (by kernel_rfl) ?_
      refine xs_endD (by kernel_rfl) ?_
      refine sq_nk ⟨[6], [], [], []⟩ ⟨[(6, B (!eqI (bAnd .i64 a1a.Days (shlI .i64 1 r4)) 0))], []⟩ (by kernel_rfl) ?_
      refine sim_ret ?_
      exact rq_ret (.id) (by kernel_rfl) (by kernel_rfl) (by kernel_rfl)
    · refine xs_no (want_tf (by kernel_rfl) h3) (by kernel_rfl) ?_
      refine xs_run 9 (by kernel_rfl) ?_
      refine xs_endD (by kernel_rfl) ?_
      refine sq_nk ⟨[6], [], [], []⟩ ⟨[(6, B false)], []⟩ (by kernel_rfl) ?_
      refine sim_ret ?_
      exact rq_ret (.id) (by kernel_rfl) (by kernel_rfl) (by kernel_rfl)
  · refine xs_no (want_tf (by kernel_rfl) h2) (by kernel_rfl) ?_
    refine xs_run 15 (by kernel_rfl) ?_
    refine xs_endD (by kernel_rfl) ?_
    refine sq_nk ⟨[6], [], [], []⟩ ⟨[(6, B false)], []⟩ (by kernel_rfl) ?_
    refine sim_ret ?_
    exact rq_ret (.id) (by kernel_rfl) (by kernel_rfl) (by kernel_rfl)
def g_auditor_examined_started_l1 (n : Nat) (a0e : GAuditorExamined) (a1a : GArticle) (a3to : Int) (recl1 : (Int × Int) → Option Int) (l1_1 : Int) (l1_2 : Int) : Option Int :=
  cond (ltI l1_2 a3to)
    ((g_auditor_examined_applies n a0e a1a l1_2).bind fun r2 =>
    cond r2
      (recl1 (wi (l1_1 + 1), wi (l1_2 + 1)))
      (recl1 (l1_1, wi (l1_2 + 1))))
    (cond (!eqI a1a.Unit 0) (
      some (wi (a1a.Price * (wi (Int.tdiv (wi ((wi ((maxI 0 l1_1) + a1a.Unit)) - 1)) a1a.Unit))))) none)
def g_auditor_examined_started (n : Nat) (a0e : GAuditorExamined) (a1a : GArticle) (a2from : Int) (a3to : Int) : Option Int :=
  loopN (fun recl1 (l1_1, l1_2) => g_auditor_examined_started_l1 n a0e a1a a3to recl1 l1_1 l1_2) n (wi (0 - a1a.Free), a2from)
theorem g_auditor_examined_started_ok (n : Nat) (a0e : GAuditorExamined) (a1a : GArticle) (a2from : Int) (a3to : Int) : ∀ r, g_auditor_examined_started n a0e a1a a2from a3to = some r → PCall Try.prog 82 [.eptr [VS a0e.Claim.Tariff.Name, .sl 7 (List.map GArticle.cs a0e.Claim.Tariff.Articles), VI a0e.Claim.Calendar.Offset, .sl 2 (List.map GChange.cs a0e.Claim.Calendar.Changes), .sl 1 (List.map ci a0e.Claim.Calendar.Holidays), .sl 5 (List.map GReading.cs a0e.Claim.Readings), VU a0e.Claim.Seed, VI a0e.Claim.Session.From, VI a0e.Claim.Session.To, VI a0e.Claim.Session.End, .sl 2 (List.map GSlice.cs a0e.Claim.Session.Slices), .sl 2 (List.map GLine.cs a0e.Claim.Bill.Lines), VI a0e.Claim.Bill.Net, VI a0e.Claim.Bill.Tax, VI a0e.Claim.Bill.Total, VI a0e.follows.From, VI a0e.follows.To, VI a0e.follows.End, .sl 2 (List.map GSlice.cs a0e.follows.Slices), .sl 2 (List.map GLine.cs a0e.bill.Lines), VI a0e.bill.Net, VI a0e.bill.Tax, VI a0e.bill.Total, VI a0e.rate], ag (GArticle.cs a1a), I a2from, I a3to] (.ret (I r)) := by
  refine pcall_sim (X := fun r : Int => AEnd.ret (I r)) Try.func82 rfl Try.ntmps82 rfl ?_
  unfold g_auditor_examined_started
  refine sim_run Try.fm ⟨[0, 2, 3, 5], [5], [], []⟩ ⟨[(0, .eptr [VS a0e.Claim.Tariff.Name, .sl 7 (List.map GArticle.cs a0e.Claim.Tariff.Articles), VI a0e.Claim.Calendar.Offset, .sl 2 (List.map GChange.cs a0e.Claim.Calendar.Changes), .sl 1 (List.map ci a0e.Claim.Calendar.Holidays), .sl 5 (List.map GReading.cs a0e.Claim.Readings), VU a0e.Claim.Seed, VI a0e.Claim.Session.From, VI a0e.Claim.Session.To, VI a0e.Claim.Session.End, .sl 2 (List.map GSlice.cs a0e.Claim.Session.Slices), .sl 2 (List.map GLine.cs a0e.Claim.Bill.Lines), VI a0e.Claim.Bill.Net, VI a0e.Claim.Bill.Tax, VI a0e.Claim.Bill.Total, VI a0e.follows.From, VI a0e.follows.To, VI a0e.follows.End, .sl 2 (List.map GSlice.cs a0e.follows.Slices), .sl 2 (List.map GLine.cs a0e.bill.Lines), VI a0e.bill.Net, VI a0e.bill.Tax, VI a0e.bill.Total, VI a0e.rate]), (2, I a2from), (3, I a3to), (5, .ptr 5 0)], [(5, .box 75 (bxc (GArticle.cs a1a)))]⟩ (by kernel_rfl) ?_
  refine sim_run Try.fm ⟨[0, 2, 3, 5, 9], [5], [], []⟩ ⟨[(0, .eptr [VS a0e.Claim.Tariff.Name, .sl 7 (List.map GArticle.cs a0e.Claim.Tariff.Articles), VI a0e.Claim.Calendar.Offset, .sl 2 (List.map GChange.cs a0e.Claim.Calendar.Changes), .sl 1 (List.map ci a0e.Claim.Calendar.Holidays), .sl 5 (List.map GReading.cs a0e.Claim.Readings), VU a0e.Claim.Seed, VI a0e.Claim.Session.From, VI a0e.Claim.Session.To, VI a0e.Claim.Session.End, .sl 2 (List.map GSlice.cs a0e.Claim.Session.Slices), .sl 2 (List.map GLine.cs a0e.Claim.Bill.Lines), VI a0e.Claim.Bill.Net, VI a0e.Claim.Bill.Tax, VI a0e.Claim.Bill.Total, VI a0e.follows.From, VI a0e.follows.To, VI a0e.follows.End, .sl 2 (List.map GSlice.cs a0e.follows.Slices), .sl 2 (List.map GLine.cs a0e.bill.Lines), VI a0e.bill.Net, VI a0e.bill.Tax, VI a0e.bill.Total, VI a0e.rate]), (2, I a2from), (3, I a3to), (5, .ptr 5 0), (9, I (wi (0 - a1a.Free)))], [(5, .box 75 (bxc (GArticle.cs a1a)))]⟩ (by kernel_rfl) ?_
  refine sim_seq ?_
  refine sim_run Try.fm ⟨[0, 3, 5, 9, 10], [5], [], []⟩ ⟨[(0, .eptr [VS a0e.Claim.Tariff.Name, .sl 7 (List.map GArticle.cs a0e.Claim.Tariff.Articles), VI a0e.Claim.Calendar.Offset, .sl 2 (List.map GChange.cs a0e.Claim.Calendar.Changes), .sl 1 (List.map ci a0e.Claim.Calendar.Holidays), .sl 5 (List.map GReading.cs a0e.Claim.Readings), VU a0e.Claim.Seed, VI a0e.Claim.Session.From, VI a0e.Claim.Session.To, VI a0e.Claim.Session.End, .sl 2 (List.map GSlice.cs a0e.Claim.Session.Slices), .sl 2 (List.map GLine.cs a0e.Claim.Bill.Lines), VI a0e.Claim.Bill.Net, VI a0e.Claim.Bill.Tax, VI a0e.Claim.Bill.Total, VI a0e.follows.From, VI a0e.follows.To, VI a0e.follows.End, .sl 2 (List.map GSlice.cs a0e.follows.Slices), .sl 2 (List.map GLine.cs a0e.bill.Lines), VI a0e.bill.Net, VI a0e.bill.Tax, VI a0e.bill.Total, VI a0e.rate]), (3, I a3to), (5, .ptr 5 0), (9, I (wi (0 - a1a.Free))), (10, I a2from)], [(5, .box 75 (bxc (GArticle.cs a1a)))]⟩ (by kernel_rfl) ?_
  refine sim_block ?_
  refine sim_loop (fun (l1_1, l1_2) => ⟨[(0, .eptr [VS a0e.Claim.Tariff.Name, .sl 7 (List.map GArticle.cs a0e.Claim.Tariff.Articles), VI a0e.Claim.Calendar.Offset, .sl 2 (List.map GChange.cs a0e.Claim.Calendar.Changes), .sl 1 (List.map ci a0e.Claim.Calendar.Holidays), .sl 5 (List.map GReading.cs a0e.Claim.Readings), VU a0e.Claim.Seed, VI a0e.Claim.Session.From, VI a0e.Claim.Session.To, VI a0e.Claim.Session.End, .sl 2 (List.map GSlice.cs a0e.Claim.Session.Slices), .sl 2 (List.map GLine.cs a0e.Claim.Bill.Lines), VI a0e.Claim.Bill.Net, VI a0e.Claim.Bill.Tax, VI a0e.Claim.Bill.Total, VI a0e.follows.From, VI a0e.follows.To, VI a0e.follows.End, .sl 2 (List.map GSlice.cs a0e.follows.Slices), .sl 2 (List.map GLine.cs a0e.bill.Lines), VI a0e.bill.Net, VI a0e.bill.Tax, VI a0e.bill.Total, VI a0e.rate]), (3, I a3to), (5, .ptr 5 0), (9, I l1_1), (10, I l1_2)], [(5, .box 75 (bxc (GArticle.cs a1a)))]⟩ : (Int × Int) → St) (weak_shr (K := ⟨[0, 3, 5, 9, 10], [5], [], []⟩) (by kernel_rfl)) ?_
  rintro recl1 ⟨l1_1, l1_2⟩
  show SimE (g_auditor_examined_started_l1 n a0e a1a a3to recl1 l1_1 l1_2) _ _ _ _ _ _
  unfold g_auditor_examined_started_l1
  refine sim_seq ?_
  refine sim_run Try.fm ⟨[0, 3, 5, 9, 10, 17], [5], [], []⟩ ⟨[(0, .eptr [VS a0e.Claim.Tariff.Name, .sl 7 (List.map GArticle.cs a0e.Claim.Tariff.Articles), VI a0e.Claim.Calendar.Offset, .sl 2 (List.map GChange.cs a0e.Claim.Calendar.Changes), .sl 1 (List.map ci a0e.Claim.Calendar.Holidays), .sl 5 (List.map GReading.cs a0e.Claim.Readings), VU a0e.Claim.Seed, VI a0e.Claim.Session.From, VI a0e.Claim.Session.To, VI a0e.Claim.Session.End, .sl 2 (List.map GSlice.cs a0e.Claim.Session.Slices), .sl 2 (List.map GLine.cs a0e.Claim.Bill.Lines), VI a0e.Claim.Bill.Net, VI a0e.Claim.Bill.Tax, VI a0e.Claim.Bill.Total, VI a0e.follows.From, VI a0e.follows.To, VI a0e.follows.End, .sl 2 (List.map GSlice.cs a0e.follows.Slices), .sl 2 (List.map GLine.cs a0e.bill.Lines), VI a0e.bill.Net, VI a0e.bill.Tax, VI a0e.bill.Total, VI a0e.rate]), (3, I a3to), (5, .ptr 5 0), (9, I l1_1), (10, I l1_2), (17, B (ltI l1_2 a3to))], [(5, .box 75 (bxc (GArticle.cs a1a)))]⟩ (by kernel_rfl) ?_
  refine sim_cond (ltI l1_2 a3to) (by kernel_rfl) ?_ ?_
  · refine sim_skip ?_
    refine sq_nk ⟨[0, 3, 5, 9, 10], [5], [], []⟩ ⟨[(0, .eptr [VS a0e.Claim.Tariff.Name, .sl 7 (List.map GArticle.cs a0e.Claim.Tariff.Articles), VI a0e.Claim.Calendar.Offset, .sl 2 (List.map GChange.cs a0e.Claim.Calendar.Changes), .sl 1 (List.map ci a0e.Claim.Calendar.Holidays), .sl 5 (List.map GReading.cs a0e.Claim.Readings), VU a0e.Claim.Seed, VI a0e.Claim.Session.From, VI a0e.Claim.Session.To, VI a0e.Claim.Session.End, .sl 2 (List.map GSlice.cs a0e.Claim.Session.Slices), .sl 2 (List.map GLine.cs a0e.Claim.Bill.Lines), VI a0e.Claim.Bill.Net, VI a0e.Claim.Bill.Tax, VI a0e.Claim.Bill.Total, VI a0e.follows.From, VI a0e.follows.To, VI a0e.follows.End, .sl 2 (List.map GSlice.cs a0e.follows.Slices), .sl 2 (List.map GLine.cs a0e.bill.Lines), VI a0e.bill.Net, VI a0e.bill.Tax, VI a0e.bill.Total, VI a0e.rate]), (3, I a3to), (5, .ptr 5 0), (9, I l1_1), (10, I l1_2)], [(5, .box 75 (bxc (GArticle.cs a1a)))]⟩ (by kernel_rfl) ?_
    refine sim_seq ?_
    refine sim_block ?_
    refine sim_seq ?_
    refine sim_reg ?_
    refine xs_run 3 (by kernel_rfl) ?_
    refine xs_call [] (by kernel_rfl) (g_auditor_examined_applies_ok n a0e a1a l1_2) (by kernel_rfl) (by kernel_rfl) (fun _ => by kernel_rfl) (fun r2 => ?_)
    refine xs_end ?_
    refine sq_nk ⟨[0, 3, 5, 9, 10, 23], [5], [], []⟩ ⟨[(0, .eptr [VS a0e.Claim.Tariff.Name, .sl 7 (List.map GArticle.cs a0e.Claim.Tariff.Articles), VI a0e.Claim.Calendar.Offset, .sl 2 (List.map GChange.cs a0e.Claim.Calendar.Changes), .sl 1 (List.map ci a0e.Claim.Calendar.Holidays), .sl 5 (List.map GReading.cs a0e.Claim.Readings), VU a0e.Claim.Seed, VI a0e.Claim.Session.From, VI a0e.Claim.Session.To, VI a0e.Claim.Session.End, .sl 2 (List.map GSlice.cs a0e.Claim.Session.Slices), .sl 2 (List.map GLine.cs a0e.Claim.Bill.Lines), VI a0e.Claim.Bill.Net, VI a0e.Claim.Bill.Tax, VI a0e.Claim.Bill.Total, VI a0e.follows.From, VI a0e.follows.To, VI a0e.follows.End, .sl 2 (List.map GSlice.cs a0e.follows.Slices), .sl 2 (List.map GLine.cs a0e.bill.Lines), VI a0e.bill.Net, VI a0e.bill.Tax, VI a0e.bill.Total, VI a0e.rate]), (3, I a3to), (5, .ptr 5 0), (9, I l1_1), (10, I l1_2), (23, B r2)], [(5, .box 75 (bxc (GArticle.cs a1a)))]⟩ (by kernel_rfl) ?_
    refine sim_cond r2 (by kernel_rfl) ?_ ?_
    · refine sim_last Try.fm (by kernel_rfl) ?_
      refine bq_n ?_
      refine sq_nk ⟨[0, 3, 5, 9, 10], [5], [], []⟩ ⟨[(0, .eptr [VS a0e.Claim.Tariff.Name, .sl 7 (List.map GArticle.cs a0e.Claim.Tariff.Articles), VI a0e.Claim.Calendar.Offset, .sl 2 (List.map GChange.cs a0e.Claim.Calendar.Changes), .sl 1 (List.map ci a0e.Claim.Calendar.Holidays), .sl 5 (List.map GReading.cs a0e.Claim.Readings), VU a0e.Claim.Seed, VI a0e.Claim.Session.From, VI a0e.Claim.Session.To, VI a0e.Claim.Session.End, .sl 2 (List.map GSlice.cs a0e.Claim.Session.Slices), .sl 2 (List.map GLine.cs a0e.Claim.Bill.Lines), VI a0e.Claim.Bill.Net, VI a0e.Claim.Bill.Tax, VI a0e.Claim.Bill.Total, VI a0e.follows.From, VI a0e.follows.To, VI a0e.follows.End, .sl 2 (List.map GSlice.cs a0e.follows.Slices), .sl 2 (List.map GLine.cs a0e.bill.Lines), VI a0e.bill.Net, VI a0e.bill.Tax, VI a0e.bill.Total, VI a0e.rate]), (3, I a3to), (5, .ptr 5 0), (9, I (wi (l1_1 + 1))), (10, I l1_2)], [(5, .box 75 (bxc (GArticle.cs a1a)))]⟩ (by kernel_rfl) ?_
      refine sim_last Try.fm (by kernel_rfl) ?_
      exact kq_n (wi (l1_1 + 1), wi (l1_2 + 1)) ⟨[0, 3, 5, 9, 10], [5], [], []⟩ (by kernel_rfl)
    · refine sim_skip ?_
      refine bq_n ?_
      refine sq_nk ⟨[0, 3, 5, 9, 10], [5], [], []⟩ ⟨[(0, .eptr [VS a0e.Claim.Tariff.Name, .sl 7 (List.map GArticle.cs a0e.Claim.Tariff.Articles), VI a0e.Claim.Calendar.Offset, .sl 2 (List.map GChange.cs a0e.Claim.Calendar.Changes), .sl 1 (List.map ci a0e.Claim.Calendar.Holidays), .sl 5 (List.map GReading.cs a0e.Claim.Readings), VU a0e.Claim.Seed, VI a0e.Claim.Session.From, VI a0e.Claim.Session.To, VI a0e.Claim.Session.End, .sl 2 (List.map GSlice.cs a0e.Claim.Session.Slices), .sl 2 (List.map GLine.cs a0e.Claim.Bill.Lines), VI a0e.Claim.Bill.Net, VI a0e.Claim.Bill.Tax, VI a0e.Claim.Bill.Total, VI a0e.follows.From, VI a0e.follows.To, VI a0e.follows.End, .sl 2 (List.map GSlice.cs a0e.follows.Slices), .sl 2 (List.map GLine.cs a0e.bill.Lines), VI a0e.bill.Net, VI a0e.bill.Tax, VI a0e.bill.Total, VI a0e.rate]), (3, I a3to), (5, .ptr 5 0), (9, I l1_1), (10, I l1_2)], [(5, .box 75 (bxc (GArticle.cs a1a)))]⟩ (by kernel_rfl) ?_
      refine sim_last Try.fm (by kernel_rfl) ?_
      exact kq_n (l1_1, wi (l1_2 + 1)) ⟨[0, 3, 5, 9, 10], [5], [], []⟩ (by kernel_rfl)
  · refine sim_exit ?_
    refine sq_x ?_
    refine kq_x ?_
    refine bq_hit ?_
    refine sq_nk ⟨[5, 9], [5], [], []⟩ ⟨[(5, .ptr 5 0), (9, I l1_1)], [(5, .box 75 (bxc (GArticle.cs a1a)))]⟩ (by kernel_rfl) ?_
    refine sim_seq ?_
    refine sim_drw Try.fm rfl ?_
    refine xs_run 10 (by kernel_rfl) ?_
    refine xs_if (by kernel_rfl) (by kernel_rfl) (aop_quo (k := .i64) (a := wi ((wi ((maxI 0 l1_1) + a1a.Unit)) - 1)) (b := a1a.Unit) rfl (by kernel_rfl) (by kernel_rfl)) ?_
    refine xs_run 2 (by kernel_rfl) ?_
    refine xs_endD (by kernel_rfl) ?_
    refine sq_nk ⟨[8], [], [], []⟩ ⟨[(8, I (wi (a1a.Price * (wi (Int.tdiv (wi ((wi ((maxI 0 l1_1) + a1a.Unit)) - 1)) a1a.Unit)))))], []⟩ (by kernel_rfl) ?_
    refine sim_ret ?_
    exact rq_ret (.id) (by kernel_rfl) (by kernel_rfl) (by kernel_rfl)
def g_auditor_examined_cost_l2 (n : Nat) (a0e : GAuditorExamined) (a1a : GArticle) (recl2 : (Int × Int) → Option Int) (l2_1 : Int) (l2_2 : Int) : Option Int :=
  cond (ltI l2_2 (lenI (List.map GSlice.cs a0e.follows.Slices)))
    ((getI a0e.follows.Slices l2_2).bind fun x3 =>
    (g_auditor_examined_applies n a0e a1a x3.Minute).bind fun r4 =>
    cond r4
      (recl2 (wi (l2_1 + x3.Energy), wi (l2_2 + 1)))
      (recl2 (l2_1, wi (l2_2 + 1))))
    (some (wi (Int.tdiv (wi ((wi ((wi (2 * a1a.Price)) * l2_1)) + 1000)) 2000)))
def g_auditor_examined_cost (n : Nat) (a0e : GAuditorExamined) (a1a : GArticle) : Option Int :=
  cond (eqI a1a.Kind 1)
    ((g_auditor_examined_applies n a0e a1a a0e.follows.From).bind fun r1 =>
    cond r1
      (some a1a.Price)
      (some 0))
    (cond (eqI a1a.Kind 2)
      (loopN (fun recl2 (l2_1, l2_2) => g_auditor_examined_cost_l2 n a0e a1a recl2 l2_1 l2_2) n (0, 0))
      (cond (eqI a1a.Kind 3)
        ((g_auditor_examined_started n a0e a1a a0e.follows.From a0e.follows.To).bind fun r5 =>
        some r5)
        (cond (eqI a1a.Kind 4)
          ((g_auditor_examined_started n a0e a1a a0e.follows.End a0e.follows.To).bind fun r6 =>
          some r6)
          (some 0))))
theorem g_auditor_examined_cost_ok (n : Nat) (a0e : GAuditorExamined) (a1a : GArticle) : ∀ r, g_auditor_examined_cost n a0e a1a = some r → PCall Try.prog 61 [.eptr [VS a0e.Claim.Tariff.Name, .sl 7 (List.map GArticle.cs a0e.Claim.Tariff.Articles), VI a0e.Claim.Calendar.Offset, .sl 2 (List.map GChange.cs a0e.Claim.Calendar.Changes), .sl 1 (List.map ci a0e.Claim.Calendar.Holidays), .sl 5 (List.map GReading.cs a0e.Claim.Readings), VU a0e.Claim.Seed, VI a0e.Claim.Session.From, VI a0e.Claim.Session.To, VI a0e.Claim.Session.End, .sl 2 (List.map GSlice.cs a0e.Claim.Session.Slices), .sl 2 (List.map GLine.cs a0e.Claim.Bill.Lines), VI a0e.Claim.Bill.Net, VI a0e.Claim.Bill.Tax, VI a0e.Claim.Bill.Total, VI a0e.follows.From, VI a0e.follows.To, VI a0e.follows.End, .sl 2 (List.map GSlice.cs a0e.follows.Slices), .sl 2 (List.map GLine.cs a0e.bill.Lines), VI a0e.bill.Net, VI a0e.bill.Tax, VI a0e.bill.Total, VI a0e.rate], ag (GArticle.cs a1a)] (.ret (I r)) := by
  refine pcall_sim (X := fun r : Int => AEnd.ret (I r)) Try.func61 rfl Try.ntmps61 rfl ?_
  unfold g_auditor_examined_cost
  refine sim_run Try.fm ⟨[0, 3, 4], [3], [], []⟩ ⟨[(0, .eptr [VS a0e.Claim.Tariff.Name, .sl 7 (List.map GArticle.cs a0e.Claim.Tariff.Articles), VI a0e.Claim.Calendar.Offset, .sl 2 (List.map GChange.cs a0e.Claim.Calendar.Changes), .sl 1 (List.map ci a0e.Claim.Calendar.Holidays), .sl 5 (List.map GReading.cs a0e.Claim.Readings), VU a0e.Claim.Seed, VI a0e.Claim.Session.From, VI a0e.Claim.Session.To, VI a0e.Claim.Session.End, .sl 2 (List.map GSlice.cs a0e.Claim.Session.Slices), .sl 2 (List.map GLine.cs a0e.Claim.Bill.Lines), VI a0e.Claim.Bill.Net, VI a0e.Claim.Bill.Tax, VI a0e.Claim.Bill.Total, VI a0e.follows.From, VI a0e.follows.To, VI a0e.follows.End, .sl 2 (List.map GSlice.cs a0e.follows.Slices), .sl 2 (List.map GLine.cs a0e.bill.Lines), VI a0e.bill.Net, VI a0e.bill.Tax, VI a0e.bill.Total, VI a0e.rate]), (3, .ptr 3 0), (4, I 0)], [(3, .box 75 (bxc (GArticle.cs a1a)))]⟩ (by kernel_rfl) ?_
  refine sim_run Try.fm ⟨[0, 3, 4, 5], [3, 5], [], []⟩ ⟨[(0, .eptr [VS a0e.Claim.Tariff.Name, .sl 7 (List.map GArticle.cs a0e.Claim.Tariff.Articles), VI a0e.Claim.Calendar.Offset, .sl 2 (List.map GChange.cs a0e.Claim.Calendar.Changes), .sl 1 (List.map ci a0e.Claim.Calendar.Holidays), .sl 5 (List.map GReading.cs a0e.Claim.Readings), VU a0e.Claim.Seed, VI a0e.Claim.Session.From, VI a0e.Claim.Session.To, VI a0e.Claim.Session.End, .sl 2 (List.map GSlice.cs a0e.Claim.Session.Slices), .sl 2 (List.map GLine.cs a0e.Claim.Bill.Lines), VI a0e.Claim.Bill.Net, VI a0e.Claim.Bill.Tax, VI a0e.Claim.Bill.Total, VI a0e.follows.From, VI a0e.follows.To, VI a0e.follows.End, .sl 2 (List.map GSlice.cs a0e.follows.Slices), .sl 2 (List.map GLine.cs a0e.bill.Lines), VI a0e.bill.Net, VI a0e.bill.Tax, VI a0e.bill.Total, VI a0e.rate]), (3, .ptr 3 0), (4, I 0), (5, .ptr 5 0)], [(3, .box 75 (bxc (GArticle.cs a1a))), (5, .box 33 (bxc (GSession.cs a0e.follows)))]⟩ (by kernel_rfl) ?_
  refine sim_seq ?_
  refine sim_run Try.fm ⟨[0, 3, 4, 5, 14], [3, 5], [], []⟩ ⟨[(0, .eptr [VS a0e.Claim.Tariff.Name, .sl 7 (List.map GArticle.cs a0e.Claim.Tariff.Articles), VI a0e.Claim.Calendar.Offset, .sl 2 (List.map GChange.cs a0e.Claim.Calendar.Changes), .sl 1 (List.map ci a0e.Claim.Calendar.Holidays), .sl 5 (List.map GReading.cs a0e.Claim.Readings), VU a0e.Claim.Seed, VI a0e.Claim.Session.From, VI a0e.Claim.Session.To, VI a0e.Claim.Session.End, .sl 2 (List.map GSlice.cs a0e.Claim.Session.Slices), .sl 2 (List.map GLine.cs a0e.Claim.Bill.Lines), VI a0e.Claim.Bill.Net, VI a0e.Claim.Bill.Tax, VI a0e.Claim.Bill.Total, VI a0e.follows.From, VI a0e.follows.To, VI a0e.follows.End, .sl 2 (List.map GSlice.cs a0e.follows.Slices), .sl 2 (List.map GLine.cs a0e.bill.Lines), VI a0e.bill.Net, VI a0e.bill.Tax, VI a0e.bill.Total, VI a0e.rate]), (3, .ptr 3 0), (4, I 0), (5, .ptr 5 0), (14, I a1a.Kind)], [(3, .box 75 (bxc (GArticle.cs a1a))), (5, .box 33 (bxc (GSession.cs a0e.follows)))]⟩ (by kernel_rfl) ?_
  refine sim_block ?_
  refine sim_run Try.fm ⟨[0, 3, 4, 5, 14, 15], [3, 5], [], []⟩ ⟨[(0, .eptr [VS a0e.Claim.Tariff.Name, .sl 7 (List.map GArticle.cs a0e.Claim.Tariff.Articles), VI a0e.Claim.Calendar.Offset, .sl 2 (List.map GChange.cs a0e.Claim.Calendar.Changes), .sl 1 (List.map ci a0e.Claim.Calendar.Holidays), .sl 5 (List.map GReading.cs a0e.Claim.Readings), VU a0e.Claim.Seed, VI a0e.Claim.Session.From, VI a0e.Claim.Session.To, VI a0e.Claim.Session.End, .sl 2 (List.map GSlice.cs a0e.Claim.Session.Slices), .sl 2 (List.map GLine.cs a0e.Claim.Bill.Lines), VI a0e.Claim.Bill.Net, VI a0e.Claim.Bill.Tax, VI a0e.Claim.Bill.Total, VI a0e.follows.From, VI a0e.follows.To, VI a0e.follows.End, .sl 2 (List.map GSlice.cs a0e.follows.Slices), .sl 2 (List.map GLine.cs a0e.bill.Lines), VI a0e.bill.Net, VI a0e.bill.Tax, VI a0e.bill.Total, VI a0e.rate]), (3, .ptr 3 0), (4, I 0), (5, .ptr 5 0), (14, I a1a.Kind), (15, B (eqI a1a.Kind 1))], [(3, .box 75 (bxc (GArticle.cs a1a))), (5, .box 33 (bxc (GSession.cs a0e.follows)))]⟩ (by kernel_rfl) ?_
  refine sim_cond (eqI a1a.Kind 1) (by kernel_rfl) ?_ ?_
  · refine sim_seq ?_
    refine sim_reg ?_
    refine xs_run 4 (by kernel_rfl) ?_
    refine xs_call [] (by kernel_rfl) (g_auditor_examined_applies_ok n a0e a1a a0e.follows.From) (by kernel_rfl) (by kernel_rfl) (fun _ => by kernel_rfl) (fun r1 => ?_)
    refine xs_end ?_
    refine sq_nk ⟨[3, 4, 5, 21], [3, 5], [], []⟩ ⟨[(3, .ptr 3 0), (4, I 0), (5, .ptr 5 0), (21, B r1)], [(3, .box 75 (bxc (GArticle.cs a1a))), (5, .box 33 (bxc (GSession.cs a0e.follows)))]⟩ (by kernel_rfl) ?_
    refine sim_cond r1 (by kernel_rfl) ?_ ?_
    · refine sim_run Try.fm ⟨[4], [], [], []⟩ ⟨[(4, I a1a.Price)], []⟩ (by kernel_rfl) ?_
      refine sim_ret ?_
      refine bq_r ?_
      refine sq_r ?_
      exact rq_ret (.id) (by kernel_rfl) (by kernel_rfl) (by kernel_rfl)
    · refine sim_skip ?_
      refine bq_n ?_
      refine sq_nk ⟨[4, 5], [5], [], []⟩ ⟨[(4, I 0), (5, .ptr 5 0)], [(5, .box 33 (bxc (GSession.cs a0e.follows)))]⟩ (by kernel_rfl) ?_
      refine sim_run Try.fm ⟨[4], [], [], []⟩ ⟨[(4, I 0)], []⟩ (by kernel_rfl) ?_
      refine sim_ret ?_
      exact rq_ret (.id) (by kernel_rfl) (by kernel_rfl) (by kernel_rfl)
  · refine sim_run Try.fm ⟨[0, 3, 4, 5, 14, 24], [3, 5], [], []⟩ ⟨[(0, .eptr [VS a0e.Claim.Tariff.Name, .sl 7 (List.map GArticle.cs a0e.Claim.Tariff.Articles), VI a0e.Claim.Calendar.Offset, .sl 2 (List.map GChange.cs a0e.Claim.Calendar.Changes), .sl 1 (List.map ci a0e.Claim.Calendar.Holidays), .sl 5 (List.map GReading.cs a0e.Claim.Readings), VU a0e.Claim.Seed, VI a0e.Claim.Session.From, VI a0e.Claim.Session.To, VI a0e.Claim.Session.End, .sl 2 (List.map GSlice.cs a0e.Claim.Session.Slices), .sl 2 (List.map GLine.cs a0e.Claim.Bill.Lines), VI a0e.Claim.Bill.Net, VI a0e.Claim.Bill.Tax, VI a0e.Claim.Bill.Total, VI a0e.follows.From, VI a0e.follows.To, VI a0e.follows.End, .sl 2 (List.map GSlice.cs a0e.follows.Slices), .sl 2 (List.map GLine.cs a0e.bill.Lines), VI a0e.bill.Net, VI a0e.bill.Tax, VI a0e.bill.Total, VI a0e.rate]), (3, .ptr 3 0), (4, I 0), (5, .ptr 5 0), (14, I a1a.Kind), (24, B (eqI a1a.Kind 2))], [(3, .box 75 (bxc (GArticle.cs a1a))), (5, .box 33 (bxc (GSession.cs a0e.follows)))]⟩ (by kernel_rfl) ?_
    refine sim_cond (eqI a1a.Kind 2) (by kernel_rfl) ?_ ?_
    · refine sim_run Try.fm ⟨[0, 3, 4, 5, 6], [3, 5], [], []⟩ ⟨[(0, .eptr [VS a0e.Claim.Tariff.Name, .sl 7 (List.map GArticle.cs a0e.Claim.Tariff.Articles), VI a0e.Claim.Calendar.Offset, .sl 2 (List.map GChange.cs a0e.Claim.Calendar.Changes), .sl 1 (List.map ci a0e.Claim.Calendar.Holidays), .sl 5 (List.map GReading.cs a0e.Claim.Readings), VU a0e.Claim.Seed, VI a0e.Claim.Session.From, VI a0e.Claim.Session.To, VI a0e.Claim.Session.End, .sl 2 (List.map GSlice.cs a0e.Claim.Session.Slices), .sl 2 (List.map GLine.cs a0e.Claim.Bill.Lines), VI a0e.Claim.Bill.Net, VI a0e.Claim.Bill.Tax, VI a0e.Claim.Bill.Total, VI a0e.follows.From, VI a0e.follows.To, VI a0e.follows.End, .sl 2 (List.map GSlice.cs a0e.follows.Slices), .sl 2 (List.map GLine.cs a0e.bill.Lines), VI a0e.bill.Net, VI a0e.bill.Tax, VI a0e.bill.Total, VI a0e.rate]), (3, .ptr 3 0), (4, I 0), (5, .ptr 5 0), (6, I 0)], [(3, .box 75 (bxc (GArticle.cs a1a))), (5, .box 33 (bxc (GSession.cs a0e.follows)))]⟩ (by kernel_rfl) ?_
      refine sim_seq ?_
      refine sim_run Try.fm ⟨[0, 3, 4, 5, 6, 27, 28, 29], [3, 5], [], []⟩ ⟨[(0, .eptr [VS a0e.Claim.Tariff.Name, .sl 7 (List.map GArticle.cs a0e.Claim.Tariff.Articles), VI a0e.Claim.Calendar.Offset, .sl 2 (List.map GChange.cs a0e.Claim.Calendar.Changes), .sl 1 (List.map ci a0e.Claim.Calendar.Holidays), .sl 5 (List.map GReading.cs a0e.Claim.Readings), VU a0e.Claim.Seed, VI a0e.Claim.Session.From, VI a0e.Claim.Session.To, VI a0e.Claim.Session.End, .sl 2 (List.map GSlice.cs a0e.Claim.Session.Slices), .sl 2 (List.map GLine.cs a0e.Claim.Bill.Lines), VI a0e.Claim.Bill.Net, VI a0e.Claim.Bill.Tax, VI a0e.Claim.Bill.Total, VI a0e.follows.From, VI a0e.follows.To, VI a0e.follows.End, .sl 2 (List.map GSlice.cs a0e.follows.Slices), .sl 2 (List.map GLine.cs a0e.bill.Lines), VI a0e.bill.Net, VI a0e.bill.Tax, VI a0e.bill.Total, VI a0e.rate]), (3, .ptr 3 0), (4, I 0), (5, .ptr 5 0), (6, I 0), (27, .p (.sl 2 (List.map GSlice.cs a0e.follows.Slices))), (28, I (lenI (List.map GSlice.cs a0e.follows.Slices))), (29, I 0)], [(3, .box 75 (bxc (GArticle.cs a1a))), (5, .box 33 (bxc (GSession.cs a0e.follows)))]⟩ (by kernel_rfl) ?_
      refine sim_block ?_
      refine sim_loop (fun (l2_1, l2_2) => ⟨[(0, .eptr [VS a0e.Claim.Tariff.Name, .sl 7 (List.map GArticle.cs a0e.Claim.Tariff.Articles), VI a0e.Claim.Calendar.Offset, .sl 2 (List.map GChange.cs a0e.Claim.Calendar.Changes), .sl 1 (List.map ci a0e.Claim.Calendar.Holidays), .sl 5 (List.map GReading.cs a0e.Claim.Readings), VU a0e.Claim.Seed, VI a0e.Claim.Session.From, VI a0e.Claim.Session.To, VI a0e.Claim.Session.End, .sl 2 (List.map GSlice.cs a0e.Claim.Session.Slices), .sl 2 (List.map GLine.cs a0e.Claim.Bill.Lines), VI a0e.Claim.Bill.Net, VI a0e.Claim.Bill.Tax, VI a0e.Claim.Bill.Total, VI a0e.follows.From, VI a0e.follows.To, VI a0e.follows.End, .sl 2 (List.map GSlice.cs a0e.follows.Slices), .sl 2 (List.map GLine.cs a0e.bill.Lines), VI a0e.bill.Net, VI a0e.bill.Tax, VI a0e.bill.Total, VI a0e.rate]), (3, .ptr 3 0), (4, I 0), (5, .ptr 5 0), (6, I l2_1), (27, .p (.sl 2 (List.map GSlice.cs a0e.follows.Slices))), (28, I (lenI (List.map GSlice.cs a0e.follows.Slices))), (29, I l2_2)], [(3, .box 75 (bxc (GArticle.cs a1a))), (5, .box 33 (bxc (GSession.cs a0e.follows)))]⟩ : (Int × Int) → St) (weak_shr (K := ⟨[0, 3, 4, 5, 6, 27, 28, 29], [3, 5], [], []⟩) (by kernel_rfl)) ?_
      rintro recl2 ⟨l2_1, l2_2⟩
      show SimE (g_auditor_examined_cost_l2 n a0e a1a recl2 l2_1 l2_2) _ _ _ _ _ _
      unfold g_auditor_examined_cost_l2
      refine sim_run Try.fm ⟨[0, 3, 4, 5, 6, 27, 28, 29, 30], [3, 5], [], []⟩ ⟨[(0, .eptr [VS a0e.Claim.Tariff.Name, .sl 7 (List.map GArticle.cs a0e.Claim.Tariff.Articles), VI a0e.Claim.Calendar.Offset, .sl 2 (List.map GChange.cs a0e.Claim.Calendar.Changes), .sl 1 (List.map ci a0e.Claim.Calendar.Holidays), .sl 5 (List.map GReading.cs a0e.Claim.Readings), VU a0e.Claim.Seed, VI a0e.Claim.Session.From, VI a0e.Claim.Session.To, VI a0e.Claim.Session.End, .sl 2 (List.map GSlice.cs a0e.Claim.Session.Slices), .sl 2 (List.map GLine.cs a0e.Claim.Bill.Lines), VI a0e.Claim.Bill.Net, VI a0e.Claim.Bill.Tax, VI a0e.Claim.Bill.Total, VI a0e.follows.From, VI a0e.follows.To, VI a0e.follows.End, .sl 2 (List.map GSlice.cs a0e.follows.Slices), .sl 2 (List.map GLine.cs a0e.bill.Lines), VI a0e.bill.Net, VI a0e.bill.Tax, VI a0e.bill.Total, VI a0e.rate]), (3, .ptr 3 0), (4, I 0), (5, .ptr 5 0), (6, I l2_1), (27, .p (.sl 2 (List.map GSlice.cs a0e.follows.Slices))), (28, I (lenI (List.map GSlice.cs a0e.follows.Slices))), (29, I l2_2), (30, B (ltI l2_2 (lenI (List.map GSlice.cs a0e.follows.Slices))))], [(3, .box 75 (bxc (GArticle.cs a1a))), (5, .box 33 (bxc (GSession.cs a0e.follows)))]⟩ (by kernel_rfl) ?_
      refine sim_seq ?_
      refine sim_cond (ltI l2_2 (lenI (List.map GSlice.cs a0e.follows.Slices))) (by kernel_rfl) ?_ ?_
      · refine sim_skip ?_
        refine sq_nk ⟨[0, 3, 4, 5, 6, 27, 28, 29], [3, 5], [], []⟩ ⟨[(0, .eptr [VS a0e.Claim.Tariff.Name, .sl 7 (List.map GArticle.cs a0e.Claim.Tariff.Articles), VI a0e.Claim.Calendar.Offset, .sl 2 (List.map GChange.cs a0e.Claim.Calendar.Changes), .sl 1 (List.map ci a0e.Claim.Calendar.Holidays), .sl 5 (List.map GReading.cs a0e.Claim.Readings), VU a0e.Claim.Seed, VI a0e.Claim.Session.From, VI a0e.Claim.Session.To, VI a0e.Claim.Session.End, .sl 2 (List.map GSlice.cs a0e.Claim.Session.Slices), .sl 2 (List.map GLine.cs a0e.Claim.Bill.Lines), VI a0e.Claim.Bill.Net, VI a0e.Claim.Bill.Tax, VI a0e.Claim.Bill.Total, VI a0e.follows.From, VI a0e.follows.To, VI a0e.follows.End, .sl 2 (List.map GSlice.cs a0e.follows.Slices), .sl 2 (List.map GLine.cs a0e.bill.Lines), VI a0e.bill.Net, VI a0e.bill.Tax, VI a0e.bill.Total, VI a0e.rate]), (3, .ptr 3 0), (4, I 0), (5, .ptr 5 0), (6, I l2_1), (27, .p (.sl 2 (List.map GSlice.cs a0e.follows.Slices))), (28, I (lenI (List.map GSlice.cs a0e.follows.Slices))), (29, I l2_2)], [(3, .box 75 (bxc (GArticle.cs a1a))), (5, .box 33 (bxc (GSession.cs a0e.follows)))]⟩ (by kernel_rfl) ?_
        refine sim_seq ?_
        refine sim_block ?_
        refine sim_seq ?_
        refine sim_reg ?_
        refine xs_get (by kernel_rfl) (by kernel_rfl) (aop_idx (e := 52) (S := 2) (enc := GSlice.cs) (l := a0e.follows.Slices) (k := .i64) (n := l2_2) (sv := .p (.sl 2 (List.map GSlice.cs a0e.follows.Slices))) rfl (by kernel_rfl) (by kernel_rfl) (by kernel_rfl) (by kernel_rfl) (by kernel_rfl)) (fun x3 => ?_)
        refine xs_run 3 (by kernel_rfl) ?_
        refine xs_end ?_
        refine sq_nk ⟨[0, 3, 4, 5, 6, 8, 27, 28, 29], [3, 5, 8], [], []⟩ ⟨[(0, .eptr [VS a0e.Claim.Tariff.Name, .sl 7 (List.map GArticle.cs a0e.Claim.Tariff.Articles), VI a0e.Claim.Calendar.Offset, .sl 2 (List.map GChange.cs a0e.Claim.Calendar.Changes), .sl 1 (List.map ci a0e.Claim.Calendar.Holidays), .sl 5 (List.map GReading.cs a0e.Claim.Readings), VU a0e.Claim.Seed, VI a0e.Claim.Session.From, VI a0e.Claim.Session.To, VI a0e.Claim.Session.End, .sl 2 (List.map GSlice.cs a0e.Claim.Session.Slices), .sl 2 (List.map GLine.cs a0e.Claim.Bill.Lines), VI a0e.Claim.Bill.Net, VI a0e.Claim.Bill.Tax, VI a0e.Claim.Bill.Total, VI a0e.follows.From, VI a0e.follows.To, VI a0e.follows.End, .sl 2 (List.map GSlice.cs a0e.follows.Slices), .sl 2 (List.map GLine.cs a0e.bill.Lines), VI a0e.bill.Net, VI a0e.bill.Tax, VI a0e.bill.Total, VI a0e.rate]), (3, .ptr 3 0), (4, I 0), (5, .ptr 5 0), (6, I l2_1), (8, .ptr 8 0), (27, .p (.sl 2 (List.map GSlice.cs a0e.follows.Slices))), (28, I (lenI (List.map GSlice.cs a0e.follows.Slices))), (29, I l2_2)], [(3, .box 75 (bxc (GArticle.cs a1a))), (5, .box 33 (bxc (GSession.cs a0e.follows))), (8, .box 52 (bxc (GSlice.cs x3)))]⟩ (by kernel_rfl) ?_
        refine sim_seq ?_
        refine sim_reg ?_
        refine xs_run 4 (by kernel_rfl) ?_
        refine xs_call [] (by kernel_rfl) (g_auditor_examined_applies_ok n a0e a1a x3.Minute) (by kernel_rfl) (by kernel_rfl) (fun _ => by kernel_rfl) (fun r4 => ?_)
        refine xs_end ?_
        refine sq_nk ⟨[0, 3, 4, 5, 6, 8, 27, 28, 29, 37], [3, 5, 8], [], []⟩ ⟨[(0, .eptr [VS a0e.Claim.Tariff.Name, .sl 7 (List.map GArticle.cs a0e.Claim.Tariff.Articles), VI a0e.Claim.Calendar.Offset, .sl 2 (List.map GChange.cs a0e.Claim.Calendar.Changes), .sl 1 (List.map ci a0e.Claim.Calendar.Holidays), .sl 5 (List.map GReading.cs a0e.Claim.Readings), VU a0e.Claim.Seed, VI a0e.Claim.Session.From, VI a0e.Claim.Session.To, VI a0e.Claim.Session.End, .sl 2 (List.map GSlice.cs a0e.Claim.Session.Slices), .sl 2 (List.map GLine.cs a0e.Claim.Bill.Lines), VI a0e.Claim.Bill.Net, VI a0e.Claim.Bill.Tax, VI a0e.Claim.Bill.Total, VI a0e.follows.From, VI a0e.follows.To, VI a0e.follows.End, .sl 2 (List.map GSlice.cs a0e.follows.Slices), .sl 2 (List.map GLine.cs a0e.bill.Lines), VI a0e.bill.Net, VI a0e.bill.Tax, VI a0e.bill.Total, VI a0e.rate]), (3, .ptr 3 0), (4, I 0), (5, .ptr 5 0), (6, I l2_1), (8, .ptr 8 0), (27, .p (.sl 2 (List.map GSlice.cs a0e.follows.Slices))), (28, I (lenI (List.map GSlice.cs a0e.follows.Slices))), (29, I l2_2), (37, B r4)], [(3, .box 75 (bxc (GArticle.cs a1a))), (5, .box 33 (bxc (GSession.cs a0e.follows))), (8, .box 52 (bxc (GSlice.cs x3)))]⟩ (by kernel_rfl) ?_
        refine sim_cond r4 (by kernel_rfl) ?_ ?_
        · refine sim_last Try.fm (by kernel_rfl) ?_
          refine bq_n ?_
          refine sq_nk ⟨[0, 3, 4, 5, 6, 27, 28, 29], [3, 5], [], []⟩ ⟨[(0, .eptr [VS a0e.Claim.Tariff.Name, .sl 7 (List.map GArticle.cs a0e.Claim.Tariff.Articles), VI a0e.Claim.Calendar.Offset, .sl 2 (List.map GChange.cs a0e.Claim.Calendar.Changes), .sl 1 (List.map ci a0e.Claim.Calendar.Holidays), .sl 5 (List.map GReading.cs a0e.Claim.Readings), VU a0e.Claim.Seed, VI a0e.Claim.Session.From, VI a0e.Claim.Session.To, VI a0e.Claim.Session.End, .sl 2 (List.map GSlice.cs a0e.Claim.Session.Slices), .sl 2 (List.map GLine.cs a0e.Claim.Bill.Lines), VI a0e.Claim.Bill.Net, VI a0e.Claim.Bill.Tax, VI a0e.Claim.Bill.Total, VI a0e.follows.From, VI a0e.follows.To, VI a0e.follows.End, .sl 2 (List.map GSlice.cs a0e.follows.Slices), .sl 2 (List.map GLine.cs a0e.bill.Lines), VI a0e.bill.Net, VI a0e.bill.Tax, VI a0e.bill.Total, VI a0e.rate]), (3, .ptr 3 0), (4, I 0), (5, .ptr 5 0), (6, I (wi (l2_1 + x3.Energy))), (27, .p (.sl 2 (List.map GSlice.cs a0e.follows.Slices))), (28, I (lenI (List.map GSlice.cs a0e.follows.Slices))), (29, I l2_2)], [(3, .box 75 (bxc (GArticle.cs a1a))), (5, .box 33 (bxc (GSession.cs a0e.follows)))]⟩ (by kernel_rfl) ?_
          refine sim_last Try.fm (by kernel_rfl) ?_
          exact kq_n (wi (l2_1 + x3.Energy), wi (l2_2 + 1)) ⟨[0, 3, 4, 5, 6, 27, 28, 29], [3, 5], [], []⟩ (by kernel_rfl)
        · refine sim_skip ?_
          refine bq_n ?_
          refine sq_nk ⟨[0, 3, 4, 5, 6, 27, 28, 29], [3, 5], [], []⟩ ⟨[(0, .eptr [VS a0e.Claim.Tariff.Name, .sl 7 (List.map GArticle.cs a0e.Claim.Tariff.Articles), VI a0e.Claim.Calendar.Offset, .sl 2 (List.map GChange.cs a0e.Claim.Calendar.Changes), .sl 1 (List.map ci a0e.Claim.Calendar.Holidays), .sl 5 (List.map GReading.cs a0e.Claim.Readings), VU a0e.Claim.Seed, VI a0e.Claim.Session.From, VI a0e.Claim.Session.To, VI a0e.Claim.Session.End, .sl 2 (List.map GSlice.cs a0e.Claim.Session.Slices), .sl 2 (List.map GLine.cs a0e.Claim.Bill.Lines), VI a0e.Claim.Bill.Net, VI a0e.Claim.Bill.Tax, VI a0e.Claim.Bill.Total, VI a0e.follows.From, VI a0e.follows.To, VI a0e.follows.End, .sl 2 (List.map GSlice.cs a0e.follows.Slices), .sl 2 (List.map GLine.cs a0e.bill.Lines), VI a0e.bill.Net, VI a0e.bill.Tax, VI a0e.bill.Total, VI a0e.rate]), (3, .ptr 3 0), (4, I 0), (5, .ptr 5 0), (6, I l2_1), (27, .p (.sl 2 (List.map GSlice.cs a0e.follows.Slices))), (28, I (lenI (List.map GSlice.cs a0e.follows.Slices))), (29, I l2_2)], [(3, .box 75 (bxc (GArticle.cs a1a))), (5, .box 33 (bxc (GSession.cs a0e.follows)))]⟩ (by kernel_rfl) ?_
          refine sim_last Try.fm (by kernel_rfl) ?_
          exact kq_n (l2_1, wi (l2_2 + 1)) ⟨[0, 3, 4, 5, 6, 27, 28, 29], [3, 5], [], []⟩ (by kernel_rfl)
      · refine sim_exit ?_
        refine sq_x ?_
        refine kq_x ?_
        refine bq_hit ?_
        refine sq_nk ⟨[3, 4, 5, 6], [3, 5], [], []⟩ ⟨[(3, .ptr 3 0), (4, I 0), (5, .ptr 5 0), (6, I l2_1)], [(3, .box 75 (bxc (GArticle.cs a1a))), (5, .box 33 (bxc (GSession.cs a0e.follows)))]⟩ (by kernel_rfl) ?_
        refine sim_run Try.fm ⟨[4], [], [], []⟩ ⟨[(4, I (wi (Int.tdiv (wi ((wi ((wi (2 * a1a.Price)) * l2_1)) + 1000)) 2000)))], []⟩ (by kernel_rfl) ?_
        refine sim_ret ?_
        refine bq_r ?_
        refine sq_r ?_
        exact rq_ret (.id) (by kernel_rfl) (by kernel_rfl) (by kernel_rfl)
    · refine sim_run Try.fm ⟨[0, 3, 4, 5, 14, 50], [3, 5], [], []⟩ ⟨[(0, .eptr [VS a0e.Claim.Tariff.Name, .sl 7 (List.map GArticle.cs a0e.Claim.Tariff.Articles), VI a0e.Claim.Calendar.Offset, .sl 2 (List.map GChange.cs a0e.Claim.Calendar.Changes), .sl 1 (List.map ci a0e.Claim.Calendar.Holidays), .sl 5 (List.map GReading.cs a0e.Claim.Readings), VU a0e.Claim.Seed, VI a0e.Claim.Session.From, VI a0e.Claim.Session.To, VI a0e.Claim.Session.End, .sl 2 (List.map GSlice.cs a0e.Claim.Session.Slices), .sl 2 (List.map GLine.cs a0e.Claim.Bill.Lines), VI a0e.Claim.Bill.Net, VI a0e.Claim.Bill.Tax, VI a0e.Claim.Bill.Total, VI a0e.follows.From, VI a0e.follows.To, VI a0e.follows.End, .sl 2 (List.map GSlice.cs a0e.follows.Slices), .sl 2 (List.map GLine.cs a0e.bill.Lines), VI a0e.bill.Net, VI a0e.bill.Tax, VI a0e.bill.Total, VI a0e.rate]), (3, .ptr 3 0), (4, I 0), (5, .ptr 5 0), (14, I a1a.Kind), (50, B (eqI a1a.Kind 3))], [(3, .box 75 (bxc (GArticle.cs a1a))), (5, .box 33 (bxc (GSession.cs a0e.follows)))]⟩ (by kernel_rfl) ?_
      refine sim_cond (eqI a1a.Kind 3) (by kernel_rfl) ?_ ?_
      · refine sim_seq ?_
        refine sim_reg ?_
        refine xs_run 6 (by kernel_rfl) ?_
        refine xs_call [] (by kernel_rfl) (g_auditor_examined_started_ok n a0e a1a a0e.follows.From a0e.follows.To) (by kernel_rfl) (by kernel_rfl) (fun _ => by kernel_rfl) (fun r5 => ?_)
        refine xs_run 1 (by kernel_rfl) ?_
        refine xs_end ?_
        refine sq_nk ⟨[4], [], [], []⟩ ⟨[(4, I r5)], []⟩ (by kernel_rfl) ?_
        refine sim_ret ?_
        refine bq_r ?_
        refine sq_r ?_
        exact rq_ret (.id) (by kernel_rfl) (by kernel_rfl) (by kernel_rfl)
      · refine sim_run Try.fm ⟨[0, 3, 4, 5, 59], [3, 5], [], []⟩ ⟨[(0, .eptr [VS a0e.Claim.Tariff.Name, .sl 7 (List.map GArticle.cs a0e.Claim.Tariff.Articles), VI a0e.Claim.Calendar.Offset, .sl 2 (List.map GChange.cs a0e.Claim.Calendar.Changes), .sl 1 (List.map ci a0e.Claim.Calendar.Holidays), .sl 5 (List.map GReading.cs a0e.Claim.Readings), VU a0e.Claim.Seed, VI a0e.Claim.Session.From, VI a0e.Claim.Session.To, VI a0e.Claim.Session.End, .sl 2 (List.map GSlice.cs a0e.Claim.Session.Slices), .sl 2 (List.map GLine.cs a0e.Claim.Bill.Lines), VI a0e.Claim.Bill.Net, VI a0e.Claim.Bill.Tax, VI a0e.Claim.Bill.Total, VI a0e.follows.From, VI a0e.follows.To, VI a0e.follows.End, .sl 2 (List.map GSlice.cs a0e.follows.Slices), .sl 2 (List.map GLine.cs a0e.bill.Lines), VI a0e.bill.Net, VI a0e.bill.Tax, VI a0e.bill.Total, VI a0e.rate]), (3, .ptr 3 0), (4, I 0), (5, .ptr 5 0), (59, B (eqI a1a.Kind 4))], [(3, .box 75 (bxc (GArticle.cs a1a))), (5, .box 33 (bxc (GSession.cs a0e.follows)))]⟩ (by kernel_rfl) ?_
        refine sim_cond (eqI a1a.Kind 4) (by kernel_rfl) ?_ ?_
        · refine sim_seq ?_
          refine sim_reg ?_
          refine xs_run 6 (by kernel_rfl) ?_
          refine xs_call [] (by kernel_rfl) (g_auditor_examined_started_ok n a0e a1a a0e.follows.End a0e.follows.To) (by kernel_rfl) (by kernel_rfl) (fun _ => by kernel_rfl) (fun r6 => ?_)
          refine xs_run 1 (by kernel_rfl) ?_
          refine xs_end ?_
          refine sq_nk ⟨[4], [], [], []⟩ ⟨[(4, I r6)], []⟩ (by kernel_rfl) ?_
          refine sim_ret ?_
          refine bq_r ?_
          refine sq_r ?_
          exact rq_ret (.id) (by kernel_rfl) (by kernel_rfl) (by kernel_rfl)
        · refine sim_skip ?_
          refine bq_n ?_
          refine sq_nk ⟨[4, 5], [5], [], []⟩ ⟨[(4, I 0), (5, .ptr 5 0)], [(5, .box 33 (bxc (GSession.cs a0e.follows)))]⟩ (by kernel_rfl) ?_
          refine sim_run Try.fm ⟨[4], [], [], []⟩ ⟨[(4, I 0)], []⟩ (by kernel_rfl) ?_
          refine sim_ret ?_
          exact rq_ret (.id) (by kernel_rfl) (by kernel_rfl) (by kernel_rfl)
def g_auditor_examined_price_l1 (n : Nat) (a0e : GAuditorExamined) (recl1 : (Int × (OL GLine)) → Option (Except (Int × GAuditorExamined) GAuditorExamined)) (l1_1 : Int) (l1_2 : OL GLine) : Option (Except (Int × GAuditorExamined) GAuditorExamined) :=
  cond (ltI l1_1 (lenI (List.map GArticle.cs a0e.Claim.Tariff.Articles)))
    ((getI a0e.Claim.Tariff.Articles l1_1).bind fun x2 =>
    (cond (eqI x2.Kind 5)
      (some true)
      (some (eqI x2.Kind 6))).bind fun j3 =>
    cond j3
      (recl1 (wi (l1_1 + 1), l1_2))
      ((g_auditor_examined_cost n (⟨a0e.Claim, a0e.follows, (⟨l1_2.toL, a0e.bill.Net, a0e.bill.Tax, a0e.bill.Total⟩ : GBill), a0e.rate⟩ : GAuditorExamined) x2).bind fun r5 =>
      (g_auditor_need n (leI r5 1000000000) 4).bind (exc (fun r6 =>
        cond (roomB (List.length (l1_2.toL ++ [(⟨l1_1, r5⟩ : GLine)])) 16) (
          recl1 (wi (l1_1 + 1), OL.own (l1_2.toL ++ [(⟨l1_1, r5⟩ : GLine)]))) none) fun e7 => some (.error (e7, (⟨a0e.Claim, a0e.follows, (⟨l1_2.toL, a0e.bill.Net, a0e.bill.Tax, a0e.bill.Total⟩ : GBill), a0e.rate⟩ : GAuditorExamined))))))
    (some (.ok (⟨a0e.Claim, a0e.follows, (⟨l1_2.toL, a0e.bill.Net, a0e.bill.Tax, a0e.bill.Total⟩ : GBill), a0e.rate⟩ : GAuditorExamined)))
def g_auditor_examined_price (n : Nat) (a0e : GAuditorExamined) : Option (Except (Int × GAuditorExamined) GAuditorExamined) :=
  loopN (fun recl1 (l1_1, l1_2) => g_auditor_examined_price_l1 n a0e recl1 l1_1 l1_2) n (0, OL.nil)
theorem g_auditor_examined_price_ok (n : Nat) (a0e : GAuditorExamined) : ∀ r, g_auditor_examined_price n a0e = some r → ACall Try.prog 37 [.ptr 1000 0] (Go.Abs.look [(1000, .box 64 [S a0e.Claim.Tariff.Name, .p (.sl 7 (List.map GArticle.cs a0e.Claim.Tariff.Articles)), I a0e.Claim.Calendar.Offset, .p (.sl 2 (List.map GChange.cs a0e.Claim.Calendar.Changes)), .p (.sl 1 (List.map ci a0e.Claim.Calendar.Holidays)), .p (.sl 5 (List.map GReading.cs a0e.Claim.Readings)), U a0e.Claim.Seed, I a0e.Claim.Session.From, I a0e.Claim.Session.To, I a0e.Claim.Session.End, .p (.sl 2 (List.map GSlice.cs a0e.Claim.Session.Slices)), .p (.sl 2 (List.map GLine.cs a0e.Claim.Bill.Lines)), I a0e.Claim.Bill.Net, I a0e.Claim.Bill.Tax, I a0e.Claim.Bill.Total, I a0e.follows.From, I a0e.follows.To, I a0e.follows.End, .p (.sl 2 (List.map GSlice.cs a0e.follows.Slices)), .p (.val (.slice none 0 0)), I a0e.bill.Net, I a0e.bill.Tax, I a0e.bill.Total, I a0e.rate])]) (heapR (excX (fun r : GAuditorExamined => ((.ret (.tup []), [(1000, .box 64 (bxc (GAuditorExamined.cs r)))]) : AEnd × List (Nat × Blk))) (fun e : Int × GAuditorExamined => ((.panic (.ifc 99 (.agg [I e.1])), [(1000, .box 64 (bxc (GAuditorExamined.cs e.2)))]) : AEnd × List (Nat × Blk)))) r) := by
  refine acall_sim (X := excX (fun r : GAuditorExamined => ((.ret (.tup []), [(1000, .box 64 (bxc (GAuditorExamined.cs r)))]) : AEnd × List (Nat × Blk))) (fun e : Int × GAuditorExamined => ((.panic (.ifc 99 (.agg [I e.1])), [(1000, .box 64 (bxc (GAuditorExamined.cs e.2)))]) : AEnd × List (Nat × Blk)))) [(1000, .box 64 [S a0e.Claim.Tariff.Name, .p (.sl 7 (List.map GArticle.cs a0e.Claim.Tariff.Articles)), I a0e.Claim.Calendar.Offset, .p (.sl 2 (List.map GChange.cs a0e.Claim.Calendar.Changes)), .p (.sl 1 (List.map ci a0e.Claim.Calendar.Holidays)), .p (.sl 5 (List.map GReading.cs a0e.Claim.Readings)), U a0e.Claim.Seed, I a0e.Claim.Session.From, I a0e.Claim.Session.To, I a0e.Claim.Session.End, .p (.sl 2 (List.map GSlice.cs a0e.Claim.Session.Slices)), .p (.sl 2 (List.map GLine.cs a0e.Claim.Bill.Lines)), I a0e.Claim.Bill.Net, I a0e.Claim.Bill.Tax, I a0e.Claim.Bill.Total, I a0e.follows.From, I a0e.follows.To, I a0e.follows.End, .p (.sl 2 (List.map GSlice.cs a0e.follows.Slices)), .p (.val (.slice none 0 0)), I a0e.bill.Net, I a0e.bill.Tax, I a0e.bill.Total, I a0e.rate])] Try.func37 rfl Try.ntmps37 rfl ?_
  unfold g_auditor_examined_price
  refine sim_run Try.fm ⟨[0, 5, 10, 11, 12], [1000], [], []⟩ ⟨[(0, .ptr 1000 0), (5, .ptr 1000 0), (10, .p (.sl 7 (List.map GArticle.cs a0e.Claim.Tariff.Articles))), (11, I (lenI (List.map GArticle.cs a0e.Claim.Tariff.Articles))), (12, I 0)], [(1000, .box 64 [S a0e.Claim.Tariff.Name, .p (.sl 7 (List.map GArticle.cs a0e.Claim.Tariff.Articles)), I a0e.Claim.Calendar.Offset, .p (.sl 2 (List.map GChange.cs a0e.Claim.Calendar.Changes)), .p (.sl 1 (List.map ci a0e.Claim.Calendar.Holidays)), .p (.sl 5 (List.map GReading.cs a0e.Claim.Readings)), U a0e.Claim.Seed, I a0e.Claim.Session.From, I a0e.Claim.Session.To, I a0e.Claim.Session.End, .p (.sl 2 (List.map GSlice.cs a0e.Claim.Session.Slices)), .p (.sl 2 (List.map GLine.cs a0e.Claim.Bill.Lines)), I a0e.Claim.Bill.Net, I a0e.Claim.Bill.Tax, I a0e.Claim.Bill.Total, I a0e.follows.From, I a0e.follows.To, I a0e.follows.End, .p (.sl 2 (List.map GSlice.cs a0e.follows.Slices)), .p (.val (.slice none 0 0)), I a0e.bill.Net, I a0e.bill.Tax, I a0e.bill.Total, I a0e.rate])]⟩ (by kernel_rfl) ?_
  refine sim_block ?_
  refine sim_loop (fun (l1_1, l1_2) => ⟨[(0, .ptr 1000 0), (5, .ptr 1000 0), (10, .p (.sl 7 (List.map GArticle.cs a0e.Claim.Tariff.Articles))), (11, I (lenI (List.map GArticle.cs a0e.Claim.Tariff.Articles))), (12, I l1_1)], [(1000, .box 64 [S a0e.Claim.Tariff.Name, .p (.sl 7 (List.map GArticle.cs a0e.Claim.Tariff.Articles)), I a0e.Claim.Calendar.Offset, .p (.sl 2 (List.map GChange.cs a0e.Claim.Calendar.Changes)), .p (.sl 1 (List.map ci a0e.Claim.Calendar.Holidays)), .p (.sl 5 (List.map GReading.cs a0e.Claim.Readings)), U a0e.Claim.Seed, I a0e.Claim.Session.From, I a0e.Claim.Session.To, I a0e.Claim.Session.End, .p (.sl 2 (List.map GSlice.cs a0e.Claim.Session.Slices)), .p (.sl 2 (List.map GLine.cs a0e.Claim.Bill.Lines)), I a0e.Claim.Bill.Net, I a0e.Claim.Bill.Tax, I a0e.Claim.Bill.Total, I a0e.follows.From, I a0e.follows.To, I a0e.follows.End, .p (.sl 2 (List.map GSlice.cs a0e.follows.Slices)), osl 2 GLine.cs l1_2 41, I a0e.bill.Net, I a0e.bill.Tax, I a0e.bill.Total, I a0e.rate])] ++ oarr 56 2 GLine.cs l1_2 41⟩ : (Int × (OL GLine)) → St) (weak_shr (K := ⟨[0, 5, 10, 11, 12], [1000], [], []⟩) (by kernel_rfl)) ?_
  rintro recl1 ⟨l1_1, l1_2⟩
  show SimE (g_auditor_examined_price_l1 n a0e recl1 l1_1 l1_2) _ _ _ _ _ _
  unfold g_auditor_examined_price_l1
  rcases l1_2 with _ | ow_l1_2
  · refine sim_run Try.fm ⟨[0, 5, 10, 11, 12, 13], [1000], [], []⟩ ⟨[(0, .ptr 1000 0), (5, .ptr 1000 0), (10, .p (.sl 7 (List.map GArticle.cs a0e.Claim.Tariff.Articles))), (11, I (lenI (List.map GArticle.cs a0e.Claim.Tariff.Articles))), (12, I l1_1), (13, B (ltI l1_1 (lenI (List.map GArticle.cs a0e.Claim.Tariff.Articles))))], [(1000, .box 64 [S a0e.Claim.Tariff.Name, .p (.sl 7 (List.map GArticle.cs a0e.Claim.Tariff.Articles)), I a0e.Claim.Calendar.Offset, .p (.sl 2 (List.map GChange.cs a0e.Claim.Calendar.Changes)), .p (.sl 1 (List.map ci a0e.Claim.Calendar.Holidays)), .p (.sl 5 (List.map GReading.cs a0e.Claim.Readings)), U a0e.Claim.Seed, I a0e.Claim.Session.From, I a0e.Claim.Session.To, I a0e.Claim.Session.End, .p (.sl 2 (List.map GSlice.cs a0e.Claim.Session.Slices)), .p (.sl 2 (List.map GLine.cs a0e.Claim.Bill.Lines)), I a0e.Claim.Bill.Net, I a0e.Claim.Bill.Tax, I a0e.Claim.Bill.Total, I a0e.follows.From, I a0e.follows.To, I a0e.follows.End, .p (.sl 2 (List.map GSlice.cs a0e.follows.Slices)), .p (.val (.slice none 0 0)), I a0e.bill.Net, I a0e.bill.Tax, I a0e.bill.Total, I a0e.rate])]⟩ (by kernel_rfl) ?_
    refine sim_seq ?_
    refine sim_cond (ltI l1_1 (lenI (List.map GArticle.cs a0e.Claim.Tariff.Articles))) (by kernel_rfl) ?_ ?_
    · refine sim_skip ?_
      refine sq_nk ⟨[0, 5, 10, 11, 12], [1000], [], []⟩ ⟨[(0, .ptr 1000 0), (5, .ptr 1000 0), (10, .p (.sl 7 (List.map GArticle.cs a0e.Claim.Tariff.Articles))), (11, I (lenI (List.map GArticle.cs a0e.Claim.Tariff.Articles))), (12, I l1_1)], [(1000, .box 64 [S a0e.Claim.Tariff.Name, .p (.sl 7 (List.map GArticle.cs a0e.Claim.Tariff.Articles)), I a0e.Claim.Calendar.Offset, .p (.sl 2 (List.map GChange.cs a0e.Claim.Calendar.Changes)), .p (.sl 1 (List.map ci a0e.Claim.Calendar.Holidays)), .p (.sl 5 (List.map GReading.cs a0e.Claim.Readings)), U a0e.Claim.Seed, I a0e.Claim.Session.From, I a0e.Claim.Session.To, I a0e.Claim.Session.End, .p (.sl 2 (List.map GSlice.cs a0e.Claim.Session.Slices)), .p (.sl 2 (List.map GLine.cs a0e.Claim.Bill.Lines)), I a0e.Claim.Bill.Net, I a0e.Claim.Bill.Tax, I a0e.Claim.Bill.Total, I a0e.follows.From, I a0e.follows.To, I a0e.follows.End, .p (.sl 2 (List.map GSlice.cs a0e.follows.Slices)), .p (.val (.slice none 0 0)), I a0e.bill.Net, I a0e.bill.Tax, I a0e.bill.Total, I a0e.rate])]⟩ (by kernel_rfl) ?_
      refine sim_seq ?_
      refine sim_block ?_
      refine sim_seq ?_
      refine sim_reg ?_
      refine xs_run 1 (by kernel_rfl) ?_
      refine xs_get (by kernel_rfl) (by kernel_rfl) (aop_idx (e := 75) (S := 7) (enc := GArticle.cs) (l := a0e.Claim.Tariff.Articles) (k := .i64) (n := l1_1) (sv := .p (.sl 7 (List.map GArticle.cs a0e.Claim.Tariff.Articles))) rfl (by kernel_rfl) (by kernel_rfl) (by kernel_rfl) (by kernel_rfl) (by kernel_rfl)) (fun x2 => ?_)
      refine xs_run 4 (by kernel_rfl) ?_
      refine xs_end ?_
      refine sq_nk ⟨[0, 2, 3, 5, 10, 11, 12], [3, 1000], [], []⟩ ⟨[(0, .ptr 1000 0), (2, I l1_1), (3, .ptr 3 0), (5, .ptr 1000 0), (10, .p (.sl 7 (List.map GArticle.cs a0e.Claim.Tariff.Articles))), (11, I (lenI (List.map GArticle.cs a0e.Claim.Tariff.Articles))), (12, I l1_1)], [(3, .box 75 (bxc (GArticle.cs x2))), (1000, .box 64 [S a0e.Claim.Tariff.Name, .p (.sl 7 (List.map GArticle.cs a0e.Claim.Tariff.Articles)), I a0e.Claim.Calendar.Offset, .p (.sl 2 (List.map GChange.cs a0e.Claim.Calendar.Changes)), .p (.sl 1 (List.map ci a0e.Claim.Calendar.Holidays)), .p (.sl 5 (List.map GReading.cs a0e.Claim.Readings)), U a0e.Claim.Seed, I a0e.Claim.Session.From, I a0e.Claim.Session.To, I a0e.Claim.Session.End, .p (.sl 2 (List.map GSlice.cs a0e.Claim.Session.Slices)), .p (.sl 2 (List.map GLine.cs a0e.Claim.Bill.Lines)), I a0e.Claim.Bill.Net, I a0e.Claim.Bill.Tax, I a0e.Claim.Bill.Total, I a0e.follows.From, I a0e.follows.To, I a0e.follows.End, .p (.sl 2 (List.map GSlice.cs a0e.follows.Slices)), .p (.val (.slice none 0 0)), I a0e.bill.Net, I a0e.bill.Tax, I a0e.bill.Total, I a0e.rate])]⟩ (by kernel_rfl) ?_
      refine sim_seq ?_
      refine sim_bind (fun j3 => ⟨[(0, .ptr 1000 0), (2, I l1_1), (3, .ptr 3 0), (5, .ptr 1000 0), (10, .p (.sl 7 (List.map GArticle.cs a0e.Claim.Tariff.Articles))), (11, I (lenI (List.map GArticle.cs a0e.Claim.Tariff.Articles))), (12, I l1_1), (24, B j3)], [(3, .box 75 (bxc (GArticle.cs x2))), (1000, .box 64 [S a0e.Claim.Tariff.Name, .p (.sl 7 (List.map GArticle.cs a0e.Claim.Tariff.Articles)), I a0e.Claim.Calendar.Offset, .p (.sl 2 (List.map GChange.cs a0e.Claim.Calendar.Changes)), .p (.sl 1 (List.map ci a0e.Claim.Calendar.Holidays)), .p (.sl 5 (List.map GReading.cs a0e.Claim.Readings)), U a0e.Claim.Seed, I a0e.Claim.Session.From, I a0e.Claim.Session.To, I a0e.Claim.Session.End, .p (.sl 2 (List.map GSlice.cs a0e.Claim.Session.Slices)), .p (.sl 2 (List.map GLine.cs a0e.Claim.Bill.Lines)), I a0e.Claim.Bill.Net, I a0e.Claim.Bill.Tax, I a0e.Claim.Bill.Total, I a0e.follows.From, I a0e.follows.To, I a0e.follows.End, .p (.sl 2 (List.map GSlice.cs a0e.follows.Slices)), .p (.val (.slice none 0 0)), I a0e.bill.Net, I a0e.bill.Tax, I a0e.bill.Total, I a0e.rate])]⟩ : Bool → St) ?_ ?_
      · refine sim_reg ?_
        refine xs_run 4 (by kernel_rfl) ?_
        refine xs_split (eqI x2.Kind 5) (fun h4 => ?_) (fun h4 => ?_)
        · refine xs_no (want_ft (by kernel_rfl) h4) (by kernel_rfl) ?_
          refine xs_run 3 (by kernel_rfl) ?_
          refine xs_end ?_
          exact nq_n true ⟨[0, 2, 3, 5, 10, 11, 12, 24], [3, 1000], [], []⟩ (by kernel_rfl)
        · refine xs_one (want_ff (by kernel_rfl) h4) (by kernel_rfl) ?_
          refine xs_run 3 (by kernel_rfl) ?_
          refine xs_end ?_
          exact nq_n (eqI x2.Kind 6) ⟨[0, 2, 3, 5, 10, 11, 12, 24], [3, 1000], [], []⟩ (by kernel_rfl)
      · rintro j3
        refine sim_cond j3 (by kernel_rfl) ?_ ?_
        · refine sim_exit ?_
          refine sq_x ?_
          refine bq_hit ?_
          refine sq_nk ⟨[0, 5, 10, 11, 12], [1000], [], []⟩ ⟨[(0, .ptr 1000 0), (5, .ptr 1000 0), (10, .p (.sl 7 (List.map GArticle.cs a0e.Claim.Tariff.Articles))), (11, I (lenI (List.map GArticle.cs a0e.Claim.Tariff.Articles))), (12, I l1_1)], [(1000, .box 64 [S a0e.Claim.Tariff.Name, .p (.sl 7 (List.map GArticle.cs a0e.Claim.Tariff.Articles)), I a0e.Claim.Calendar.Offset, .p (.sl 2 (List.map GChange.cs a0e.Claim.Calendar.Changes)), .p (.sl 1 (List.map ci a0e.Claim.Calendar.Holidays)), .p (.sl 5 (List.map GReading.cs a0e.Claim.Readings)), U a0e.Claim.Seed, I a0e.Claim.Session.From, I a0e.Claim.Session.To, I a0e.Claim.Session.End, .p (.sl 2 (List.map GSlice.cs a0e.Claim.Session.Slices)), .p (.sl 2 (List.map GLine.cs a0e.Claim.Bill.Lines)), I a0e.Claim.Bill.Net, I a0e.Claim.Bill.Tax, I a0e.Claim.Bill.Total, I a0e.follows.From, I a0e.follows.To, I a0e.follows.End, .p (.sl 2 (List.map GSlice.cs a0e.follows.Slices)), .p (.val (.slice none 0 0)), I a0e.bill.Net, I a0e.bill.Tax, I a0e.bill.Total, I a0e.rate])]⟩ (by kernel_rfl) ?_
          refine sim_last Try.fm (by kernel_rfl) ?_
          exact kq_n (wi (l1_1 + 1), OL.nil) ⟨[0, 5, 10, 11, 12], [1000], [], []⟩ (by kernel_rfl)
        · refine sim_skip ?_
          refine sq_nk ⟨[0, 2, 3, 5, 10, 11, 12], [3, 1000], [], []⟩ ⟨[(0, .ptr 1000 0), (2, I l1_1), (3, .ptr 3 0), (5, .ptr 1000 0), (10, .p (.sl 7 (List.map GArticle.cs a0e.Claim.Tariff.Articles))), (11, I (lenI (List.map GArticle.cs a0e.Claim.Tariff.Articles))), (12, I l1_1)], [(3, .box 75 (bxc (GArticle.cs x2))), (1000, .box 64 [S a0e.Claim.Tariff.Name, .p (.sl 7 (List.map GArticle.cs a0e.Claim.Tariff.Articles)), I a0e.Claim.Calendar.Offset, .p (.sl 2 (List.map GChange.cs a0e.Claim.Calendar.Changes)), .p (.sl 1 (List.map ci a0e.Claim.Calendar.Holidays)), .p (.sl 5 (List.map GReading.cs a0e.Claim.Readings)), U a0e.Claim.Seed, I a0e.Claim.Session.From, I a0e.Claim.Session.To, I a0e.Claim.Session.End, .p (.sl 2 (List.map GSlice.cs a0e.Claim.Session.Slices)), .p (.sl 2 (List.map GLine.cs a0e.Claim.Bill.Lines)), I a0e.Claim.Bill.Net, I a0e.Claim.Bill.Tax, I a0e.Claim.Bill.Total, I a0e.follows.From, I a0e.follows.To, I a0e.follows.End, .p (.sl 2 (List.map GSlice.cs a0e.follows.Slices)), .p (.val (.slice none 0 0)), I a0e.bill.Net, I a0e.bill.Tax, I a0e.bill.Total, I a0e.rate])]⟩ (by kernel_rfl) ?_
          refine sim_seq ?_
          refine sim_reg ?_
          refine xs_run 2 (by kernel_rfl) ?_
          refine xs_ro [.ro [.id, .id, .id, .id, .id, .id, .id, .id, .id, .id, .id, .id, .id, .id, .id, .id, .id, .id, .id, .sl 2, .id, .id, .id, .id], .cv (.id)] (by kernel_rfl) (g_auditor_examined_cost_ok n (⟨a0e.Claim, a0e.follows, (⟨OL.nil.toL, a0e.bill.Net, a0e.bill.Tax, a0e.bill.Total⟩ : GBill), a0e.rate⟩ : GAuditorExamined) x2) (by kernel_rfl) (by kernel_rfl) (fun _ => by kernel_rfl) (fun r5 => ?_)
          refine xs_run 1 (by kernel_rfl) ?_
          refine xs_end ?_
          refine sq_nk ⟨[0, 2, 4, 5, 10, 11, 12], [1000], [], []⟩ ⟨[(0, .ptr 1000 0), (2, I l1_1), (4, I r5), (5, .ptr 1000 0), (10, .p (.sl 7 (List.map GArticle.cs a0e.Claim.Tariff.Articles))), (11, I (lenI (List.map GArticle.cs a0e.Claim.Tariff.Articles))), (12, I l1_1)], [(1000, .box 64 [S a0e.Claim.Tariff.Name, .p (.sl 7 (List.map GArticle.cs a0e.Claim.Tariff.Articles)), I a0e.Claim.Calendar.Offset, .p (.sl 2 (List.map GChange.cs a0e.Claim.Calendar.Changes)), .p (.sl 1 (List.map ci a0e.Claim.Calendar.Holidays)), .p (.sl 5 (List.map GReading.cs a0e.Claim.Readings)), U a0e.Claim.Seed, I a0e.Claim.Session.From, I a0e.Claim.Session.To, I a0e.Claim.Session.End, .p (.sl 2 (List.map GSlice.cs a0e.Claim.Session.Slices)), .p (.sl 2 (List.map GLine.cs a0e.Claim.Bill.Lines)), I a0e.Claim.Bill.Net, I a0e.Claim.Bill.Tax, I a0e.Claim.Bill.Total, I a0e.follows.From, I a0e.follows.To, I a0e.follows.End, .p (.sl 2 (List.map GSlice.cs a0e.follows.Slices)), .p (.val (.slice none 0 0)), I a0e.bill.Net, I a0e.bill.Tax, I a0e.bill.Total, I a0e.rate])]⟩ (by kernel_rfl) ?_
          refine sim_seq ?_
          refine sim_reg ?_
          refine xs_run 2 (by kernel_rfl) ?_
          refine xs_exc [] (by kernel_rfl) (g_auditor_need_ok n (leI r5 1000000000) 4) (by kernel_rfl) (by kernel_rfl) (fun _ => by kernel_rfl) (fun _ => by kernel_rfl) (fun r6 => ?_) (fun e7 => ?_)
          · refine xs_end ?_
            refine sq_nk ⟨[0, 2, 4, 5, 10, 11, 12], [1000], [], []⟩ ⟨[(0, .ptr 1000 0), (2, I l1_1), (4, I r5), (5, .ptr 1000 0), (10, .p (.sl 7 (List.map GArticle.cs a0e.Claim.Tariff.Articles))), (11, I (lenI (List.map GArticle.cs a0e.Claim.Tariff.Articles))), (12, I l1_1)], [(1000, .box 64 [S a0e.Claim.Tariff.Name, .p (.sl 7 (List.map GArticle.cs a0e.Claim.Tariff.Articles)), I a0e.Claim.Calendar.Offset, .p (.sl 2 (List.map GChange.cs a0e.Claim.Calendar.Changes)), .p (.sl 1 (List.map ci a0e.Claim.Calendar.Holidays)), .p (.sl 5 (List.map GReading.cs a0e.Claim.Readings)), U a0e.Claim.Seed, I a0e.Claim.Session.From, I a0e.Claim.Session.To, I a0e.Claim.Session.End, .p (.sl 2 (List.map GSlice.cs a0e.Claim.Session.Slices)), .p (.sl 2 (List.map GLine.cs a0e.Claim.Bill.Lines)), I a0e.Claim.Bill.Net, I a0e.Claim.Bill.Tax, I a0e.Claim.Bill.Total, I a0e.follows.From, I a0e.follows.To, I a0e.follows.End, .p (.sl 2 (List.map GSlice.cs a0e.follows.Slices)), .p (.val (.slice none 0 0)), I a0e.bill.Net, I a0e.bill.Tax, I a0e.bill.Total, I a0e.rate])]⟩ (by kernel_rfl) ?_
            refine sim_reg ?_
            refine xs_run 10 (by kernel_rfl) ?_
            refine xs_if (by kernel_rfl) (by kernel_rfl) (aop_app0 (e := 56) (S := 2) (by_ := 16) (enc := GLine.cs) (d := 41) (l2 := [(⟨l1_1, r5⟩ : GLine)]) (xv := .tsl 2 (List.map GLine.cs [(⟨l1_1, r5⟩ : GLine)]) 40) rfl rfl (by kernel_rfl) (by kernel_rfl) rfl (by kernel_rfl) (by kernel_rfl) (by kernel_rfl) rfl (by kernel_rfl)) ?_
            refine xs_run 4 (by kernel_rfl) ?_
            refine xs_end ?_
            refine bq_n ?_
            refine sq_nk ⟨[0, 4, 5, 10, 11, 12], [41, 1000], [], []⟩ ⟨[(0, .ptr 1000 0), (4, I r5), (5, .ptr 1000 0), (10, .p (.sl 7 (List.map GArticle.cs a0e.Claim.Tariff.Articles))), (11, I (lenI (List.map GArticle.cs a0e.Claim.Tariff.Articles))), (12, I l1_1)], [(41, .arr 56 2 (List.map GLine.cs (OL.nil.toL ++ [(⟨l1_1, r5⟩ : GLine)])).length), (1000, .box 64 [S a0e.Claim.Tariff.Name, .p (.sl 7 (List.map GArticle.cs a0e.Claim.Tariff.Articles)), I a0e.Claim.Calendar.Offset, .p (.sl 2 (List.map GChange.cs a0e.Claim.Calendar.Changes)), .p (.sl 1 (List.map ci a0e.Claim.Calendar.Holidays)), .p (.sl 5 (List.map GReading.cs a0e.Claim.Readings)), U a0e.Claim.Seed, I a0e.Claim.Session.From, I a0e.Claim.Session.To, I a0e.Claim.Session.End, .p (.sl 2 (List.map GSlice.cs a0e.Claim.Session.Slices)), .p (.sl 2 (List.map GLine.cs a0e.Claim.Bill.Lines)), I a0e.Claim.Bill.Net, I a0e.Claim.Bill.Tax, I a0e.Claim.Bill.Total, I a0e.follows.From, I a0e.follows.To, I a0e.follows.End, .p (.sl 2 (List.map GSlice.cs a0e.follows.Slices)), .tsl 2 (List.map GLine.cs (OL.nil.toL ++ [(⟨l1_1, r5⟩ : GLine)])) 41, I a0e.bill.Net, I a0e.bill.Tax, I a0e.bill.Total, I a0e.rate])]⟩ (by kernel_rfl) ?_
            refine sim_last Try.fm (by kernel_rfl) ?_
            exact kq_n (wi (l1_1 + 1), OL.own (OL.nil.toL ++ [(⟨l1_1, r5⟩ : GLine)])) ⟨[0, 5, 10, 11, 12], [1000, 41], [], []⟩ (by kernel_rfl)
          · refine sq_p ?_
            refine bq_p ?_
            refine sq_p ?_
            refine kq_p ?_
            refine bq_p ?_
            exact hq_p [1000] [(1000, [.id, .id, .id, .id, .id, .id, .id, .id, .id, .id, .id, .id, .id, .id, .id, .id, .id, .id, .id, .sl 2, .id, .id, .id, .id])] (by kernel_rfl) (by kernel_rfl) (by kernel_rfl)
    · refine sim_exit ?_
      refine sq_x ?_
      refine kq_x ?_
      refine bq_hit ?_
      exact hq_n (.id) [1000] [(1000, [.id, .id, .id, .id, .id, .id, .id, .id, .id, .id, .id, .id, .id, .id, .id, .id, .id, .id, .id, .sl 2, .id, .id, .id, .id])] (by kernel_rfl) (by kernel_rfl) (by kernel_rfl) (by kernel_rfl)
  · refine sim_run Try.fm ⟨[0, 5, 10, 11, 12, 13], [41, 1000], [], []⟩ ⟨[(0, .ptr 1000 0), (5, .ptr 1000 0), (10, .p (.sl 7 (List.map GArticle.cs a0e.Claim.Tariff.Articles))), (11, I (lenI (List.map GArticle.cs a0e.Claim.Tariff.Articles))), (12, I l1_1), (13, B (ltI l1_1 (lenI (List.map GArticle.cs a0e.Claim.Tariff.Articles))))], [(41, .arr 56 2 (List.map GLine.cs (OL.own ow_l1_2).toL).length), (1000, .box 64 [S a0e.Claim.Tariff.Name, .p (.sl 7 (List.map GArticle.cs a0e.Claim.Tariff.Articles)), I a0e.Claim.Calendar.Offset, .p (.sl 2 (List.map GChange.cs a0e.Claim.Calendar.Changes)), .p (.sl 1 (List.map ci a0e.Claim.Calendar.Holidays)), .p (.sl 5 (List.map GReading.cs a0e.Claim.Readings)), U a0e.Claim.Seed, I a0e.Claim.Session.From, I a0e.Claim.Session.To, I a0e.Claim.Session.End, .p (.sl 2 (List.map GSlice.cs a0e.Claim.Session.Slices)), .p (.sl 2 (List.map GLine.cs a0e.Claim.Bill.Lines)), I a0e.Claim.Bill.Net, I a0e.Claim.Bill.Tax, I a0e.Claim.Bill.Total, I a0e.follows.From, I a0e.follows.To, I a0e.follows.End, .p (.sl 2 (List.map GSlice.cs a0e.follows.Slices)), .tsl 2 (List.map GLine.cs (OL.own ow_l1_2).toL) 41, I a0e.bill.Net, I a0e.bill.Tax, I a0e.bill.Total, I a0e.rate])]⟩ (by kernel_rfl) ?_
    refine sim_seq ?_
    refine sim_cond (ltI l1_1 (lenI (List.map GArticle.cs a0e.Claim.Tariff.Articles))) (by kernel_rfl) ?_ ?_
    · refine sim_skip ?_
      refine sq_nk ⟨[0, 5, 10, 11, 12], [41, 1000], [], []⟩ ⟨[(0, .ptr 1000 0), (5, .ptr 1000 0), (10, .p (.sl 7 (List.map GArticle.cs a0e.Claim.Tariff.Articles))), (11, I (lenI (List.map GArticle.cs a0e.Claim.Tariff.Articles))), (12, I l1_1)], [(41, .arr 56 2 (List.map GLine.cs (OL.own ow_l1_2).toL).length), (1000, .box 64 [S a0e.Claim.Tariff.Name, .p (.sl 7 (List.map GArticle.cs a0e.Claim.Tariff.Articles)), I a0e.Claim.Calendar.Offset, .p (.sl 2 (List.map GChange.cs a0e.Claim.Calendar.Changes)), .p (.sl 1 (List.map ci a0e.Claim.Calendar.Holidays)), .p (.sl 5 (List.map GReading.cs a0e.Claim.Readings)), U a0e.Claim.Seed, I a0e.Claim.Session.From, I a0e.Claim.Session.To, I a0e.Claim.Session.End, .p (.sl 2 (List.map GSlice.cs a0e.Claim.Session.Slices)), .p (.sl 2 (List.map GLine.cs a0e.Claim.Bill.Lines)), I a0e.Claim.Bill.Net, I a0e.Claim.Bill.Tax, I a0e.Claim.Bill.Total, I a0e.follows.From, I a0e.follows.To, I a0e.follows.End, .p (.sl 2 (List.map GSlice.cs a0e.follows.Slices)), .tsl 2 (List.map GLine.cs (OL.own ow_l1_2).toL) 41, I a0e.bill.Net, I a0e.bill.Tax, I a0e.bill.Total, I a0e.rate])]⟩ (by kernel_rfl) ?_
      refine sim_seq ?_
      refine sim_block ?_
      refine sim_seq ?_
      refine sim_reg ?_
      refine xs_run 1 (by kernel_rfl) ?_
      refine xs_get (by kernel_rfl) (by kernel_rfl) (aop_idx (e := 75) (S := 7) (enc := GArticle.cs) (l := a0e.Claim.Tariff.Articles) (k := .i64) (n := l1_1) (sv := .p (.sl 7 (List.map GArticle.cs a0e.Claim.Tariff.Articles))) rfl (by kernel_rfl) (by kernel_rfl) (by kernel_rfl) (by kernel_rfl) (by kernel_rfl)) (fun x2 => ?_)
      refine xs_run 4 (by kernel_rfl) ?_
      refine xs_end ?_
      refine sq_nk ⟨[0, 2, 3, 5, 10, 11, 12], [3, 41, 1000], [], []⟩ ⟨[(0, .ptr 1000 0), (2, I l1_1), (3, .ptr 3 0), (5, .ptr 1000 0), (10, .p (.sl 7 (List.map GArticle.cs a0e.Claim.Tariff.Articles))), (11, I (lenI (List.map GArticle.cs a0e.Claim.Tariff.Articles))), (12, I l1_1)], [(3, .box 75 (bxc (GArticle.cs x2))), (41, .arr 56 2 (List.map GLine.cs (OL.own ow_l1_2).toL).length), (1000, .box 64 [S a0e.Claim.Tariff.Name, .p (.sl 7 (List.map GArticle.cs a0e.Claim.Tariff.Articles)), I a0e.Claim.Calendar.Offset, .p (.sl 2 (List.map GChange.cs a0e.Claim.Calendar.Changes)), .p (.sl 1 (List.map ci a0e.Claim.Calendar.Holidays)), .p (.sl 5 (List.map GReading.cs a0e.Claim.Readings)), U a0e.Claim.Seed, I a0e.Claim.Session.From, I a0e.Claim.Session.To, I a0e.Claim.Session.End, .p (.sl 2 (List.map GSlice.cs a0e.Claim.Session.Slices)), .p (.sl 2 (List.map GLine.cs a0e.Claim.Bill.Lines)), I a0e.Claim.Bill.Net, I a0e.Claim.Bill.Tax, I a0e.Claim.Bill.Total, I a0e.follows.From, I a0e.follows.To, I a0e.follows.End, .p (.sl 2 (List.map GSlice.cs a0e.follows.Slices)), .tsl 2 (List.map GLine.cs (OL.own ow_l1_2).toL) 41, I a0e.bill.Net, I a0e.bill.Tax, I a0e.bill.Total, I a0e.rate])]⟩ (by kernel_rfl) ?_
      refine sim_seq ?_
      refine sim_bind (fun j3 => ⟨[(0, .ptr 1000 0), (2, I l1_1), (3, .ptr 3 0), (5, .ptr 1000 0), (10, .p (.sl 7 (List.map GArticle.cs a0e.Claim.Tariff.Articles))), (11, I (lenI (List.map GArticle.cs a0e.Claim.Tariff.Articles))), (12, I l1_1), (24, B j3)], [(3, .box 75 (bxc (GArticle.cs x2))), (41, .arr 56 2 (List.map GLine.cs (OL.own ow_l1_2).toL).length), (1000, .box 64 [S a0e.Claim.Tariff.Name, .p (.sl 7 (List.map GArticle.cs a0e.Claim.Tariff.Articles)), I a0e.Claim.Calendar.Offset, .p (.sl 2 (List.map GChange.cs a0e.Claim.Calendar.Changes)), .p (.sl 1 (List.map ci a0e.Claim.Calendar.Holidays)), .p (.sl 5 (List.map GReading.cs a0e.Claim.Readings)), U a0e.Claim.Seed, I a0e.Claim.Session.From, I a0e.Claim.Session.To, I a0e.Claim.Session.End, .p (.sl 2 (List.map GSlice.cs a0e.Claim.Session.Slices)), .p (.sl 2 (List.map GLine.cs a0e.Claim.Bill.Lines)), I a0e.Claim.Bill.Net, I a0e.Claim.Bill.Tax, I a0e.Claim.Bill.Total, I a0e.follows.From, I a0e.follows.To, I a0e.follows.End, .p (.sl 2 (List.map GSlice.cs a0e.follows.Slices)), .tsl 2 (List.map GLine.cs (OL.own ow_l1_2).toL) 41, I a0e.bill.Net, I a0e.bill.Tax, I a0e.bill.Total, I a0e.rate])]⟩ : Bool → St) ?_ ?_
      · refine sim_reg ?_
        refine xs_run 4 (by kernel_rfl) ?_
        refine xs_split (eqI x2.Kind 5) (fun h4 => ?_) (fun h4 => ?_)
        · refine xs_no (want_ft (by kernel_rfl) h4) (by kernel_rfl) ?_
          refine xs_run 3 (by kernel_rfl) ?_
          refine xs_end ?_
          exact nq_n true ⟨[0, 2, 3, 5, 10, 11, 12, 24], [3, 41, 1000], [], []⟩ (by kernel_rfl)
        · refine xs_one (want_ff (by kernel_rfl) h4) (by kernel_rfl) ?_
          refine xs_run 3 (by kernel_rfl) ?_
          refine xs_end ?_
          exact nq_n (eqI x2.Kind 6) ⟨[0, 2, 3, 5, 10, 11, 12, 24], [3, 41, 1000], [], []⟩ (by kernel_rfl)
      · rintro j3
        refine sim_cond j3 (by kernel_rfl) ?_ ?_
        · refine sim_exit ?_
          refine sq_x ?_
          refine bq_hit ?_
          refine sq_nk ⟨[0, 5, 10, 11, 12], [41, 1000], [], []⟩ ⟨[(0, .ptr 1000 0), (5, .ptr 1000 0), (10, .p (.sl 7 (List.map GArticle.cs a0e.Claim.Tariff.Articles))), (11, I (lenI (List.map GArticle.cs a0e.Claim.Tariff.Articles))), (12, I l1_1)], [(41, .arr 56 2 (List.map GLine.cs (OL.own ow_l1_2).toL).length), (1000, .box 64 [S a0e.Claim.Tariff.Name, .p (.sl 7 (List.map GArticle.cs a0e.Claim.Tariff.Articles)), I a0e.Claim.Calendar.Offset, .p (.sl 2 (List.map GChange.cs a0e.Claim.Calendar.Changes)), .p (.sl 1 (List.map ci a0e.Claim.Calendar.Holidays)), .p (.sl 5 (List.map GReading.cs a0e.Claim.Readings)), U a0e.Claim.Seed, I a0e.Claim.Session.From, I a0e.Claim.Session.To, I a0e.Claim.Session.End, .p (.sl 2 (List.map GSlice.cs a0e.Claim.Session.Slices)), .p (.sl 2 (List.map GLine.cs a0e.Claim.Bill.Lines)), I a0e.Claim.Bill.Net, I a0e.Claim.Bill.Tax, I a0e.Claim.Bill.Total, I a0e.follows.From, I a0e.follows.To, I a0e.follows.End, .p (.sl 2 (List.map GSlice.cs a0e.follows.Slices)), .tsl 2 (List.map GLine.cs (OL.own ow_l1_2).toL) 41, I a0e.bill.Net, I a0e.bill.Tax, I a0e.bill.Total, I a0e.rate])]⟩ (by kernel_rfl) ?_
          refine sim_last Try.fm (by kernel_rfl) ?_
          exact kq_n (wi (l1_1 + 1), (OL.own ow_l1_2)) ⟨[0, 5, 10, 11, 12], [1000, 41], [], []⟩ (by kernel_rfl)
        · refine sim_skip ?_
          refine sq_nk ⟨[0, 2, 3, 5, 10, 11, 12], [3, 41, 1000], [], []⟩ ⟨[(0, .ptr 1000 0), (2, I l1_1), (3, .ptr 3 0), (5, .ptr 1000 0), (10, .p (.sl 7 (List.map GArticle.cs a0e.Claim.Tariff.Articles))), (11, I (lenI (List.map GArticle.cs a0e.Claim.Tariff.Articles))), (12, I l1_1)], [(3, .box 75 (bxc (GArticle.cs x2))), (41, .arr 56 2 (List.map GLine.cs (OL.own ow_l1_2).toL).length), (1000, .box 64 [S a0e.Claim.Tariff.Name, .p (.sl 7 (List.map GArticle.cs a0e.Claim.Tariff.Articles)), I a0e.Claim.Calendar.Offset, .p (.sl 2 (List.map GChange.cs a0e.Claim.Calendar.Changes)), .p (.sl 1 (List.map ci a0e.Claim.Calendar.Holidays)), .p (.sl 5 (List.map GReading.cs a0e.Claim.Readings)), U a0e.Claim.Seed, I a0e.Claim.Session.From, I a0e.Claim.Session.To, I a0e.Claim.Session.End, .p (.sl 2 (List.map GSlice.cs a0e.Claim.Session.Slices)), .p (.sl 2 (List.map GLine.cs a0e.Claim.Bill.Lines)), I a0e.Claim.Bill.Net, I a0e.Claim.Bill.Tax, I a0e.Claim.Bill.Total, I a0e.follows.From, I a0e.follows.To, I a0e.follows.End, .p (.sl 2 (List.map GSlice.cs a0e.follows.Slices)), .tsl 2 (List.map GLine.cs (OL.own ow_l1_2).toL) 41, I a0e.bill.Net, I a0e.bill.Tax, I a0e.bill.Total, I a0e.rate])]⟩ (by kernel_rfl) ?_
          refine sim_seq ?_
          refine sim_reg ?_
          refine xs_run 2 (by kernel_rfl) ?_
          refine xs_ro [.ro [.id, .id, .id, .id, .id, .id, .id, .id, .id, .id, .id, .id, .id, .id, .id, .id, .id, .id, .id, .sl 2, .id, .id, .id, .id], .cv (.id)] (by kernel_rfl) (g_auditor_examined_cost_ok n (⟨a0e.Claim, a0e.follows, (⟨(OL.own ow_l1_2).toL, a0e.bill.Net, a0e.bill.Tax, a0e.bill.Total⟩ : GBill), a0e.rate⟩ : GAuditorExamined) x2) (by kernel_rfl) (by kernel_rfl) (fun _ => by kernel_rfl) (fun r5 => ?_)
          refine xs_run 1 (by kernel_rfl) ?_
          refine xs_end ?_
          refine sq_nk ⟨[0, 2, 4, 5, 10, 11, 12], [41, 1000], [], []⟩ ⟨[(0, .ptr 1000 0), (2, I l1_1), (4, I r5), (5, .ptr 1000 0), (10, .p (.sl 7 (List.map GArticle.cs a0e.Claim.Tariff.Articles))), (11, I (lenI (List.map GArticle.cs a0e.Claim.Tariff.Articles))), (12, I l1_1)], [(41, .arr 56 2 (List.map GLine.cs (OL.own ow_l1_2).toL).length), (1000, .box 64 [S a0e.Claim.Tariff.Name, .p (.sl 7 (List.map GArticle.cs a0e.Claim.Tariff.Articles)), I a0e.Claim.Calendar.Offset, .p (.sl 2 (List.map GChange.cs a0e.Claim.Calendar.Changes)), .p (.sl 1 (List.map ci a0e.Claim.Calendar.Holidays)), .p (.sl 5 (List.map GReading.cs a0e.Claim.Readings)), U a0e.Claim.Seed, I a0e.Claim.Session.From, I a0e.Claim.Session.To, I a0e.Claim.Session.End, .p (.sl 2 (List.map GSlice.cs a0e.Claim.Session.Slices)), .p (.sl 2 (List.map GLine.cs a0e.Claim.Bill.Lines)), I a0e.Claim.Bill.Net, I a0e.Claim.Bill.Tax, I a0e.Claim.Bill.Total, I a0e.follows.From, I a0e.follows.To, I a0e.follows.End, .p (.sl 2 (List.map GSlice.cs a0e.follows.Slices)), .tsl 2 (List.map GLine.cs (OL.own ow_l1_2).toL) 41, I a0e.bill.Net, I a0e.bill.Tax, I a0e.bill.Total, I a0e.rate])]⟩ (by kernel_rfl) ?_
          refine sim_seq ?_
          refine sim_reg ?_
          refine xs_run 2 (by kernel_rfl) ?_
          refine xs_exc [] (by kernel_rfl) (g_auditor_need_ok n (leI r5 1000000000) 4) (by kernel_rfl) (by kernel_rfl) (fun _ => by kernel_rfl) (fun _ => by kernel_rfl) (fun r6 => ?_) (fun e7 => ?_)
          · refine xs_end ?_
            refine sq_nk ⟨[0, 2, 4, 5, 10, 11, 12], [41, 1000], [], []⟩ ⟨[(0, .ptr 1000 0), (2, I l1_1), (4, I r5), (5, .ptr 1000 0), (10, .p (.sl 7 (List.map GArticle.cs a0e.Claim.Tariff.Articles))), (11, I (lenI (List.map GArticle.cs a0e.Claim.Tariff.Articles))), (12, I l1_1)], [(41, .arr 56 2 (List.map GLine.cs (OL.own ow_l1_2).toL).length), (1000, .box 64 [S a0e.Claim.Tariff.Name, .p (.sl 7 (List.map GArticle.cs a0e.Claim.Tariff.Articles)), I a0e.Claim.Calendar.Offset, .p (.sl 2 (List.map GChange.cs a0e.Claim.Calendar.Changes)), .p (.sl 1 (List.map ci a0e.Claim.Calendar.Holidays)), .p (.sl 5 (List.map GReading.cs a0e.Claim.Readings)), U a0e.Claim.Seed, I a0e.Claim.Session.From, I a0e.Claim.Session.To, I a0e.Claim.Session.End, .p (.sl 2 (List.map GSlice.cs a0e.Claim.Session.Slices)), .p (.sl 2 (List.map GLine.cs a0e.Claim.Bill.Lines)), I a0e.Claim.Bill.Net, I a0e.Claim.Bill.Tax, I a0e.Claim.Bill.Total, I a0e.follows.From, I a0e.follows.To, I a0e.follows.End, .p (.sl 2 (List.map GSlice.cs a0e.follows.Slices)), .tsl 2 (List.map GLine.cs (OL.own ow_l1_2).toL) 41, I a0e.bill.Net, I a0e.bill.Tax, I a0e.bill.Total, I a0e.rate])]⟩ (by kernel_rfl) ?_
            refine sim_reg ?_
            refine xs_run 10 (by kernel_rfl) ?_
            refine xs_if (by kernel_rfl) (by kernel_rfl) (aop_app (e := 56) (S := 2) (by_ := 16) (enc := GLine.cs) (tk := 41) (l := (OL.own ow_l1_2).toL) (l2 := [(⟨l1_1, r5⟩ : GLine)]) (xv := .tsl 2 (List.map GLine.cs [(⟨l1_1, r5⟩ : GLine)]) 40) rfl (by kernel_rfl) (by kernel_rfl) rfl (by kernel_rfl) (by kernel_rfl) (by kernel_rfl) rfl (by kernel_rfl)) ?_
            refine xs_run 4 (by kernel_rfl) ?_
            refine xs_end ?_
            refine bq_n ?_
            refine sq_nk ⟨[0, 4, 5, 10, 11, 12], [41, 1000], [], []⟩ ⟨[(0, .ptr 1000 0), (4, I r5), (5, .ptr 1000 0), (10, .p (.sl 7 (List.map GArticle.cs a0e.Claim.Tariff.Articles))), (11, I (lenI (List.map GArticle.cs a0e.Claim.Tariff.Articles))), (12, I l1_1)], [(41, .arr 56 2 (List.map GLine.cs ((OL.own ow_l1_2).toL ++ [(⟨l1_1, r5⟩ : GLine)])).length), (1000, .box 64 [S a0e.Claim.Tariff.Name, .p (.sl 7 (List.map GArticle.cs a0e.Claim.Tariff.Articles)), I a0e.Claim.Calendar.Offset, .p (.sl 2 (List.map GChange.cs a0e.Claim.Calendar.Changes)), .p (.sl 1 (List.map ci a0e.Claim.Calendar.Holidays)), .p (.sl 5 (List.map GReading.cs a0e.Claim.Readings)), U a0e.Claim.Seed, I a0e.Claim.Session.From, I a0e.Claim.Session.To, I a0e.Claim.Session.End, .p (.sl 2 (List.map GSlice.cs a0e.Claim.Session.Slices)), .p (.sl 2 (List.map GLine.cs a0e.Claim.Bill.Lines)), I a0e.Claim.Bill.Net, I a0e.Claim.Bill.Tax, I a0e.Claim.Bill.Total, I a0e.follows.From, I a0e.follows.To, I a0e.follows.End, .p (.sl 2 (List.map GSlice.cs a0e.follows.Slices)), .tsl 2 (List.map GLine.cs ((OL.own ow_l1_2).toL ++ [(⟨l1_1, r5⟩ : GLine)])) 41, I a0e.bill.Net, I a0e.bill.Tax, I a0e.bill.Total, I a0e.rate])]⟩ (by kernel_rfl) ?_
            refine sim_last Try.fm (by kernel_rfl) ?_
            exact kq_n (wi (l1_1 + 1), OL.own ((OL.own ow_l1_2).toL ++ [(⟨l1_1, r5⟩ : GLine)])) ⟨[0, 5, 10, 11, 12], [1000, 41], [], []⟩ (by kernel_rfl)
          · refine sq_p ?_
            refine bq_p ?_
            refine sq_p ?_
            refine kq_p ?_
            refine bq_p ?_
            exact hq_p [1000] [(1000, [.id, .id, .id, .id, .id, .id, .id, .id, .id, .id, .id, .id, .id, .id, .id, .id, .id, .id, .id, .sl 2, .id, .id, .id, .id])] (by kernel_rfl) (by kernel_rfl) (by kernel_rfl)
    · refine sim_exit ?_
      refine sq_x ?_
      refine kq_x ?_
      refine bq_hit ?_
      exact hq_n (.id) [1000] [(1000, [.id, .id, .id, .id, .id, .id, .id, .id, .id, .id, .id, .id, .id, .id, .id, .id, .id, .id, .id, .sl 2, .id, .id, .id, .id])] (by kernel_rfl) (by kernel_rfl) (by kernel_rfl) (by kernel_rfl)
def g_auditor_same_api_Line_l1 (a0a : List GLine) (a1b : List GLine) (recl1 : Int → Option Bool) (l1 : Int) : Option Bool :=
  cond (ltI l1 (lenI (List.map GLine.cs a0a)))
    ((getI a0a l1).bind fun x2 =>
    (getI a1b l1).bind fun x3 =>
    cond (!opq ((eqI x2.Article x3.Article) && ((eqI x2.Amount x3.Amount) && true)))
      (some false)
      (recl1 (wi (l1 + 1))))
    (some true)
def g_auditor_same_api_Line (n : Nat) (a0a : List GLine) (a1b : List GLine) : Option Bool :=
  cond (!eqI (lenI (List.map GLine.cs a0a)) (lenI (List.map GLine.cs a1b)))
    (some false)
    (loopN (fun recl1 l1 => g_auditor_same_api_Line_l1 a0a a1b recl1 l1) n 0)
theorem g_auditor_same_api_Line_ok (n : Nat) (a0a : List GLine) (a1b : List GLine) : ∀ r, g_auditor_same_api_Line n a0a a1b = some r → PCall Try.prog 39 [.p (.sl 2 (List.map GLine.cs a0a)), .p (.sl 2 (List.map GLine.cs a1b))] (.ret (B r)) := by
  refine pcall_sim (X := fun r : Bool => AEnd.ret (B r)) Try.func39 rfl Try.ntmps39 rfl ?_
  unfold g_auditor_same_api_Line
  refine sim_run Try.fm ⟨[0, 1, 4], [], [], []⟩ ⟨[(0, .p (.sl 2 (List.map GLine.cs a0a))), (1, .p (.sl 2 (List.map GLine.cs a1b))), (4, B false)], []⟩ (by kernel_rfl) ?_
  refine sim_seq ?_
  refine sim_run Try.fm ⟨[0, 1, 4, 10], [], [], []⟩ ⟨[(0, .p (.sl 2 (List.map GLine.cs a0a))), (1, .p (.sl 2 (List.map GLine.cs a1b))), (4, B false), (10, B (!eqI (lenI (List.map GLine.cs a0a)) (lenI (List.map GLine.cs a1b))))], []⟩ (by kernel_rfl) ?_
  refine sim_cond (!eqI (lenI (List.map GLine.cs a0a)) (lenI (List.map GLine.cs a1b))) (by kernel_rfl) ?_ ?_
  · refine sim_run Try.fm ⟨[4], [], [], []⟩ ⟨[(4, B false)], []⟩ (by kernel_rfl) ?_
    refine sim_ret ?_
    refine sq_r ?_
    exact rq_ret (.id) (by kernel_rfl) (by kernel_rfl) (by kernel_rfl)
  · refine sim_skip ?_
    refine sq_nk ⟨[0, 1, 4], [], [], []⟩ ⟨[(0, .p (.sl 2 (List.map GLine.cs a0a))), (1, .p (.sl 2 (List.map GLine.cs a1b))), (4, B false)], []⟩ (by kernel_rfl) ?_
    refine sim_seq ?_
    refine sim_run Try.fm ⟨[0, 1, 4, 12, 13], [], [], []⟩ ⟨[(0, .p (.sl 2 (List.map GLine.cs a0a))), (1, .p (.sl 2 (List.map GLine.cs a1b))), (4, B false), (12, I (lenI (List.map GLine.cs a0a))), (13, I 0)], []⟩ (by kernel_rfl) ?_
    refine sim_block ?_
    refine sim_loop (fun l1 => ⟨[(0, .p (.sl 2 (List.map GLine.cs a0a))), (1, .p (.sl 2 (List.map GLine.cs a1b))), (4, B false), (12, I (lenI (List.map GLine.cs a0a))), (13, I l1)], []⟩ : Int → St) (weak_shr (K := ⟨[0, 1, 4, 12, 13], [], [], []⟩) (by kernel_rfl)) ?_
    rintro recl1 l1
    show SimE (g_auditor_same_api_Line_l1 a0a a1b recl1 l1) _ _ _ _ _ _
    unfold g_auditor_same_api_Line_l1
    refine sim_run Try.fm ⟨[0, 1, 4, 12, 13, 14], [], [], []⟩ ⟨[(0, .p (.sl 2 (List.map GLine.cs a0a))), (1, .p (.sl 2 (List.map GLine.cs a1b))), (4, B false), (12, I (lenI (List.map GLine.cs a0a))), (13, I l1), (14, B (ltI l1 (lenI (List.map GLine.cs a0a))))], []⟩ (by kernel_rfl) ?_
    refine sim_seq ?_
    refine sim_cond (ltI l1 (lenI (List.map GLine.cs a0a))) (by kernel_rfl) ?_ ?_
    · refine sim_skip ?_
      refine sq_nk ⟨[0, 1, 4, 12, 13], [], [], []⟩ ⟨[(0, .p (.sl 2 (List.map GLine.cs a0a))), (1, .p (.sl 2 (List.map GLine.cs a1b))), (4, B false), (12, I (lenI (List.map GLine.cs a0a))), (13, I l1)], []⟩ (by kernel_rfl) ?_
      refine sim_seq ?_
      refine sim_block ?_
      refine sim_run Try.fm ⟨[0, 1, 4, 5, 12, 13], [], [], []⟩ ⟨[(0, .p (.sl 2 (List.map GLine.cs a0a))), (1, .p (.sl 2 (List.map GLine.cs a1b))), (4, B false), (5, I l1), (12, I (lenI (List.map GLine.cs a0a))), (13, I l1)], []⟩ (by kernel_rfl) ?_
      refine sim_seq ?_
      refine sim_drw Try.fm rfl ?_
      refine xs_run 2 (by kernel_rfl) ?_
      refine xs_get (by kernel_rfl) (by kernel_rfl) (aop_idx (e := 56) (S := 2) (enc := GLine.cs) (l := a0a) (k := .i64) (n := l1) (sv := .p (.sl 2 (List.map GLine.cs a0a))) rfl (by kernel_rfl) (by kernel_rfl) (by kernel_rfl) (by kernel_rfl) (by kernel_rfl)) (fun x2 => ?_)
      refine xs_run 3 (by kernel_rfl) ?_
      refine xs_get (by kernel_rfl) (by kernel_rfl) (aop_idx (e := 56) (S := 2) (enc := GLine.cs) (l := a1b) (k := .i64) (n := l1) (sv := .p (.sl 2 (List.map GLine.cs a1b))) rfl (by kernel_rfl) (by kernel_rfl) (by kernel_rfl) (by kernel_rfl) (by kernel_rfl)) (fun x3 => ?_)
      refine xs_run 1 (by kernel_rfl) ?_
      refine xs_u (by kernel_rfl) (by kernel_rfl) (aop_neq (xs := [I x2.Article, I x2.Amount]) (ys := [I x3.Article, I x3.Amount]) (vx := [.int .i64 x2.Article, .int .i64 x2.Amount]) (vy := [.int .i64 x3.Article, .int .i64 x3.Amount]) (b := (eqI x2.Article x3.Article) && ((eqI x2.Amount x3.Amount) && true)) rfl (by kernel_rfl) (by kernel_rfl) (by kernel_rfl) (by kernel_rfl) (by kernel_rfl) (by kernel_rfl)) ?_
      refine xs_endD (by kernel_rfl) ?_
      refine sq_nk ⟨[0, 1, 4, 5, 12, 13, 24], [], [], []⟩ ⟨[(0, .p (.sl 2 (List.map GLine.cs a0a))), (1, .p (.sl 2 (List.map GLine.cs a1b))), (4, B false), (5, I l1), (12, I (lenI (List.map GLine.cs a0a))), (13, I l1), (24, B (!opq ((eqI x2.Article x3.Article) && ((eqI x2.Amount x3.Amount) && true))))], []⟩ (by kernel_rfl) ?_
      refine sim_cond (!opq ((eqI x2.Article x3.Article) && ((eqI x2.Amount x3.Amount) && true))) (by kernel_rfl) ?_ ?_
      · refine sim_run Try.fm ⟨[4], [], [], []⟩ ⟨[(4, B false)], []⟩ (by kernel_rfl) ?_
        refine sim_ret ?_
        refine bq_r ?_
        refine sq_r ?_
        refine kq_r ?_
        refine bq_r ?_
        refine sq_r ?_
        exact rq_ret (.id) (by kernel_rfl) (by kernel_rfl) (by kernel_rfl)
      · refine sim_skip ?_
        refine bq_n ?_
        refine sq_nk ⟨[0, 1, 4, 5, 12, 13], [], [], []⟩ ⟨[(0, .p (.sl 2 (List.map GLine.cs a0a))), (1, .p (.sl 2 (List.map GLine.cs a1b))), (4, B false), (5, I l1), (12, I (lenI (List.map GLine.cs a0a))), (13, I l1)], []⟩ (by kernel_rfl) ?_
        refine sim_last Try.fm (by kernel_rfl) ?_
        exact kq_n (wi (l1 + 1)) ⟨[0, 1, 4, 12, 13], [], [], []⟩ (by kernel_rfl)
    · refine sim_exit ?_
      refine sq_x ?_
      refine kq_x ?_
      refine bq_hit ?_
      refine sq_nk ⟨[4], [], [], []⟩ ⟨[(4, B false)], []⟩ (by kernel_rfl) ?_
      refine sim_run Try.fm ⟨[4], [], [], []⟩ ⟨[(4, B true)], []⟩ (by kernel_rfl) ?_
      refine sim_ret ?_
      exact rq_ret (.id) (by kernel_rfl) (by kernel_rfl) (by kernel_rfl)
def g_auditor_examined_add_l2 (a0e : GAuditorExamined) (recl2 : (Int × Int) → Option Int) (l2_1 : Int) (l2_2 : Int) : Option Int :=
  cond (ltI l2_1 (lenI (List.map GLine.cs a0e.bill.Lines)))
    ((getI a0e.bill.Lines l2_1).bind fun x3 =>
    recl2 (wi (l2_1 + 1), wi (l2_2 + x3.Amount)))
    (some l2_2)
def g_auditor_examined_add_l5 (a0e : GAuditorExamined) (recl5 : (Int × Int) → Option Int) (l5_1 : Int) (l5_2 : Int) : Option Int :=
  cond (ltI l5_1 (lenI (List.map GArticle.cs a0e.Claim.Tariff.Articles)))
    ((getI a0e.Claim.Tariff.Articles l5_1).bind fun x6 =>
    cond (eqI x6.Kind 5)
      (recl5 (wi (l5_1 + 1), minI l5_2 x6.Price))
      (recl5 (wi (l5_1 + 1), l5_2)))
    (some l5_2)
def g_auditor_examined_add (n : Nat) (a0e : GAuditorExamined) : Option (Except (Int × GAuditorExamined) GAuditorExamined) :=
  (loopN (fun recl2 (l2_1, l2_2) => g_auditor_examined_add_l2 a0e recl2 l2_1 l2_2) n (0, a0e.bill.Net)).bind fun j1 =>
  (loopN (fun recl5 (l5_1, l5_2) => g_auditor_examined_add_l5 a0e recl5 l5_1 l5_2) n (0, j1)).bind fun j4 =>
  (g_auditor_need n (leI j4 1000000000) 5).bind (exc (fun r7 =>
    (g_auditor_need n (leI (wi (j4 + (wi (Int.tdiv (wi ((wi ((wi (2 * j4)) * a0e.rate)) + 10000)) 20000)))) 1000000000) 5).bind (exc (fun r9 =>
      some (.ok (⟨a0e.Claim, a0e.follows, (⟨a0e.bill.Lines, j4, wi (Int.tdiv (wi ((wi ((wi (2 * j4)) * a0e.rate)) + 10000)) 20000), wi (j4 + (wi (Int.tdiv (wi ((wi ((wi (2 * j4)) * a0e.rate)) + 10000)) 20000)))⟩ : GBill), a0e.rate⟩ : GAuditorExamined))) fun e10 => some (.error (e10, (⟨a0e.Claim, a0e.follows, (⟨a0e.bill.Lines, j4, wi (Int.tdiv (wi ((wi ((wi (2 * j4)) * a0e.rate)) + 10000)) 20000), wi (j4 + (wi (Int.tdiv (wi ((wi ((wi (2 * j4)) * a0e.rate)) + 10000)) 20000)))⟩ : GBill), a0e.rate⟩ : GAuditorExamined))))) fun e8 => some (.error (e8, (⟨a0e.Claim, a0e.follows, (⟨a0e.bill.Lines, j4, a0e.bill.Tax, a0e.bill.Total⟩ : GBill), a0e.rate⟩ : GAuditorExamined))))
theorem g_auditor_examined_add_ok (n : Nat) (a0e : GAuditorExamined) : ∀ r, g_auditor_examined_add n a0e = some r → ACall Try.prog 40 [.ptr 1000 0] (Go.Abs.look [(1000, .box 64 (bxc (GAuditorExamined.cs a0e)))]) (heapR (excX (fun r : GAuditorExamined => ((.ret (.tup []), [(1000, .box 64 (bxc (GAuditorExamined.cs r)))]) : AEnd × List (Nat × Blk))) (fun e : Int × GAuditorExamined => ((.panic (.ifc 99 (.agg [I e.1])), [(1000, .box 64 (bxc (GAuditorExamined.cs e.2)))]) : AEnd × List (Nat × Blk)))) r) := by
  refine acall_sim (X := excX (fun r : GAuditorExamined => ((.ret (.tup []), [(1000, .box 64 (bxc (GAuditorExamined.cs r)))]) : AEnd × List (Nat × Blk))) (fun e : Int × GAuditorExamined => ((.panic (.ifc 99 (.agg [I e.1])), [(1000, .box 64 (bxc (GAuditorExamined.cs e.2)))]) : AEnd × List (Nat × Blk)))) [(1000, .box 64 (bxc (GAuditorExamined.cs a0e)))] Try.func40 rfl Try.ntmps40 rfl ?_
  unfold g_auditor_examined_add
  refine sim_bind (fun j1 => ⟨[(0, .ptr 1000 0)], [(1000, .box 64 [S a0e.Claim.Tariff.Name, .p (.sl 7 (List.map GArticle.cs a0e.Claim.Tariff.Articles)), I a0e.Claim.Calendar.Offset, .p (.sl 2 (List.map GChange.cs a0e.Claim.Calendar.Changes)), .p (.sl 1 (List.map ci a0e.Claim.Calendar.Holidays)), .p (.sl 5 (List.map GReading.cs a0e.Claim.Readings)), U a0e.Claim.Seed, I a0e.Claim.Session.From, I a0e.Claim.Session.To, I a0e.Claim.Session.End, .p (.sl 2 (List.map GSlice.cs a0e.Claim.Session.Slices)), .p (.sl 2 (List.map GLine.cs a0e.Claim.Bill.Lines)), I a0e.Claim.Bill.Net, I a0e.Claim.Bill.Tax, I a0e.Claim.Bill.Total, I a0e.follows.From, I a0e.follows.To, I a0e.follows.End, .p (.sl 2 (List.map GSlice.cs a0e.follows.Slices)), .p (.sl 2 (List.map GLine.cs a0e.bill.Lines)), I j1, I a0e.bill.Tax, I a0e.bill.Total, I a0e.rate])]⟩ : Int → St) ?_ ?_
  · refine sim_run Try.fm ⟨[0, 10, 11, 12], [1000], [], []⟩ ⟨[(0, .ptr 1000 0), (10, .p (.sl 2 (List.map GLine.cs a0e.bill.Lines))), (11, I (lenI (List.map GLine.cs a0e.bill.Lines))), (12, I 0)], [(1000, .box 64 (bxc (GAuditorExamined.cs a0e)))]⟩ (by kernel_rfl) ?_
    refine sim_block ?_
    refine sim_loop (fun (l2_1, l2_2) => ⟨[(0, .ptr 1000 0), (10, .p (.sl 2 (List.map GLine.cs a0e.bill.Lines))), (11, I (lenI (List.map GLine.cs a0e.bill.Lines))), (12, I l2_1)], [(1000, .box 64 [S a0e.Claim.Tariff.Name, .p (.sl 7 (List.map GArticle.cs a0e.Claim.Tariff.Articles)), I a0e.Claim.Calendar.Offset, .p (.sl 2 (List.map GChange.cs a0e.Claim.Calendar.Changes)), .p (.sl 1 (List.map ci a0e.Claim.Calendar.Holidays)), .p (.sl 5 (List.map GReading.cs a0e.Claim.Readings)), U a0e.Claim.Seed, I a0e.Claim.Session.From, I a0e.Claim.Session.To, I a0e.Claim.Session.End, .p (.sl 2 (List.map GSlice.cs a0e.Claim.Session.Slices)), .p (.sl 2 (List.map GLine.cs a0e.Claim.Bill.Lines)), I a0e.Claim.Bill.Net, I a0e.Claim.Bill.Tax, I a0e.Claim.Bill.Total, I a0e.follows.From, I a0e.follows.To, I a0e.follows.End, .p (.sl 2 (List.map GSlice.cs a0e.follows.Slices)), .p (.sl 2 (List.map GLine.cs a0e.bill.Lines)), I l2_2, I a0e.bill.Tax, I a0e.bill.Total, I a0e.rate])]⟩ : (Int × Int) → St) (weak_shr (K := ⟨[0, 10, 11, 12], [1000], [], []⟩) (by kernel_rfl)) ?_
    rintro recl2 ⟨l2_1, l2_2⟩
    show SimE (g_auditor_examined_add_l2 a0e recl2 l2_1 l2_2) _ _ _ _ _ _
    unfold g_auditor_examined_add_l2
    refine sim_run Try.fm ⟨[0, 10, 11, 12, 13], [1000], [], []⟩ ⟨[(0, .ptr 1000 0), (10, .p (.sl 2 (List.map GLine.cs a0e.bill.Lines))), (11, I (lenI (List.map GLine.cs a0e.bill.Lines))), (12, I l2_1), (13, B (ltI l2_1 (lenI (List.map GLine.cs a0e.bill.Lines))))], [(1000, .box 64 [S a0e.Claim.Tariff.Name, .p (.sl 7 (List.map GArticle.cs a0e.Claim.Tariff.Articles)), I a0e.Claim.Calendar.Offset, .p (.sl 2 (List.map GChange.cs a0e.Claim.Calendar.Changes)), .p (.sl 1 (List.map ci a0e.Claim.Calendar.Holidays)), .p (.sl 5 (List.map GReading.cs a0e.Claim.Readings)), U a0e.Claim.Seed, I a0e.Claim.Session.From, I a0e.Claim.Session.To, I a0e.Claim.Session.End, .p (.sl 2 (List.map GSlice.cs a0e.Claim.Session.Slices)), .p (.sl 2 (List.map GLine.cs a0e.Claim.Bill.Lines)), I a0e.Claim.Bill.Net, I a0e.Claim.Bill.Tax, I a0e.Claim.Bill.Total, I a0e.follows.From, I a0e.follows.To, I a0e.follows.End, .p (.sl 2 (List.map GSlice.cs a0e.follows.Slices)), .p (.sl 2 (List.map GLine.cs a0e.bill.Lines)), I l2_2, I a0e.bill.Tax, I a0e.bill.Total, I a0e.rate])]⟩ (by kernel_rfl) ?_
    refine sim_seq ?_
    refine sim_cond (ltI l2_1 (lenI (List.map GLine.cs a0e.bill.Lines))) (by kernel_rfl) ?_ ?_
    · refine sim_skip ?_
      refine sq_nk ⟨[0, 10, 11, 12], [1000], [], []⟩ ⟨[(0, .ptr 1000 0), (10, .p (.sl 2 (List.map GLine.cs a0e.bill.Lines))), (11, I (lenI (List.map GLine.cs a0e.bill.Lines))), (12, I l2_1)], [(1000, .box 64 [S a0e.Claim.Tariff.Name, .p (.sl 7 (List.map GArticle.cs a0e.Claim.Tariff.Articles)), I a0e.Claim.Calendar.Offset, .p (.sl 2 (List.map GChange.cs a0e.Claim.Calendar.Changes)), .p (.sl 1 (List.map ci a0e.Claim.Calendar.Holidays)), .p (.sl 5 (List.map GReading.cs a0e.Claim.Readings)), U a0e.Claim.Seed, I a0e.Claim.Session.From, I a0e.Claim.Session.To, I a0e.Claim.Session.End, .p (.sl 2 (List.map GSlice.cs a0e.Claim.Session.Slices)), .p (.sl 2 (List.map GLine.cs a0e.Claim.Bill.Lines)), I a0e.Claim.Bill.Net, I a0e.Claim.Bill.Tax, I a0e.Claim.Bill.Total, I a0e.follows.From, I a0e.follows.To, I a0e.follows.End, .p (.sl 2 (List.map GSlice.cs a0e.follows.Slices)), .p (.sl 2 (List.map GLine.cs a0e.bill.Lines)), I l2_2, I a0e.bill.Tax, I a0e.bill.Total, I a0e.rate])]⟩ (by kernel_rfl) ?_
      refine sim_seq ?_
      refine sim_block ?_
      refine sim_seq ?_
      refine sim_reg ?_
      refine xs_get (by kernel_rfl) (by kernel_rfl) (aop_idx (e := 56) (S := 2) (enc := GLine.cs) (l := a0e.bill.Lines) (k := .i64) (n := l2_1) (sv := .p (.sl 2 (List.map GLine.cs a0e.bill.Lines))) rfl (by kernel_rfl) (by kernel_rfl) (by kernel_rfl) (by kernel_rfl) (by kernel_rfl)) (fun x3 => ?_)
      refine xs_run 3 (by kernel_rfl) ?_
      refine xs_end ?_
      refine sq_nk ⟨[0, 3, 10, 11, 12], [3, 1000], [], []⟩ ⟨[(0, .ptr 1000 0), (3, .ptr 3 0), (10, .p (.sl 2 (List.map GLine.cs a0e.bill.Lines))), (11, I (lenI (List.map GLine.cs a0e.bill.Lines))), (12, I l2_1)], [(3, .box 56 (bxc (GLine.cs x3))), (1000, .box 64 [S a0e.Claim.Tariff.Name, .p (.sl 7 (List.map GArticle.cs a0e.Claim.Tariff.Articles)), I a0e.Claim.Calendar.Offset, .p (.sl 2 (List.map GChange.cs a0e.Claim.Calendar.Changes)), .p (.sl 1 (List.map ci a0e.Claim.Calendar.Holidays)), .p (.sl 5 (List.map GReading.cs a0e.Claim.Readings)), U a0e.Claim.Seed, I a0e.Claim.Session.From, I a0e.Claim.Session.To, I a0e.Claim.Session.End, .p (.sl 2 (List.map GSlice.cs a0e.Claim.Session.Slices)), .p (.sl 2 (List.map GLine.cs a0e.Claim.Bill.Lines)), I a0e.Claim.Bill.Net, I a0e.Claim.Bill.Tax, I a0e.Claim.Bill.Total, I a0e.follows.From, I a0e.follows.To, I a0e.follows.End, .p (.sl 2 (List.map GSlice.cs a0e.follows.Slices)), .p (.sl 2 (List.map GLine.cs a0e.bill.Lines)), I l2_2, I a0e.bill.Tax, I a0e.bill.Total, I a0e.rate])]⟩ (by kernel_rfl) ?_
      refine sim_last Try.fm (by kernel_rfl) ?_
      refine bq_n ?_
      refine sq_nk ⟨[0, 10, 11, 12], [1000], [], []⟩ ⟨[(0, .ptr 1000 0), (10, .p (.sl 2 (List.map GLine.cs a0e.bill.Lines))), (11, I (lenI (List.map GLine.cs a0e.bill.Lines))), (12, I l2_1)], [(1000, .box 64 [S a0e.Claim.Tariff.Name, .p (.sl 7 (List.map GArticle.cs a0e.Claim.Tariff.Articles)), I a0e.Claim.Calendar.Offset, .p (.sl 2 (List.map GChange.cs a0e.Claim.Calendar.Changes)), .p (.sl 1 (List.map ci a0e.Claim.Calendar.Holidays)), .p (.sl 5 (List.map GReading.cs a0e.Claim.Readings)), U a0e.Claim.Seed, I a0e.Claim.Session.From, I a0e.Claim.Session.To, I a0e.Claim.Session.End, .p (.sl 2 (List.map GSlice.cs a0e.Claim.Session.Slices)), .p (.sl 2 (List.map GLine.cs a0e.Claim.Bill.Lines)), I a0e.Claim.Bill.Net, I a0e.Claim.Bill.Tax, I a0e.Claim.Bill.Total, I a0e.follows.From, I a0e.follows.To, I a0e.follows.End, .p (.sl 2 (List.map GSlice.cs a0e.follows.Slices)), .p (.sl 2 (List.map GLine.cs a0e.bill.Lines)), I (wi (l2_2 + x3.Amount)), I a0e.bill.Tax, I a0e.bill.Total, I a0e.rate])]⟩ (by kernel_rfl) ?_
      refine sim_last Try.fm (by kernel_rfl) ?_
      exact kq_n (wi (l2_1 + 1), wi (l2_2 + x3.Amount)) ⟨[0, 10, 11, 12], [1000], [], []⟩ (by kernel_rfl)
    · refine sim_exit ?_
      refine sq_x ?_
      refine kq_x ?_
      refine bq_hit ?_
      exact nq_n l2_2 ⟨[0], [1000], [], []⟩ (by kernel_rfl)
  · rintro j1
    refine sim_bind (fun j4 => ⟨[(0, .ptr 1000 0)], [(1000, .box 64 [S a0e.Claim.Tariff.Name, .p (.sl 7 (List.map GArticle.cs a0e.Claim.Tariff.Articles)), I a0e.Claim.Calendar.Offset, .p (.sl 2 (List.map GChange.cs a0e.Claim.Calendar.Changes)), .p (.sl 1 (List.map ci a0e.Claim.Calendar.Holidays)), .p (.sl 5 (List.map GReading.cs a0e.Claim.Readings)), U a0e.Claim.Seed, I a0e.Claim.Session.From, I a0e.Claim.Session.To, I a0e.Claim.Session.End, .p (.sl 2 (List.map GSlice.cs a0e.Claim.Session.Slices)), .p (.sl 2 (List.map GLine.cs a0e.Claim.Bill.Lines)), I a0e.Claim.Bill.Net, I a0e.Claim.Bill.Tax, I a0e.Claim.Bill.Total, I a0e.follows.From, I a0e.follows.To, I a0e.follows.End, .p (.sl 2 (List.map GSlice.cs a0e.follows.Slices)), .p (.sl 2 (List.map GLine.cs a0e.bill.Lines)), I j4, I a0e.bill.Tax, I a0e.bill.Total, I a0e.rate])]⟩ : Int → St) ?_ ?_
    · refine sim_run Try.fm ⟨[0, 33, 34, 35], [1000], [], []⟩ ⟨[(0, .ptr 1000 0), (33, .p (.sl 7 (List.map GArticle.cs a0e.Claim.Tariff.Articles))), (34, I (lenI (List.map GArticle.cs a0e.Claim.Tariff.Articles))), (35, I 0)], [(1000, .box 64 [S a0e.Claim.Tariff.Name, .p (.sl 7 (List.map GArticle.cs a0e.Claim.Tariff.Articles)), I a0e.Claim.Calendar.Offset, .p (.sl 2 (List.map GChange.cs a0e.Claim.Calendar.Changes)), .p (.sl 1 (List.map ci a0e.Claim.Calendar.Holidays)), .p (.sl 5 (List.map GReading.cs a0e.Claim.Readings)), U a0e.Claim.Seed, I a0e.Claim.Session.From, I a0e.Claim.Session.To, I a0e.Claim.Session.End, .p (.sl 2 (List.map GSlice.cs a0e.Claim.Session.Slices)), .p (.sl 2 (List.map GLine.cs a0e.Claim.Bill.Lines)), I a0e.Claim.Bill.Net, I a0e.Claim.Bill.Tax, I a0e.Claim.Bill.Total, I a0e.follows.From, I a0e.follows.To, I a0e.follows.End, .p (.sl 2 (List.map GSlice.cs a0e.follows.Slices)), .p (.sl 2 (List.map GLine.cs a0e.bill.Lines)), I j1, I a0e.bill.Tax, I a0e.bill.Total, I a0e.rate])]⟩ (by kernel_rfl) ?_
      refine sim_block ?_
      refine sim_loop (fun (l5_1, l5_2) => ⟨[(0, .ptr 1000 0), (33, .p (.sl 7 (List.map GArticle.cs a0e.Claim.Tariff.Articles))), (34, I (lenI (List.map GArticle.cs a0e.Claim.Tariff.Articles))), (35, I l5_1)], [(1000, .box 64 [S a0e.Claim.Tariff.Name, .p (.sl 7 (List.map GArticle.cs a0e.Claim.Tariff.Articles)), I a0e.Claim.Calendar.Offset, .p (.sl 2 (List.map GChange.cs a0e.Claim.Calendar.Changes)), .p (.sl 1 (List.map ci a0e.Claim.Calendar.Holidays)), .p (.sl 5 (List.map GReading.cs a0e.Claim.Readings)), U a0e.Claim.Seed, I a0e.Claim.Session.From, I a0e.Claim.Session.To, I a0e.Claim.Session.End, .p (.sl 2 (List.map GSlice.cs a0e.Claim.Session.Slices)), .p (.sl 2 (List.map GLine.cs a0e.Claim.Bill.Lines)), I a0e.Claim.Bill.Net, I a0e.Claim.Bill.Tax, I a0e.Claim.Bill.Total, I a0e.follows.From, I a0e.follows.To, I a0e.follows.End, .p (.sl 2 (List.map GSlice.cs a0e.follows.Slices)), .p (.sl 2 (List.map GLine.cs a0e.bill.Lines)), I l5_2, I a0e.bill.Tax, I a0e.bill.Total, I a0e.rate])]⟩ : (Int × Int) → St) (weak_shr (K := ⟨[0, 33, 34, 35], [1000], [], []⟩) (by kernel_rfl)) ?_
      rintro recl5 ⟨l5_1, l5_2⟩
      show SimE (g_auditor_examined_add_l5 a0e recl5 l5_1 l5_2) _ _ _ _ _ _
      unfold g_auditor_examined_add_l5
      refine sim_run Try.fm ⟨[0, 33, 34, 35, 36], [1000], [], []⟩ ⟨[(0, .ptr 1000 0), (33, .p (.sl 7 (List.map GArticle.cs a0e.Claim.Tariff.Articles))), (34, I (lenI (List.map GArticle.cs a0e.Claim.Tariff.Articles))), (35, I l5_1), (36, B (ltI l5_1 (lenI (List.map GArticle.cs a0e.Claim.Tariff.Articles))))], [(1000, .box 64 [S a0e.Claim.Tariff.Name, .p (.sl 7 (List.map GArticle.cs a0e.Claim.Tariff.Articles)), I a0e.Claim.Calendar.Offset, .p (.sl 2 (List.map GChange.cs a0e.Claim.Calendar.Changes)), .p (.sl 1 (List.map ci a0e.Claim.Calendar.Holidays)), .p (.sl 5 (List.map GReading.cs a0e.Claim.Readings)), U a0e.Claim.Seed, I a0e.Claim.Session.From, I a0e.Claim.Session.To, I a0e.Claim.Session.End, .p (.sl 2 (List.map GSlice.cs a0e.Claim.Session.Slices)), .p (.sl 2 (List.map GLine.cs a0e.Claim.Bill.Lines)), I a0e.Claim.Bill.Net, I a0e.Claim.Bill.Tax, I a0e.Claim.Bill.Total, I a0e.follows.From, I a0e.follows.To, I a0e.follows.End, .p (.sl 2 (List.map GSlice.cs a0e.follows.Slices)), .p (.sl 2 (List.map GLine.cs a0e.bill.Lines)), I l5_2, I a0e.bill.Tax, I a0e.bill.Total, I a0e.rate])]⟩ (by kernel_rfl) ?_
      refine sim_seq ?_
      refine sim_cond (ltI l5_1 (lenI (List.map GArticle.cs a0e.Claim.Tariff.Articles))) (by kernel_rfl) ?_ ?_
      · refine sim_skip ?_
        refine sq_nk ⟨[0, 33, 34, 35], [1000], [], []⟩ ⟨[(0, .ptr 1000 0), (33, .p (.sl 7 (List.map GArticle.cs a0e.Claim.Tariff.Articles))), (34, I (lenI (List.map GArticle.cs a0e.Claim.Tariff.Articles))), (35, I l5_1)], [(1000, .box 64 [S a0e.Claim.Tariff.Name, .p (.sl 7 (List.map GArticle.cs a0e.Claim.Tariff.Articles)), I a0e.Claim.Calendar.Offset, .p (.sl 2 (List.map GChange.cs a0e.Claim.Calendar.Changes)), .p (.sl 1 (List.map ci a0e.Claim.Calendar.Holidays)), .p (.sl 5 (List.map GReading.cs a0e.Claim.Readings)), U a0e.Claim.Seed, I a0e.Claim.Session.From, I a0e.Claim.Session.To, I a0e.Claim.Session.End, .p (.sl 2 (List.map GSlice.cs a0e.Claim.Session.Slices)), .p (.sl 2 (List.map GLine.cs a0e.Claim.Bill.Lines)), I a0e.Claim.Bill.Net, I a0e.Claim.Bill.Tax, I a0e.Claim.Bill.Total, I a0e.follows.From, I a0e.follows.To, I a0e.follows.End, .p (.sl 2 (List.map GSlice.cs a0e.follows.Slices)), .p (.sl 2 (List.map GLine.cs a0e.bill.Lines)), I l5_2, I a0e.bill.Tax, I a0e.bill.Total, I a0e.rate])]⟩ (by kernel_rfl) ?_
        refine sim_seq ?_
        refine sim_block ?_
        refine sim_seq ?_
        refine sim_reg ?_
        refine xs_get (by kernel_rfl) (by kernel_rfl) (aop_idx (e := 75) (S := 7) (enc := GArticle.cs) (l := a0e.Claim.Tariff.Articles) (k := .i64) (n := l5_1) (sv := .p (.sl 7 (List.map GArticle.cs a0e.Claim.Tariff.Articles))) rfl (by kernel_rfl) (by kernel_rfl) (by kernel_rfl) (by kernel_rfl) (by kernel_rfl)) (fun x6 => ?_)
        refine xs_run 3 (by kernel_rfl) ?_
        refine xs_end ?_
        refine sq_nk ⟨[0, 5, 33, 34, 35], [5, 1000], [], []⟩ ⟨[(0, .ptr 1000 0), (5, .ptr 5 0), (33, .p (.sl 7 (List.map GArticle.cs a0e.Claim.Tariff.Articles))), (34, I (lenI (List.map GArticle.cs a0e.Claim.Tariff.Articles))), (35, I l5_1)], [(5, .box 75 (bxc (GArticle.cs x6))), (1000, .box 64 [S a0e.Claim.Tariff.Name, .p (.sl 7 (List.map GArticle.cs a0e.Claim.Tariff.Articles)), I a0e.Claim.Calendar.Offset, .p (.sl 2 (List.map GChange.cs a0e.Claim.Calendar.Changes)), .p (.sl 1 (List.map ci a0e.Claim.Calendar.Holidays)), .p (.sl 5 (List.map GReading.cs a0e.Claim.Readings)), U a0e.Claim.Seed, I a0e.Claim.Session.From, I a0e.Claim.Session.To, I a0e.Claim.Session.End, .p (.sl 2 (List.map GSlice.cs a0e.Claim.Session.Slices)), .p (.sl 2 (List.map GLine.cs a0e.Claim.Bill.Lines)), I a0e.Claim.Bill.Net, I a0e.Claim.Bill.Tax, I a0e.Claim.Bill.Total, I a0e.follows.From, I a0e.follows.To, I a0e.follows.End, .p (.sl 2 (List.map GSlice.cs a0e.follows.Slices)), .p (.sl 2 (List.map GLine.cs a0e.bill.Lines)), I l5_2, I a0e.bill.Tax, I a0e.bill.Total, I a0e.rate])]⟩ (by kernel_rfl) ?_
        refine sim_run Try.fm ⟨[0, 5, 33, 34, 35, 41], [5, 1000], [], []⟩ ⟨[(0, .ptr 1000 0), (5, .ptr 5 0), (33, .p (.sl 7 (List.map GArticle.cs a0e.Claim.Tariff.Articles))), (34, I (lenI (List.map GArticle.cs a0e.Claim.Tariff.Articles))), (35, I l5_1), (41, B (eqI x6.Kind 5))], [(5, .box 75 (bxc (GArticle.cs x6))), (1000, .box 64 [S a0e.Claim.Tariff.Name, .p (.sl 7 (List.map GArticle.cs a0e.Claim.Tariff.Articles)), I a0e.Claim.Calendar.Offset, .p (.sl 2 (List.map GChange.cs a0e.Claim.Calendar.Changes)), .p (.sl 1 (List.map ci a0e.Claim.Calendar.Holidays)), .p (.sl 5 (List.map GReading.cs a0e.Claim.Readings)), U a0e.Claim.Seed, I a0e.Claim.Session.From, I a0e.Claim.Session.To, I a0e.Claim.Session.End, .p (.sl 2 (List.map GSlice.cs a0e.Claim.Session.Slices)), .p (.sl 2 (List.map GLine.cs a0e.Claim.Bill.Lines)), I a0e.Claim.Bill.Net, I a0e.Claim.Bill.Tax, I a0e.Claim.Bill.Total, I a0e.follows.From, I a0e.follows.To, I a0e.follows.End, .p (.sl 2 (List.map GSlice.cs a0e.follows.Slices)), .p (.sl 2 (List.map GLine.cs a0e.bill.Lines)), I l5_2, I a0e.bill.Tax, I a0e.bill.Total, I a0e.rate])]⟩ (by kernel_rfl) ?_
        refine sim_cond (eqI x6.Kind 5) (by kernel_rfl) ?_ ?_
        · refine sim_last Try.fm (by kernel_rfl) ?_
          refine bq_n ?_
          refine sq_nk ⟨[0, 5, 33, 34, 35], [5, 1000], [], []⟩ ⟨[(0, .ptr 1000 0), (5, .ptr 5 0), (33, .p (.sl 7 (List.map GArticle.cs a0e.Claim.Tariff.Articles))), (34, I (lenI (List.map GArticle.cs a0e.Claim.Tariff.Articles))), (35, I l5_1)], [(5, .box 75 (bxc (GArticle.cs x6))), (1000, .box 64 [S a0e.Claim.Tariff.Name, .p (.sl 7 (List.map GArticle.cs a0e.Claim.Tariff.Articles)), I a0e.Claim.Calendar.Offset, .p (.sl 2 (List.map GChange.cs a0e.Claim.Calendar.Changes)), .p (.sl 1 (List.map ci a0e.Claim.Calendar.Holidays)), .p (.sl 5 (List.map GReading.cs a0e.Claim.Readings)), U a0e.Claim.Seed, I a0e.Claim.Session.From, I a0e.Claim.Session.To, I a0e.Claim.Session.End, .p (.sl 2 (List.map GSlice.cs a0e.Claim.Session.Slices)), .p (.sl 2 (List.map GLine.cs a0e.Claim.Bill.Lines)), I a0e.Claim.Bill.Net, I a0e.Claim.Bill.Tax, I a0e.Claim.Bill.Total, I a0e.follows.From, I a0e.follows.To, I a0e.follows.End, .p (.sl 2 (List.map GSlice.cs a0e.follows.Slices)), .p (.sl 2 (List.map GLine.cs a0e.bill.Lines)), I (minI l5_2 x6.Price), I a0e.bill.Tax, I a0e.bill.Total, I a0e.rate])]⟩ (by kernel_rfl) ?_
          refine sim_last Try.fm (by kernel_rfl) ?_
          exact kq_n (wi (l5_1 + 1), minI l5_2 x6.Price) ⟨[0, 33, 34, 35], [1000], [], []⟩ (by kernel_rfl)
        · refine sim_skip ?_
          refine bq_n ?_
          refine sq_nk ⟨[0, 5, 33, 34, 35], [5, 1000], [], []⟩ ⟨[(0, .ptr 1000 0), (5, .ptr 5 0), (33, .p (.sl 7 (List.map GArticle.cs a0e.Claim.Tariff.Articles))), (34, I (lenI (List.map GArticle.cs a0e.Claim.Tariff.Articles))), (35, I l5_1)], [(5, .box 75 (bxc (GArticle.cs x6))), (1000, .box 64 [S a0e.Claim.Tariff.Name, .p (.sl 7 (List.map GArticle.cs a0e.Claim.Tariff.Articles)), I a0e.Claim.Calendar.Offset, .p (.sl 2 (List.map GChange.cs a0e.Claim.Calendar.Changes)), .p (.sl 1 (List.map ci a0e.Claim.Calendar.Holidays)), .p (.sl 5 (List.map GReading.cs a0e.Claim.Readings)), U a0e.Claim.Seed, I a0e.Claim.Session.From, I a0e.Claim.Session.To, I a0e.Claim.Session.End, .p (.sl 2 (List.map GSlice.cs a0e.Claim.Session.Slices)), .p (.sl 2 (List.map GLine.cs a0e.Claim.Bill.Lines)), I a0e.Claim.Bill.Net, I a0e.Claim.Bill.Tax, I a0e.Claim.Bill.Total, I a0e.follows.From, I a0e.follows.To, I a0e.follows.End, .p (.sl 2 (List.map GSlice.cs a0e.follows.Slices)), .p (.sl 2 (List.map GLine.cs a0e.bill.Lines)), I l5_2, I a0e.bill.Tax, I a0e.bill.Total, I a0e.rate])]⟩ (by kernel_rfl) ?_
          refine sim_last Try.fm (by kernel_rfl) ?_
          exact kq_n (wi (l5_1 + 1), l5_2) ⟨[0, 33, 34, 35], [1000], [], []⟩ (by kernel_rfl)
      · refine sim_exit ?_
        refine sq_x ?_
        refine kq_x ?_
        refine bq_hit ?_
        exact nq_n l5_2 ⟨[0], [1000], [], []⟩ (by kernel_rfl)
    · rintro j4
      refine sim_seq ?_
      refine sim_reg ?_
      refine xs_run 6 (by kernel_rfl) ?_
      refine xs_exc [] (by kernel_rfl) (g_auditor_need_ok n (leI j4 1000000000) 5) (by kernel_rfl) (by kernel_rfl) (fun _ => by kernel_rfl) (fun _ => by kernel_rfl) (fun r7 => ?_) (fun e8 => ?_)
      · refine xs_end ?_
        refine sq_nk ⟨[0], [1000], [], []⟩ ⟨[(0, .ptr 1000 0)], [(1000, .box 64 [S a0e.Claim.Tariff.Name, .p (.sl 7 (List.map GArticle.cs a0e.Claim.Tariff.Articles)), I a0e.Claim.Calendar.Offset, .p (.sl 2 (List.map GChange.cs a0e.Claim.Calendar.Changes)), .p (.sl 1 (List.map ci a0e.Claim.Calendar.Holidays)), .p (.sl 5 (List.map GReading.cs a0e.Claim.Readings)), U a0e.Claim.Seed, I a0e.Claim.Session.From, I a0e.Claim.Session.To, I a0e.Claim.Session.End, .p (.sl 2 (List.map GSlice.cs a0e.Claim.Session.Slices)), .p (.sl 2 (List.map GLine.cs a0e.Claim.Bill.Lines)), I a0e.Claim.Bill.Net, I a0e.Claim.Bill.Tax, I a0e.Claim.Bill.Total, I a0e.follows.From, I a0e.follows.To, I a0e.follows.End, .p (.sl 2 (List.map GSlice.cs a0e.follows.Slices)), .p (.sl 2 (List.map GLine.cs a0e.bill.Lines)), I j4, I a0e.bill.Tax, I a0e.bill.Total, I a0e.rate])]⟩ (by kernel_rfl) ?_
        refine sim_run Try.fm ⟨[0], [1000], [], []⟩ ⟨[(0, .ptr 1000 0)], [(1000, .box 64 [S a0e.Claim.Tariff.Name, .p (.sl 7 (List.map GArticle.cs a0e.Claim.Tariff.Articles)), I a0e.Claim.Calendar.Offset, .p (.sl 2 (List.map GChange.cs a0e.Claim.Calendar.Changes)), .p (.sl 1 (List.map ci a0e.Claim.Calendar.Holidays)), .p (.sl 5 (List.map GReading.cs a0e.Claim.Readings)), U a0e.Claim.Seed, I a0e.Claim.Session.From, I a0e.Claim.Session.To, I a0e.Claim.Session.End, .p (.sl 2 (List.map GSlice.cs a0e.Claim.Session.Slices)), .p (.sl 2 (List.map GLine.cs a0e.Claim.Bill.Lines)), I a0e.Claim.Bill.Net, I a0e.Claim.Bill.Tax, I a0e.Claim.Bill.Total, I a0e.follows.From, I a0e.follows.To, I a0e.follows.End, .p (.sl 2 (List.map GSlice.cs a0e.follows.Slices)), .p (.sl 2 (List.map GLine.cs a0e.bill.Lines)), I j4, I (wi (Int.tdiv (wi ((wi ((wi (2 * j4)) * a0e.rate)) + 10000)) 20000)), I a0e.bill.Total, I a0e.rate])]⟩ (by kernel_rfl) ?_
        refine sim_run Try.fm ⟨[0], [1000], [], []⟩ ⟨[(0, .ptr 1000 0)], [(1000, .box 64 [S a0e.Claim.Tariff.Name, .p (.sl 7 (List.map GArticle.cs a0e.Claim.Tariff.Articles)), I a0e.Claim.Calendar.Offset, .p (.sl 2 (List.map GChange.cs a0e.Claim.Calendar.Changes)), .p (.sl 1 (List.map ci a0e.Claim.Calendar.Holidays)), .p (.sl 5 (List.map GReading.cs a0e.Claim.Readings)), U a0e.Claim.Seed, I a0e.Claim.Session.From, I a0e.Claim.Session.To, I a0e.Claim.Session.End, .p (.sl 2 (List.map GSlice.cs a0e.Claim.Session.Slices)), .p (.sl 2 (List.map GLine.cs a0e.Claim.Bill.Lines)), I a0e.Claim.Bill.Net, I a0e.Claim.Bill.Tax, I a0e.Claim.Bill.Total, I a0e.follows.From, I a0e.follows.To, I a0e.follows.End, .p (.sl 2 (List.map GSlice.cs a0e.follows.Slices)), .p (.sl 2 (List.map GLine.cs a0e.bill.Lines)), I j4, I (wi (Int.tdiv (wi ((wi ((wi (2 * j4)) * a0e.rate)) + 10000)) 20000)), I (wi (j4 + (wi (Int.tdiv (wi ((wi ((wi (2 * j4)) * a0e.rate)) + 10000)) 20000)))), I a0e.rate])]⟩ (by kernel_rfl) ?_
        refine sim_reg ?_
        refine xs_run 6 (by kernel_rfl) ?_
        refine xs_exc [] (by kernel_rfl) (g_auditor_need_ok n (leI (wi (j4 + (wi (Int.tdiv (wi ((wi ((wi (2 * j4)) * a0e.rate)) + 10000)) 20000)))) 1000000000) 5) (by kernel_rfl) (by kernel_rfl) (fun _ => by kernel_rfl) (fun _ => by kernel_rfl) (fun r9 => ?_) (fun e10 => ?_)
        · refine xs_end ?_
          exact hq_n (.id) [1000] [] (by kernel_rfl) (by kernel_rfl) (by kernel_rfl) (by kernel_rfl)
        · exact hq_p [1000] [] (by kernel_rfl) (by kernel_rfl) (by kernel_rfl)
      · refine sq_p ?_
        exact hq_p [1000] [] (by kernel_rfl) (by kernel_rfl) (by kernel_rfl)
def g_auditor_caught (n : Nat) (a1part : Int) : Option Int :=
  some a1part
theorem g_auditor_caught_ok (n : Nat) (a1part : Int) : ∀ r, g_auditor_caught n a1part = some r → ACall Try.prog 31 [.p (.val (.nilIface)), .ptr 1001 0] (Go.Abs.look [(1001, .box 3 [I a1part])]) (heapR (fun r : Int => ((.ret (.tup []), [(1001, .box 3 [I r])]) : AEnd × List (Nat × Blk))) r) := by
  refine acall_sim (X := fun r : Int => ((.ret (.tup []), [(1001, .box 3 [I r])]) : AEnd × List (Nat × Blk))) [(1001, .box 3 [I a1part])] Try.func31 rfl Try.ntmps31 rfl ?_
  unfold g_auditor_caught
  refine sim_seq ?_
  refine sim_run Try.fm ⟨[0, 1, 7], [1001], [], []⟩ ⟨[(0, .p (.val (.nilIface))), (1, .ptr 1001 0), (7, B true)], [(1001, .box 3 [I a1part])]⟩ (by kernel_rfl) ?_
  refine sim_condT (by kernel_rfl) ?_
  refine sim_ret ?_
  refine sq_r ?_
  exact hq_ret (.id) [1001] [] (by kernel_rfl) (by kernel_rfl) (by kernel_rfl) (by kernel_rfl)
def g_auditor_caught_2 (n : Nat) (a0x_0 : Int) (a1part : Int) : Option Int :=
  some a0x_0
theorem g_auditor_caught_2_ok (n : Nat) (a0x_0 : Int) (a1part : Int) : ∀ r, g_auditor_caught_2 n a0x_0 a1part = some r → ACall Try.prog 31 [.ifc 99 (.agg [I a0x_0]), .ptr 1001 0] (Go.Abs.look [(1001, .box 3 [I a1part])]) (heapR (fun r : Int => ((.ret (.tup []), [(1001, .box 3 [I r])]) : AEnd × List (Nat × Blk))) r) := by
  refine acall_sim (X := fun r : Int => ((.ret (.tup []), [(1001, .box 3 [I r])]) : AEnd × List (Nat × Blk))) [(1001, .box 3 [I a1part])] Try.func31 rfl Try.ntmps31 rfl ?_
  unfold g_auditor_caught_2
  refine sim_seq ?_
  refine sim_run Try.fm ⟨[0, 1, 7], [1001], [], []⟩ ⟨[(0, .ifc 99 (.agg [I a0x_0])), (1, .ptr 1001 0), (7, B false)], [(1001, .box 3 [I a1part])]⟩ (by kernel_rfl) ?_
  refine sim_condF (by kernel_rfl) ?_
  refine sim_skip ?_
  refine sq_nk ⟨[0, 1], [1001], [], []⟩ ⟨[(0, .ifc 99 (.agg [I a0x_0])), (1, .ptr 1001 0)], [(1001, .box 3 [I a1part])]⟩ (by kernel_rfl) ?_
  refine sim_run Try.fm ⟨[0, 1, 4, 5], [4, 1001], [], []⟩ ⟨[(0, .ifc 99 (.agg [I a0x_0])), (1, .ptr 1001 0), (4, .ptr 4 0), (5, B true)], [(4, .box 99 [I a0x_0]), (1001, .box 3 [I a1part])]⟩ (by kernel_rfl) ?_
  refine sim_seq ?_
  refine sim_run Try.fm ⟨[0, 1, 4, 5, 14], [4, 1001], [], []⟩ ⟨[(0, .ifc 99 (.agg [I a0x_0])), (1, .ptr 1001 0), (4, .ptr 4 0), (5, B true), (14, B false)], [(4, .box 99 [I a0x_0]), (1001, .box 3 [I a1part])]⟩ (by kernel_rfl) ?_
  refine sim_condF (by kernel_rfl) ?_
  refine sim_skip ?_
  refine sq_nk ⟨[1, 4, 5], [4, 1001], [], []⟩ ⟨[(1, .ptr 1001 0), (4, .ptr 4 0), (5, B true)], [(4, .box 99 [I a0x_0]), (1001, .box 3 [I a1part])]⟩ (by kernel_rfl) ?_
  refine sim_last Try.fm (by kernel_rfl) ?_
  exact hq_n (.id) [1001] [] (by kernel_rfl) (by kernel_rfl) (by kernel_rfl) (by kernel_rfl)
def g_auditor_examine_j12 (n : Nat) (a0c : GClaim) (a1own : Bool) (r10 : GAuditorExamined) : Option (GAuditorExamined × Int) :=
  (g_auditor_examined_add n r10).bind (exc (fun r13 =>
    cond (!a1own)
      ((g_auditor_need n true 5).bind (exc (fun r16 =>
        (g_auditor_caught n 0).bind fun r18 =>
        some (r13, r18)) fun e17 => (g_auditor_caught_2 n e17 0).bind fun r19 =>
      some (r13, r19)))
      (cond (eqI a0c.Bill.Net r13.bill.Net)
        (cond (eqI a0c.Bill.Tax r13.bill.Tax)
          ((g_auditor_need n (eqI a0c.Bill.Total r13.bill.Total) 5).bind (exc (fun r22 =>
            (g_auditor_caught n 0).bind fun r24 =>
            some (r13, r24)) fun e23 => (g_auditor_caught_2 n e23 0).bind fun r25 =>
          some (r13, r25)))
          ((g_auditor_need n false 5).bind (exc (fun r26 =>
            (g_auditor_caught n 0).bind fun r28 =>
            some (r13, r28)) fun e27 => (g_auditor_caught_2 n e27 0).bind fun r29 =>
          some (r13, r29))))
        ((g_auditor_need n false 5).bind (exc (fun r30 =>
          (g_auditor_caught n 0).bind fun r32 =>
          some (r13, r32)) fun e31 => (g_auditor_caught_2 n e31 0).bind fun r33 =>
        some (r13, r33))))) fun e14 => (g_auditor_caught_2 n e14.1 0).bind fun r34 =>
  some (e14.2, r34))
def g_auditor_examine_j9 (n : Nat) (a0c : GClaim) (a1own : Bool) (r7 : GAuditorExamined) : Option (GAuditorExamined × Int) :=
  (g_auditor_examined_price n (⟨r7.Claim, r7.follows, (⟨[], r7.bill.Net, r7.bill.Tax, r7.bill.Total⟩ : GBill), r7.rate⟩ : GAuditorExamined)).bind (exc (fun r10 =>
    cond (!a1own)
      ((g_auditor_need n true 4).bind (exc (fun r36 =>
        g_auditor_examine_j12 n a0c a1own r10) fun e37 => (g_auditor_caught_2 n e37 0).bind fun r38 =>
      some (r10, r38)))
      ((g_auditor_same_api_Line n a0c.Bill.Lines r10.bill.Lines).bind fun r39 =>
      (g_auditor_need n r39 4).bind (exc (fun r40 =>
        g_auditor_examine_j12 n a0c a1own r10) fun e41 => (g_auditor_caught_2 n e41 0).bind fun r42 =>
      some (r10, r42)))) fun e11 => (g_auditor_caught_2 n e11.1 0).bind fun r43 =>
  some (e11.2, r43))
def g_auditor_examine (n : Nat) (a0c : GClaim) (a1own : Bool) : Option (GAuditorExamined × Int) :=
  (g_auditor_examined_chained n (⟨a0c, (⟨0, 0, 0, []⟩ : GSession), (⟨[], 0, 0, 0⟩ : GBill), 0⟩ : GAuditorExamined)).bind (exc (fun r1 =>
    (g_auditor_examined_tariffed n (⟨a0c, (⟨0, 0, 0, []⟩ : GSession), (⟨[], 0, 0, 0⟩ : GBill), 0⟩ : GAuditorExamined)).bind (exc (fun r3 =>
      (g_auditor_examined_dated n (⟨r3.Claim, (⟨r3.follows.From, r3.follows.To, r3.follows.End, []⟩ : GSession), (⟨[], r3.bill.Net, r3.bill.Tax, r3.bill.Total⟩ : GBill), r3.rate⟩ : GAuditorExamined)).bind (exc (fun r5 =>
        (g_auditor_examined_derive n (⟨r3.Claim, (⟨r3.follows.From, r3.follows.To, r3.follows.End, []⟩ : GSession), (⟨[], r3.bill.Net, r3.bill.Tax, r3.bill.Total⟩ : GBill), r3.rate⟩ : GAuditorExamined)).bind (exc (fun r7 =>
          cond a1own
            ((g_auditor_examined_compared n (⟨r7.Claim, r7.follows, (⟨[], r7.bill.Net, r7.bill.Tax, r7.bill.Total⟩ : GBill), r7.rate⟩ : GAuditorExamined)).bind (exc (fun r44 =>
              g_auditor_examine_j9 n a0c a1own r7) fun e45 => (g_auditor_caught_2 n e45 0).bind fun r46 =>
            some ((⟨r7.Claim, r7.follows, (⟨[], r7.bill.Net, r7.bill.Tax, r7.bill.Total⟩ : GBill), r7.rate⟩ : GAuditorExamined), r46)))
            (g_auditor_examine_j9 n a0c a1own r7)) fun e8 => (g_auditor_caught_2 n e8.1 0).bind fun r47 =>
        some ((⟨e8.2.Claim, e8.2.follows, (⟨[], e8.2.bill.Net, e8.2.bill.Tax, e8.2.bill.Total⟩ : GBill), e8.2.rate⟩ : GAuditorExamined), r47))) fun e6 => (g_auditor_caught_2 n e6 0).bind fun r48 =>
      some ((⟨r3.Claim, (⟨r3.follows.From, r3.follows.To, r3.follows.End, []⟩ : GSession), (⟨[], r3.bill.Net, r3.bill.Tax, r3.bill.Total⟩ : GBill), r3.rate⟩ : GAuditorExamined), r48))) fun e4 => (g_auditor_caught_2 n e4.1 0).bind fun r49 =>
    some ((⟨e4.2.Claim, (⟨e4.2.follows.From, e4.2.follows.To, e4.2.follows.End, []⟩ : GSession), (⟨[], e4.2.bill.Net, e4.2.bill.Tax, e4.2.bill.Total⟩ : GBill), e4.2.rate⟩ : GAuditorExamined), r49))) fun e2 => (g_auditor_caught_2 n e2 0).bind fun r50 =>
  some ((⟨a0c, (⟨0, 0, 0, []⟩ : GSession), (⟨[], 0, 0, 0⟩ : GBill), 0⟩ : GAuditorExamined), r50))
theorem g_auditor_examine_ok (n : Nat) (a0c : GClaim) (a1own : Bool) : ∀ r, g_auditor_examine n a0c a1own = some r → ACall Try.prog 17 [ag (GClaim.cs a0c), B a1own] (Go.Abs.look []) (heapR (fun r : GAuditorExamined × Int => ((.ret (.tup [.ptr 9 0, I r.2]), [(9, .box 64 (bxc (GAuditorExamined.cs r.1)))]) : AEnd × List (Nat × Blk))) r) := by
  refine defer_sim (X := fun r : GAuditorExamined × Int => ((.ret (.tup [.ptr 9 0, I r.2]), [(9, .box 64 (bxc (GAuditorExamined.cs r.1)))]) : AEnd × List (Nat × Blk))) [] (⟨Try.f30, _, _, _, 1, _, _, Try.func30, rfl, rfl, rfl, rfl, rfl, rfl, by decide, by decide, rfl, by kernel_rfl⟩ : Catcher Try.prog 30 31) (⟨_, _, _, _, _, 5, 6, _, rfl, rfl, rfl, rfl, rfl, rfl, rfl, by decide⟩ : Deferrer Try.f17 30) 5 Try.func17 Try.ntmps17 rfl (by kernel_rfl) rfl Try.fm rfl (by kernel_rfl) (by kernel_rfl) (by kernel_rfl) ?_
  unfold g_auditor_examine
  refine sim_keep ⟨[1, 2, 4, 5], [2, 2000], [], []⟩ ⟨[(1, B a1own), (2, .ptr 2 0), (4, .p (.val (.pointer none))), (5, .ptr 2000 0)], [(2, .box 38 (bxc (GClaim.cs a0c))), (2000, .box 3 [I 0])]⟩ (by kernel_rfl) ?_
  refine sim_run Try.fm ⟨[1, 2, 4, 5], [2, 9, 2000], [], []⟩ ⟨[(1, B a1own), (2, .ptr 2 0), (4, .ptr 9 0), (5, .ptr 2000 0)], [(2, .box 38 (bxc (GClaim.cs a0c))), (9, .box 64 [S a0c.Tariff.Name, .p (.sl 7 (List.map GArticle.cs a0c.Tariff.Articles)), I a0c.Calendar.Offset, .p (.sl 2 (List.map GChange.cs a0c.Calendar.Changes)), .p (.sl 1 (List.map ci a0c.Calendar.Holidays)), .p (.sl 5 (List.map GReading.cs a0c.Readings)), U a0c.Seed, I a0c.Session.From, I a0c.Session.To, I a0c.Session.End, .p (.sl 2 (List.map GSlice.cs a0c.Session.Slices)), .p (.sl 2 (List.map GLine.cs a0c.Bill.Lines)), I a0c.Bill.Net, I a0c.Bill.Tax, I a0c.Bill.Total, I 0, I 0, I 0, .p (.val (.slice none 0 0)), .p (.val (.slice none 0 0)), I 0, I 0, I 0, I 0]), (2000, .box 3 [I 0])]⟩ (by kernel_rfl) ?_
  refine sim_seq ?_
  refine sim_reg ?_
  refine xs_run 1 (by kernel_rfl) ?_
  refine xs_roE [.ro [.id, .id, .id, .id, .id, .id, .id, .id, .id, .id, .id, .id, .id, .id, .id, .id, .id, .id, .sl 2, .sl 2, .id, .id, .id, .id]] (by kernel_rfl) (g_auditor_examined_chained_ok n (⟨a0c, (⟨0, 0, 0, []⟩ : GSession), (⟨[], 0, 0, 0⟩ : GBill), 0⟩ : GAuditorExamined)) (by kernel_rfl) (by kernel_rfl) (fun _ => by kernel_rfl) (fun _ => by kernel_rfl) (fun r1 => ?_) (fun e2 => ?_)
  · refine xs_end ?_
    refine sq_nk ⟨[1, 2, 4, 5], [2, 9, 2000], [], []⟩ ⟨[(1, B a1own), (2, .ptr 2 0), (4, .ptr 9 0), (5, .ptr 2000 0)], [(2, .box 38 (bxc (GClaim.cs a0c))), (9, .box 64 [S a0c.Tariff.Name, .p (.sl 7 (List.map GArticle.cs a0c.Tariff.Articles)), I a0c.Calendar.Offset, .p (.sl 2 (List.map GChange.cs a0c.Calendar.Changes)), .p (.sl 1 (List.map ci a0c.Calendar.Holidays)), .p (.sl 5 (List.map GReading.cs a0c.Readings)), U a0c.Seed, I a0c.Session.From, I a0c.Session.To, I a0c.Session.End, .p (.sl 2 (List.map GSlice.cs a0c.Session.Slices)), .p (.sl 2 (List.map GLine.cs a0c.Bill.Lines)), I a0c.Bill.Net, I a0c.Bill.Tax, I a0c.Bill.Total, I 0, I 0, I 0, .p (.val (.slice none 0 0)), .p (.val (.slice none 0 0)), I 0, I 0, I 0, I 0]), (2000, .box 3 [I 0])]⟩ (by kernel_rfl) ?_
    refine sim_seq ?_
    refine sim_reg ?_
    refine xs_run 1 (by kernel_rfl) ?_
    refine xs_heapE [(1000, 9)] [] [] (by kernel_rfl) (g_auditor_examined_tariffed_ok n (⟨a0c, (⟨0, 0, 0, []⟩ : GSession), (⟨[], 0, 0, 0⟩ : GBill), 0⟩ : GAuditorExamined)) (by kernel_rfl) (by kernel_rfl) (by kernel_rfl) (fun _ => by kernel_rfl) (fun _ => by kernel_rfl) (fun _ => by kernel_rfl) (fun _ => by kernel_rfl) (fun r3 => ?_) (fun e4 => ?_)
    · refine xs_end ?_
      refine sq_nk ⟨[1, 2, 4, 5], [2, 9, 2000], [], []⟩ ⟨[(1, B a1own), (2, .ptr 2 0), (4, .ptr 9 0), (5, .ptr 2000 0)], [(2, .box 38 (bxc (GClaim.cs a0c))), (9, .box 64 [S r3.Claim.Tariff.Name, .p (.sl 7 (List.map GArticle.cs r3.Claim.Tariff.Articles)), I r3.Claim.Calendar.Offset, .p (.sl 2 (List.map GChange.cs r3.Claim.Calendar.Changes)), .p (.sl 1 (List.map ci r3.Claim.Calendar.Holidays)), .p (.sl 5 (List.map GReading.cs r3.Claim.Readings)), U r3.Claim.Seed, I r3.Claim.Session.From, I r3.Claim.Session.To, I r3.Claim.Session.End, .p (.sl 2 (List.map GSlice.cs r3.Claim.Session.Slices)), .p (.sl 2 (List.map GLine.cs r3.Claim.Bill.Lines)), I r3.Claim.Bill.Net, I r3.Claim.Bill.Tax, I r3.Claim.Bill.Total, I r3.follows.From, I r3.follows.To, I r3.follows.End, .p (.val (.slice none 0 0)), .p (.val (.slice none 0 0)), I r3.bill.Net, I r3.bill.Tax, I r3.bill.Total, I r3.rate]), (2000, .box 3 [I 0])]⟩ (by kernel_rfl) ?_
      refine sim_seq ?_
      refine sim_reg ?_
      refine xs_run 1 (by kernel_rfl) ?_
      refine xs_roE [.ro [.id, .id, .id, .id, .id, .id, .id, .id, .id, .id, .id, .id, .id, .id, .id, .id, .id, .id, .sl 2, .sl 2, .id, .id, .id, .id]] (by kernel_rfl) (g_auditor_examined_dated_ok n (⟨r3.Claim, (⟨r3.follows.From, r3.follows.To, r3.follows.End, []⟩ : GSession), (⟨[], r3.bill.Net, r3.bill.Tax, r3.bill.Total⟩ : GBill), r3.rate⟩ : GAuditorExamined)) (by kernel_rfl) (by kernel_rfl) (fun _ => by kernel_rfl) (fun _ => by kernel_rfl) (fun r5 => ?_) (fun e6 => ?_)
      · refine xs_end ?_
        refine sq_nk ⟨[1, 2, 4, 5], [2, 9, 2000], [], []⟩ ⟨[(1, B a1own), (2, .ptr 2 0), (4, .ptr 9 0), (5, .ptr 2000 0)], [(2, .box 38 (bxc (GClaim.cs a0c))), (9, .box 64 [S r3.Claim.Tariff.Name, .p (.sl 7 (List.map GArticle.cs r3.Claim.Tariff.Articles)), I r3.Claim.Calendar.Offset, .p (.sl 2 (List.map GChange.cs r3.Claim.Calendar.Changes)), .p (.sl 1 (List.map ci r3.Claim.Calendar.Holidays)), .p (.sl 5 (List.map GReading.cs r3.Claim.Readings)), U r3.Claim.Seed, I r3.Claim.Session.From, I r3.Claim.Session.To, I r3.Claim.Session.End, .p (.sl 2 (List.map GSlice.cs r3.Claim.Session.Slices)), .p (.sl 2 (List.map GLine.cs r3.Claim.Bill.Lines)), I r3.Claim.Bill.Net, I r3.Claim.Bill.Tax, I r3.Claim.Bill.Total, I r3.follows.From, I r3.follows.To, I r3.follows.End, .p (.val (.slice none 0 0)), .p (.val (.slice none 0 0)), I r3.bill.Net, I r3.bill.Tax, I r3.bill.Total, I r3.rate]), (2000, .box 3 [I 0])]⟩ (by kernel_rfl) ?_
        refine sim_seq ?_
        refine sim_reg ?_
        refine xs_run 1 (by kernel_rfl) ?_
        refine xs_heapE [(1000, 9)] [] [] (by kernel_rfl) (g_auditor_examined_derive_ok n (⟨r3.Claim, (⟨r3.follows.From, r3.follows.To, r3.follows.End, []⟩ : GSession), (⟨[], r3.bill.Net, r3.bill.Tax, r3.bill.Total⟩ : GBill), r3.rate⟩ : GAuditorExamined)) (by kernel_rfl) (by kernel_rfl) (by kernel_rfl) (fun _ => by kernel_rfl) (fun _ => by kernel_rfl) (fun _ => by kernel_rfl) (fun _ => by kernel_rfl) (fun r7 => ?_) (fun e8 => ?_)
        · refine xs_end ?_
          refine sq_nk ⟨[1, 2, 4, 5], [2, 9, 2000], [], []⟩ ⟨[(1, B a1own), (2, .ptr 2 0), (4, .ptr 9 0), (5, .ptr 2000 0)], [(2, .box 38 (bxc (GClaim.cs a0c))), (9, .box 64 [S r7.Claim.Tariff.Name, .p (.sl 7 (List.map GArticle.cs r7.Claim.Tariff.Articles)), I r7.Claim.Calendar.Offset, .p (.sl 2 (List.map GChange.cs r7.Claim.Calendar.Changes)), .p (.sl 1 (List.map ci r7.Claim.Calendar.Holidays)), .p (.sl 5 (List.map GReading.cs r7.Claim.Readings)), U r7.Claim.Seed, I r7.Claim.Session.From, I r7.Claim.Session.To, I r7.Claim.Session.End, .p (.sl 2 (List.map GSlice.cs r7.Claim.Session.Slices)), .p (.sl 2 (List.map GLine.cs r7.Claim.Bill.Lines)), I r7.Claim.Bill.Net, I r7.Claim.Bill.Tax, I r7.Claim.Bill.Total, I r7.follows.From, I r7.follows.To, I r7.follows.End, .p (.sl 2 (List.map GSlice.cs r7.follows.Slices)), .p (.val (.slice none 0 0)), I r7.bill.Net, I r7.bill.Tax, I r7.bill.Total, I r7.rate]), (2000, .box 3 [I 0])]⟩ (by kernel_rfl) ?_
          refine sim_cps (fun _ => ⟨[(1, B a1own), (2, .ptr 2 0), (4, .ptr 9 0), (5, .ptr 2000 0)], [(2, .box 38 (bxc (GClaim.cs a0c))), (9, .box 64 [S r7.Claim.Tariff.Name, .p (.sl 7 (List.map GArticle.cs r7.Claim.Tariff.Articles)), I r7.Claim.Calendar.Offset, .p (.sl 2 (List.map GChange.cs r7.Claim.Calendar.Changes)), .p (.sl 1 (List.map ci r7.Claim.Calendar.Holidays)), .p (.sl 5 (List.map GReading.cs r7.Claim.Readings)), U r7.Claim.Seed, I r7.Claim.Session.From, I r7.Claim.Session.To, I r7.Claim.Session.End, .p (.sl 2 (List.map GSlice.cs r7.Claim.Session.Slices)), .p (.sl 2 (List.map GLine.cs r7.Claim.Bill.Lines)), I r7.Claim.Bill.Net, I r7.Claim.Bill.Tax, I r7.Claim.Bill.Total, I r7.follows.From, I r7.follows.To, I r7.follows.End, .p (.sl 2 (List.map GSlice.cs r7.follows.Slices)), .p (.val (.slice none 0 0)), I r7.bill.Net, I r7.bill.Tax, I r7.bill.Total, I r7.rate]), (2000, .box 3 [I 0])]⟩ : Unit → St) (fun _ => g_auditor_examine_j9 n a0c a1own r7) ?_ ?_
          · rintro _
            show SimE (g_auditor_examine_j9 n a0c a1own r7) _ _ _ _ _ _
            unfold g_auditor_examine_j9
            refine sim_seq ?_
            refine sim_reg ?_
            refine xs_run 1 (by kernel_rfl) ?_
            refine xs_heapE [(1000, 9)] [] [] (by kernel_rfl) (g_auditor_examined_price_ok n (⟨r7.Claim, r7.follows, (⟨[], r7.bill.Net, r7.bill.Tax, r7.bill.Total⟩ : GBill), r7.rate⟩ : GAuditorExamined)) (by kernel_rfl) (by kernel_rfl) (by kernel_rfl) (fun _ => by kernel_rfl) (fun _ => by kernel_rfl) (fun _ => by kernel_rfl) (fun _ => by kernel_rfl) (fun r10 => ?_) (fun e11 => ?_)
            · refine xs_end ?_
              refine sq_nk ⟨[1, 2, 4, 5], [2, 9, 2000], [], []⟩ ⟨[(1, B a1own), (2, .ptr 2 0), (4, .ptr 9 0), (5, .ptr 2000 0)], [(2, .box 38 (bxc (GClaim.cs a0c))), (9, .box 64 (bxc (GAuditorExamined.cs r10))), (2000, .box 3 [I 0])]⟩ (by kernel_rfl) ?_
              refine sim_cps (fun _ => ⟨[(1, B a1own), (2, .ptr 2 0), (4, .ptr 9 0), (5, .ptr 2000 0)], [(2, .box 38 (bxc (GClaim.cs a0c))), (9, .box 64 (bxc (GAuditorExamined.cs r10))), (2000, .box 3 [I 0])]⟩ : Unit → St) (fun _ => g_auditor_examine_j12 n a0c a1own r10) ?_ ?_
              · rintro _
                show SimE (g_auditor_examine_j12 n a0c a1own r10) _ _ _ _ _ _
                unfold g_auditor_examine_j12
                refine sim_seq ?_
                refine sim_reg ?_
                refine xs_run 1 (by kernel_rfl) ?_
                refine xs_heapE [(1000, 9)] [] [] (by kernel_rfl) (g_auditor_examined_add_ok n r10) (by kernel_rfl) (by kernel_rfl) (by kernel_rfl) (fun _ => by kernel_rfl) (fun _ => by kernel_rfl) (fun _ => by kernel_rfl) (fun _ => by kernel_rfl) (fun r13 => ?_) (fun e14 => ?_)
                · refine xs_end ?_
                  refine sq_nk ⟨[1, 2, 4, 5], [2, 9, 2000], [], []⟩ ⟨[(1, B a1own), (2, .ptr 2 0), (4, .ptr 9 0), (5, .ptr 2000 0)], [(2, .box 38 (bxc (GClaim.cs a0c))), (9, .box 64 (bxc (GAuditorExamined.cs r13))), (2000, .box 3 [I 0])]⟩ (by kernel_rfl) ?_
                  refine sim_seq ?_
                  refine sim_drw Try.fm rfl ?_
                  refine xs_run 3 (by kernel_rfl) ?_
                  refine xs_split (!a1own) (fun h15 => ?_) (fun h15 => ?_)
                  · refine xs_no (want_ft (by kernel_rfl) h15) (by kernel_rfl) ?_
                    refine xs_run 31 (by kernel_rfl) ?_
                    refine xs_excL [] (by kernel_rfl) (g_auditor_need_ok n true 5) (by kernel_rfl) (by kernel_rfl) (fun _ => by kernel_rfl) (fun _ => by kernel_rfl) (fun r16 => ?_) (fun e17 => ?_)
                    · refine sq_nk ⟨[4, 5], [9, 2000], [], []⟩ ⟨[(4, .ptr 9 0), (5, .ptr 2000 0)], [(9, .box 64 (bxc (GAuditorExamined.cs r13))), (2000, .box 3 [I 0])]⟩ (by kernel_rfl) ?_
                      refine sim_run Try.fm ⟨[4, 5], [9, 2000], [], []⟩ ⟨[(4, .ptr 9 0), (5, .ptr 2000 0)], [(9, .box 64 (bxc (GAuditorExamined.cs r13))), (2000, .box 3 [I 0])]⟩ (by kernel_rfl) ?_
                      refine sim_ret ?_
                      refine dq_ret ?_
                      refine sc_heap [(1001, 2000)] [] [] (g_auditor_caught_ok n 0) (by kernel_rfl) (by kernel_rfl) (by kernel_rfl) (fun _ => by kernel_rfl) (fun _ => by kernel_rfl) (fun r18 => ?_)
                      exact ke_end (.id) [9] [] (by kernel_rfl) (by kernel_rfl) (by kernel_rfl) (by kernel_rfl)
                    · refine sq_p ?_
                      refine dq_p ?_
                      refine sc_heap [(1001, 2000)] [] [] (g_auditor_caught_2_ok n e17 0) (by kernel_rfl) (by kernel_rfl) (by kernel_rfl) (fun _ => by kernel_rfl) (fun _ => by kernel_rfl) (fun r19 => ?_)
                      exact ke_end (.id) [9] [] (by kernel_rfl) (by kernel_rfl) (by kernel_rfl) (by kernel_rfl)
                  · refine xs_one (want_ff (by kernel_rfl) h15) (by kernel_rfl) ?_
                    refine xs_run 9 (by kernel_rfl) ?_
                    refine xs_split (eqI a0c.Bill.Net r13.bill.Net) (fun h20 => ?_) (fun h20 => ?_)
                    · refine xs_one (want_tt (by kernel_rfl) h20) (by kernel_rfl) ?_
                      refine xs_run 10 (by kernel_rfl) ?_
                      refine xs_split (eqI a0c.Bill.Tax r13.bill.Tax) (fun h21 => ?_) (fun h21 => ?_)
                      · refine xs_one (want_tt (by kernel_rfl) h21) (by kernel_rfl) ?_
                        refine xs_run 10 (by kernel_rfl) ?_
                        refine xs_excL [] (by kernel_rfl) (g_auditor_need_ok n (eqI a0c.Bill.Total r13.bill.Total) 5) (by kernel_rfl) (by kernel_rfl) (fun _ => by kernel_rfl) (fun _ => by kernel_rfl) (fun r22 => ?_) (fun e23 => ?_)
                        · refine sq_nk ⟨[4, 5], [9, 2000], [], []⟩ ⟨[(4, .ptr 9 0), (5, .ptr 2000 0)], [(9, .box 64 (bxc (GAuditorExamined.cs r13))), (2000, .box 3 [I 0])]⟩ (by kernel_rfl) ?_
                          refine sim_run Try.fm ⟨[4, 5], [9, 2000], [], []⟩ ⟨[(4, .ptr 9 0), (5, .ptr 2000 0)], [(9, .box 64 (bxc (GAuditorExamined.cs r13))), (2000, .box 3 [I 0])]⟩ (by kernel_rfl) ?_
                          refine sim_ret ?_
                          refine dq_ret ?_
                          refine sc_heap [(1001, 2000)] [] [] (g_auditor_caught_ok n 0) (by kernel_rfl) (by kernel_rfl) (by kernel_rfl) (fun _ => by kernel_rfl) (fun _ => by kernel_rfl) (fun r24 => ?_)
                          exact ke_end (.id) [9] [] (by kernel_rfl) (by kernel_rfl) (by kernel_rfl) (by kernel_rfl)
                        · refine sq_p ?_
                          refine dq_p ?_
                          refine sc_heap [(1001, 2000)] [] [] (g_auditor_caught_2_ok n e23 0) (by kernel_rfl) (by kernel_rfl) (by kernel_rfl) (fun _ => by kernel_rfl) (fun _ => by kernel_rfl) (fun r25 => ?_)
                          exact ke_end (.id) [9] [] (by kernel_rfl) (by kernel_rfl) (by kernel_rfl) (by kernel_rfl)
                      · refine xs_no (want_tf (by kernel_rfl) h21) (by kernel_rfl) ?_
                        refine xs_run 10 (by kernel_rfl) ?_
                        refine xs_excL [] (by kernel_rfl) (g_auditor_need_ok n false 5) (by kernel_rfl) (by kernel_rfl) (fun _ => by kernel_rfl) (fun _ => by kernel_rfl) (fun r26 => ?_) (fun e27 => ?_)
                        · refine sq_nk ⟨[4, 5], [9, 2000], [], []⟩ ⟨[(4, .ptr 9 0), (5, .ptr 2000 0)], [(9, .box 64 (bxc (GAuditorExamined.cs r13))), (2000, .box 3 [I 0])]⟩ (by kernel_rfl) ?_
                          refine sim_run Try.fm ⟨[4, 5], [9, 2000], [], []⟩ ⟨[(4, .ptr 9 0), (5, .ptr 2000 0)], [(9, .box 64 (bxc (GAuditorExamined.cs r13))), (2000, .box 3 [I 0])]⟩ (by kernel_rfl) ?_
                          refine sim_ret ?_
                          refine dq_ret ?_
                          refine sc_heap [(1001, 2000)] [] [] (g_auditor_caught_ok n 0) (by kernel_rfl) (by kernel_rfl) (by kernel_rfl) (fun _ => by kernel_rfl) (fun _ => by kernel_rfl) (fun r28 => ?_)
                          exact ke_end (.id) [9] [] (by kernel_rfl) (by kernel_rfl) (by kernel_rfl) (by kernel_rfl)
                        · refine sq_p ?_
                          refine dq_p ?_
                          refine sc_heap [(1001, 2000)] [] [] (g_auditor_caught_2_ok n e27 0) (by kernel_rfl) (by kernel_rfl) (by kernel_rfl) (fun _ => by kernel_rfl) (fun _ => by kernel_rfl) (fun r29 => ?_)
                          exact ke_end (.id) [9] [] (by kernel_rfl) (by kernel_rfl) (by kernel_rfl) (by kernel_rfl)
                    · refine xs_no (want_tf (by kernel_rfl) h20) (by kernel_rfl) ?_
                      refine xs_run 21 (by kernel_rfl) ?_
                      refine xs_excL [] (by kernel_rfl) (g_auditor_need_ok n false 5) (by kernel_rfl) (by kernel_rfl) (fun _ => by kernel_rfl) (fun _ => by kernel_rfl) (fun r30 => ?_) (fun e31 => ?_)
                      · refine sq_nk ⟨[4, 5], [9, 2000], [], []⟩ ⟨[(4, .ptr 9 0), (5, .ptr 2000 0)], [(9, .box 64 (bxc (GAuditorExamined.cs r13))), (2000, .box 3 [I 0])]⟩ (by kernel_rfl) ?_
                        refine sim_run Try.fm ⟨[4, 5], [9, 2000], [], []⟩ ⟨[(4, .ptr 9 0), (5, .ptr 2000 0)], [(9, .box 64 (bxc (GAuditorExamined.cs r13))), (2000, .box 3 [I 0])]⟩ (by kernel_rfl) ?_
                        refine sim_ret ?_
                        refine dq_ret ?_
                        refine sc_heap [(1001, 2000)] [] [] (g_auditor_caught_ok n 0) (by kernel_rfl) (by kernel_rfl) (by kernel_rfl) (fun _ => by kernel_rfl) (fun _ => by kernel_rfl) (fun r32 => ?_)
                        exact ke_end (.id) [9] [] (by kernel_rfl) (by kernel_rfl) (by kernel_rfl) (by kernel_rfl)
                      · refine sq_p ?_
                        refine dq_p ?_
                        refine sc_heap [(1001, 2000)] [] [] (g_auditor_caught_2_ok n e31 0) (by kernel_rfl) (by kernel_rfl) (by kernel_rfl) (fun _ => by kernel_rfl) (fun _ => by kernel_rfl) (fun r33 => ?_)
                        exact ke_end (.id) [9] [] (by kernel_rfl) (by kernel_rfl) (by kernel_rfl) (by kernel_rfl)
                · refine sq_p ?_
                  refine dq_p ?_
                  refine sc_heap [(1001, 2000)] [] [] (g_auditor_caught_2_ok n e14.1 0) (by kernel_rfl) (by kernel_rfl) (by kernel_rfl) (fun _ => by kernel_rfl) (fun _ => by kernel_rfl) (fun r34 => ?_)
                  exact ke_end (.id) [9] [] (by kernel_rfl) (by kernel_rfl) (by kernel_rfl) (by kernel_rfl)
              · refine sim_drw Try.fm rfl ?_
                refine xs_run 3 (by kernel_rfl) ?_
                refine xs_split (!a1own) (fun h35 => ?_) (fun h35 => ?_)
                · refine xs_no (want_ft (by kernel_rfl) h35) (by kernel_rfl) ?_
                  refine xs_run 9 (by kernel_rfl) ?_
                  refine xs_excL [] (by kernel_rfl) (g_auditor_need_ok n true 4) (by kernel_rfl) (by kernel_rfl) (fun _ => by kernel_rfl) (fun _ => by kernel_rfl) (fun r36 => ?_) (fun e37 => ?_)
                  · exact kq_n (k := fun _ => g_auditor_examine_j12 n a0c a1own r10) () ⟨[1, 2, 4, 5], [2, 9, 2000], [], []⟩ (by kernel_rfl)
                  · refine kq_p ?_
                    refine dq_p ?_
                    refine sc_heap [(1001, 2000)] [] [] (g_auditor_caught_2_ok n e37 0) (by kernel_rfl) (by kernel_rfl) (by kernel_rfl) (fun _ => by kernel_rfl) (fun _ => by kernel_rfl) (fun r38 => ?_)
                    exact ke_end (.id) [9] [] (by kernel_rfl) (by kernel_rfl) (by kernel_rfl) (by kernel_rfl)
                · refine xs_one (want_ff (by kernel_rfl) h35) (by kernel_rfl) ?_
                  refine xs_run 7 (by kernel_rfl) ?_
                  refine xs_call [] (by kernel_rfl) (g_auditor_same_api_Line_ok n a0c.Bill.Lines r10.bill.Lines) (by kernel_rfl) (by kernel_rfl) (fun _ => by kernel_rfl) (fun r39 => ?_)
                  refine xs_run 1 (by kernel_rfl) ?_
                  refine xs_excL [] (by kernel_rfl) (g_auditor_need_ok n r39 4) (by kernel_rfl) (by kernel_rfl) (fun _ => by kernel_rfl) (fun _ => by kernel_rfl) (fun r40 => ?_) (fun e41 => ?_)
                  · exact kq_n (k := fun _ => g_auditor_examine_j12 n a0c a1own r10) () ⟨[1, 2, 4, 5], [2, 9, 2000], [], []⟩ (by kernel_rfl)
                  · refine kq_p ?_
                    refine dq_p ?_
                    refine sc_heap [(1001, 2000)] [] [] (g_auditor_caught_2_ok n e41 0) (by kernel_rfl) (by kernel_rfl) (by kernel_rfl) (fun _ => by kernel_rfl) (fun _ => by kernel_rfl) (fun r42 => ?_)
                    exact ke_end (.id) [9] [] (by kernel_rfl) (by kernel_rfl) (by kernel_rfl) (by kernel_rfl)
            · refine sq_p ?_
              refine dq_p ?_
              refine sc_heap [(1001, 2000)] [] [] (g_auditor_caught_2_ok n e11.1 0) (by kernel_rfl) (by kernel_rfl) (by kernel_rfl) (fun _ => by kernel_rfl) (fun _ => by kernel_rfl) (fun r43 => ?_)
              exact ke_end (.id) [9] [] (by kernel_rfl) (by kernel_rfl) (by kernel_rfl) (by kernel_rfl)
          · refine sim_run Try.fm ⟨[1, 2, 4, 5, 18], [2, 9, 2000], [], []⟩ ⟨[(1, B a1own), (2, .ptr 2 0), (4, .ptr 9 0), (5, .ptr 2000 0), (18, B a1own)], [(2, .box 38 (bxc (GClaim.cs a0c))), (9, .box 64 [S r7.Claim.Tariff.Name, .p (.sl 7 (List.map GArticle.cs r7.Claim.Tariff.Articles)), I r7.Claim.Calendar.Offset, .p (.sl 2 (List.map GChange.cs r7.Claim.Calendar.Changes)), .p (.sl 1 (List.map ci r7.Claim.Calendar.Holidays)), .p (.sl 5 (List.map GReading.cs r7.Claim.Readings)), U r7.Claim.Seed, I r7.Claim.Session.From, I r7.Claim.Session.To, I r7.Claim.Session.End, .p (.sl 2 (List.map GSlice.cs r7.Claim.Session.Slices)), .p (.sl 2 (List.map GLine.cs r7.Claim.Bill.Lines)), I r7.Claim.Bill.Net, I r7.Claim.Bill.Tax, I r7.Claim.Bill.Total, I r7.follows.From, I r7.follows.To, I r7.follows.End, .p (.sl 2 (List.map GSlice.cs r7.follows.Slices)), .p (.val (.slice none 0 0)), I r7.bill.Net, I r7.bill.Tax, I r7.bill.Total, I r7.rate]), (2000, .box 3 [I 0])]⟩ (by kernel_rfl) ?_
            refine sim_cond a1own (by kernel_rfl) ?_ ?_
            · refine sim_reg ?_
              refine xs_run 1 (by kernel_rfl) ?_
              refine xs_roE [.ro [.id, .id, .id, .id, .id, .id, .id, .id, .id, .id, .id, .id, .id, .id, .id, .id, .id, .id, .id, .sl 2, .id, .id, .id, .id]] (by kernel_rfl) (g_auditor_examined_compared_ok n (⟨r7.Claim, r7.follows, (⟨[], r7.bill.Net, r7.bill.Tax, r7.bill.Total⟩ : GBill), r7.rate⟩ : GAuditorExamined)) (by kernel_rfl) (by kernel_rfl) (fun _ => by kernel_rfl) (fun _ => by kernel_rfl) (fun r44 => ?_) (fun e45 => ?_)
              · refine xs_end ?_
                exact kq_n (k := fun _ => g_auditor_examine_j9 n a0c a1own r7) () ⟨[1, 2, 4, 5], [2, 9, 2000], [], []⟩ (by kernel_rfl)
              · refine kq_p ?_
                refine dq_p ?_
                refine sc_heap [(1001, 2000)] [] [] (g_auditor_caught_2_ok n e45 0) (by kernel_rfl) (by kernel_rfl) (by kernel_rfl) (fun _ => by kernel_rfl) (fun _ => by kernel_rfl) (fun r46 => ?_)
                exact ke_end (.id) [9] [(9, [.id, .id, .id, .id, .id, .id, .id, .id, .id, .id, .id, .id, .id, .id, .id, .id, .id, .id, .id, .sl 2, .id, .id, .id, .id])] (by kernel_rfl) (by kernel_rfl) (by kernel_rfl) (by kernel_rfl)
            · refine sim_skip ?_
              exact kq_n (k := fun _ => g_auditor_examine_j9 n a0c a1own r7) () ⟨[1, 2, 4, 5], [2, 9, 2000], [], []⟩ (by kernel_rfl)
        · refine sq_p ?_
          refine dq_p ?_
          refine sc_heap [(1001, 2000)] [] [] (g_auditor_caught_2_ok n e8.1 0) (by kernel_rfl) (by kernel_rfl) (by kernel_rfl) (fun _ => by kernel_rfl) (fun _ => by kernel_rfl) (fun r47 => ?_)
          exact ke_end (.id) [9] [(9, [.id, .id, .id, .id, .id, .id, .id, .id, .id, .id, .id, .id, .id, .id, .id, .id, .id, .id, .id, .sl 2, .id, .id, .id, .id])] (by kernel_rfl) (by kernel_rfl) (by kernel_rfl) (by kernel_rfl)
      · refine sq_p ?_
        refine dq_p ?_
        refine sc_heap [(1001, 2000)] [] [] (g_auditor_caught_2_ok n e6 0) (by kernel_rfl) (by kernel_rfl) (by kernel_rfl) (fun _ => by kernel_rfl) (fun _ => by kernel_rfl) (fun r48 => ?_)
        exact ke_end (.id) [9] [(9, [.id, .id, .id, .id, .id, .id, .id, .id, .id, .id, .id, .id, .id, .id, .id, .id, .id, .id, .sl 2, .sl 2, .id, .id, .id, .id])] (by kernel_rfl) (by kernel_rfl) (by kernel_rfl) (by kernel_rfl)
    · refine sq_p ?_
      refine dq_p ?_
      refine sc_heap [(1001, 2000)] [] [] (g_auditor_caught_2_ok n e4.1 0) (by kernel_rfl) (by kernel_rfl) (by kernel_rfl) (fun _ => by kernel_rfl) (fun _ => by kernel_rfl) (fun r49 => ?_)
      exact ke_end (.id) [9] [(9, [.id, .id, .id, .id, .id, .id, .id, .id, .id, .id, .id, .id, .id, .id, .id, .id, .id, .id, .sl 2, .sl 2, .id, .id, .id, .id])] (by kernel_rfl) (by kernel_rfl) (by kernel_rfl) (by kernel_rfl)
  · refine sq_p ?_
    refine dq_p ?_
    refine sc_heap [(1001, 2000)] [] [] (g_auditor_caught_2_ok n e2 0) (by kernel_rfl) (by kernel_rfl) (by kernel_rfl) (fun _ => by kernel_rfl) (fun _ => by kernel_rfl) (fun r50 => ?_)
    exact ke_end (.id) [9] [(9, [.id, .id, .id, .id, .id, .id, .id, .id, .id, .id, .id, .id, .id, .id, .id, .id, .id, .id, .sl 2, .sl 2, .id, .id, .id, .id])] (by kernel_rfl) (by kernel_rfl) (by kernel_rfl) (by kernel_rfl)
def g_auditor_Replay (n : Nat) (a0c : GClaim) : Option (GBill × Int) :=
  (g_auditor_examine n a0c false).bind fun r1 =>
  cond (eqI r1.2 0)
    (some (r1.1.bill, 0))
    (cond (eqI r1.2 1)
      (some ((⟨[], 0, 0, 0⟩ : GBill), 11))
      (cond (eqI r1.2 2)
        (some ((⟨[], 0, 0, 0⟩ : GBill), 1))
        (cond (eqI r1.2 3)
          (some ((⟨[], 0, 0, 0⟩ : GBill), 6))
          (some ((⟨[], 0, 0, 0⟩ : GBill), 3)))))
theorem g_auditor_Replay_ok (n : Nat) (a0c : GClaim) : ∀ r, g_auditor_Replay n a0c = some r → PCall Try.prog 10 [ag (GClaim.cs a0c)] (.ret (.tup [ag (GBill.cs r.1), I r.2])) := by
  refine pcall_sim (X := fun r : GBill × Int => AEnd.ret (.tup [ag (GBill.cs r.1), I r.2])) Try.func10 rfl Try.ntmps10 rfl ?_
  unfold g_auditor_Replay
  refine sim_run Try.fm ⟨[1, 2], [1, 2], [], []⟩ ⟨[(1, .ptr 1 0), (2, .ptr 2 0)], [(1, .box 38 (bxc (GClaim.cs a0c))), (2, .box 36 [.p (.val (.slice none 0 0)), I 0, I 0, I 0])]⟩ (by kernel_rfl) ?_
  refine sim_seq ?_
  refine sim_reg ?_
  refine xs_run 1 (by kernel_rfl) ?_
  refine xs_heap [(9, 409)] [] [] (by kernel_rfl) (g_auditor_examine_ok n a0c false) (by kernel_rfl) (by kernel_rfl) (by kernel_rfl) (fun _ => by kernel_rfl) (fun _ => by kernel_rfl) (fun r1 => ?_)
  refine xs_run 5 (by kernel_rfl) ?_
  refine xs_end ?_
  refine sq_nk ⟨[2, 4, 5], [2, 409], [], []⟩ ⟨[(2, .ptr 2 0), (4, .ptr 409 0), (5, I r1.2)], [(2, .box 36 [.p (.val (.slice none 0 0)), I 0, I 0, I 0]), (409, .box 64 (bxc (GAuditorExamined.cs r1.1)))]⟩ (by kernel_rfl) ?_
  refine sim_seq ?_
  refine sim_run Try.fm ⟨[2, 4, 11], [2, 409], [], []⟩ ⟨[(2, .ptr 2 0), (4, .ptr 409 0), (11, I r1.2)], [(2, .box 36 [.p (.val (.slice none 0 0)), I 0, I 0, I 0]), (409, .box 64 (bxc (GAuditorExamined.cs r1.1)))]⟩ (by kernel_rfl) ?_
  refine sim_block ?_
  refine sim_run Try.fm ⟨[2, 4, 11, 12], [2, 409], [], []⟩ ⟨[(2, .ptr 2 0), (4, .ptr 409 0), (11, I r1.2), (12, B (eqI r1.2 0))], [(2, .box 36 [.p (.val (.slice none 0 0)), I 0, I 0, I 0]), (409, .box 64 (bxc (GAuditorExamined.cs r1.1)))]⟩ (by kernel_rfl) ?_
  refine sim_cond (eqI r1.2 0) (by kernel_rfl) ?_ ?_
  · refine sim_run Try.fm ⟨[2, 3], [2], [], []⟩ ⟨[(2, .ptr 2 0), (3, I 0)], [(2, .box 36 (bxc (GBill.cs r1.1.bill)))]⟩ (by kernel_rfl) ?_
    refine sim_ret ?_
    refine bq_r ?_
    refine sq_r ?_
    exact rq_ret (.id) (by kernel_rfl) (by kernel_rfl) (by kernel_rfl)
  · refine sim_run Try.fm ⟨[2, 11, 18], [2], [], []⟩ ⟨[(2, .ptr 2 0), (11, I r1.2), (18, B (eqI r1.2 1))], [(2, .box 36 [.p (.val (.slice none 0 0)), I 0, I 0, I 0])]⟩ (by kernel_rfl) ?_
    refine sim_cond (eqI r1.2 1) (by kernel_rfl) ?_ ?_
    · refine sim_run Try.fm ⟨[2, 3], [2], [], []⟩ ⟨[(2, .ptr 2 0), (3, I 11)], [(2, .box 36 [.p (.val (.slice none 0 0)), I 0, I 0, I 0])]⟩ (by kernel_rfl) ?_
      refine sim_ret ?_
      refine bq_r ?_
      refine sq_r ?_
      exact rq_ret (.agg [.agg [.sl 2, .id, .id, .id], .id]) (by kernel_rfl) (by kernel_rfl) (by kernel_rfl)
    · refine sim_run Try.fm ⟨[2, 11, 21], [2], [], []⟩ ⟨[(2, .ptr 2 0), (11, I r1.2), (21, B (eqI r1.2 2))], [(2, .box 36 [.p (.val (.slice none 0 0)), I 0, I 0, I 0])]⟩ (by kernel_rfl) ?_
      refine sim_cond (eqI r1.2 2) (by kernel_rfl) ?_ ?_
      · refine sim_run Try.fm ⟨[2, 3], [2], [], []⟩ ⟨[(2, .ptr 2 0), (3, I 1)], [(2, .box 36 [.p (.val (.slice none 0 0)), I 0, I 0, I 0])]⟩ (by kernel_rfl) ?_
        refine sim_ret ?_
        refine bq_r ?_
        refine sq_r ?_
        exact rq_ret (.agg [.agg [.sl 2, .id, .id, .id], .id]) (by kernel_rfl) (by kernel_rfl) (by kernel_rfl)
      · refine sim_run Try.fm ⟨[2, 24], [2], [], []⟩ ⟨[(2, .ptr 2 0), (24, B (eqI r1.2 3))], [(2, .box 36 [.p (.val (.slice none 0 0)), I 0, I 0, I 0])]⟩ (by kernel_rfl) ?_
        refine sim_cond (eqI r1.2 3) (by kernel_rfl) ?_ ?_
        · refine sim_run Try.fm ⟨[2, 3], [2], [], []⟩ ⟨[(2, .ptr 2 0), (3, I 6)], [(2, .box 36 [.p (.val (.slice none 0 0)), I 0, I 0, I 0])]⟩ (by kernel_rfl) ?_
          refine sim_ret ?_
          refine bq_r ?_
          refine sq_r ?_
          exact rq_ret (.agg [.agg [.sl 2, .id, .id, .id], .id]) (by kernel_rfl) (by kernel_rfl) (by kernel_rfl)
        · refine sim_skip ?_
          refine bq_n ?_
          refine sq_nk ⟨[2], [2], [], []⟩ ⟨[(2, .ptr 2 0)], [(2, .box 36 [.p (.val (.slice none 0 0)), I 0, I 0, I 0])]⟩ (by kernel_rfl) ?_
          refine sim_run Try.fm ⟨[2, 3], [2], [], []⟩ ⟨[(2, .ptr 2 0), (3, I 3)], [(2, .box 36 [.p (.val (.slice none 0 0)), I 0, I 0, I 0])]⟩ (by kernel_rfl) ?_
          refine sim_ret ?_
          exact rq_ret (.agg [.agg [.sl 2, .id, .id, .id], .id]) (by kernel_rfl) (by kernel_rfl) (by kernel_rfl)
def g_ref33_Same_j1 (a0a : GBill) (a1b : GBill) : Option Bool :=
  cond (eqI a0a.Net a1b.Net)
    (cond (eqI a0a.Tax a1b.Tax)
      (some (eqI a0a.Total a1b.Total))
      (some false))
    (some false)
def g_ref33_Same_l4 (a0a : GBill) (a1b : GBill) (recl4 : Int → Option Bool) (l4 : Int) : Option Bool :=
  cond (ltI l4 (lenI (List.map GLine.cs a0a.Lines)))
    ((getI a0a.Lines l4).bind fun x5 =>
    (getI a1b.Lines l4).bind fun x6 =>
    cond (!opq ((eqI x5.Article x6.Article) && ((eqI x5.Amount x6.Amount) && true)))
      (some false)
      (recl4 (wi (l4 + 1))))
    (g_ref33_Same_j1 a0a a1b)
def g_ref33_Same (n : Nat) (a0a : GBill) (a1b : GBill) : Option Bool :=
  cond (!eqI (lenI (List.map GLine.cs a0a.Lines)) (lenI (List.map GLine.cs a1b.Lines)))
    (some false)
    (loopN (fun recl4 l4 => g_ref33_Same_l4 a0a a1b recl4 l4) n 0)
theorem g_ref33_Same_ok (n : Nat) (a0a : GBill) (a1b : GBill) : ∀ r, g_ref33_Same n a0a a1b = some r → PCall Try.prog 14 [ag (GBill.cs a0a), ag (GBill.cs a1b)] (.ret (B r)) := by
  refine pcall_sim (X := fun r : Bool => AEnd.ret (B r)) Try.func14 rfl Try.ntmps14 rfl ?_
  unfold g_ref33_Same
  refine sim_run Try.fm ⟨[2, 3], [2, 3], [], []⟩ ⟨[(2, .ptr 2 0), (3, .ptr 3 0)], [(2, .box 36 (bxc (GBill.cs a0a))), (3, .box 36 (bxc (GBill.cs a1b)))]⟩ (by kernel_rfl) ?_
  refine sim_seq ?_
  refine sim_run Try.fm ⟨[2, 3, 12], [2, 3], [], []⟩ ⟨[(2, .ptr 2 0), (3, .ptr 3 0), (12, B (!eqI (lenI (List.map GLine.cs a0a.Lines)) (lenI (List.map GLine.cs a1b.Lines))))], [(2, .box 36 (bxc (GBill.cs a0a))), (3, .box 36 (bxc (GBill.cs a1b)))]⟩ (by kernel_rfl) ?_
  refine sim_cond (!eqI (lenI (List.map GLine.cs a0a.Lines)) (lenI (List.map GLine.cs a1b.Lines))) (by kernel_rfl) ?_ ?_
  · refine sim_run Try.fm ⟨[4], [], [], []⟩ ⟨[(4, B false)], []⟩ (by kernel_rfl) ?_
    refine sim_ret ?_
    refine sq_r ?_
    exact rq_ret (.id) (by kernel_rfl) (by kernel_rfl) (by kernel_rfl)
  · refine sim_skip ?_
    refine sq_nk ⟨[2, 3], [2, 3], [], []⟩ ⟨[(2, .ptr 2 0), (3, .ptr 3 0)], [(2, .box 36 (bxc (GBill.cs a0a))), (3, .box 36 (bxc (GBill.cs a1b)))]⟩ (by kernel_rfl) ?_
    refine sim_cps (fun _ => ⟨[(2, .ptr 2 0), (3, .ptr 3 0)], [(2, .box 36 (bxc (GBill.cs a0a))), (3, .box 36 (bxc (GBill.cs a1b)))]⟩ : Unit → St) (fun _ => g_ref33_Same_j1 a0a a1b) ?_ ?_
    · rintro _
      show SimE (g_ref33_Same_j1 a0a a1b) _ _ _ _ _ _
      unfold g_ref33_Same_j1
      refine sim_seq ?_
      refine sim_reg ?_
      refine xs_run 6 (by kernel_rfl) ?_
      refine xs_split (eqI a0a.Net a1b.Net) (fun h2 => ?_) (fun h2 => ?_)
      · refine xs_one (want_tt (by kernel_rfl) h2) (by kernel_rfl) ?_
        refine xs_run 6 (by kernel_rfl) ?_
        refine xs_split (eqI a0a.Tax a1b.Tax) (fun h3 => ?_) (fun h3 => ?_)
        · refine xs_one (want_tt (by kernel_rfl) h3) (by kernel_rfl) ?_
          refine xs_run 6 (by kernel_rfl) ?_
          refine xs_end ?_
          refine sq_nk ⟨[4], [], [], []⟩ ⟨[(4, B (eqI a0a.Total a1b.Total))], []⟩ (by kernel_rfl) ?_
          refine sim_ret ?_
          exact rq_ret (.id) (by kernel_rfl) (by kernel_rfl) (by kernel_rfl)
        · refine xs_no (want_tf (by kernel_rfl) h3) (by kernel_rfl) ?_
          refine xs_run 6 (by kernel_rfl) ?_
          refine xs_end ?_
          refine sq_nk ⟨[4], [], [], []⟩ ⟨[(4, B false)], []⟩ (by kernel_rfl) ?_
          refine sim_ret ?_
          exact rq_ret (.id) (by kernel_rfl) (by kernel_rfl) (by kernel_rfl)
      · refine xs_no (want_tf (by kernel_rfl) h2) (by kernel_rfl) ?_
        refine xs_run 13 (by kernel_rfl) ?_
        refine xs_end ?_
        refine sq_nk ⟨[4], [], [], []⟩ ⟨[(4, B false)], []⟩ (by kernel_rfl) ?_
        refine sim_ret ?_
        exact rq_ret (.id) (by kernel_rfl) (by kernel_rfl) (by kernel_rfl)
    · refine sim_run Try.fm ⟨[2, 3, 5], [2, 3], [], []⟩ ⟨[(2, .ptr 2 0), (3, .ptr 3 0), (5, I 0)], [(2, .box 36 (bxc (GBill.cs a0a))), (3, .box 36 (bxc (GBill.cs a1b)))]⟩ (by kernel_rfl) ?_
      refine sim_block ?_
      refine sim_loop (fun l4 => ⟨[(2, .ptr 2 0), (3, .ptr 3 0), (5, I l4)], [(2, .box 36 (bxc (GBill.cs a0a))), (3, .box 36 (bxc (GBill.cs a1b)))]⟩ : Int → St) (weak_shr (K := ⟨[2, 3, 5], [2, 3], [], []⟩) (by kernel_rfl)) ?_
      rintro recl4 l4
      show SimE (g_ref33_Same_l4 a0a a1b recl4 l4) _ _ _ _ _ _
      unfold g_ref33_Same_l4
      refine sim_seq ?_
      refine sim_run Try.fm ⟨[2, 3, 5, 17], [2, 3], [], []⟩ ⟨[(2, .ptr 2 0), (3, .ptr 3 0), (5, I l4), (17, B (ltI l4 (lenI (List.map GLine.cs a0a.Lines))))], [(2, .box 36 (bxc (GBill.cs a0a))), (3, .box 36 (bxc (GBill.cs a1b)))]⟩ (by kernel_rfl) ?_
      refine sim_cond (ltI l4 (lenI (List.map GLine.cs a0a.Lines))) (by kernel_rfl) ?_ ?_
      · refine sim_skip ?_
        refine sq_nk ⟨[2, 3, 5], [2, 3], [], []⟩ ⟨[(2, .ptr 2 0), (3, .ptr 3 0), (5, I l4)], [(2, .box 36 (bxc (GBill.cs a0a))), (3, .box 36 (bxc (GBill.cs a1b)))]⟩ (by kernel_rfl) ?_
        refine sim_seq ?_
        refine sim_block ?_
        refine sim_seq ?_
        refine sim_drw Try.fm rfl ?_
        refine xs_run 3 (by kernel_rfl) ?_
        refine xs_get (by kernel_rfl) (by kernel_rfl) (aop_idx (e := 56) (S := 2) (enc := GLine.cs) (l := a0a.Lines) (k := .i64) (n := l4) (sv := .p (.sl 2 (List.map GLine.cs a0a.Lines))) rfl (by kernel_rfl) (by kernel_rfl) (by kernel_rfl) (by kernel_rfl) (by kernel_rfl)) (fun x5 => ?_)
        refine xs_run 4 (by kernel_rfl) ?_
        refine xs_get (by kernel_rfl) (by kernel_rfl) (aop_idx (e := 56) (S := 2) (enc := GLine.cs) (l := a1b.Lines) (k := .i64) (n := l4) (sv := .p (.sl 2 (List.map GLine.cs a1b.Lines))) rfl (by kernel_rfl) (by kernel_rfl) (by kernel_rfl) (by kernel_rfl) (by kernel_rfl)) (fun x6 => ?_)
        refine xs_run 1 (by kernel_rfl) ?_
        refine xs_u (by kernel_rfl) (by kernel_rfl) (aop_neq (xs := [I x5.Article, I x5.Amount]) (ys := [I x6.Article, I x6.Amount]) (vx := [.int .i64 x5.Article, .int .i64 x5.Amount]) (vy := [.int .i64 x6.Article, .int .i64 x6.Amount]) (b := (eqI x5.Article x6.Article) && ((eqI x5.Amount x6.Amount) && true)) rfl (by kernel_rfl) (by kernel_rfl) (by kernel_rfl) (by kernel_rfl) (by kernel_rfl) (by kernel_rfl)) ?_
        refine xs_endD (by kernel_rfl) ?_
        refine sq_nk ⟨[2, 3, 5, 30], [2, 3], [], []⟩ ⟨[(2, .ptr 2 0), (3, .ptr 3 0), (5, I l4), (30, B (!opq ((eqI x5.Article x6.Article) && ((eqI x5.Amount x6.Amount) && true))))], [(2, .box 36 (bxc (GBill.cs a0a))), (3, .box 36 (bxc (GBill.cs a1b)))]⟩ (by kernel_rfl) ?_
        refine sim_cond (!opq ((eqI x5.Article x6.Article) && ((eqI x5.Amount x6.Amount) && true))) (by kernel_rfl) ?_ ?_
        · refine sim_run Try.fm ⟨[4], [], [], []⟩ ⟨[(4, B false)], []⟩ (by kernel_rfl) ?_
          refine sim_ret ?_
          refine bq_r ?_
          refine sq_r ?_
          refine kq_r ?_
          refine bq_r ?_
          refine kq_r ?_
          exact rq_ret (.id) (by kernel_rfl) (by kernel_rfl) (by kernel_rfl)
        · refine sim_skip ?_
          refine bq_n ?_
          refine sq_nk ⟨[2, 3, 5], [2, 3], [], []⟩ ⟨[(2, .ptr 2 0), (3, .ptr 3 0), (5, I l4)], [(2, .box 36 (bxc (GBill.cs a0a))), (3, .box 36 (bxc (GBill.cs a1b)))]⟩ (by kernel_rfl) ?_
          refine sim_last Try.fm (by kernel_rfl) ?_
          exact kq_n (wi (l4 + 1)) ⟨[2, 3, 5], [2, 3], [], []⟩ (by kernel_rfl)
      · refine sim_exit ?_
        refine sq_x ?_
        refine kq_x ?_
        refine bq_hit ?_
        exact kq_n (k := fun _ => g_ref33_Same_j1 a0a a1b) () ⟨[2, 3], [2, 3], [], []⟩ (by kernel_rfl)
def g_auditor_Verify (n : Nat) (a0c : GClaim) : Option Int :=
  (g_auditor_examine n a0c true).bind fun r1 =>
  some r1.2
theorem g_auditor_Verify_ok (n : Nat) (a0c : GClaim) : ∀ r, g_auditor_Verify n a0c = some r → PCall Try.prog 12 [ag (GClaim.cs a0c)] (.ret (I r)) := by
  refine pcall_sim (X := fun r : Int => AEnd.ret (I r)) Try.func12 rfl Try.ntmps12 rfl ?_
  unfold g_auditor_Verify
  refine sim_run Try.fm ⟨[1], [1], [], []⟩ ⟨[(1, .ptr 1 0)], [(1, .box 38 (bxc (GClaim.cs a0c)))]⟩ (by kernel_rfl) ?_
  refine sim_seq ?_
  refine sim_reg ?_
  refine xs_run 1 (by kernel_rfl) ?_
  refine xs_heap [(9, 409)] [] [] (by kernel_rfl) (g_auditor_examine_ok n a0c true) (by kernel_rfl) (by kernel_rfl) (by kernel_rfl) (fun _ => by kernel_rfl) (fun _ => by kernel_rfl) (fun r1 => ?_)
  refine xs_run 5 (by kernel_rfl) ?_
  refine xs_end ?_
  refine sq_nk ⟨[4], [], [], []⟩ ⟨[(4, I r1.2)], []⟩ (by kernel_rfl) ?_
  refine sim_run Try.fm ⟨[2], [], [], []⟩ ⟨[(2, I r1.2)], []⟩ (by kernel_rfl) ?_
  refine sim_ret ?_
  exact rq_ret (.id) (by kernel_rfl) (by kernel_rfl) (by kernel_rfl)
def g_law43_head (n : Nat) : Option Bool :=
  (g_law43_example n).bind fun r1 =>
  cond (!eqI (lenI (List.map GReading.cs r1.Readings)) 3)
    (some false)
    ((g_auditor_Replay n r1).bind fun r2 =>
    cond (sliceB 0 1 (List.length r1.Bill.Lines)) (
      (cond (eqI r2.2 0)
        ((g_ref33_Same n r2.1 r1.Bill).bind fun r5 =>
        cond r5
          ((g_auditor_Verify n r1).bind fun r7 =>
          cond (eqI r7 0)
            ((g_auditor_Verify n (⟨r1.Tariff, r1.Calendar, r1.Readings, wu (r1.Seed + 1), r1.Session, r1.Bill⟩ : GClaim)).bind fun r9 =>
            cond (eqI r9 1)
              ((g_auditor_Verify n (⟨r1.Tariff, r1.Calendar, [], r1.Seed, r1.Session, r1.Bill⟩ : GClaim)).bind fun r11 =>
              cond (eqI r11 1)
                ((g_auditor_Verify n (⟨(⟨[116, 97, 120], r1.Tariff.Articles⟩ : GTariff), r1.Calendar, r1.Readings, r1.Seed, r1.Session, r1.Bill⟩ : GClaim)).bind fun r13 =>
                cond (eqI r13 2)
                  ((g_auditor_Verify n (⟨r1.Tariff, r1.Calendar, r1.Readings, r1.Seed, (⟨r1.Session.From, r1.Session.To, wi (r1.Session.End + 1), r1.Session.Slices⟩ : GSession), r1.Bill⟩ : GClaim)).bind fun r15 =>
                  cond (eqI r15 3)
                    ((g_auditor_Verify n (⟨r1.Tariff, r1.Calendar, r1.Readings, r1.Seed, r1.Session, (⟨List.drop (Int.toNat 0) (List.take (Int.toNat 1) r1.Bill.Lines), r1.Bill.Net, r1.Bill.Tax, r1.Bill.Total⟩ : GBill)⟩ : GClaim)).bind fun r17 =>
                    cond (eqI r17 4)
                      ((g_auditor_Verify n (⟨r1.Tariff, r1.Calendar, r1.Readings, r1.Seed, r1.Session, (⟨r1.Bill.Lines, r1.Bill.Net, r1.Bill.Tax, wi (r1.Bill.Total + 1)⟩ : GBill)⟩ : GClaim)).bind fun r19 =>
                      some (eqI r19 5))
                      (some false))
                    (some false))
                  (some false))
                (some false))
              (some false))
            (some false))
          (some false))
        (some false)).bind fun j3 =>
      some j3) none)
theorem g_law43_head_ok (n : Nat) : ∀ r, g_law43_head n = some r → PCall Try.prog 8 [] (.ret (B r)) := by
  refine pcall_sim (X := fun r : Bool => AEnd.ret (B r)) Try.func8 rfl Try.ntmps8 rfl ?_
  unfold g_law43_head
  refine sim_run Try.fm ⟨[], [], [], []⟩ ⟨[], []⟩ (by kernel_rfl) ?_
  refine sim_seq ?_
  refine sim_reg ?_
  refine xs_call [] (by kernel_rfl) (g_law43_example_ok n) (by kernel_rfl) (by kernel_rfl) (fun _ => by kernel_rfl) (fun r1 => ?_)
  refine xs_run 2 (by kernel_rfl) ?_
  refine xs_end ?_
  refine sq_nk ⟨[1], [1], [], []⟩ ⟨[(1, .ptr 1 0)], [(1, .box 38 (bxc (GClaim.cs r1)))]⟩ (by kernel_rfl) ?_
  refine sim_seq ?_
  refine sim_run Try.fm ⟨[1, 14], [1], [], []⟩ ⟨[(1, .ptr 1 0), (14, B (!eqI (lenI (List.map GReading.cs r1.Readings)) 3))], [(1, .box 38 (bxc (GClaim.cs r1)))]⟩ (by kernel_rfl) ?_
  refine sim_cond (!eqI (lenI (List.map GReading.cs r1.Readings)) 3) (by kernel_rfl) ?_ ?_
  · refine sim_run Try.fm ⟨[0], [], [], []⟩ ⟨[(0, B false)], []⟩ (by kernel_rfl) ?_
    refine sim_ret ?_
    refine sq_r ?_
    exact rq_ret (.id) (by kernel_rfl) (by kernel_rfl) (by kernel_rfl)
  · refine sim_skip ?_
    refine sq_nk ⟨[1], [1], [], []⟩ ⟨[(1, .ptr 1 0)], [(1, .box 38 (bxc (GClaim.cs r1)))]⟩ (by kernel_rfl) ?_
    refine sim_seq ?_
    refine sim_reg ?_
    refine xs_run 1 (by kernel_rfl) ?_
    refine xs_call [] (by kernel_rfl) (g_auditor_Replay_ok n r1) (by kernel_rfl) (by kernel_rfl) (fun _ => by kernel_rfl) (fun r2 => ?_)
    refine xs_run 6 (by kernel_rfl) ?_
    refine xs_end ?_
    refine sq_nk ⟨[1, 2, 3], [1, 2], [], []⟩ ⟨[(1, .ptr 1 0), (2, .ptr 2 0), (3, I r2.2)], [(1, .box 38 (bxc (GClaim.cs r1))), (2, .box 36 (bxc (GBill.cs r2.1)))]⟩ (by kernel_rfl) ?_
    refine sim_run Try.fm ⟨[1, 2, 3, 4, 5, 6, 7, 8], [1, 2, 4, 5, 6, 7, 8], [], []⟩ ⟨[(1, .ptr 1 0), (2, .ptr 2 0), (3, I r2.2), (4, .ptr 4 0), (5, .ptr 5 0), (6, .ptr 6 0), (7, .ptr 7 0), (8, .ptr 8 0)], [(1, .box 38 (bxc (GClaim.cs r1))), (2, .box 36 (bxc (GBill.cs r2.1))), (4, .box 38 (bxc (GClaim.cs r1))), (5, .box 38 (bxc (GClaim.cs r1))), (6, .box 38 (bxc (GClaim.cs r1))), (7, .box 38 (bxc (GClaim.cs r1))), (8, .box 38 (bxc (GClaim.cs r1)))]⟩ (by kernel_rfl) ?_
    refine sim_run Try.fm ⟨[1, 2, 3, 4, 5, 6, 7, 8], [1, 2, 4, 5, 6, 7, 8], [], []⟩ ⟨[(1, .ptr 1 0), (2, .ptr 2 0), (3, I r2.2), (4, .ptr 4 0), (5, .ptr 5 0), (6, .ptr 6 0), (7, .ptr 7 0), (8, .ptr 8 0)], [(1, .box 38 (bxc (GClaim.cs r1))), (2, .box 36 (bxc (GBill.cs r2.1))), (4, .box 38 [S r1.Tariff.Name, .p (.sl 7 (List.map GArticle.cs r1.Tariff.Articles)), I r1.Calendar.Offset, .p (.sl 2 (List.map GChange.cs r1.Calendar.Changes)), .p (.sl 1 (List.map ci r1.Calendar.Holidays)), .p (.sl 5 (List.map GReading.cs r1.Readings)), U (wu (r1.Seed + 1)), I r1.Session.From, I r1.Session.To, I r1.Session.End, .p (.sl 2 (List.map GSlice.cs r1.Session.Slices)), .p (.sl 2 (List.map GLine.cs r1.Bill.Lines)), I r1.Bill.Net, I r1.Bill.Tax, I r1.Bill.Total]), (5, .box 38 (bxc (GClaim.cs r1))), (6, .box 38 (bxc (GClaim.cs r1))), (7, .box 38 (bxc (GClaim.cs r1))), (8, .box 38 (bxc (GClaim.cs r1)))]⟩ (by kernel_rfl) ?_
    refine sim_run Try.fm ⟨[1, 2, 3, 4, 5, 6, 7, 8], [1, 2, 4, 5, 6, 7, 8], [], []⟩ ⟨[(1, .ptr 1 0), (2, .ptr 2 0), (3, I r2.2), (4, .ptr 4 0), (5, .ptr 5 0), (6, .ptr 6 0), (7, .ptr 7 0), (8, .ptr 8 0)], [(1, .box 38 (bxc (GClaim.cs r1))), (2, .box 36 (bxc (GBill.cs r2.1))), (4, .box 38 [S r1.Tariff.Name, .p (.sl 7 (List.map GArticle.cs r1.Tariff.Articles)), I r1.Calendar.Offset, .p (.sl 2 (List.map GChange.cs r1.Calendar.Changes)), .p (.sl 1 (List.map ci r1.Calendar.Holidays)), .p (.sl 5 (List.map GReading.cs r1.Readings)), U (wu (r1.Seed + 1)), I r1.Session.From, I r1.Session.To, I r1.Session.End, .p (.sl 2 (List.map GSlice.cs r1.Session.Slices)), .p (.sl 2 (List.map GLine.cs r1.Bill.Lines)), I r1.Bill.Net, I r1.Bill.Tax, I r1.Bill.Total]), (5, .box 38 [S [116, 97, 120], .p (.sl 7 (List.map GArticle.cs r1.Tariff.Articles)), I r1.Calendar.Offset, .p (.sl 2 (List.map GChange.cs r1.Calendar.Changes)), .p (.sl 1 (List.map ci r1.Calendar.Holidays)), .p (.sl 5 (List.map GReading.cs r1.Readings)), U r1.Seed, I r1.Session.From, I r1.Session.To, I r1.Session.End, .p (.sl 2 (List.map GSlice.cs r1.Session.Slices)), .p (.sl 2 (List.map GLine.cs r1.Bill.Lines)), I r1.Bill.Net, I r1.Bill.Tax, I r1.Bill.Total]), (6, .box 38 (bxc (GClaim.cs r1))), (7, .box 38 (bxc (GClaim.cs r1))), (8, .box 38 (bxc (GClaim.cs r1)))]⟩ (by kernel_rfl) ?_
    refine sim_run Try.fm ⟨[1, 2, 3, 4, 5, 6, 7, 8], [1, 2, 4, 5, 6, 7, 8], [], []⟩ ⟨[(1, .ptr 1 0), (2, .ptr 2 0), (3, I r2.2), (4, .ptr 4 0), (5, .ptr 5 0), (6, .ptr 6 0), (7, .ptr 7 0), (8, .ptr 8 0)], [(1, .box 38 (bxc (GClaim.cs r1))), (2, .box 36 (bxc (GBill.cs r2.1))), (4, .box 38 [S r1.Tariff.Name, .p (.sl 7 (List.map GArticle.cs r1.Tariff.Articles)), I r1.Calendar.Offset, .p (.sl 2 (List.map GChange.cs r1.Calendar.Changes)), .p (.sl 1 (List.map ci r1.Calendar.Holidays)), .p (.sl 5 (List.map GReading.cs r1.Readings)), U (wu (r1.Seed + 1)), I r1.Session.From, I r1.Session.To, I r1.Session.End, .p (.sl 2 (List.map GSlice.cs r1.Session.Slices)), .p (.sl 2 (List.map GLine.cs r1.Bill.Lines)), I r1.Bill.Net, I r1.Bill.Tax, I r1.Bill.Total]), (5, .box 38 [S [116, 97, 120], .p (.sl 7 (List.map GArticle.cs r1.Tariff.Articles)), I r1.Calendar.Offset, .p (.sl 2 (List.map GChange.cs r1.Calendar.Changes)), .p (.sl 1 (List.map ci r1.Calendar.Holidays)), .p (.sl 5 (List.map GReading.cs r1.Readings)), U r1.Seed, I r1.Session.From, I r1.Session.To, I r1.Session.End, .p (.sl 2 (List.map GSlice.cs r1.Session.Slices)), .p (.sl 2 (List.map GLine.cs r1.Bill.Lines)), I r1.Bill.Net, I r1.Bill.Tax, I r1.Bill.Total]), (6, .box 38 [S r1.Tariff.Name, .p (.sl 7 (List.map GArticle.cs r1.Tariff.Articles)), I r1.Calendar.Offset, .p (.sl 2 (List.map GChange.cs r1.Calendar.Changes)), .p (.sl 1 (List.map ci r1.Calendar.Holidays)), .p (.sl 5 (List.map GReading.cs r1.Readings)), U r1.Seed, I r1.Session.From, I r1.Session.To, I (wi (r1.Session.End + 1)), .p (.sl 2 (List.map GSlice.cs r1.Session.Slices)), .p (.sl 2 (List.map GLine.cs r1.Bill.Lines)), I r1.Bill.Net, I r1.Bill.Tax, I r1.Bill.Total]), (7, .box 38 (bxc (GClaim.cs r1))), (8, .box 38 (bxc (GClaim.cs r1)))]⟩ (by kernel_rfl) ?_
    refine sim_seq ?_
    refine sim_reg ?_
    refine xs_run 3 (by kernel_rfl) ?_
    refine xs_if (by kernel_rfl) (by kernel_rfl) (aop_slice (e := 56) (S := 2) (enc := GLine.cs) (l := r1.Bill.Lines) (sv := .p (.sl 2 (List.map GLine.cs r1.Bill.Lines))) (a := 0) (b := 1) rfl (by kernel_rfl) (by kernel_rfl) (by kernel_rfl) (by kernel_rfl) (by kernel_rfl) (by kernel_rfl)) ?_
    refine xs_run 3 (by kernel_rfl) ?_
    refine xs_end ?_
    refine sq_nk ⟨[1, 2, 3, 4, 5, 6, 7, 8], [1, 2, 4, 5, 6, 7, 8], [], []⟩ ⟨[(1, .ptr 1 0), (2, .ptr 2 0), (3, I r2.2), (4, .ptr 4 0), (5, .ptr 5 0), (6, .ptr 6 0), (7, .ptr 7 0), (8, .ptr 8 0)], [(1, .box 38 (bxc (GClaim.cs r1))), (2, .box 36 (bxc (GBill.cs r2.1))), (4, .box 38 [S r1.Tariff.Name, .p (.sl 7 (List.map GArticle.cs r1.Tariff.Articles)), I r1.Calendar.Offset, .p (.sl 2 (List.map GChange.cs r1.Calendar.Changes)), .p (.sl 1 (List.map ci r1.Calendar.Holidays)), .p (.sl 5 (List.map GReading.cs r1.Readings)), U (wu (r1.Seed + 1)), I r1.Session.From, I r1.Session.To, I r1.Session.End, .p (.sl 2 (List.map GSlice.cs r1.Session.Slices)), .p (.sl 2 (List.map GLine.cs r1.Bill.Lines)), I r1.Bill.Net, I r1.Bill.Tax, I r1.Bill.Total]), (5, .box 38 [S [116, 97, 120], .p (.sl 7 (List.map GArticle.cs r1.Tariff.Articles)), I r1.Calendar.Offset, .p (.sl 2 (List.map GChange.cs r1.Calendar.Changes)), .p (.sl 1 (List.map ci r1.Calendar.Holidays)), .p (.sl 5 (List.map GReading.cs r1.Readings)), U r1.Seed, I r1.Session.From, I r1.Session.To, I r1.Session.End, .p (.sl 2 (List.map GSlice.cs r1.Session.Slices)), .p (.sl 2 (List.map GLine.cs r1.Bill.Lines)), I r1.Bill.Net, I r1.Bill.Tax, I r1.Bill.Total]), (6, .box 38 [S r1.Tariff.Name, .p (.sl 7 (List.map GArticle.cs r1.Tariff.Articles)), I r1.Calendar.Offset, .p (.sl 2 (List.map GChange.cs r1.Calendar.Changes)), .p (.sl 1 (List.map ci r1.Calendar.Holidays)), .p (.sl 5 (List.map GReading.cs r1.Readings)), U r1.Seed, I r1.Session.From, I r1.Session.To, I (wi (r1.Session.End + 1)), .p (.sl 2 (List.map GSlice.cs r1.Session.Slices)), .p (.sl 2 (List.map GLine.cs r1.Bill.Lines)), I r1.Bill.Net, I r1.Bill.Tax, I r1.Bill.Total]), (7, .box 38 [S r1.Tariff.Name, .p (.sl 7 (List.map GArticle.cs r1.Tariff.Articles)), I r1.Calendar.Offset, .p (.sl 2 (List.map GChange.cs r1.Calendar.Changes)), .p (.sl 1 (List.map ci r1.Calendar.Holidays)), .p (.sl 5 (List.map GReading.cs r1.Readings)), U r1.Seed, I r1.Session.From, I r1.Session.To, I r1.Session.End, .p (.sl 2 (List.map GSlice.cs r1.Session.Slices)), .p (.sl 2 (List.map GLine.cs (List.drop (Int.toNat 0) (List.take (Int.toNat 1) r1.Bill.Lines)))), I r1.Bill.Net, I r1.Bill.Tax, I r1.Bill.Total]), (8, .box 38 (bxc (GClaim.cs r1)))]⟩ (by kernel_rfl) ?_
    refine sim_run Try.fm ⟨[1, 2, 3, 4, 5, 6, 7, 8], [1, 2, 4, 5, 6, 7, 8], [], []⟩ ⟨[(1, .ptr 1 0), (2, .ptr 2 0), (3, I r2.2), (4, .ptr 4 0), (5, .ptr 5 0), (6, .ptr 6 0), (7, .ptr 7 0), (8, .ptr 8 0)], [(1, .box 38 (bxc (GClaim.cs r1))), (2, .box 36 (bxc (GBill.cs r2.1))), (4, .box 38 [S r1.Tariff.Name, .p (.sl 7 (List.map GArticle.cs r1.Tariff.Articles)), I r1.Calendar.Offset, .p (.sl 2 (List.map GChange.cs r1.Calendar.Changes)), .p (.sl 1 (List.map ci r1.Calendar.Holidays)), .p (.sl 5 (List.map GReading.cs r1.Readings)), U (wu (r1.Seed + 1)), I r1.Session.From, I r1.Session.To, I r1.Session.End, .p (.sl 2 (List.map GSlice.cs r1.Session.Slices)), .p (.sl 2 (List.map GLine.cs r1.Bill.Lines)), I r1.Bill.Net, I r1.Bill.Tax, I r1.Bill.Total]), (5, .box 38 [S [116, 97, 120], .p (.sl 7 (List.map GArticle.cs r1.Tariff.Articles)), I r1.Calendar.Offset, .p (.sl 2 (List.map GChange.cs r1.Calendar.Changes)), .p (.sl 1 (List.map ci r1.Calendar.Holidays)), .p (.sl 5 (List.map GReading.cs r1.Readings)), U r1.Seed, I r1.Session.From, I r1.Session.To, I r1.Session.End, .p (.sl 2 (List.map GSlice.cs r1.Session.Slices)), .p (.sl 2 (List.map GLine.cs r1.Bill.Lines)), I r1.Bill.Net, I r1.Bill.Tax, I r1.Bill.Total]), (6, .box 38 [S r1.Tariff.Name, .p (.sl 7 (List.map GArticle.cs r1.Tariff.Articles)), I r1.Calendar.Offset, .p (.sl 2 (List.map GChange.cs r1.Calendar.Changes)), .p (.sl 1 (List.map ci r1.Calendar.Holidays)), .p (.sl 5 (List.map GReading.cs r1.Readings)), U r1.Seed, I r1.Session.From, I r1.Session.To, I (wi (r1.Session.End + 1)), .p (.sl 2 (List.map GSlice.cs r1.Session.Slices)), .p (.sl 2 (List.map GLine.cs r1.Bill.Lines)), I r1.Bill.Net, I r1.Bill.Tax, I r1.Bill.Total]), (7, .box 38 [S r1.Tariff.Name, .p (.sl 7 (List.map GArticle.cs r1.Tariff.Articles)), I r1.Calendar.Offset, .p (.sl 2 (List.map GChange.cs r1.Calendar.Changes)), .p (.sl 1 (List.map ci r1.Calendar.Holidays)), .p (.sl 5 (List.map GReading.cs r1.Readings)), U r1.Seed, I r1.Session.From, I r1.Session.To, I r1.Session.End, .p (.sl 2 (List.map GSlice.cs r1.Session.Slices)), .p (.sl 2 (List.map GLine.cs (List.drop (Int.toNat 0) (List.take (Int.toNat 1) r1.Bill.Lines)))), I r1.Bill.Net, I r1.Bill.Tax, I r1.Bill.Total]), (8, .box 38 [S r1.Tariff.Name, .p (.sl 7 (List.map GArticle.cs r1.Tariff.Articles)), I r1.Calendar.Offset, .p (.sl 2 (List.map GChange.cs r1.Calendar.Changes)), .p (.sl 1 (List.map ci r1.Calendar.Holidays)), .p (.sl 5 (List.map GReading.cs r1.Readings)), U r1.Seed, I r1.Session.From, I r1.Session.To, I r1.Session.End, .p (.sl 2 (List.map GSlice.cs r1.Session.Slices)), .p (.sl 2 (List.map GLine.cs r1.Bill.Lines)), I r1.Bill.Net, I r1.Bill.Tax, I (wi (r1.Bill.Total + 1))])]⟩ (by kernel_rfl) ?_
    refine sim_run Try.fm ⟨[1, 2, 3, 4, 5, 6, 7, 8, 9], [1, 2, 4, 5, 6, 7, 8, 9], [], []⟩ ⟨[(1, .ptr 1 0), (2, .ptr 2 0), (3, I r2.2), (4, .ptr 4 0), (5, .ptr 5 0), (6, .ptr 6 0), (7, .ptr 7 0), (8, .ptr 8 0), (9, .ptr 9 0)], [(1, .box 38 (bxc (GClaim.cs r1))), (2, .box 36 (bxc (GBill.cs r2.1))), (4, .box 38 [S r1.Tariff.Name, .p (.sl 7 (List.map GArticle.cs r1.Tariff.Articles)), I r1.Calendar.Offset, .p (.sl 2 (List.map GChange.cs r1.Calendar.Changes)), .p (.sl 1 (List.map ci r1.Calendar.Holidays)), .p (.sl 5 (List.map GReading.cs r1.Readings)), U (wu (r1.Seed + 1)), I r1.Session.From, I r1.Session.To, I r1.Session.End, .p (.sl 2 (List.map GSlice.cs r1.Session.Slices)), .p (.sl 2 (List.map GLine.cs r1.Bill.Lines)), I r1.Bill.Net, I r1.Bill.Tax, I r1.Bill.Total]), (5, .box 38 [S [116, 97, 120], .p (.sl 7 (List.map GArticle.cs r1.Tariff.Articles)), I r1.Calendar.Offset, .p (.sl 2 (List.map GChange.cs r1.Calendar.Changes)), .p (.sl 1 (List.map ci r1.Calendar.Holidays)), .p (.sl 5 (List.map GReading.cs r1.Readings)), U r1.Seed, I r1.Session.From, I r1.Session.To, I r1.Session.End, .p (.sl 2 (List.map GSlice.cs r1.Session.Slices)), .p (.sl 2 (List.map GLine.cs r1.Bill.Lines)), I r1.Bill.Net, I r1.Bill.Tax, I r1.Bill.Total]), (6, .box 38 [S r1.Tariff.Name, .p (.sl 7 (List.map GArticle.cs r1.Tariff.Articles)), I r1.Calendar.Offset, .p (.sl 2 (List.map GChange.cs r1.Calendar.Changes)), .p (.sl 1 (List.map ci r1.Calendar.Holidays)), .p (.sl 5 (List.map GReading.cs r1.Readings)), U r1.Seed, I r1.Session.From, I r1.Session.To, I (wi (r1.Session.End + 1)), .p (.sl 2 (List.map GSlice.cs r1.Session.Slices)), .p (.sl 2 (List.map GLine.cs r1.Bill.Lines)), I r1.Bill.Net, I r1.Bill.Tax, I r1.Bill.Total]), (7, .box 38 [S r1.Tariff.Name, .p (.sl 7 (List.map GArticle.cs r1.Tariff.Articles)), I r1.Calendar.Offset, .p (.sl 2 (List.map GChange.cs r1.Calendar.Changes)), .p (.sl 1 (List.map ci r1.Calendar.Holidays)), .p (.sl 5 (List.map GReading.cs r1.Readings)), U r1.Seed, I r1.Session.From, I r1.Session.To, I r1.Session.End, .p (.sl 2 (List.map GSlice.cs r1.Session.Slices)), .p (.sl 2 (List.map GLine.cs (List.drop (Int.toNat 0) (List.take (Int.toNat 1) r1.Bill.Lines)))), I r1.Bill.Net, I r1.Bill.Tax, I r1.Bill.Total]), (8, .box 38 [S r1.Tariff.Name, .p (.sl 7 (List.map GArticle.cs r1.Tariff.Articles)), I r1.Calendar.Offset, .p (.sl 2 (List.map GChange.cs r1.Calendar.Changes)), .p (.sl 1 (List.map ci r1.Calendar.Holidays)), .p (.sl 5 (List.map GReading.cs r1.Readings)), U r1.Seed, I r1.Session.From, I r1.Session.To, I r1.Session.End, .p (.sl 2 (List.map GSlice.cs r1.Session.Slices)), .p (.sl 2 (List.map GLine.cs r1.Bill.Lines)), I r1.Bill.Net, I r1.Bill.Tax, I (wi (r1.Bill.Total + 1))]), (9, .box 38 (bxc (GClaim.cs r1)))]⟩ (by kernel_rfl) ?_
    refine sim_run Try.fm ⟨[1, 2, 3, 4, 5, 6, 7, 8, 9], [1, 2, 4, 5, 6, 7, 8, 9], [], []⟩ ⟨[(1, .ptr 1 0), (2, .ptr 2 0), (3, I r2.2), (4, .ptr 4 0), (5, .ptr 5 0), (6, .ptr 6 0), (7, .ptr 7 0), (8, .ptr 8 0), (9, .ptr 9 0)], [(1, .box 38 (bxc (GClaim.cs r1))), (2, .box 36 (bxc (GBill.cs r2.1))), (4, .box 38 [S r1.Tariff.Name, .p (.sl 7 (List.map GArticle.cs r1.Tariff.Articles)), I r1.Calendar.Offset, .p (.sl 2 (List.map GChange.cs r1.Calendar.Changes)), .p (.sl 1 (List.map ci r1.Calendar.Holidays)), .p (.sl 5 (List.map GReading.cs r1.Readings)), U (wu (r1.Seed + 1)), I r1.Session.From, I r1.Session.To, I r1.Session.End, .p (.sl 2 (List.map GSlice.cs r1.Session.Slices)), .p (.sl 2 (List.map GLine.cs r1.Bill.Lines)), I r1.Bill.Net, I r1.Bill.Tax, I r1.Bill.Total]), (5, .box 38 [S [116, 97, 120], .p (.sl 7 (List.map GArticle.cs r1.Tariff.Articles)), I r1.Calendar.Offset, .p (.sl 2 (List.map GChange.cs r1.Calendar.Changes)), .p (.sl 1 (List.map ci r1.Calendar.Holidays)), .p (.sl 5 (List.map GReading.cs r1.Readings)), U r1.Seed, I r1.Session.From, I r1.Session.To, I r1.Session.End, .p (.sl 2 (List.map GSlice.cs r1.Session.Slices)), .p (.sl 2 (List.map GLine.cs r1.Bill.Lines)), I r1.Bill.Net, I r1.Bill.Tax, I r1.Bill.Total]), (6, .box 38 [S r1.Tariff.Name, .p (.sl 7 (List.map GArticle.cs r1.Tariff.Articles)), I r1.Calendar.Offset, .p (.sl 2 (List.map GChange.cs r1.Calendar.Changes)), .p (.sl 1 (List.map ci r1.Calendar.Holidays)), .p (.sl 5 (List.map GReading.cs r1.Readings)), U r1.Seed, I r1.Session.From, I r1.Session.To, I (wi (r1.Session.End + 1)), .p (.sl 2 (List.map GSlice.cs r1.Session.Slices)), .p (.sl 2 (List.map GLine.cs r1.Bill.Lines)), I r1.Bill.Net, I r1.Bill.Tax, I r1.Bill.Total]), (7, .box 38 [S r1.Tariff.Name, .p (.sl 7 (List.map GArticle.cs r1.Tariff.Articles)), I r1.Calendar.Offset, .p (.sl 2 (List.map GChange.cs r1.Calendar.Changes)), .p (.sl 1 (List.map ci r1.Calendar.Holidays)), .p (.sl 5 (List.map GReading.cs r1.Readings)), U r1.Seed, I r1.Session.From, I r1.Session.To, I r1.Session.End, .p (.sl 2 (List.map GSlice.cs r1.Session.Slices)), .p (.sl 2 (List.map GLine.cs (List.drop (Int.toNat 0) (List.take (Int.toNat 1) r1.Bill.Lines)))), I r1.Bill.Net, I r1.Bill.Tax, I r1.Bill.Total]), (8, .box 38 [S r1.Tariff.Name, .p (.sl 7 (List.map GArticle.cs r1.Tariff.Articles)), I r1.Calendar.Offset, .p (.sl 2 (List.map GChange.cs r1.Calendar.Changes)), .p (.sl 1 (List.map ci r1.Calendar.Holidays)), .p (.sl 5 (List.map GReading.cs r1.Readings)), U r1.Seed, I r1.Session.From, I r1.Session.To, I r1.Session.End, .p (.sl 2 (List.map GSlice.cs r1.Session.Slices)), .p (.sl 2 (List.map GLine.cs r1.Bill.Lines)), I r1.Bill.Net, I r1.Bill.Tax, I (wi (r1.Bill.Total + 1))]), (9, .box 38 [S r1.Tariff.Name, .p (.sl 7 (List.map GArticle.cs r1.Tariff.Articles)), I r1.Calendar.Offset, .p (.sl 2 (List.map GChange.cs r1.Calendar.Changes)), .p (.sl 1 (List.map ci r1.Calendar.Holidays)), .p (.val (.slice none 0 0)), U r1.Seed, I r1.Session.From, I r1.Session.To, I r1.Session.End, .p (.sl 2 (List.map GSlice.cs r1.Session.Slices)), .p (.sl 2 (List.map GLine.cs r1.Bill.Lines)), I r1.Bill.Net, I r1.Bill.Tax, I r1.Bill.Total])]⟩ (by kernel_rfl) ?_
    refine sim_bind (fun j3 => ⟨[(0, B j3)], []⟩ : Bool → St) ?_ ?_
    · refine sim_reg ?_
      refine xs_run 3 (by kernel_rfl) ?_
      refine xs_split (eqI r2.2 0) (fun h4 => ?_) (fun h4 => ?_)
      · refine xs_one (want_tt (by kernel_rfl) h4) (by kernel_rfl) ?_
        refine xs_run 2 (by kernel_rfl) ?_
        refine xs_call [] (by kernel_rfl) (g_ref33_Same_ok n r2.1 r1.Bill) (by kernel_rfl) (by kernel_rfl) (fun _ => by kernel_rfl) (fun r5 => ?_)
        refine xs_run 2 (by kernel_rfl) ?_
        refine xs_split r5 (fun h6 => ?_) (fun h6 => ?_)
        · refine xs_one (want_tt (by kernel_rfl) h6) (by kernel_rfl) ?_
          refine xs_call [] (by kernel_rfl) (g_auditor_Verify_ok n r1) (by kernel_rfl) (by kernel_rfl) (fun _ => by kernel_rfl) (fun r7 => ?_)
          refine xs_run 3 (by kernel_rfl) ?_
          refine xs_split (eqI r7 0) (fun h8 => ?_) (fun h8 => ?_)
          · refine xs_one (want_tt (by kernel_rfl) h8) (by kernel_rfl) ?_
            refine xs_call [] (by kernel_rfl) (g_auditor_Verify_ok n (⟨r1.Tariff, r1.Calendar, r1.Readings, wu (r1.Seed + 1), r1.Session, r1.Bill⟩ : GClaim)) (by kernel_rfl) (by kernel_rfl) (fun _ => by kernel_rfl) (fun r9 => ?_)
            refine xs_run 3 (by kernel_rfl) ?_
            refine xs_split (eqI r9 1) (fun h10 => ?_) (fun h10 => ?_)
            · refine xs_one (want_tt (by kernel_rfl) h10) (by kernel_rfl) ?_
              refine xs_call [.agg [.id, .id, .id, .id, .id, .sl 5, .id, .id, .id, .id, .id, .id, .id, .id, .id]] (by kernel_rfl) (g_auditor_Verify_ok n (⟨r1.Tariff, r1.Calendar, [], r1.Seed, r1.Session, r1.Bill⟩ : GClaim)) (by kernel_rfl) (by kernel_rfl) (fun _ => by kernel_rfl) (fun r11 => ?_)
              refine xs_run 3 (by kernel_rfl) ?_
              refine xs_split (eqI r11 1) (fun h12 => ?_) (fun h12 => ?_)
              · refine xs_one (want_tt (by kernel_rfl) h12) (by kernel_rfl) ?_
                refine xs_call [] (by kernel_rfl) (g_auditor_Verify_ok n (⟨(⟨[116, 97, 120], r1.Tariff.Articles⟩ : GTariff), r1.Calendar, r1.Readings, r1.Seed, r1.Session, r1.Bill⟩ : GClaim)) (by kernel_rfl) (by kernel_rfl) (fun _ => by kernel_rfl) (fun r13 => ?_)
                refine xs_run 3 (by kernel_rfl) ?_
                refine xs_split (eqI r13 2) (fun h14 => ?_) (fun h14 => ?_)
                · refine xs_one (want_tt (by kernel_rfl) h14) (by kernel_rfl) ?_
                  refine xs_call [] (by kernel_rfl) (g_auditor_Verify_ok n (⟨r1.Tariff, r1.Calendar, r1.Readings, r1.Seed, (⟨r1.Session.From, r1.Session.To, wi (r1.Session.End + 1), r1.Session.Slices⟩ : GSession), r1.Bill⟩ : GClaim)) (by kernel_rfl) (by kernel_rfl) (fun _ => by kernel_rfl) (fun r15 => ?_)
                  refine xs_run 3 (by kernel_rfl) ?_
                  refine xs_split (eqI r15 3) (fun h16 => ?_) (fun h16 => ?_)
                  · refine xs_one (want_tt (by kernel_rfl) h16) (by kernel_rfl) ?_
                    refine xs_call [] (by kernel_rfl) (g_auditor_Verify_ok n (⟨r1.Tariff, r1.Calendar, r1.Readings, r1.Seed, r1.Session, (⟨List.drop (Int.toNat 0) (List.take (Int.toNat 1) r1.Bill.Lines), r1.Bill.Net, r1.Bill.Tax, r1.Bill.Total⟩ : GBill)⟩ : GClaim)) (by kernel_rfl) (by kernel_rfl) (fun _ => by kernel_rfl) (fun r17 => ?_)
                    refine xs_run 3 (by kernel_rfl) ?_
                    refine xs_split (eqI r17 4) (fun h18 => ?_) (fun h18 => ?_)
                    · refine xs_one (want_tt (by kernel_rfl) h18) (by kernel_rfl) ?_
                      refine xs_call [] (by kernel_rfl) (g_auditor_Verify_ok n (⟨r1.Tariff, r1.Calendar, r1.Readings, r1.Seed, r1.Session, (⟨r1.Bill.Lines, r1.Bill.Net, r1.Bill.Tax, wi (r1.Bill.Total + 1)⟩ : GBill)⟩ : GClaim)) (by kernel_rfl) (by kernel_rfl) (fun _ => by kernel_rfl) (fun r19 => ?_)
                      refine xs_run 3 (by kernel_rfl) ?_
                      refine xs_end ?_
                      exact nq_n (eqI r19 5) ⟨[0], [], [], []⟩ (by kernel_rfl)
                    · refine xs_no (want_tf (by kernel_rfl) h18) (by kernel_rfl) ?_
                      refine xs_run 4 (by kernel_rfl) ?_
                      refine xs_end ?_
                      exact nq_n false ⟨[0], [], [], []⟩ (by kernel_rfl)
                  · refine xs_no (want_tf (by kernel_rfl) h16) (by kernel_rfl) ?_
                    refine xs_run 9 (by kernel_rfl) ?_
                    refine xs_end ?_
                    exact nq_n false ⟨[0], [], [], []⟩ (by kernel_rfl)
                · refine xs_no (want_tf (by kernel_rfl) h14) (by kernel_rfl) ?_
                  refine xs_run 14 (by kernel_rfl) ?_
                  refine xs_end ?_
                  exact nq_n false ⟨[0], [], [], []⟩ (by kernel_rfl)
              · refine xs_no (want_tf (by kernel_rfl) h12) (by kernel_rfl) ?_
                refine xs_run 19 (by kernel_rfl) ?_
                refine xs_end ?_
                exact nq_n false ⟨[0], [], [], []⟩ (by kernel_rfl)
            · refine xs_no (want_tf (by kernel_rfl) h10) (by kernel_rfl) ?_
              refine xs_run 24 (by kernel_rfl) ?_
              refine xs_end ?_
              exact nq_n false ⟨[0], [], [], []⟩ (by kernel_rfl)
          · refine xs_no (want_tf (by kernel_rfl) h8) (by kernel_rfl) ?_
            refine xs_run 29 (by kernel_rfl) ?_
            refine xs_end ?_
            exact nq_n false ⟨[0], [], [], []⟩ (by kernel_rfl)
        · refine xs_no (want_tf (by kernel_rfl) h6) (by kernel_rfl) ?_
          refine xs_run 34 (by kernel_rfl) ?_
          refine xs_end ?_
          exact nq_n false ⟨[0], [], [], []⟩ (by kernel_rfl)
      · refine xs_no (want_tf (by kernel_rfl) h4) (by kernel_rfl) ?_
        refine xs_run 40 (by kernel_rfl) ?_
        refine xs_end ?_
        exact nq_n false ⟨[0], [], [], []⟩ (by kernel_rfl)
    · rintro j3
      refine sim_ret ?_
      exact rq_ret (.id) (by kernel_rfl) (by kernel_rfl) (by kernel_rfl)
def g_ref26_Few (n : Nat) (a0c : GCalendar) : Option Bool :=
  cond (leI (lenI (List.map GChange.cs a0c.Changes)) 30)
    (some (leI (lenI (List.map ci a0c.Holidays)) 60))
    (some false)
theorem g_ref26_Few_ok (n : Nat) (a0c : GCalendar) : ∀ r, g_ref26_Few n a0c = some r → PCall Try.prog 29 [ag (GCalendar.cs a0c)] (.ret (B r)) := by
  refine pcall_sim (X := fun r : Bool => AEnd.ret (B r)) Try.func29 rfl Try.ntmps29 rfl ?_
  unfold g_ref26_Few
  refine sim_run Try.fm ⟨[1], [1], [], []⟩ ⟨[(1, .ptr 1 0)], [(1, .box 28 (bxc (GCalendar.cs a0c)))]⟩ (by kernel_rfl) ?_
  refine sim_seq ?_
  refine sim_reg ?_
  refine xs_run 5 (by kernel_rfl) ?_
  refine xs_split (leI (lenI (List.map GChange.cs a0c.Changes)) 30) (fun h1 => ?_) (fun h1 => ?_)
  · refine xs_one (want_tt (by kernel_rfl) h1) (by kernel_rfl) ?_
    refine xs_run 5 (by kernel_rfl) ?_
    refine xs_end ?_
    refine sq_nk ⟨[2], [], [], []⟩ ⟨[(2, B (leI (lenI (List.map ci a0c.Holidays)) 60))], []⟩ (by kernel_rfl) ?_
    refine sim_ret ?_
    exact rq_ret (.id) (by kernel_rfl) (by kernel_rfl) (by kernel_rfl)
  · refine xs_no (want_tf (by kernel_rfl) h1) (by kernel_rfl) ?_
    refine xs_run 5 (by kernel_rfl) ?_
    refine xs_end ?_
    refine sq_nk ⟨[2], [], [], []⟩ ⟨[(2, B false)], []⟩ (by kernel_rfl) ?_
    refine sim_ret ?_
    exact rq_ret (.id) (by kernel_rfl) (by kernel_rfl) (by kernel_rfl)
def g_ref33_Few (n : Nat) (a0t : GTariff) (a1c : GCalendar) (a2s : GSession) : Option Bool :=
  (g_ref26_Few n a1c).bind fun r1 =>
  cond r1
    (cond (leI (lenI a0t.Name) 50)
      (cond (leI (lenI (List.map GArticle.cs a0t.Articles)) 20)
        (some (leI (lenI (List.map GSlice.cs a2s.Slices)) 60))
        (some false))
      (some false))
    (some false)
theorem g_ref33_Few_ok (n : Nat) (a0t : GTariff) (a1c : GCalendar) (a2s : GSession) : ∀ r, g_ref33_Few n a0t a1c a2s = some r → PCall Try.prog 16 [ag (GTariff.cs a0t), ag (GCalendar.cs a1c), ag (GSession.cs a2s)] (.ret (B r)) := by
  refine pcall_sim (X := fun r : Bool => AEnd.ret (B r)) Try.func16 rfl Try.ntmps16 rfl ?_
  unfold g_ref33_Few
  refine sim_run Try.fm ⟨[3, 4, 5], [3, 4, 5], [], []⟩ ⟨[(3, .ptr 3 0), (4, .ptr 4 0), (5, .ptr 5 0)], [(3, .box 24 (bxc (GTariff.cs a0t))), (4, .box 28 (bxc (GCalendar.cs a1c))), (5, .box 33 (bxc (GSession.cs a2s)))]⟩ (by kernel_rfl) ?_
  refine sim_seq ?_
  refine sim_reg ?_
  refine xs_run 1 (by kernel_rfl) ?_
  refine xs_call [] (by kernel_rfl) (g_ref26_Few_ok n a1c) (by kernel_rfl) (by kernel_rfl) (fun _ => by kernel_rfl) (fun r1 => ?_)
  refine xs_run 1 (by kernel_rfl) ?_
  refine xs_end ?_
  refine sq_nk ⟨[3, 5, 7], [3, 5], [], []⟩ ⟨[(3, .ptr 3 0), (5, .ptr 5 0), (7, B r1)], [(3, .box 24 (bxc (GTariff.cs a0t))), (5, .box 33 (bxc (GSession.cs a2s)))]⟩ (by kernel_rfl) ?_
  refine sim_seq ?_
  refine sim_reg ?_
  refine xs_run 2 (by kernel_rfl) ?_
  refine xs_split r1 (fun h2 => ?_) (fun h2 => ?_)
  · refine xs_one (want_tt (by kernel_rfl) h2) (by kernel_rfl) ?_
    refine xs_run 5 (by kernel_rfl) ?_
    refine xs_split (leI (lenI a0t.Name) 50) (fun h3 => ?_) (fun h3 => ?_)
    · refine xs_one (want_tt (by kernel_rfl) h3) (by kernel_rfl) ?_
      refine xs_run 5 (by kernel_rfl) ?_
      refine xs_split (leI (lenI (List.map GArticle.cs a0t.Articles)) 20) (fun h4 => ?_) (fun h4 => ?_)
      · refine xs_one (want_tt (by kernel_rfl) h4) (by kernel_rfl) ?_
        refine xs_run 5 (by kernel_rfl) ?_
        refine xs_end ?_
        refine sq_nk ⟨[6], [], [], []⟩ ⟨[(6, B (leI (lenI (List.map GSlice.cs a2s.Slices)) 60))], []⟩ (by kernel_rfl) ?_
        refine sim_ret ?_
        exact rq_ret (.id) (by kernel_rfl) (by kernel_rfl) (by kernel_rfl)
      · refine xs_no (want_tf (by kernel_rfl) h4) (by kernel_rfl) ?_
        refine xs_run 5 (by kernel_rfl) ?_
        refine xs_end ?_
        refine sq_nk ⟨[6], [], [], []⟩ ⟨[(6, B false)], []⟩ (by kernel_rfl) ?_
        refine sim_ret ?_
        exact rq_ret (.id) (by kernel_rfl) (by kernel_rfl) (by kernel_rfl)
    · refine xs_no (want_tf (by kernel_rfl) h3) (by kernel_rfl) ?_
      refine xs_run 11 (by kernel_rfl) ?_
      refine xs_end ?_
      refine sq_nk ⟨[6], [], [], []⟩ ⟨[(6, B false)], []⟩ (by kernel_rfl) ?_
      refine sim_ret ?_
      exact rq_ret (.id) (by kernel_rfl) (by kernel_rfl) (by kernel_rfl)
  · refine xs_no (want_tf (by kernel_rfl) h2) (by kernel_rfl) ?_
    refine xs_run 17 (by kernel_rfl) ?_
    refine xs_end ?_
    refine sq_nk ⟨[6], [], [], []⟩ ⟨[(6, B false)], []⟩ (by kernel_rfl) ?_
    refine sim_ret ?_
    exact rq_ret (.id) (by kernel_rfl) (by kernel_rfl) (by kernel_rfl)
def g_ref43_Few (n : Nat) (a0c : GClaim) : Option Bool :=
  (g_ref33_Few n a0c.Tariff a0c.Calendar a0c.Session).bind fun r1 =>
  cond r1
    (cond (leI (lenI (List.map GReading.cs a0c.Readings)) 80)
      (some (leI (lenI (List.map GLine.cs a0c.Bill.Lines)) 40))
      (some false))
    (some false)
theorem g_ref43_Few_ok (n : Nat) (a0c : GClaim) : ∀ r, g_ref43_Few n a0c = some r → PCall Try.prog 9 [ag (GClaim.cs a0c)] (.ret (B r)) := by
  refine pcall_sim (X := fun r : Bool => AEnd.ret (B r)) Try.func9 rfl Try.ntmps9 rfl ?_
  unfold g_ref43_Few
  refine sim_run Try.fm ⟨[1], [1], [], []⟩ ⟨[(1, .ptr 1 0)], [(1, .box 38 (bxc (GClaim.cs a0c)))]⟩ (by kernel_rfl) ?_
  refine sim_seq ?_
  refine sim_reg ?_
  refine xs_run 6 (by kernel_rfl) ?_
  refine xs_call [] (by kernel_rfl) (g_ref33_Few_ok n a0c.Tariff a0c.Calendar a0c.Session) (by kernel_rfl) (by kernel_rfl) (fun _ => by kernel_rfl) (fun r1 => ?_)
  refine xs_run 1 (by kernel_rfl) ?_
  refine xs_split r1 (fun h2 => ?_) (fun h2 => ?_)
  · refine xs_one (want_tt (by kernel_rfl) h2) (by kernel_rfl) ?_
    refine xs_run 5 (by kernel_rfl) ?_
    refine xs_split (leI (lenI (List.map GReading.cs a0c.Readings)) 80) (fun h3 => ?_) (fun h3 => ?_)
    · refine xs_one (want_tt (by kernel_rfl) h3) (by kernel_rfl) ?_
      refine xs_run 6 (by kernel_rfl) ?_
      refine xs_end ?_
      refine sq_nk ⟨[2], [], [], []⟩ ⟨[(2, B (leI (lenI (List.map GLine.cs a0c.Bill.Lines)) 40))], []⟩ (by kernel_rfl) ?_
      refine sim_ret ?_
      exact rq_ret (.id) (by kernel_rfl) (by kernel_rfl) (by kernel_rfl)
    · refine xs_no (want_tf (by kernel_rfl) h3) (by kernel_rfl) ?_
      refine xs_run 6 (by kernel_rfl) ?_
      refine xs_end ?_
      refine sq_nk ⟨[2], [], [], []⟩ ⟨[(2, B false)], []⟩ (by kernel_rfl) ?_
      refine sim_ret ?_
      exact rq_ret (.id) (by kernel_rfl) (by kernel_rfl) (by kernel_rfl)
  · refine xs_no (want_tf (by kernel_rfl) h2) (by kernel_rfl) ?_
    refine xs_run 12 (by kernel_rfl) ?_
    refine xs_end ?_
    refine sq_nk ⟨[2], [], [], []⟩ ⟨[(2, B false)], []⟩ (by kernel_rfl) ?_
    refine sim_ret ?_
    exact rq_ret (.id) (by kernel_rfl) (by kernel_rfl) (by kernel_rfl)
def g_law43_AuditorReadings (n : Nat) (a0c : GClaim) (a1i : Int) (a2which : Int) (a3at : Int) (a4by : Int) : Option Bool :=
  (g_law43_head n).bind fun r1 =>
  ((g_ref43_Few n a0c).bind fun r3 =>
  cond (!r3)
    (some true)
    (cond (eqI a4by 0)
      (some true)
      ((g_auditor_Verify n a0c).bind fun r6 =>
      cond (!eqI r6 0)
        (some true)
        (some (eqI (lenI (List.map GReading.cs a0c.Readings)) 0))))).bind fun j2 =>
  cond j2
    (some r1)
    (cond (roomB (List.length ([] ++ a0c.Readings)) 40) (
      cond (!eqI (lenI (List.map GReading.cs ([] ++ a0c.Readings))) 0) (
        (getI ([] ++ a0c.Readings) (Int.tmod (wi a1i) (lenI (List.map GReading.cs ([] ++ a0c.Readings))))).bind fun x8 =>
        cond (!ltI (w8 (8 * (Int.tmod a3at 8))) 0) (
          (cond (eqI (Int.tmod a2which 6) 0)
            (some (List.set ([] ++ a0c.Readings) (Int.toNat (Int.tmod (wi a1i) (lenI (List.map GReading.cs ([] ++ a0c.Readings))))) (⟨bXor .i64 x8.Serial (wi (shlI .u64 (wu a4by) (w8 (8 * (Int.tmod a3at 8))))), x8.Number, x8.Minute, x8.Register, x8.Link⟩ : GReading), a0c.Seed))
            (cond (eqI (Int.tmod a2which 6) 1)
              (some (List.set ([] ++ a0c.Readings) (Int.toNat (Int.tmod (wi a1i) (lenI (List.map GReading.cs ([] ++ a0c.Readings))))) (⟨x8.Serial, bXor .i64 x8.Number (wi (shlI .u64 (wu a4by) (w8 (8 * (Int.tmod a3at 8))))), x8.Minute, x8.Register, x8.Link⟩ : GReading), a0c.Seed))
              (cond (eqI (Int.tmod a2which 6) 2)
                (some (List.set ([] ++ a0c.Readings) (Int.toNat (Int.tmod (wi a1i) (lenI (List.map GReading.cs ([] ++ a0c.Readings))))) (⟨x8.Serial, x8.Number, bXor .i64 x8.Minute (wi (shlI .u64 (wu a4by) (w8 (8 * (Int.tmod a3at 8))))), x8.Register, x8.Link⟩ : GReading), a0c.Seed))
                (cond (eqI (Int.tmod a2which 6) 3)
                  (some (List.set ([] ++ a0c.Readings) (Int.toNat (Int.tmod (wi a1i) (lenI (List.map GReading.cs ([] ++ a0c.Readings))))) (⟨x8.Serial, x8.Number, x8.Minute, bXor .i64 x8.Register (wi (shlI .u64 (wu a4by) (w8 (8 * (Int.tmod a3at 8))))), x8.Link⟩ : GReading), a0c.Seed))
                  (cond (eqI (Int.tmod a2which 6) 4)
                    (some (List.set ([] ++ a0c.Readings) (Int.toNat (Int.tmod (wi a1i) (lenI (List.map GReading.cs ([] ++ a0c.Readings))))) (⟨x8.Serial, x8.Number, x8.Minute, x8.Register, bXor .u64 x8.Link (shlI .u64 (wu a4by) (w8 (8 * (Int.tmod a3at 8))))⟩ : GReading), a0c.Seed))
                    (some ([] ++ a0c.Readings, bXor .u64 a0c.Seed (shlI .u64 (wu a4by) (w8 (8 * (Int.tmod a3at 8))))))))))).bind fun (j9_1, j9_2) =>
          cond r1
            ((g_auditor_Verify n (⟨a0c.Tariff, a0c.Calendar, j9_1, j9_2, a0c.Session, a0c.Bill⟩ : GClaim)).bind fun r11 =>
            some (eqI r11 1))
            (some false)) none) none) none)
end Go.Proofs
