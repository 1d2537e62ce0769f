/-
  Proved: AuditorReadings. If one byte of one number or of the link of a reading of an accepted claim is changed, or the seed, the chain is found wrong; for every claim and every change. No conditions beyond those of the given statement.
-/
import Derived.Test.YtgehgobiibddaaaRead04
namespace Go.Proofs
open Go Go.Abs
set_option maxRecDepth 100000
set_option linter.unusedVariables false
theorem g_law43_AuditorReadings_ok (n : Nat) (a0c : GClaim) (a1i : Int) (a2which : Int) (a3at : Int) (a4by : Int) : ∀ r, g_law43_AuditorReadings n a0c a1i a2which a3at a4by = some r → PCall Try.prog 4 [ag (GClaim.cs a0c), B8 a1i, B8 a2which, B8 a3at, B8 a4by] (.ret (B r)) := by
  refine pcall_sim (X := fun r : Bool => AEnd.ret (B r)) Try.func4 rfl Try.ntmps4 rfl ?_
  unfold g_law43_AuditorReadings
  refine sim_run Try.fm ⟨[1, 2, 3, 4, 5], [5], [], []⟩ ⟨[(1, B8 a1i), (2, B8 a2which), (3, B8 a3at), (4, B8 a4by), (5, .ptr 5 0)], [(5, .box 38 (bxc (GClaim.cs a0c)))]⟩ (by kernel_rfl) ?_
  refine sim_seq ?_
  refine sim_reg ?_
  refine xs_call [] (by kernel_rfl) (g_law43_head_ok n) (by kernel_rfl) (by kernel_rfl) (fun _ => by kernel_rfl) (fun r1 => ?_)
  refine xs_run 1 (by kernel_rfl) ?_
  refine xs_end ?_
  refine sq_nk ⟨[1, 2, 3, 4, 5, 11], [5], [], []⟩ ⟨[(1, B8 a1i), (2, B8 a2which), (3, B8 a3at), (4, B8 a4by), (5, .ptr 5 0), (11, B r1)], [(5, .box 38 (bxc (GClaim.cs a0c)))]⟩ (by kernel_rfl) ?_
  refine sim_seq ?_
  refine sim_bind (fun j2 => ⟨[(1, B8 a1i), (2, B8 a2which), (3, B8 a3at), (4, B8 a4by), (5, .ptr 5 0), (11, B r1), (32, B j2)], [(5, .box 38 (bxc (GClaim.cs a0c)))]⟩ : Bool → St) ?_ ?_
  · refine sim_reg ?_
    refine xs_run 1 (by kernel_rfl) ?_
    refine xs_call [] (by kernel_rfl) (g_ref43_Few_ok n a0c) (by kernel_rfl) (by kernel_rfl) (fun _ => by kernel_rfl) (fun r3 => ?_)
    refine xs_run 2 (by kernel_rfl) ?_
    refine xs_split (!r3) (fun h4 => ?_) (fun h4 => ?_)
    · refine xs_no (want_ft (by kernel_rfl) h4) (by kernel_rfl) ?_
      refine xs_run 13 (by kernel_rfl) ?_
      refine xs_end ?_
      exact nq_n true ⟨[1, 2, 3, 4, 5, 11, 32], [5], [], []⟩ (by kernel_rfl)
    · refine xs_one (want_ff (by kernel_rfl) h4) (by kernel_rfl) ?_
      refine xs_run 3 (by kernel_rfl) ?_
      refine xs_split (eqI a4by 0) (fun h5 => ?_) (fun h5 => ?_)
      · refine xs_no (want_ft (by kernel_rfl) h5) (by kernel_rfl) ?_
        refine xs_run 9 (by kernel_rfl) ?_
        refine xs_end ?_
        exact nq_n true ⟨[1, 2, 3, 4, 5, 11, 32], [5], [], []⟩ (by kernel_rfl)
      · refine xs_one (want_ff (by kernel_rfl) h5) (by kernel_rfl) ?_
        refine xs_call [] (by kernel_rfl) (g_auditor_Verify_ok n a0c) (by kernel_rfl) (by kernel_rfl) (fun _ => by kernel_rfl) (fun r6 => ?_)
        refine xs_run 3 (by kernel_rfl) ?_
        refine xs_split (!eqI r6 0) (fun h7 => ?_) (fun h7 => ?_)
        · refine xs_no (want_ft (by kernel_rfl) h7) (by kernel_rfl) ?_
          refine xs_run 4 (by kernel_rfl) ?_
          refine xs_end ?_
          exact nq_n true ⟨[1, 2, 3, 4, 5, 11, 32], [5], [], []⟩ (by kernel_rfl)
        · refine xs_one (want_ff (by kernel_rfl) h7) (by kernel_rfl) ?_
          refine xs_run 4 (by kernel_rfl) ?_
          refine xs_end ?_
          exact nq_n (eqI (lenI (List.map GReading.cs a0c.Readings)) 0) ⟨[1, 2, 3, 4, 5, 11, 32], [5], [], []⟩ (by kernel_rfl)
  · rintro j2
    refine sim_cond j2 (by kernel_rfl) ?_ ?_
    · refine sim_run Try.fm ⟨[10], [], [], []⟩ ⟨[(10, B r1)], []⟩ (by kernel_rfl) ?_
      refine sim_ret ?_
      refine sq_r ?_
      exact rq_ret (.id) (by kernel_rfl) (by kernel_rfl) (by kernel_rfl)
    · refine sim_skip ?_
      refine sq_nk ⟨[1, 2, 3, 4, 5, 11], [5], [], []⟩ ⟨[(1, B8 a1i), (2, B8 a2which), (3, B8 a3at), (4, B8 a4by), (5, .ptr 5 0), (11, B r1)], [(5, .box 38 (bxc (GClaim.cs a0c)))]⟩ (by kernel_rfl) ?_
      refine sim_seq ?_
      refine sim_reg ?_
      refine xs_run 3 (by kernel_rfl) ?_
      refine xs_if (by kernel_rfl) (by kernel_rfl) (aop_vapp (e := 48) (S := 5) (by_ := 40) (enc := GReading.cs) (tk := 34) (l := []) (l2 := a0c.Readings) (xv := .p (.sl 5 (List.map GReading.cs a0c.Readings))) (n := (List.map GReading.cs []).length) rfl (by kernel_rfl) (by kernel_rfl) rfl (by kernel_rfl) (by kernel_rfl) (by kernel_rfl) (by kernel_rfl) (by simp)) ?_
      refine xs_run 2 (by kernel_rfl) ?_
      refine xs_end ?_
      refine sq_nk ⟨[1, 2, 3, 4, 5, 11], [5, 34], [], []⟩ ⟨[(1, B8 a1i), (2, B8 a2which), (3, B8 a3at), (4, B8 a4by), (5, .ptr 5 0), (11, B r1)], [(5, .box 38 [S a0c.Tariff.Name, .p (.sl 7 (List.map GArticle.cs a0c.Tariff.Articles)), I a0c.Calendar.Offset, .p (.sl 2 (List.map GChange.cs a0c.Calendar.Changes)), .p (.sl 1 (List.map ci a0c.Calendar.Holidays)), .vsl 5 34 (List.map GReading.cs ([] ++ a0c.Readings)).length, U a0c.Seed, I a0c.Session.From, I a0c.Session.To, I a0c.Session.End, .p (.sl 2 (List.map GSlice.cs a0c.Session.Slices)), .p (.sl 2 (List.map GLine.cs a0c.Bill.Lines)), I a0c.Bill.Net, I a0c.Bill.Tax, I a0c.Bill.Total]), (34, .vec 48 5 (List.map GReading.cs ([] ++ a0c.Readings)))]⟩ (by kernel_rfl) ?_
      refine sim_seq ?_
      refine sim_drw Try.fm rfl ?_
      refine xs_run 6 (by kernel_rfl) ?_
      refine xs_u (by kernel_rfl) (by kernel_rfl) (aop_vlen (tk := 34) (es := List.map GReading.cs ([] ++ a0c.Readings)) (S := 5) (n := (List.map GReading.cs ([] ++ a0c.Readings)).length) (e := 48) (ty := 48) rfl (by kernel_rfl) (by kernel_rfl) (by kernel_rfl) (by simp)) ?_
      refine xs_if (by kernel_rfl) (by kernel_rfl) (aop_rem (k := .i64) (a := wi a1i) (b := lenI (List.map GReading.cs ([] ++ a0c.Readings))) rfl (by kernel_rfl) (by kernel_rfl)) ?_
      refine xs_getH (by kernel_rfl) (by kernel_rfl) (aop_vidx (e := 48) (S := 5) (tk := 34) (ty := 48) (enc := GReading.cs) (l := [] ++ a0c.Readings) (k := .i64) (n := Int.tmod (wi a1i) (lenI (List.map GReading.cs ([] ++ a0c.Readings)))) (nn := (List.map GReading.cs ([] ++ a0c.Readings)).length) rfl (by kernel_rfl) (by kernel_rfl) (by kernel_rfl) (by kernel_rfl) (by kernel_rfl) (by simp)) (fun x8 hx8 => ?_)
      refine xs_run 1 (by kernel_rfl) ?_
      refine xs_endD (by kernel_rfl) ?_
      refine sq_nk ⟨[2, 3, 4, 5, 11, 12], [5, 34], [], []⟩ ⟨[(2, B8 a2which), (3, B8 a3at), (4, B8 a4by), (5, .ptr 5 0), (11, B r1), (12, .vptr 34 (List.map GReading.cs ([] ++ a0c.Readings)).length (Int.toNat (Int.tmod (wi a1i) (lenI (List.map GReading.cs ([] ++ a0c.Readings))))) 0)], [(5, .box 38 [S a0c.Tariff.Name, .p (.sl 7 (List.map GArticle.cs a0c.Tariff.Articles)), I a0c.Calendar.Offset, .p (.sl 2 (List.map GChange.cs a0c.Calendar.Changes)), .p (.sl 1 (List.map ci a0c.Calendar.Holidays)), .vsl 5 34 (List.map GReading.cs ([] ++ a0c.Readings)).length, U a0c.Seed, I a0c.Session.From, I a0c.Session.To, I a0c.Session.End, .p (.sl 2 (List.map GSlice.cs a0c.Session.Slices)), .p (.sl 2 (List.map GLine.cs a0c.Bill.Lines)), I a0c.Bill.Net, I a0c.Bill.Tax, I a0c.Bill.Total]), (34, .vec 48 5 (List.map GReading.cs ([] ++ a0c.Readings)))]⟩ (by kernel_rfl) ?_
      refine sim_seq ?_
      refine sim_reg ?_
      refine xs_run 5 (by kernel_rfl) ?_
      refine xs_if (by kernel_rfl) (by kernel_rfl) (aop_shl (k := .u64) (k' := .u8) (a := wu a4by) (b := w8 (8 * (Int.tmod a3at 8))) rfl (by kernel_rfl) (by kernel_rfl)) ?_
      refine xs_run 1 (by kernel_rfl) ?_
      refine xs_end ?_
      refine sq_nk ⟨[2, 5, 11, 12, 13], [5, 34], [], []⟩ ⟨[(2, B8 a2which), (5, .ptr 5 0), (11, B r1), (12, .vptr 34 (List.map GReading.cs ([] ++ a0c.Readings)).length (Int.toNat (Int.tmod (wi a1i) (lenI (List.map GReading.cs ([] ++ a0c.Readings))))) 0), (13, U (shlI .u64 (wu a4by) (w8 (8 * (Int.tmod a3at 8)))))], [(5, .box 38 [S a0c.Tariff.Name, .p (.sl 7 (List.map GArticle.cs a0c.Tariff.Articles)), I a0c.Calendar.Offset, .p (.sl 2 (List.map GChange.cs a0c.Calendar.Changes)), .p (.sl 1 (List.map ci a0c.Calendar.Holidays)), .vsl 5 34 (List.map GReading.cs ([] ++ a0c.Readings)).length, U a0c.Seed, I a0c.Session.From, I a0c.Session.To, I a0c.Session.End, .p (.sl 2 (List.map GSlice.cs a0c.Session.Slices)), .p (.sl 2 (List.map GLine.cs a0c.Bill.Lines)), I a0c.Bill.Net, I a0c.Bill.Tax, I a0c.Bill.Total]), (34, .vec 48 5 (List.map GReading.cs ([] ++ a0c.Readings)))]⟩ (by kernel_rfl) ?_
      refine sim_bind (fun (j9_1, j9_2) => ⟨[(5, .ptr 5 0), (11, B r1)], [(5, .box 38 [S a0c.Tariff.Name, .p (.sl 7 (List.map GArticle.cs a0c.Tariff.Articles)), I a0c.Calendar.Offset, .p (.sl 2 (List.map GChange.cs a0c.Calendar.Changes)), .p (.sl 1 (List.map ci a0c.Calendar.Holidays)), .p (.sl 5 (List.map GReading.cs j9_1)), U j9_2, I a0c.Session.From, I a0c.Session.To, I a0c.Session.End, .p (.sl 2 (List.map GSlice.cs a0c.Session.Slices)), .p (.sl 2 (List.map GLine.cs a0c.Bill.Lines)), I a0c.Bill.Net, I a0c.Bill.Tax, I a0c.Bill.Total])]⟩ : ((List GReading) × Int) → St) ?_ ?_
      · refine sim_run Try.fm ⟨[5, 11, 12, 13, 55], [5, 34], [], []⟩ ⟨[(5, .ptr 5 0), (11, B r1), (12, .vptr 34 (List.map GReading.cs ([] ++ a0c.Readings)).length (Int.toNat (Int.tmod (wi a1i) (lenI (List.map GReading.cs ([] ++ a0c.Readings))))) 0), (13, U (shlI .u64 (wu a4by) (w8 (8 * (Int.tmod a3at 8))))), (55, B8 (Int.tmod a2which 6))], [(5, .box 38 [S a0c.Tariff.Name, .p (.sl 7 (List.map GArticle.cs a0c.Tariff.Articles)), I a0c.Calendar.Offset, .p (.sl 2 (List.map GChange.cs a0c.Calendar.Changes)), .p (.sl 1 (List.map ci a0c.Calendar.Holidays)), .vsl 5 34 (List.map GReading.cs ([] ++ a0c.Readings)).length, U a0c.Seed, I a0c.Session.From, I a0c.Session.To, I a0c.Session.End, .p (.sl 2 (List.map GSlice.cs a0c.Session.Slices)), .p (.sl 2 (List.map GLine.cs a0c.Bill.Lines)), I a0c.Bill.Net, I a0c.Bill.Tax, I a0c.Bill.Total]), (34, .vec 48 5 (List.map GReading.cs ([] ++ a0c.Readings)))]⟩ (by kernel_rfl) ?_
        refine sim_block ?_
        refine sim_run Try.fm ⟨[5, 11, 12, 13, 55, 61], [5, 34], [], []⟩ ⟨[(5, .ptr 5 0), (11, B r1), (12, .vptr 34 (List.map GReading.cs ([] ++ a0c.Readings)).length (Int.toNat (Int.tmod (wi a1i) (lenI (List.map GReading.cs ([] ++ a0c.Readings))))) 0), (13, U (shlI .u64 (wu a4by) (w8 (8 * (Int.tmod a3at 8))))), (55, B8 (Int.tmod a2which 6)), (61, B (eqI (Int.tmod a2which 6) 0))], [(5, .box 38 [S a0c.Tariff.Name, .p (.sl 7 (List.map GArticle.cs a0c.Tariff.Articles)), I a0c.Calendar.Offset, .p (.sl 2 (List.map GChange.cs a0c.Calendar.Changes)), .p (.sl 1 (List.map ci a0c.Calendar.Holidays)), .vsl 5 34 (List.map GReading.cs ([] ++ a0c.Readings)).length, U a0c.Seed, I a0c.Session.From, I a0c.Session.To, I a0c.Session.End, .p (.sl 2 (List.map GSlice.cs a0c.Session.Slices)), .p (.sl 2 (List.map GLine.cs a0c.Bill.Lines)), I a0c.Bill.Net, I a0c.Bill.Tax, I a0c.Bill.Total]), (34, .vec 48 5 (List.map GReading.cs ([] ++ a0c.Readings)))]⟩ (by kernel_rfl) ?_
        refine sim_cond (eqI (Int.tmod a2which 6) 0) (by kernel_rfl) ?_ ?_
        · refine sim_reg ?_
          refine xs_run 1 (by kernel_rfl) ?_
          refine xs_u (by kernel_rfl) (by kernel_rfl) (aop_vnc (S := 5) (ty := 48) (tk := 34) (k := Int.toNat (Int.tmod (wi a1i) (lenI (List.map GReading.cs ([] ++ a0c.Readings))))) (f := 0) (es := List.map GReading.cs ([] ++ a0c.Readings)) rfl (by kernel_rfl) (by kernel_rfl)) ?_
          refine xs_u (by kernel_rfl) (by kernel_rfl) (aop_vfld (S := 5) (ty := 48) (tk := 34) (k := Int.toNat (Int.tmod (wi a1i) (lenI (List.map GReading.cs ([] ++ a0c.Readings))))) (g := 0) (off := 0) (es := List.map GReading.cs ([] ++ a0c.Readings)) rfl (by kernel_rfl) (by kernel_rfl) (by kernel_rfl)) ?_
          refine xs_u (by kernel_rfl) (by kernel_rfl) (aop_vld (S := 5) (tb := 48) (tk := 34) (n := Int.toNat (Int.tmod (wi a1i) (lenI (List.map GReading.cs ([] ++ a0c.Readings))))) (f := 0) (enc := GReading.cs) (l := [] ++ a0c.Readings) (v := x8) (c := I x8.Serial) rfl (by kernel_rfl) (by kernel_rfl) (getI_at hx8) (by kernel_rfl)) ?_
          refine xs_run 3 (by kernel_rfl) ?_
          refine xs_u (by kernel_rfl) (by kernel_rfl) (aop_vnc (S := 5) (ty := 48) (tk := 34) (k := Int.toNat (Int.tmod (wi a1i) (lenI (List.map GReading.cs ([] ++ a0c.Readings))))) (f := 0) (es := List.map GReading.cs ([] ++ a0c.Readings)) rfl (by kernel_rfl) (by kernel_rfl)) ?_
          refine xs_u (by kernel_rfl) (by kernel_rfl) (aop_vfld (S := 5) (ty := 48) (tk := 34) (k := Int.toNat (Int.tmod (wi a1i) (lenI (List.map GReading.cs ([] ++ a0c.Readings))))) (g := 0) (off := 0) (es := List.map GReading.cs ([] ++ a0c.Readings)) rfl (by kernel_rfl) (by kernel_rfl) (by kernel_rfl)) ?_
          refine xs_u (by kernel_rfl) (by kernel_rfl) (aop_vst (S := 5) (tb := 48) (tk := 34) (n := Int.toNat (Int.tmod (wi a1i) (lenI (List.map GReading.cs ([] ++ a0c.Readings))))) (f := 0) (enc := GReading.cs) (l := [] ++ a0c.Readings) (v := x8) (v' := (⟨bXor .i64 x8.Serial (wi (shlI .u64 (wu a4by) (w8 (8 * (Int.tmod a3at 8))))), x8.Number, x8.Minute, x8.Register, x8.Link⟩ : GReading)) (xv := I (bXor .i64 x8.Serial (wi (shlI .u64 (wu a4by) (w8 (8 * (Int.tmod a3at 8))))))) rfl (by kernel_rfl) (by kernel_rfl) (by kernel_rfl) (getI_at hx8) (by kernel_rfl)) ?_
          refine xs_end ?_
          refine bq_n ?_
          exact nq_f (List.set ([] ++ a0c.Readings) (Int.toNat (Int.tmod (wi a1i) (lenI (List.map GReading.cs ([] ++ a0c.Readings))))) (⟨bXor .i64 x8.Serial (wi (shlI .u64 (wu a4by) (w8 (8 * (Int.tmod a3at 8))))), x8.Number, x8.Minute, x8.Register, x8.Link⟩ : GReading), a0c.Seed) ⟨[5, 11], [5, 34], [], []⟩ ⟨[(5, .ptr 5 0), (11, B r1)], [(5, .box 38 [S a0c.Tariff.Name, .p (.sl 7 (List.map GArticle.cs a0c.Tariff.Articles)), I a0c.Calendar.Offset, .p (.sl 2 (List.map GChange.cs a0c.Calendar.Changes)), .p (.sl 1 (List.map ci a0c.Calendar.Holidays)), .vsl 5 34 (List.map GReading.cs ([] ++ a0c.Readings)).length, U a0c.Seed, I a0c.Session.From, I a0c.Session.To, I a0c.Session.End, .p (.sl 2 (List.map GSlice.cs a0c.Session.Slices)), .p (.sl 2 (List.map GLine.cs a0c.Bill.Lines)), I a0c.Bill.Net, I a0c.Bill.Tax, I a0c.Bill.Total]), (34, .vec 48 5 (List.map GReading.cs (List.set ([] ++ a0c.Readings) (Int.toNat (Int.tmod (wi a1i) (lenI (List.map GReading.cs ([] ++ a0c.Readings))))) (⟨bXor .i64 x8.Serial (wi (shlI .u64 (wu a4by) (w8 (8 * (Int.tmod a3at 8))))), x8.Number, x8.Minute, x8.Register, x8.Link⟩ : GReading))))]⟩ (by kernel_rfl) (weak_vfz 34 48 5 (List.map GReading.cs (List.set ([] ++ a0c.Readings) (Int.toNat (Int.tmod (wi a1i) (lenI (List.map GReading.cs ([] ++ a0c.Readings))))) (⟨bXor .i64 x8.Serial (wi (shlI .u64 (wu a4by) (w8 (8 * (Int.tmod a3at 8))))), x8.Number, x8.Minute, x8.Register, x8.Link⟩ : GReading))) [(List.map GReading.cs ([] ++ a0c.Readings)).length] (by kernel_rfl) (by kernel_rfl) (by simp) (by kernel_rfl) (by kernel_rfl)) ⟨[5, 11], [5], [], []⟩ (by kernel_rfl)
        · refine sim_run Try.fm ⟨[5, 11, 12, 13, 55, 72], [5, 34], [], []⟩ ⟨[(5, .ptr 5 0), (11, B r1), (12, .vptr 34 (List.map GReading.cs ([] ++ a0c.Readings)).length (Int.toNat (Int.tmod (wi a1i) (lenI (List.map GReading.cs ([] ++ a0c.Readings))))) 0), (13, U (shlI .u64 (wu a4by) (w8 (8 * (Int.tmod a3at 8))))), (55, B8 (Int.tmod a2which 6)), (72, B (eqI (Int.tmod a2which 6) 1))], [(5, .box 38 [S a0c.Tariff.Name, .p (.sl 7 (List.map GArticle.cs a0c.Tariff.Articles)), I a0c.Calendar.Offset, .p (.sl 2 (List.map GChange.cs a0c.Calendar.Changes)), .p (.sl 1 (List.map ci a0c.Calendar.Holidays)), .vsl 5 34 (List.map GReading.cs ([] ++ a0c.Readings)).length, U a0c.Seed, I a0c.Session.From, I a0c.Session.To, I a0c.Session.End, .p (.sl 2 (List.map GSlice.cs a0c.Session.Slices)), .p (.sl 2 (List.map GLine.cs a0c.Bill.Lines)), I a0c.Bill.Net, I a0c.Bill.Tax, I a0c.Bill.Total]), (34, .vec 48 5 (List.map GReading.cs ([] ++ a0c.Readings)))]⟩ (by kernel_rfl) ?_
          refine sim_cond (eqI (Int.tmod a2which 6) 1) (by kernel_rfl) ?_ ?_
          · refine sim_reg ?_
            refine xs_run 1 (by kernel_rfl) ?_
            refine xs_u (by kernel_rfl) (by kernel_rfl) (aop_vnc (S := 5) (ty := 48) (tk := 34) (k := Int.toNat (Int.tmod (wi a1i) (lenI (List.map GReading.cs ([] ++ a0c.Readings))))) (f := 0) (es := List.map GReading.cs ([] ++ a0c.Readings)) rfl (by kernel_rfl) (by kernel_rfl)) ?_
            refine xs_u (by kernel_rfl) (by kernel_rfl) (aop_vfld (S := 5) (ty := 48) (tk := 34) (k := Int.toNat (Int.tmod (wi a1i) (lenI (List.map GReading.cs ([] ++ a0c.Readings))))) (g := 0) (off := 1) (es := List.map GReading.cs ([] ++ a0c.Readings)) rfl (by kernel_rfl) (by kernel_rfl) (by kernel_rfl)) ?_
            refine xs_u (by kernel_rfl) (by kernel_rfl) (aop_vld (S := 5) (tb := 48) (tk := 34) (n := Int.toNat (Int.tmod (wi a1i) (lenI (List.map GReading.cs ([] ++ a0c.Readings))))) (f := 1) (enc := GReading.cs) (l := [] ++ a0c.Readings) (v := x8) (c := I x8.Number) rfl (by kernel_rfl) (by kernel_rfl) (getI_at hx8) (by kernel_rfl)) ?_
            refine xs_run 3 (by kernel_rfl) ?_
            refine xs_u (by kernel_rfl) (by kernel_rfl) (aop_vnc (S := 5) (ty := 48) (tk := 34) (k := Int.toNat (Int.tmod (wi a1i) (lenI (List.map GReading.cs ([] ++ a0c.Readings))))) (f := 0) (es := List.map GReading.cs ([] ++ a0c.Readings)) rfl (by kernel_rfl) (by kernel_rfl)) ?_
            refine xs_u (by kernel_rfl) (by kernel_rfl) (aop_vfld (S := 5) (ty := 48) (tk := 34) (k := Int.toNat (Int.tmod (wi a1i) (lenI (List.map GReading.cs ([] ++ a0c.Readings))))) (g := 0) (off := 1) (es := List.map GReading.cs ([] ++ a0c.Readings)) rfl (by kernel_rfl) (by kernel_rfl) (by kernel_rfl)) ?_
            refine xs_u (by kernel_rfl) (by kernel_rfl) (aop_vst (S := 5) (tb := 48) (tk := 34) (n := Int.toNat (Int.tmod (wi a1i) (lenI (List.map GReading.cs ([] ++ a0c.Readings))))) (f := 1) (enc := GReading.cs) (l := [] ++ a0c.Readings) (v := x8) (v' := (⟨x8.Serial, bXor .i64 x8.Number (wi (shlI .u64 (wu a4by) (w8 (8 * (Int.tmod a3at 8))))), x8.Minute, x8.Register, x8.Link⟩ : GReading)) (xv := I (bXor .i64 x8.Number (wi (shlI .u64 (wu a4by) (w8 (8 * (Int.tmod a3at 8))))))) rfl (by kernel_rfl) (by kernel_rfl) (by kernel_rfl) (getI_at hx8) (by kernel_rfl)) ?_
            refine xs_end ?_
            refine bq_n ?_
            exact nq_f (List.set ([] ++ a0c.Readings) (Int.toNat (Int.tmod (wi a1i) (lenI (List.map GReading.cs ([] ++ a0c.Readings))))) (⟨x8.Serial, bXor .i64 x8.Number (wi (shlI .u64 (wu a4by) (w8 (8 * (Int.tmod a3at 8))))), x8.Minute, x8.Register, x8.Link⟩ : GReading), a0c.Seed) ⟨[5, 11], [5, 34], [], []⟩ ⟨[(5, .ptr 5 0), (11, B r1)], [(5, .box 38 [S a0c.Tariff.Name, .p (.sl 7 (List.map GArticle.cs a0c.Tariff.Articles)), I a0c.Calendar.Offset, .p (.sl 2 (List.map GChange.cs a0c.Calendar.Changes)), .p (.sl 1 (List.map ci a0c.Calendar.Holidays)), .vsl 5 34 (List.map GReading.cs ([] ++ a0c.Readings)).length, U a0c.Seed, I a0c.Session.From, I a0c.Session.To, I a0c.Session.End, .p (.sl 2 (List.map GSlice.cs a0c.Session.Slices)), .p (.sl 2 (List.map GLine.cs a0c.Bill.Lines)), I a0c.Bill.Net, I a0c.Bill.Tax, I a0c.Bill.Total]), (34, .vec 48 5 (List.map GReading.cs (List.set ([] ++ a0c.Readings) (Int.toNat (Int.tmod (wi a1i) (lenI (List.map GReading.cs ([] ++ a0c.Readings))))) (⟨x8.Serial, bXor .i64 x8.Number (wi (shlI .u64 (wu a4by) (w8 (8 * (Int.tmod a3at 8))))), x8.Minute, x8.Register, x8.Link⟩ : GReading))))]⟩ (by kernel_rfl) (weak_vfz 34 48 5 (List.map GReading.cs (List.set ([] ++ a0c.Readings) (Int.toNat (Int.tmod (wi a1i) (lenI (List.map GReading.cs ([] ++ a0c.Readings))))) (⟨x8.Serial, bXor .i64 x8.Number (wi (shlI .u64 (wu a4by) (w8 (8 * (Int.tmod a3at 8))))), x8.Minute, x8.Register, x8.Link⟩ : GReading))) [(List.map GReading.cs ([] ++ a0c.Readings)).length] (by kernel_rfl) (by kernel_rfl) (by simp) (by kernel_rfl) (by kernel_rfl)) ⟨[5, 11], [5], [], []⟩ (by kernel_rfl)
          · refine sim_run Try.fm ⟨[5, 11, 12, 13, 55, 83], [5, 34], [], []⟩ ⟨[(5, .ptr 5 0), (11, B r1), (12, .vptr 34 (List.map GReading.cs ([] ++ a0c.Readings)).length (Int.toNat (Int.tmod (wi a1i) (lenI (List.map GReading.cs ([] ++ a0c.Readings))))) 0), (13, U (shlI .u64 (wu a4by) (w8 (8 * (Int.tmod a3at 8))))), (55, B8 (Int.tmod a2which 6)), (83, B (eqI (Int.tmod a2which 6) 2))], [(5, .box 38 [S a0c.Tariff.Name, .p (.sl 7 (List.map GArticle.cs a0c.Tariff.Articles)), I a0c.Calendar.Offset, .p (.sl 2 (List.map GChange.cs a0c.Calendar.Changes)), .p (.sl 1 (List.map ci a0c.Calendar.Holidays)), .vsl 5 34 (List.map GReading.cs ([] ++ a0c.Readings)).length, U a0c.Seed, I a0c.Session.From, I a0c.Session.To, I a0c.Session.End, .p (.sl 2 (List.map GSlice.cs a0c.Session.Slices)), .p (.sl 2 (List.map GLine.cs a0c.Bill.Lines)), I a0c.Bill.Net, I a0c.Bill.Tax, I a0c.Bill.Total]), (34, .vec 48 5 (List.map GReading.cs ([] ++ a0c.Readings)))]⟩ (by kernel_rfl) ?_
            refine sim_cond (eqI (Int.tmod a2which 6) 2) (by kernel_rfl) ?_ ?_
            · refine sim_reg ?_
              refine xs_run 1 (by kernel_rfl) ?_
              refine xs_u (by kernel_rfl) (by kernel_rfl) (aop_vnc (S := 5) (ty := 48) (tk := 34) (k := Int.toNat (Int.tmod (wi a1i) (lenI (List.map GReading.cs ([] ++ a0c.Readings))))) (f := 0) (es := List.map GReading.cs ([] ++ a0c.Readings)) rfl (by kernel_rfl) (by kernel_rfl)) ?_
              refine xs_u (by kernel_rfl) (by kernel_rfl) (aop_vfld (S := 5) (ty := 48) (tk := 34) (k := Int.toNat (Int.tmod (wi a1i) (lenI (List.map GReading.cs ([] ++ a0c.Readings))))) (g := 0) (off := 2) (es := List.map GReading.cs ([] ++ a0c.Readings)) rfl (by kernel_rfl) (by kernel_rfl) (by kernel_rfl)) ?_
              refine xs_u (by kernel_rfl) (by kernel_rfl) (aop_vld (S := 5) (tb := 48) (tk := 34) (n := Int.toNat (Int.tmod (wi a1i) (lenI (List.map GReading.cs ([] ++ a0c.Readings))))) (f := 2) (enc := GReading.cs) (l := [] ++ a0c.Readings) (v := x8) (c := I x8.Minute) rfl (by kernel_rfl) (by kernel_rfl) (getI_at hx8) (by kernel_rfl)) ?_
              refine xs_run 3 (by kernel_rfl) ?_
              refine xs_u (by kernel_rfl) (by kernel_rfl) (aop_vnc (S := 5) (ty := 48) (tk := 34) (k := Int.toNat (Int.tmod (wi a1i) (lenI (List.map GReading.cs ([] ++ a0c.Readings))))) (f := 0) (es := List.map GReading.cs ([] ++ a0c.Readings)) rfl (by kernel_rfl) (by kernel_rfl)) ?_
              refine xs_u (by kernel_rfl) (by kernel_rfl) (aop_vfld (S := 5) (ty := 48) (tk := 34) (k := Int.toNat (Int.tmod (wi a1i) (lenI (List.map GReading.cs ([] ++ a0c.Readings))))) (g := 0) (off := 2) (es := List.map GReading.cs ([] ++ a0c.Readings)) rfl (by kernel_rfl) (by kernel_rfl) (by kernel_rfl)) ?_
              refine xs_u (by kernel_rfl) (by kernel_rfl) (aop_vst (S := 5) (tb := 48) (tk := 34) (n := Int.toNat (Int.tmod (wi a1i) (lenI (List.map GReading.cs ([] ++ a0c.Readings))))) (f := 2) (enc := GReading.cs) (l := [] ++ a0c.Readings) (v := x8) (v' := (⟨x8.Serial, x8.Number, bXor .i64 x8.Minute (wi (shlI .u64 (wu a4by) (w8 (8 * (Int.tmod a3at 8))))), x8.Register, x8.Link⟩ : GReading)) (xv := I (bXor .i64 x8.Minute (wi (shlI .u64 (wu a4by) (w8 (8 * (Int.tmod a3at 8))))))) rfl (by kernel_rfl) (by kernel_rfl) (by kernel_rfl) (getI_at hx8) (by kernel_rfl)) ?_
              refine xs_end ?_
              refine bq_n ?_
              exact nq_f (List.set ([] ++ a0c.Readings) (Int.toNat (Int.tmod (wi a1i) (lenI (List.map GReading.cs ([] ++ a0c.Readings))))) (⟨x8.Serial, x8.Number, bXor .i64 x8.Minute (wi (shlI .u64 (wu a4by) (w8 (8 * (Int.tmod a3at 8))))), x8.Register, x8.Link⟩ : GReading), a0c.Seed) ⟨[5, 11], [5, 34], [], []⟩ ⟨[(5, .ptr 5 0), (11, B r1)], [(5, .box 38 [S a0c.Tariff.Name, .p (.sl 7 (List.map GArticle.cs a0c.Tariff.Articles)), I a0c.Calendar.Offset, .p (.sl 2 (List.map GChange.cs a0c.Calendar.Changes)), .p (.sl 1 (List.map ci a0c.Calendar.Holidays)), .vsl 5 34 (List.map GReading.cs ([] ++ a0c.Readings)).length, U a0c.Seed, I a0c.Session.From, I a0c.Session.To, I a0c.Session.End, .p (.sl 2 (List.map GSlice.cs a0c.Session.Slices)), .p (.sl 2 (List.map GLine.cs a0c.Bill.Lines)), I a0c.Bill.Net, I a0c.Bill.Tax, I a0c.Bill.Total]), (34, .vec 48 5 (List.map GReading.cs (List.set ([] ++ a0c.Readings) (Int.toNat (Int.tmod (wi a1i) (lenI (List.map GReading.cs ([] ++ a0c.Readings))))) (⟨x8.Serial, x8.Number, bXor .i64 x8.Minute (wi (shlI .u64 (wu a4by) (w8 (8 * (Int.tmod a3at 8))))), x8.Register, x8.Link⟩ : GReading))))]⟩ (by kernel_rfl) (weak_vfz 34 48 5 (List.map GReading.cs (List.set ([] ++ a0c.Readings) (Int.toNat (Int.tmod (wi a1i) (lenI (List.map GReading.cs ([] ++ a0c.Readings))))) (⟨x8.Serial, x8.Number, bXor .i64 x8.Minute (wi (shlI .u64 (wu a4by) (w8 (8 * (Int.tmod a3at 8))))), x8.Register, x8.Link⟩ : GReading))) [(List.map GReading.cs ([] ++ a0c.Readings)).length] (by kernel_rfl) (by kernel_rfl) (by simp) (by kernel_rfl) (by kernel_rfl)) ⟨[5, 11], [5], [], []⟩ (by kernel_rfl)
            · refine sim_run Try.fm ⟨[5, 11, 12, 13, 55, 94], [5, 34], [], []⟩ ⟨[(5, .ptr 5 0), (11, B r1), (12, .vptr 34 (List.map GReading.cs ([] ++ a0c.Readings)).length (Int.toNat (Int.tmod (wi a1i) (lenI (List.map GReading.cs ([] ++ a0c.Readings))))) 0), (13, U (shlI .u64 (wu a4by) (w8 (8 * (Int.tmod a3at 8))))), (55, B8 (Int.tmod a2which 6)), (94, B (eqI (Int.tmod a2which 6) 3))], [(5, .box 38 [S a0c.Tariff.Name, .p (.sl 7 (List.map GArticle.cs a0c.Tariff.Articles)), I a0c.Calendar.Offset, .p (.sl 2 (List.map GChange.cs a0c.Calendar.Changes)), .p (.sl 1 (List.map ci a0c.Calendar.Holidays)), .vsl 5 34 (List.map GReading.cs ([] ++ a0c.Readings)).length, U a0c.Seed, I a0c.Session.From, I a0c.Session.To, I a0c.Session.End, .p (.sl 2 (List.map GSlice.cs a0c.Session.Slices)), .p (.sl 2 (List.map GLine.cs a0c.Bill.Lines)), I a0c.Bill.Net, I a0c.Bill.Tax, I a0c.Bill.Total]), (34, .vec 48 5 (List.map GReading.cs ([] ++ a0c.Readings)))]⟩ (by kernel_rfl) ?_
              refine sim_cond (eqI (Int.tmod a2which 6) 3) (by kernel_rfl) ?_ ?_
              · refine sim_reg ?_
                refine xs_run 1 (by kernel_rfl) ?_
                refine xs_u (by kernel_rfl) (by kernel_rfl) (aop_vnc (S := 5) (ty := 48) (tk := 34) (k := Int.toNat (Int.tmod (wi a1i) (lenI (List.map GReading.cs ([] ++ a0c.Readings))))) (f := 0) (es := List.map GReading.cs ([] ++ a0c.Readings)) rfl (by kernel_rfl) (by kernel_rfl)) ?_
                refine xs_u (by kernel_rfl) (by kernel_rfl) (aop_vfld (S := 5) (ty := 48) (tk := 34) (k := Int.toNat (Int.tmod (wi a1i) (lenI (List.map GReading.cs ([] ++ a0c.Readings))))) (g := 0) (off := 3) (es := List.map GReading.cs ([] ++ a0c.Readings)) rfl (by kernel_rfl) (by kernel_rfl) (by kernel_rfl)) ?_
                refine xs_u (by kernel_rfl) (by kernel_rfl) (aop_vld (S := 5) (tb := 48) (tk := 34) (n := Int.toNat (Int.tmod (wi a1i) (lenI (List.map GReading.cs ([] ++ a0c.Readings))))) (f := 3) (enc := GReading.cs) (l := [] ++ a0c.Readings) (v := x8) (c := I x8.Register) rfl (by kernel_rfl) (by kernel_rfl) (getI_at hx8) (by kernel_rfl)) ?_
                refine xs_run 3 (by kernel_rfl) ?_
                refine xs_u (by kernel_rfl) (by kernel_rfl) (aop_vnc (S := 5) (ty := 48) (tk := 34) (k := Int.toNat (Int.tmod (wi a1i) (lenI (List.map GReading.cs ([] ++ a0c.Readings))))) (f := 0) (es := List.map GReading.cs ([] ++ a0c.Readings)) rfl (by kernel_rfl) (by kernel_rfl)) ?_
                refine xs_u (by kernel_rfl) (by kernel_rfl) (aop_vfld (S := 5) (ty := 48) (tk := 34) (k := Int.toNat (Int.tmod (wi a1i) (lenI (List.map GReading.cs ([] ++ a0c.Readings))))) (g := 0) (off := 3) (es := List.map GReading.cs ([] ++ a0c.Readings)) rfl (by kernel_rfl) (by kernel_rfl) (by kernel_rfl)) ?_
                refine xs_u (by kernel_rfl) (by kernel_rfl) (aop_vst (S := 5) (tb := 48) (tk := 34) (n := Int.toNat (Int.tmod (wi a1i) (lenI (List.map GReading.cs ([] ++ a0c.Readings))))) (f := 3) (enc := GReading.cs) (l := [] ++ a0c.Readings) (v := x8) (v' := (⟨x8.Serial, x8.Number, x8.Minute, bXor .i64 x8.Register (wi (shlI .u64 (wu a4by) (w8 (8 * (Int.tmod a3at 8))))), x8.Link⟩ : GReading)) (xv := I (bXor .i64 x8.Register (wi (shlI .u64 (wu a4by) (w8 (8 * (Int.tmod a3at 8))))))) rfl (by kernel_rfl) (by kernel_rfl) (by kernel_rfl) (getI_at hx8) (by kernel_rfl)) ?_
                refine xs_end ?_
                refine bq_n ?_
                exact nq_f (List.set ([] ++ a0c.Readings) (Int.toNat (Int.tmod (wi a1i) (lenI (List.map GReading.cs ([] ++ a0c.Readings))))) (⟨x8.Serial, x8.Number, x8.Minute, bXor .i64 x8.Register (wi (shlI .u64 (wu a4by) (w8 (8 * (Int.tmod a3at 8))))), x8.Link⟩ : GReading), a0c.Seed) ⟨[5, 11], [5, 34], [], []⟩ ⟨[(5, .ptr 5 0), (11, B r1)], [(5, .box 38 [S a0c.Tariff.Name, .p (.sl 7 (List.map GArticle.cs a0c.Tariff.Articles)), I a0c.Calendar.Offset, .p (.sl 2 (List.map GChange.cs a0c.Calendar.Changes)), .p (.sl 1 (List.map ci a0c.Calendar.Holidays)), .vsl 5 34 (List.map GReading.cs ([] ++ a0c.Readings)).length, U a0c.Seed, I a0c.Session.From, I a0c.Session.To, I a0c.Session.End, .p (.sl 2 (List.map GSlice.cs a0c.Session.Slices)), .p (.sl 2 (List.map GLine.cs a0c.Bill.Lines)), I a0c.Bill.Net, I a0c.Bill.Tax, I a0c.Bill.Total]), (34, .vec 48 5 (List.map GReading.cs (List.set ([] ++ a0c.Readings) (Int.toNat (Int.tmod (wi a1i) (lenI (List.map GReading.cs ([] ++ a0c.Readings))))) (⟨x8.Serial, x8.Number, x8.Minute, bXor .i64 x8.Register (wi (shlI .u64 (wu a4by) (w8 (8 * (Int.tmod a3at 8))))), x8.Link⟩ : GReading))))]⟩ (by kernel_rfl) (weak_vfz 34 48 5 (List.map GReading.cs (List.set ([] ++ a0c.Readings) (Int.toNat (Int.tmod (wi a1i) (lenI (List.map GReading.cs ([] ++ a0c.Readings))))) (⟨x8.Serial, x8.Number, x8.Minute, bXor .i64 x8.Register (wi (shlI .u64 (wu a4by) (w8 (8 * (Int.tmod a3at 8))))), x8.Link⟩ : GReading))) [(List.map GReading.cs ([] ++ a0c.Readings)).length] (by kernel_rfl) (by kernel_rfl) (by simp) (by kernel_rfl) (by kernel_rfl)) ⟨[5, 11], [5], [], []⟩ (by kernel_rfl)
              · refine sim_run Try.fm ⟨[5, 11, 12, 13, 105], [5, 34], [], []⟩ ⟨[(5, .ptr 5 0), (11, B r1), (12, .vptr 34 (List.map GReading.cs ([] ++ a0c.Readings)).length (Int.toNat (Int.tmod (wi a1i) (lenI (List.map GReading.cs ([] ++ a0c.Readings))))) 0), (13, U (shlI .u64 (wu a4by) (w8 (8 * (Int.tmod a3at 8))))), (105, B (eqI (Int.tmod a2which 6) 4))], [(5, .box 38 [S a0c.Tariff.Name, .p (.sl 7 (List.map GArticle.cs a0c.Tariff.Articles)), I a0c.Calendar.Offset, .p (.sl 2 (List.map GChange.cs a0c.Calendar.Changes)), .p (.sl 1 (List.map ci a0c.Calendar.Holidays)), .vsl 5 34 (List.map GReading.cs ([] ++ a0c.Readings)).length, U a0c.Seed, I a0c.Session.From, I a0c.Session.To, I a0c.Session.End, .p (.sl 2 (List.map GSlice.cs a0c.Session.Slices)), .p (.sl 2 (List.map GLine.cs a0c.Bill.Lines)), I a0c.Bill.Net, I a0c.Bill.Tax, I a0c.Bill.Total]), (34, .vec 48 5 (List.map GReading.cs ([] ++ a0c.Readings)))]⟩ (by kernel_rfl) ?_
                refine sim_cond (eqI (Int.tmod a2which 6) 4) (by kernel_rfl) ?_ ?_
                · refine sim_reg ?_
                  refine xs_run 1 (by kernel_rfl) ?_
                  refine xs_u (by kernel_rfl) (by kernel_rfl) (aop_vnc (S := 5) (ty := 48) (tk := 34) (k := Int.toNat (Int.tmod (wi a1i) (lenI (List.map GReading.cs ([] ++ a0c.Readings))))) (f := 0) (es := List.map GReading.cs ([] ++ a0c.Readings)) rfl (by kernel_rfl) (by kernel_rfl)) ?_
                  refine xs_u (by kernel_rfl) (by kernel_rfl) (aop_vfld (S := 5) (ty := 48) (tk := 34) (k := Int.toNat (Int.tmod (wi a1i) (lenI (List.map GReading.cs ([] ++ a0c.Readings))))) (g := 0) (off := 4) (es := List.map GReading.cs ([] ++ a0c.Readings)) rfl (by kernel_rfl) (by kernel_rfl) (by kernel_rfl)) ?_
                  refine xs_u (by kernel_rfl) (by kernel_rfl) (aop_vld (S := 5) (tb := 48) (tk := 34) (n := Int.toNat (Int.tmod (wi a1i) (lenI (List.map GReading.cs ([] ++ a0c.Readings))))) (f := 4) (enc := GReading.cs) (l := [] ++ a0c.Readings) (v := x8) (c := U x8.Link) rfl (by kernel_rfl) (by kernel_rfl) (getI_at hx8) (by kernel_rfl)) ?_
                  refine xs_run 2 (by kernel_rfl) ?_
                  refine xs_u (by kernel_rfl) (by kernel_rfl) (aop_vnc (S := 5) (ty := 48) (tk := 34) (k := Int.toNat (Int.tmod (wi a1i) (lenI (List.map GReading.cs ([] ++ a0c.Readings))))) (f := 0) (es := List.map GReading.cs ([] ++ a0c.Readings)) rfl (by kernel_rfl) (by kernel_rfl)) ?_
                  refine xs_u (by kernel_rfl) (by kernel_rfl) (aop_vfld (S := 5) (ty := 48) (tk := 34) (k := Int.toNat (Int.tmod (wi a1i) (lenI (List.map GReading.cs ([] ++ a0c.Readings))))) (g := 0) (off := 4) (es := List.map GReading.cs ([] ++ a0c.Readings)) rfl (by kernel_rfl) (by kernel_rfl) (by kernel_rfl)) ?_
                  refine xs_u (by kernel_rfl) (by kernel_rfl) (aop_vst (S := 5) (tb := 48) (tk := 34) (n := Int.toNat (Int.tmod (wi a1i) (lenI (List.map GReading.cs ([] ++ a0c.Readings))))) (f := 4) (enc := GReading.cs) (l := [] ++ a0c.Readings) (v := x8) (v' := (⟨x8.Serial, x8.Number, x8.Minute, x8.Register, bXor .u64 x8.Link (shlI .u64 (wu a4by) (w8 (8 * (Int.tmod a3at 8))))⟩ : GReading)) (xv := U (bXor .u64 x8.Link (shlI .u64 (wu a4by) (w8 (8 * (Int.tmod a3at 8)))))) rfl (by kernel_rfl) (by kernel_rfl) (by kernel_rfl) (getI_at hx8) (by kernel_rfl)) ?_
                  refine xs_end ?_
                  refine bq_n ?_
                  exact nq_f (List.set ([] ++ a0c.Readings) (Int.toNat (Int.tmod (wi a1i) (lenI (List.map GReading.cs ([] ++ a0c.Readings))))) (⟨x8.Serial, x8.Number, x8.Minute, x8.Register, bXor .u64 x8.Link (shlI .u64 (wu a4by) (w8 (8 * (Int.tmod a3at 8))))⟩ : GReading), a0c.Seed) ⟨[5, 11], [5, 34], [], []⟩ ⟨[(5, .ptr 5 0), (11, B r1)], [(5, .box 38 [S a0c.Tariff.Name, .p (.sl 7 (List.map GArticle.cs a0c.Tariff.Articles)), I a0c.Calendar.Offset, .p (.sl 2 (List.map GChange.cs a0c.Calendar.Changes)), .p (.sl 1 (List.map ci a0c.Calendar.Holidays)), .vsl 5 34 (List.map GReading.cs ([] ++ a0c.Readings)).length, U a0c.Seed, I a0c.Session.From, I a0c.Session.To, I a0c.Session.End, .p (.sl 2 (List.map GSlice.cs a0c.Session.Slices)), .p (.sl 2 (List.map GLine.cs a0c.Bill.Lines)), I a0c.Bill.Net, I a0c.Bill.Tax, I a0c.Bill.Total]), (34, .vec 48 5 (List.map GReading.cs (List.set ([] ++ a0c.Readings) (Int.toNat (Int.tmod (wi a1i) (lenI (List.map GReading.cs ([] ++ a0c.Readings))))) (⟨x8.Serial, x8.Number, x8.Minute, x8.Register, bXor .u64 x8.Link (shlI .u64 (wu a4by) (w8 (8 * (Int.tmod a3at 8))))⟩ : GReading))))]⟩ (by kernel_rfl) (weak_vfz 34 48 5 (List.map GReading.cs (List.set ([] ++ a0c.Readings) (Int.toNat (Int.tmod (wi a1i) (lenI (List.map GReading.cs ([] ++ a0c.Readings))))) (⟨x8.Serial, x8.Number, x8.Minute, x8.Register, bXor .u64 x8.Link (shlI .u64 (wu a4by) (w8 (8 * (Int.tmod a3at 8))))⟩ : GReading))) [(List.map GReading.cs ([] ++ a0c.Readings)).length] (by kernel_rfl) (by kernel_rfl) (by simp) (by kernel_rfl) (by kernel_rfl)) ⟨[5, 11], [5], [], []⟩ (by kernel_rfl)
                · refine sim_last Try.fm (by kernel_rfl) ?_
                  refine bq_n ?_
                  exact nq_f ([] ++ a0c.Readings, bXor .u64 a0c.Seed (shlI .u64 (wu a4by) (w8 (8 * (Int.tmod a3at 8))))) ⟨[5, 11], [5, 34], [], []⟩ ⟨[(5, .ptr 5 0), (11, B r1)], [(5, .box 38 [S a0c.Tariff.Name, .p (.sl 7 (List.map GArticle.cs a0c.Tariff.Articles)), I a0c.Calendar.Offset, .p (.sl 2 (List.map GChange.cs a0c.Calendar.Changes)), .p (.sl 1 (List.map ci a0c.Calendar.Holidays)), .vsl 5 34 (List.map GReading.cs ([] ++ a0c.Readings)).length, U (bXor .u64 a0c.Seed (shlI .u64 (wu a4by) (w8 (8 * (Int.tmod a3at 8))))), I a0c.Session.From, I a0c.Session.To, I a0c.Session.End, .p (.sl 2 (List.map GSlice.cs a0c.Session.Slices)), .p (.sl 2 (List.map GLine.cs a0c.Bill.Lines)), I a0c.Bill.Net, I a0c.Bill.Tax, I a0c.Bill.Total]), (34, .vec 48 5 (List.map GReading.cs ([] ++ a0c.Readings)))]⟩ (by kernel_rfl) (weak_vfz 34 48 5 (List.map GReading.cs ([] ++ a0c.Readings)) [(List.map GReading.cs ([] ++ a0c.Readings)).length] (by kernel_rfl) (by kernel_rfl) (by simp) (by kernel_rfl) (by kernel_rfl)) ⟨[5, 11], [5], [], []⟩ (by kernel_rfl)
      · rintro ⟨j9_1, j9_2⟩
        refine sim_seq ?_
        refine sim_reg ?_
        refine xs_run 2 (by kernel_rfl) ?_
        refine xs_split r1 (fun h10 => ?_) (fun h10 => ?_)
        · refine xs_one (want_tt (by kernel_rfl) h10) (by kernel_rfl) ?_
          refine xs_call [] (by kernel_rfl) (g_auditor_Verify_ok n (⟨a0c.Tariff, a0c.Calendar, j9_1, j9_2, a0c.Session, a0c.Bill⟩ : GClaim)) (by kernel_rfl) (by kernel_rfl) (fun _ => by kernel_rfl) (fun r11 => ?_)
          refine xs_run 3 (by kernel_rfl) ?_
          refine xs_end ?_
          refine sq_nk ⟨[10], [], [], []⟩ ⟨[(10, B (eqI r11 1))], []⟩ (by kernel_rfl) ?_
          refine sim_ret ?_
          exact rq_ret (.id) (by kernel_rfl) (by kernel_rfl) (by kernel_rfl)
        · refine xs_no (want_tf (by kernel_rfl) h10) (by kernel_rfl) ?_
          refine xs_run 4 (by kernel_rfl) ?_
          refine xs_end ?_
          refine sq_nk ⟨[10], [], [], []⟩ ⟨[(10, B false)], []⟩ (by kernel_rfl) ?_
          refine sim_ret ?_
          exact rq_ret (.id) (by kernel_rfl) (by kernel_rfl) (by kernel_rfl)
end Go.Proofs
namespace Go.Proofs
open Go Go.Abs Go.ChangeShapes Go.WideShapes Go.ChangeAt Go.RowKit Go.Proofs.Ytgehgobiibddaaa
set_option maxRecDepth 100000
set_option linter.unusedVariables false
structure GArticle.wf (x : GArticle) : Prop where
  Kind : i64b x.Kind
  Days : i64b x.Days
  From : i64b x.From
  To : i64b x.To
  Price : i64b x.Price
  Unit : i64b x.Unit
  Free : i64b x.Free
theorem sh_GArticle {d : Nat} {cs : List PV} (h : Sh Try.prog (d + 2) 75 cs) : ∃ r : GArticle, cs = GArticle.cs r ∧ GArticle.wf r := by
  have h := sh_struct Try.underlying75 h
  obtain ⟨_, _, rfl, h0, _, _, rfl, h1, _, _, rfl, h2, _, _, rfl, h3, _, _, rfl, h4, _, _, rfl, h5, _, _, rfl, h6, rfl⟩ := h
  obtain ⟨x0, rfl, w0⟩ := sh_i64 Try.underlying3 h0
  obtain ⟨x1, rfl, w1⟩ := sh_i64 Try.underlying3 h1
  obtain ⟨x2, rfl, w2⟩ := sh_i64 Try.underlying3 h2
  obtain ⟨x3, rfl, w3⟩ := sh_i64 Try.underlying3 h3
  obtain ⟨x4, rfl, w4⟩ := sh_i64 Try.underlying3 h4
  obtain ⟨x5, rfl, w5⟩ := sh_i64 Try.underlying3 h5
  obtain ⟨x6, rfl, w6⟩ := sh_i64 Try.underlying3 h6
  exact ⟨⟨x0, x1, x2, x3, x4, x5, x6⟩, rfl, ⟨w0, w1, w2, w3, w4, w5, w6⟩⟩
structure GTariff.wf (x : GTariff) : Prop where
  Name : strb x.Name
  Articles : (listb GArticle.wf) x.Articles
theorem sh_GTariff {d : Nat} {cs : List PV} (h : Sh Try.prog (d + 4) 24 cs) : ∃ r : GTariff, cs = GTariff.cs r ∧ GTariff.wf r := by
  have h := sh_struct Try.underlying24 h
  obtain ⟨_, _, rfl, h0, _, _, rfl, h1, rfl⟩ := h
  obtain ⟨x0, rfl, w0⟩ := sh_str Try.underlying9 h0
  obtain ⟨x1, rfl, w1⟩ := sh_list (S := 7) (f := GArticle.cs) (W := GArticle.wf) Try.underlying22 (by kernel_rfl) (fun c h => sh_GArticle h) h1
  exact ⟨⟨x0, x1⟩, rfl, ⟨w0, w1⟩⟩
structure GChange.wf (x : GChange) : Prop where
  At : i64b x.At
  Offset : i64b x.Offset
theorem sh_GChange {d : Nat} {cs : List PV} (h : Sh Try.prog (d + 2) 89 cs) : ∃ r : GChange, cs = GChange.cs r ∧ GChange.wf r := by
  have h := sh_struct Try.underlying89 h
  obtain ⟨_, _, rfl, h0, _, _, rfl, h1, rfl⟩ := h
  obtain ⟨x0, rfl, w0⟩ := sh_i64 Try.underlying3 h0
  obtain ⟨x1, rfl, w1⟩ := sh_i64 Try.underlying3 h1
  exact ⟨⟨x0, x1⟩, rfl, ⟨w0, w1⟩⟩
structure GCalendar.wf (x : GCalendar) : Prop where
  Offset : i64b x.Offset
  Changes : (listb GChange.wf) x.Changes
  Holidays : (listb i64b) x.Holidays
theorem sh_GCalendar {d : Nat} {cs : List PV} (h : Sh Try.prog (d + 4) 28 cs) : ∃ r : GCalendar, cs = GCalendar.cs r ∧ GCalendar.wf r := by
  have h := sh_struct Try.underlying28 h
  obtain ⟨_, _, rfl, h0, _, _, rfl, h1, _, _, rfl, h2, rfl⟩ := h
  obtain ⟨x0, rfl, w0⟩ := sh_i64 Try.underlying3 h0
  obtain ⟨x1, rfl, w1⟩ := sh_list (S := 2) (f := GChange.cs) (W := GChange.wf) Try.underlying25 (by kernel_rfl) (fun c h => sh_GChange h) h1
  obtain ⟨x2, rfl, w2⟩ := sh_list (S := 1) (f := ci) (W := i64b) Try.underlying26 (by kernel_rfl) (fun c h => sh_i64 Try.underlying3 h) h2
  exact ⟨⟨x0, x1, x2⟩, rfl, ⟨w0, w1, w2⟩⟩
structure GReading.wf (x : GReading) : Prop where
  Serial : i64b x.Serial
  Number : i64b x.Number
  Minute : i64b x.Minute
  Register : i64b x.Register
  Link : u64b x.Link
theorem sh_GReading {d : Nat} {cs : List PV} (h : Sh Try.prog (d + 2) 48 cs) : ∃ r : GReading, cs = GReading.cs r ∧ GReading.wf r := by
  have h := sh_struct Try.underlying48 h
  obtain ⟨_, _, rfl, h0, _, _, rfl, h1, _, _, rfl, h2, _, _, rfl, h3, _, _, rfl, h4, rfl⟩ := h
  obtain ⟨x0, rfl, w0⟩ := sh_i64 Try.underlying3 h0
  obtain ⟨x1, rfl, w1⟩ := sh_i64 Try.underlying3 h1
  obtain ⟨x2, rfl, w2⟩ := sh_i64 Try.underlying3 h2
  obtain ⟨x3, rfl, w3⟩ := sh_i64 Try.underlying3 h3
  obtain ⟨x4, rfl, w4⟩ := sh_u64 Try.underlying30 h4
  exact ⟨⟨x0, x1, x2, x3, x4⟩, rfl, ⟨w0, w1, w2, w3, w4⟩⟩
structure GSlice.wf (x : GSlice) : Prop where
  Minute : i64b x.Minute
  Energy : i64b x.Energy
theorem sh_GSlice {d : Nat} {cs : List PV} (h : Sh Try.prog (d + 2) 52 cs) : ∃ r : GSlice, cs = GSlice.cs r ∧ GSlice.wf r := by
  have h := sh_struct Try.underlying52 h
  obtain ⟨_, _, rfl, h0, _, _, rfl, h1, rfl⟩ := h
  obtain ⟨x0, rfl, w0⟩ := sh_i64 Try.underlying3 h0
  obtain ⟨x1, rfl, w1⟩ := sh_i64 Try.underlying3 h1
  exact ⟨⟨x0, x1⟩, rfl, ⟨w0, w1⟩⟩
structure GSession.wf (x : GSession) : Prop where
  From : i64b x.From
  To : i64b x.To
  End : i64b x.End
  Slices : (listb GSlice.wf) x.Slices
theorem sh_GSession {d : Nat} {cs : List PV} (h : Sh Try.prog (d + 4) 33 cs) : ∃ r : GSession, cs = GSession.cs r ∧ GSession.wf r := by
  have h := sh_struct Try.underlying33 h
  obtain ⟨_, _, rfl, h0, _, _, rfl, h1, _, _, rfl, h2, _, _, rfl, h3, rfl⟩ := h
  obtain ⟨x0, rfl, w0⟩ := sh_i64 Try.underlying3 h0
  obtain ⟨x1, rfl, w1⟩ := sh_i64 Try.underlying3 h1
  obtain ⟨x2, rfl, w2⟩ := sh_i64 Try.underlying3 h2
  obtain ⟨x3, rfl, w3⟩ := sh_list (S := 2) (f := GSlice.cs) (W := GSlice.wf) Try.underlying31 (by kernel_rfl) (fun c h => sh_GSlice h) h3
  exact ⟨⟨x0, x1, x2, x3⟩, rfl, ⟨w0, w1, w2, w3⟩⟩
structure GLine.wf (x : GLine) : Prop where
  Article : i64b x.Article
  Amount : i64b x.Amount
theorem sh_GLine {d : Nat} {cs : List PV} (h : Sh Try.prog (d + 2) 56 cs) : ∃ r : GLine, cs = GLine.cs r ∧ GLine.wf r := by
  have h := sh_struct Try.underlying56 h
  obtain ⟨_, _, rfl, h0, _, _, rfl, h1, rfl⟩ := h
  obtain ⟨x0, rfl, w0⟩ := sh_i64 Try.underlying3 h0
  obtain ⟨x1, rfl, w1⟩ := sh_i64 Try.underlying3 h1
  exact ⟨⟨x0, x1⟩, rfl, ⟨w0, w1⟩⟩
structure GBill.wf (x : GBill) : Prop where
  Lines : (listb GLine.wf) x.Lines
  Net : i64b x.Net
  Tax : i64b x.Tax
  Total : i64b x.Total
theorem sh_GBill {d : Nat} {cs : List PV} (h : Sh Try.prog (d + 4) 36 cs) : ∃ r : GBill, cs = GBill.cs r ∧ GBill.wf r := by
  have h := sh_struct Try.underlying36 h
  obtain ⟨_, _, rfl, h0, _, _, rfl, h1, _, _, rfl, h2, _, _, rfl, h3, rfl⟩ := h
  obtain ⟨x0, rfl, w0⟩ := sh_list (S := 2) (f := GLine.cs) (W := GLine.wf) Try.underlying34 (by kernel_rfl) (fun c h => sh_GLine h) h0
  obtain ⟨x1, rfl, w1⟩ := sh_i64 Try.underlying3 h1
  obtain ⟨x2, rfl, w2⟩ := sh_i64 Try.underlying3 h2
  obtain ⟨x3, rfl, w3⟩ := sh_i64 Try.underlying3 h3
  exact ⟨⟨x0, x1, x2, x3⟩, rfl, ⟨w0, w1, w2, w3⟩⟩
structure GClaim.wf (x : GClaim) : Prop where
  Tariff : GTariff.wf x.Tariff
  Calendar : GCalendar.wf x.Calendar
  Readings : (listb GReading.wf) x.Readings
  Seed : u64b x.Seed
  Session : GSession.wf x.Session
  Bill : GBill.wf x.Bill
theorem sh_GClaim {d : Nat} {cs : List PV} (h : Sh Try.prog (d + 5) 38 cs) : ∃ r : GClaim, cs = GClaim.cs r ∧ GClaim.wf r := by
  have h := sh_struct Try.underlying38 h
  obtain ⟨_, _, rfl, h0, _, _, rfl, h1, _, _, rfl, h2, _, _, rfl, h3, _, _, rfl, h4, _, _, rfl, h5, rfl⟩ := h
  obtain ⟨x0, rfl, w0⟩ := sh_GTariff h0
  obtain ⟨x1, rfl, w1⟩ := sh_GCalendar h1
  obtain ⟨x2, rfl, w2⟩ := sh_list (S := 5) (f := GReading.cs) (W := GReading.wf) Try.underlying29 (by kernel_rfl) (fun c h => sh_GReading h) h2
  obtain ⟨x3, rfl, w3⟩ := sh_u64 Try.underlying30 h3
  obtain ⟨x4, rfl, w4⟩ := sh_GSession h4
  obtain ⟨x5, rfl, w5⟩ := sh_GBill h5
  exact ⟨⟨x0, x1, x2, x3, x4, x5⟩, rfl, ⟨w0, w1, w2, w3, w4, w5⟩⟩
def AuditorReadingsPlain : Prop := ∀ (a0 : GClaim) (a1 : Int) (a2 : Int) (a3 : Int) (a4 : Int), GClaim.wf a0 → u8b a1 → u8b a2 → u8b a3 → u8b a4 → ∃ n, g_law43_AuditorReadings n a0 a1 a2 a3 a4 = some true
theorem auditorReadings_call (h : AuditorReadingsPlain) : ∀ xs, ArgsSh Try.prog 9 Try.f4.params.toList xs → PCall Try.prog 4 xs (.ret (.p (.val (.bool true)))) := by
  intro xs ha
  rw [Try.params4] at ha
  obtain ⟨_, _, rfl, h0, _, _, rfl, h1, _, _, rfl, h2, _, _, rfl, h3, _, _, rfl, h4, rfl⟩ := ha
  obtain ⟨a0, rfl, w0⟩ := sh_GClaim h0
  obtain ⟨a1, rfl, w1⟩ := sh_u8 Try.underlying5 h1
  obtain ⟨a2, rfl, w2⟩ := sh_u8 Try.underlying5 h2
  obtain ⟨a3, rfl, w3⟩ := sh_u8 Try.underlying5 h3
  obtain ⟨a4, rfl, w4⟩ := sh_u8 Try.underlying5 h4
  obtain ⟨n, hn⟩ := h a0 a1 a2 a3 a4 w0 w1 w2 w3 w4
  simp only [avOf_struct Try.underlying38, avOf_int Try.underlying5]
  exact g_law43_AuditorReadings_ok n a0 a1 a2 a3 a4 true hn
set_option maxRecDepth 100000 in
theorem auditorReadings_lifted (h : AuditorReadingsPlain) (os : Os) (started : os.Started) (H : Type) (enc : TypeId × Value → H) :
    ReturnsInHanded {} Try.checked os 4 .any (Rows.auditorReadingsSpec.pre6 enc Try.prog Try.f4 Rows.auditorReadingsRow.domain false) (Rows.auditorReadingsSpec.post enc Try.prog Try.f4 false true false false) := by
  refine returnsInHanded_of_change (C := Try.checked) (by kernel_rfl) started (by kernel_rfl) Try.func4
    (ChangeSpec.witness6 (enc := enc) (C := Try.checked) false ⟨#[], #[.agg #[.string ⟨#[]⟩, .slice none 0 0, .int .i64 0, .slice none 0 0, .slice none 0 0, .slice none 0 0, .int .u64 0, .int .i64 0, .int .i64 0, .int .i64 0, .slice none 0 0, .slice none 0 0, .int .i64 0, .int .i64 0, .int .i64 0], .int .u8 0, .int .u8 0, .int .u8 0, .int .u8 0], []⟩ 8 (by kernel_rfl) (by kernel_rfl) (by kernel_rfl) (by kernel_rfl)) ?_
  intro W base args ds gs before hval hW _ _
  exact law_contract (P := Try.prog) (f := 4) (fn := Try.f4) (s := Rows.auditorReadingsSpec) (tb := 4) (d := 9) (by kernel_rfl) (by kernel_rfl) (by kernel_rfl) (by kernel_rfl) Try.underlying4 rfl
    (fun ds hd => by
      have hd : ds.length = 5 := by rw [hd, show Try.f4.params.size = 5 from by kernel_rfl]
      match ds, hd with
      | [d0, d1, d2, d3, d4], _ => rfl)
    (auditorReadings_call h) hval hW
theorem auditorReadings_said (h : AuditorReadingsPlain) : Rows.AuditorReadingsSaid :=
  OpenClaim.holds_of_wide 4 Try.f4 rfl rfl rfl rfl rfl rfl rfl ⟨rfl, rfl, rfl, rfl, rfl⟩ rfl rfl rfl rfl rfl (by kernel_rfl) Try.func4 (by kernel_rfl)
    (of_decide_eq_true (by kernel_rfl)) (by unfold Func.isWrapper; first | (rw [if_pos (by decide +kernel)]; kernel_rfl) | (rw [if_neg (by decide +kernel)]; exact ⟨rfl, rfl⟩))
    (fun os started H enc _ => auditorReadings_lifted h os started H enc)
end Go.Proofs
namespace Go.Proofs
open Go Go.Abs
set_option maxRecDepth 100000
set_option linter.unusedVariables false
def Does {α : Type} (m : Option α) (Q : α → Prop) : Prop := ∃ r, m = some r ∧ Q r
section
variable {α β V R E : Type}
theorem does_some {x : α} {Q : α → Prop} (h : Q x) : Does (some x) Q := ⟨x, rfl, h⟩
theorem does_mono {m : Option α} {Q Q' : α → Prop} (h : Does m Q) (hq : ∀ x, Q x → Q' x) : Does m Q' := by obtain ⟨x, e, h⟩ := h; exact ⟨x, e, hq x h⟩
theorem does_cond {b : Bool} {x y : Option α} {Q : α → Prop} (h1 : b = true → Does x Q) (h2 : b = false → Does y Q) : Does (cond b x y) Q := by
  cases b
  · exact h2 rfl
  · exact h1 rfl
theorem does_loop {B : (V → Option R) → V → Option R} {Q : V → R → Prop} (μ : V → Nat) (Inv : V → Prop)
    (hB : ∀ rec v, Inv v → (∀ v', Inv v' → μ v' < μ v → Does (rec v') (Q v')) → Does (B rec v) (Q v)) : ∀ {n : Nat} {v : V}, Inv v → μ v < n → Does (loopN B n v) (Q v)
  | 0, _, _, h => absurd h (Nat.not_lt_zero _)
  | n + 1, v, hv, h => hB _ v hv (fun v' h1 h2 => does_loop μ Inv hB h1 (by omega))
end
theorem getI_nat {α : Type} {l : List α} {i : Nat} : getI l (i : Int) = l[i]? := by
  unfold getI; rw [if_neg (by omega)]; simp
theorem wi_id {x : Int} (h1 : -9223372036854775808 ≤ x) (h2 : x ≤ 9223372036854775807) : wi x = x := by
  simp [wi, IntKind.wrap, IntKind.signed, IntKind.bits]; omega
theorem a_inside (n : Nat) (x a b : Int) : g_auditor_inside n x a b = some (decide (a ≤ x ∧ x ≤ b)) := by
  unfold g_auditor_inside leI
  by_cases h : a ≤ x <;> simp [h]
def needE (b : Bool) (p : Int) : Except Int Unit := if b then .ok () else .error p
theorem a_need (n : Nat) (b : Bool) (p : Int) : g_auditor_need n b p = some (needE b p) := by
  cases b <;> rfl
def folB (a r : GReading) : Bool := if r.Serial = a.Serial then decide (a.Minute ≤ r.Minute ∧ a.Register ≤ r.Register) else decide (r.Minute = a.Minute)
theorem a_follows (n : Nat) (a r : GReading) : g_auditor_follows n a r = some (folB a r) := by
  unfold g_auditor_follows folB leI eqI
  by_cases h : r.Serial = a.Serial
  · by_cases h2 : a.Minute ≤ r.Minute <;> simp [h, h2]
  · simp only [h, if_false]
    rw [show (r.Serial == a.Serial) = false from by simp [h]]
    simp only [cond_false, Option.some.injEq]
    by_cases h2 : r.Minute = a.Minute <;> simp [h2]
def mixB (s x k : Int) : Int := wu ((bXor .u64 s (bAnd .u64 (shrI .u64 (wu x) k) 255)) * 1099511628211)
def mixW (s x : Int) : Int := [56, 48, 40, 32, 24, 16, 8, 0].foldl (fun s k => mixB s x k) s
def linkF (s : Int) (r : GReading) : Int := [r.Serial, r.Number, r.Minute, r.Register].foldl mixW s
theorem a_link (n : Nat) (s : Int) (r : GReading) : g_auditor_link (n + 100) s r = some (linkF s r) := by kernel_rfl
theorem exc_need {R : Type} {k : Unit → Option R} {e : Int → Option R} {b : Bool} {p : Int} : exc k e (needE b p) = cond b (k ()) (e p) := by cases b <;> rfl
def prevLink (seed : Int) (l : List GReading) (i : Nat) : Int := if i = 0 then seed else ((l[i - 1]?).map (·.Link)).getD 0
def chainAt (seed : Int) (l : List GReading) (i : Nat) : Prop := ∀ r ∈ l[i]?, (1 ≤ r.Serial ∧ r.Serial ≤ 1000000) ∧ r.Number = i + 1 ∧ (0 ≤ r.Minute ∧ r.Minute ≤ 52560000) ∧ (0 ≤ r.Register ∧ r.Register ≤ 1000000000) ∧
  (i ≠ 0 → ∀ a ∈ l[i - 1]?, folB a r = true) ∧ r.Link = linkF (prevLink seed l i) r
def chainOk (seed : Int) (l : List GReading) : Prop := (1 ≤ l.length ∧ l.length ≤ 64) ∧ ∀ i, i < l.length → chainAt seed l i
open Classical in
noncomputable def okE (p : Prop) (e : Int) : Except Int Unit := needE (decide p) e
open Classical in
theorem okE_t {p : Prop} {e : Int} (h : p) : okE p e = .ok () := by unfold okE; rw [decide_eq_true h]; rfl
open Classical in
theorem okE_f {p : Prop} {e : Int} (h : ¬ p) : okE p e = .error e := by unfold okE; rw [decide_eq_false h]; rfl
theorem a_chained (n : Nat) (e : GAuditorExamined) (hn : 1000 ≤ n) : g_auditor_examined_chained n e = some (okE (chainOk e.Claim.Seed e.Claim.Readings) 1) := by
  unfold g_auditor_examined_chained
  rw [a_inside, Option.bind_some, a_need, Option.bind_some, exc_need]
  generalize hl : e.Claim.Readings = l
  simp only [lenI, List.length_map]
  by_cases hb : (1 : Int) ≤ l.length ∧ (l.length : Int) ≤ 64
  rotate_left
  · rw [decide_eq_false hb, cond_false, okE_f]
    intro h; exact hb ⟨by have := h.1.1; omega, by have := h.1.2; omega⟩
  rw [decide_eq_true hb, cond_true]
  obtain ⟨m, rfl⟩ : ∃ m, n = m + 100 := ⟨n - 100, by omega⟩
  have key := does_loop (B := fun recl4 (v : Int × Int) => g_auditor_examined_chained_l4 (m + 100) e recl4 v.1 v.2) (Q := fun v r => r = okE (∀ j : Nat, v.2 ≤ j → j < l.length → chainAt e.Claim.Seed l j) 1)
    (fun v => l.length - v.2.toNat) (fun v => ∃ i : Nat, v.2 = i ∧ i ≤ l.length ∧ v.1 = prevLink e.Claim.Seed l i) ?_ (n := m + 100) (v := (e.Claim.Seed, 0)) ⟨0, rfl, by omega, rfl⟩ (by simp; omega)
  · obtain ⟨r, h1, h2⟩ := key
    refine h1.trans ?_
    rw [h2]
    congr 1
    by_cases hc : chainOk e.Claim.Seed l
    · rw [okE_t hc, okE_t]
      intro j _ hj; exact hc.2 j hj
    · rw [okE_f hc, okE_f]
      intro h; exact hc ⟨by omega, fun i hi => h i (by simp) hi⟩
  · rintro rec ⟨s, i'⟩ ⟨i, rfl, hi, hs⟩ hrec
    simp only at hs hrec
    subst hs
    unfold g_auditor_examined_chained_l4
    simp only [lenI, List.length_map, hl, getI_nat]
    refine does_cond (fun hlt => ?_) (fun hlt => ?_)
    rotate_left
    · refine does_some ?_
      rw [okE_t]
      intro j h1 h2
      simp [ltI] at hlt
      omega
    · simp only [ltI, decide_eq_true_eq] at hlt
      have hlt' : i < l.length := by omega
      obtain ⟨x, hx⟩ : ∃ x, l[i]? = some x := ⟨l[i], by simp [hlt']⟩
      have hw : wi ((i : Int) + 1) = ((i + 1 : Nat) : Int) := by rw [wi_id] <;> omega
      have bad : ¬ chainAt e.Claim.Seed l i → Does (some (.error 1 : Except Int Unit)) (fun r => r = okE (∀ j : Nat, (i : Int) ≤ j → j < l.length → chainAt e.Claim.Seed l j) 1) := by
        intro h
        refine does_some ?_
        rw [okE_f]
        intro h2; exact h (h2 i (by omega) hlt')
      have good : chainAt e.Claim.Seed l i → Does (rec (x.Link, ((i + 1 : Nat) : Int))) (fun r => r = okE (∀ j : Nat, (i : Int) ≤ j → j < l.length → chainAt e.Claim.Seed l j) 1) := by
        intro h
        refine does_mono (hrec (x.Link, ((i + 1 : Nat) : Int)) ⟨i + 1, rfl, by omega, by simp [prevLink, hx]⟩ (by simp; omega)) ?_
        intro r hr
        rw [hr]
        by_cases hc : ∀ j : Nat, ((i + 1 : Nat) : Int) ≤ j → j < l.length → chainAt e.Claim.Seed l j
        · rw [okE_t hc, okE_t]
          intro j h1 h2
          by_cases hj : j = i
          · subst hj; exact h
          · exact hc j (by omega) h2
        · rw [okE_f hc, okE_f]
          intro h2; exact hc (fun j h3 h4 => h2 j (by omega) h4)
      simp only [hx, Option.bind_some, a_inside, a_need, exc_need, hw, g_auditor_examined_chained_j6, g_auditor_examined_chained_j7, g_auditor_examined_chained_j8, a_link, hl, cond_false, cond_true]
      have hprev : maxI 0 (wi ((i : Int) - 1)) = ((i - 1 : Nat) : Int) := by rw [wi_id (by omega) (by omega)]; unfold maxI; split <;> omega
      simp only [hprev, getI_nat, a_follows]
      have chain : chainAt e.Claim.Seed l i ↔ (1 ≤ x.Serial ∧ x.Serial ≤ 1000000) ∧ x.Number = i + 1 ∧ (0 ≤ x.Minute ∧ x.Minute ≤ 52560000) ∧ (0 ≤ x.Register ∧ x.Register ≤ 1000000000) ∧
          (i ≠ 0 → ∀ a ∈ l[i - 1]?, folB a x = true) ∧ x.Link = linkF (prevLink e.Claim.Seed l i) x := by
        constructor
        · intro h; exact h x hx
        · intro h r hr; rw [hx] at hr; cases hr; exact h
      refine does_cond (fun h1 => ?_) (fun h1 => bad ?_)
      rotate_left
      · rw [chain]; intro h; simp at h1; have := h.1; omega
      refine does_cond (fun h2 => ?_) (fun h2 => bad ?_)
      rotate_left
      · rw [chain]; intro h; simp [eqI] at h2; exact h2 (by rw [h.2.1])
      refine does_cond (fun h3 => ?_) (fun h3 => bad ?_)
      rotate_left
      · rw [chain]; intro h; simp at h3; have := h.2.2.1; omega
      refine does_cond (fun h4 => ?_) (fun h4 => bad ?_)
      rotate_left
      · rw [chain]; intro h; simp at h4; have := h.2.2.2.1; omega
      simp only [decide_eq_true_eq, eqI, beq_iff_eq] at h1 h2 h3 h4
      have last : (i ≠ 0 → ∀ a ∈ l[i - 1]?, folB a x = true) → Does (cond (eqI x.Link (linkF (prevLink e.Claim.Seed l i) x)) (rec (x.Link, ((i + 1 : Nat) : Int))) (some (.error 1))) (fun r => r = okE (∀ j : Nat, (i : Int) ≤ j → j < l.length → chainAt e.Claim.Seed l j) 1) := by
        intro hf
        refine does_cond (fun h5 => good ?_) (fun h5 => bad ?_)
        · rw [chain]; exact ⟨h1, by rw [h2]; simp, h3, h4, hf, by simpa [eqI] using h5⟩
        · rw [chain]; intro h; simp [eqI] at h5; exact h5 h.2.2.2.2.2
      refine does_cond (fun h6 => ?_) (fun h6 => ?_)
      · refine last (fun h0 => ?_)
        simp [eqI] at h6
        omega
      · have h0 : i ≠ 0 := by intro h; subst h; simp [eqI] at h6
        obtain ⟨a, ha⟩ : ∃ a, l[i - 1]? = some a := ⟨l[i - 1]'(by omega), by rw [List.getElem?_eq_getElem]⟩
        simp only [ha, Option.bind_some]
        refine does_cond (fun h7 => last (fun _ a' ha' => ?_)) (fun h7 => bad ?_)
        · rw [ha] at ha'; cases ha'; exact h7
        · rw [chain]; intro h
          have := h.2.2.2.2.1 h0 a ha
          rw [h7] at this; cases this
end Go.Proofs
namespace Go.Proofs
open Go Go.Abs
set_option maxRecDepth 100000
set_option linter.unusedVariables false
theorem eqI_d (x y : Int) : eqI x y = decide (x = y) := by unfold eqI; by_cases h : x = y <;> simp [h]
theorem cond_some {α : Type} {b : Bool} {x y : α} : cond b (some x) (some y) = some (cond b x y) := by cases b <;> rfl
def keyB (w : List UInt8) : Bool := (g_auditor_isKey 0 w).getD false
theorem a_isKey (n : Nat) (w : List UInt8) : g_auditor_isKey n w = some (keyB w) := by
  unfold keyB g_auditor_isKey
  simp only [cond_some, Option.bind_some, Option.getD_some]
def artB (a : GArticle) : Bool := (g_auditor_validArticle 0 a).getD false
theorem a_validArticle (n : Nat) (a : GArticle) : g_auditor_validArticle n a = some (artB a) := by
  unfold artB g_auditor_validArticle
  simp only [a_inside, cond_some, Option.bind_some, Option.getD_some]
def chrB (x : UInt8) : Bool := decide ((97 ≤ b2i x ∧ b2i x ≤ 122) ∨ (48 ≤ b2i x ∧ b2i x ≤ 57) ∨ b2i x = 95)
def nameB (s : List UInt8) : Bool := decide (1 ≤ s.length ∧ s.length ≤ 12) && decide (∀ x ∈ s.head?, 97 ≤ b2i x ∧ b2i x ≤ 122) && !keyB s && s.all chrB
theorem loop_list {α R : Type} {l : List α} {B : (Int → Option R) → Int → Option R} {F : List α → R} (hlen : l.length ≤ 4611686018427387904)
    (hend : ∀ rec, B rec (l.length : Int) = some (F []))
    (hstep : ∀ (rec : Int → Option R) (i : Nat) (x : α) (r : List α), l.drop i = x :: r → l[i]? = some x → i < l.length → wi ((i : Int) + 1) = ((i + 1 : Nat) : Int) → (rec ((i + 1 : Nat) : Int) = some (F r)) → B rec (i : Int) = some (F (x :: r))) :
    ∀ {n : Nat} (i : Nat), i ≤ l.length → l.length - i < n → loopN B n (i : Int) = some (F (l.drop i))
  | 0, _, _, h => absurd h (Nat.not_lt_zero _)
  | n + 1, i, hi, h => by
    unfold loopN
    by_cases he : i = l.length
    · subst he; rw [hend]; simp
    · have hlt : i < l.length := by omega
      have hd : l.drop i = l[i] :: l.drop (i + 1) := by rw [List.drop_eq_getElem_cons hlt]
      rw [hd]
      exact hstep _ i _ _ hd (by simp [hlt]) hlt (by rw [wi_id] <;> omega) (loop_list hlen hend hstep (i + 1) (by omega) (by omega))
theorem chr_lem (c : Int) : (bif decide (97 ≤ c) then bif decide (c ≤ 122) then false else bif decide (48 ≤ c) then bif decide (c ≤ 57) then false else !(c == 95) else !(c == 95)
    else bif decide (48 ≤ c) then bif decide (c ≤ 57) then false else !(c == 95) else !(c == 95)) = !decide ((97 ≤ c ∧ c ≤ 122) ∨ (48 ≤ c ∧ c ≤ 57) ∨ c = 95) := by
  by_cases h1 : 97 ≤ c <;> by_cases h2 : c ≤ 122 <;> by_cases h3 : 48 ≤ c <;> by_cases h4 : c ≤ 57 <;> by_cases h5 : c = 95 <;> simp [h1, h2, h3, h4, h5] <;> omega
theorem a_isName (n : Nat) (s : List UInt8) (hn : 1000 ≤ n) : g_auditor_isName n s = some (nameB s) := by
  unfold g_auditor_isName nameB
  simp only [a_inside, a_isKey, Option.bind_some, lenI]
  by_cases hl : (1 : Int) ≤ s.length ∧ (s.length : Int) ≤ 12
  rotate_left
  · rw [decide_eq_false hl]
    have : ¬ (1 ≤ s.length ∧ s.length ≤ 12) := by omega
    simp [this]
  · rw [decide_eq_true hl]
    have : 1 ≤ s.length ∧ s.length ≤ 12 := by omega
    have hloop : loopN (fun recl9 l9 => g_auditor_isName_l9 s recl9 l9) n 0 = some (s.all chrB) := by
      have := loop_list (l := s) (B := fun recl9 l9 => g_auditor_isName_l9 s recl9 l9) (F := fun r => r.all chrB) (by omega) ?_ ?_ (n := n) 0 (by omega) (by omega)
      · simpa using this
      · intro rec; simp [g_auditor_isName_l9, ltI, lenI]
      · intro rec i x r hd hx hi hw hr
        unfold g_auditor_isName_l9
        simp only [lenI, getI_nat, hx, Option.bind_some, hw, hr, ltI, leI, eqI, cond_some]
        rw [decide_eq_true (by omega), cond_true, List.all_cons]
        rw [chr_lem, chrB]
        cases decide ((97 ≤ b2i x ∧ b2i x ≤ 122) ∨ (48 ≤ b2i x ∧ b2i x ≤ 57) ∨ b2i x = 95) <;> simp
    rw [hloop]
    match s, this with
    | x :: r, hh =>
      have hh2 : r.length ≤ 11 := by simpa using hh.2
      have h0 : getI (x :: r) 0 = some x := rfl
      simp only [h0, Option.bind_some, ltI, cond_some, Bool.not_true, cond_false]
      simp only [List.length_cons]
      rw [decide_eq_true (show 1 ≤ r.length + 1 ∧ r.length + 1 ≤ 12 from by omega)]
      simp only [List.head?_cons, Option.mem_def, Option.some.injEq, forall_eq', Bool.true_and]
      by_cases h1 : b2i x < 97
      · simp [h1]; omega
      · by_cases h2 : 122 < b2i x
        · simp [h1, h2]; omega
        · have : 97 ≤ b2i x ∧ b2i x ≤ 122 := by omega
          simp [h1, h2, this]
theorem loop_acc {α R A : Type} {l : List α} {B : (A × Int → Option R) → A × Int → Option R} {F : A → List α → R} (hlen : l.length ≤ 4611686018427387904)
    (hend : ∀ rec a, B rec (a, (l.length : Int)) = some (F a []))
    (hstep : ∀ (rec : A × Int → Option R) (a : A) (i : Nat) (x : α) (r : List α), l.drop i = x :: r → l[i]? = some x → i < l.length → wi ((i : Int) + 1) = ((i + 1 : Nat) : Int) → (∀ a, rec (a, ((i + 1 : Nat) : Int)) = some (F a r)) → B rec (a, (i : Int)) = some (F a (x :: r))) :
    ∀ {n : Nat} (i : Nat) (a : A), i ≤ l.length → l.length - i < n → loopN B n (a, (i : Int)) = some (F a (l.drop i))
  | 0, _, _, _, h => absurd h (Nat.not_lt_zero _)
  | n + 1, i, a, hi, h => by
    unfold loopN
    by_cases he : i = l.length
    · subst he; rw [hend]; simp
    · have hlt : i < l.length := by omega
      have hd : l.drop i = l[i] :: l.drop (i + 1) := by rw [List.drop_eq_getElem_cons hlt]
      rw [hd]
      exact hstep _ a i _ _ hd (by simp [hlt]) hlt (by rw [wi_id] <;> omega) (fun a => loop_acc hlen hend hstep (i + 1) a (by omega) (by omega))
def holB : Int → List Int → Bool
  | _, [] => true
  | a, x :: r => decide (a < x ∧ x ≤ 36500) && holB x r
def chgB : Int → List GChange → Bool
  | _, [] => true
  | a, x :: r => decide (a < x.At ∧ x.At ≤ 52560000 ∧ -1440 ≤ x.Offset ∧ x.Offset ≤ 1440) && chgB x.At r
def calB (c : GCalendar) : Bool := decide (-1440 ≤ c.Offset ∧ c.Offset ≤ 1440) && decide (c.Changes.length ≤ 16) && decide (c.Holidays.length ≤ 32) && chgB (-1) c.Changes && holB (-1) c.Holidays
theorem a_dated5 (n : Nat) (e : GAuditorExamined) (hn : 1000 ≤ n) (hl : e.Claim.Calendar.Holidays.length ≤ 32) : g_auditor_examined_dated_j5 n e = some (needE (holB (-1) e.Claim.Calendar.Holidays) 2) := by
  unfold g_auditor_examined_dated_j5
  have := loop_acc (l := e.Claim.Calendar.Holidays) (B := fun recl6 (v : Int × Int) => g_auditor_examined_dated_l6 n e recl6 v.1 v.2) (F := fun a r => needE (holB a r) 2) (by omega) ?_ ?_ (n := n) 0 (-1) (by omega) (by omega)
  · simpa using this
  · intro rec a; simp [g_auditor_examined_dated_l6, ltI, lenI, holB, needE]
  · intro rec a i x r hd hx hi hw hr
    simp only [g_auditor_examined_dated_l6, lenI, List.length_map, getI_nat, hx, Option.bind_some, hw, hr, a_need, exc_need, ltI, leI]
    rw [decide_eq_true (by omega), cond_true, holB]
    by_cases h1 : a < x <;> by_cases h2 : x ≤ 36500 <;> simp [h1, h2, needE]
theorem a_dated4 (n : Nat) (e : GAuditorExamined) (hn : 1000 ≤ n) (hl : e.Claim.Calendar.Holidays.length ≤ 32) (hl2 : e.Claim.Calendar.Changes.length ≤ 16) : g_auditor_examined_dated_j4 n e = some (needE (chgB (-1) e.Claim.Calendar.Changes && holB (-1) e.Claim.Calendar.Holidays) 2) := by
  unfold g_auditor_examined_dated_j4
  have := loop_acc (l := e.Claim.Calendar.Changes) (B := fun recl6 (v : Int × Int) => g_auditor_examined_dated_l13 n e recl6 v.1 v.2) (F := fun a r => needE (chgB a r && holB (-1) e.Claim.Calendar.Holidays) 2) (by omega) ?_ ?_ (n := n) 0 (-1) (by omega) (by omega)
  · simpa using this
  · intro rec a; simp [g_auditor_examined_dated_l13, ltI, lenI, chgB, a_dated5 n e hn hl]
  · intro rec a i x r hd hx hi hw hr
    simp only [g_auditor_examined_dated_l13, lenI, List.length_map, getI_nat, hx, Option.bind_some, hw, hr, a_need, a_inside, exc_need, ltI, leI]
    rw [decide_eq_true (by omega), cond_true, chgB]
    by_cases h1 : a < x.At <;> by_cases h2 : x.At ≤ 52560000 <;> by_cases h3 : -1440 ≤ x.Offset ∧ x.Offset ≤ 1440 <;> simp [h1, h2, h3, needE]
theorem a_dated (n : Nat) (e : GAuditorExamined) (hn : 1000 ≤ n) : g_auditor_examined_dated n e = some (needE (calB e.Claim.Calendar) 2) := by
  unfold g_auditor_examined_dated calB
  simp only [a_inside, a_need, exc_need, Option.bind_some, lenI, List.length_map, leI]
  by_cases h1 : -1440 ≤ e.Claim.Calendar.Offset ∧ e.Claim.Calendar.Offset ≤ 1440
  · by_cases h2 : e.Claim.Calendar.Changes.length ≤ 16
    · by_cases h3 : e.Claim.Calendar.Holidays.length ≤ 32
      · rw [a_dated4 n e hn h3 h2]
        have h2' : (e.Claim.Calendar.Changes.length : Int) ≤ 16 := by omega
        have h3' : (e.Claim.Calendar.Holidays.length : Int) ≤ 32 := by omega
        simp [h1, h2, h3, h2', h3']
      · have h2' : (e.Claim.Calendar.Changes.length : Int) ≤ 16 := by omega
        have h3' : ¬ (e.Claim.Calendar.Holidays.length : Int) ≤ 32 := by omega
        simp [h1, h2, h3, h2', h3', needE]
    · have h2' : ¬ (e.Claim.Calendar.Changes.length : Int) ≤ 16 := by omega
      simp [h1, h2, h2', needE]
  · simp [h1, needE]
theorem loop_gen {α R A V : Type} {l : List α} (S : A → Int → V) {B : (V → Option R) → V → Option R} {F : A → List α → R} (Inv : Nat → A → Prop) (hlen : l.length ≤ 4611686018427387904)
    (hend : ∀ rec a, Inv l.length a → B rec (S a (l.length : Int)) = some (F a []))
    (hstep : ∀ (rec : V → Option R) (a : A) (i : Nat) (x : α) (r : List α), Inv i a → l.drop i = x :: r → l[i]? = some x → i < l.length → wi ((i : Int) + 1) = ((i + 1 : Nat) : Int) → (∀ a, Inv (i + 1) a → rec (S a ((i + 1 : Nat) : Int)) = some (F a r)) → B rec (S a (i : Int)) = some (F a (x :: r))) :
    ∀ {n : Nat} (i : Nat) (a : A), Inv i a → i ≤ l.length → l.length - i < n → loopN B n (S a (i : Int)) = some (F a (l.drop i))
  | 0, _, _, _, _, h => absurd h (Nat.not_lt_zero _)
  | n + 1, i, a, ha, hi, h => by
    unfold loopN
    by_cases he : i = l.length
    · subst he; rw [hend _ _ ha]; simp
    · have hlt : i < l.length := by omega
      have hd : l.drop i = l[i] :: l.drop (i + 1) := by rw [List.drop_eq_getElem_cons hlt]
      rw [hd]
      exact hstep _ a i _ _ ha hd (by simp [hlt]) hlt (by rw [wi_id] <;> omega) (fun a ha => loop_gen S Inv hlen hend hstep (i + 1) a ha (by omega) (by omega))
def tarB : Int → List GArticle → Bool
  | k, [] => decide (k ≤ 1)
  | k, a :: r => artB a && tarB (if a.Kind = 6 then k + 1 else k) r
def rateF : Int → List GArticle → Int
  | z, [] => z
  | z, a :: r => rateF (if a.Kind = 6 then a.Price else z) r
def tariffB (t : GTariff) : Bool := nameB t.Name && decide (t.Articles.length ≤ 12) && tarB 0 t.Articles
def tarM (e : GAuditorExamined) (z : Int) : GAuditorExamined := ⟨e.Claim, ⟨e.follows.From, e.follows.To, e.follows.End, []⟩, ⟨[], e.bill.Net, e.bill.Tax, e.bill.Total⟩, z⟩
def tarF (e : GAuditorExamined) : Int × Int → List GArticle → Except (Int × GAuditorExamined) GAuditorExamined
  | (k, z), [] => if k ≤ 1 then .ok (tarM e z) else .error (2, tarM e z)
  | (k, z), a :: r => if artB a then tarF e (if a.Kind = 6 then (k + 1, a.Price) else (k, z)) r else .error (2, tarM e z)
theorem tarF_eq (e : GAuditorExamined) : ∀ (l : List GArticle) (k z : Int), ∃ e', tarF e (k, z) l = if tarB k l then .ok (tarM e (rateF z l)) else .error (2, e')
  | [], k, z => ⟨tarM e z, by simp [tarF, tarB, rateF]⟩
  | a :: r, k, z => by
    cases h : artB a
    · exact ⟨tarM e z, by simp [tarF, tarB, h]⟩
    · by_cases h6 : a.Kind = 6
      · obtain ⟨e', he⟩ := tarF_eq e r (k + 1) a.Price
        exact ⟨e', by simp [tarF, tarB, rateF, h, h6, he]⟩
      · obtain ⟨e', he⟩ := tarF_eq e r k z
        exact ⟨e', by simp [tarF, tarB, rateF, h, h6, he]⟩
theorem a_tariffed1 (n : Nat) (e : GAuditorExamined) (hn : 1000 ≤ n) (hl : e.Claim.Tariff.Articles.length ≤ 12) : g_auditor_examined_tariffed_j1 n e = some (tarF e (0, e.rate) e.Claim.Tariff.Articles) := by
  unfold g_auditor_examined_tariffed_j1
  have := loop_gen (l := e.Claim.Tariff.Articles) (fun (a : Int × Int) i => (a.1, i, a.2)) (B := fun recl5 (v : Int × Int × Int) => g_auditor_examined_tariffed_l5 n e recl5 v.1 v.2.1 v.2.2) (F := tarF e) (fun i a => 0 ≤ a.1 ∧ a.1 ≤ i) (by omega) ?_ ?_ (n := n) 0 (0, e.rate) (by simp) (by omega) (by omega)
  · simpa using this
  · rintro rec ⟨k, z⟩ hk
    simp only [g_auditor_examined_tariffed_l5, lenI, List.length_map, ltI, g_auditor_examined_tariffed_j2, a_need, exc_need, Option.bind_some, leI]
    rw [decide_eq_false (by omega), cond_false]
    by_cases h : k ≤ 1 <;> simp [h, tarF, tarM]
  · rintro rec ⟨k, z⟩ i x r hk hd hx hi hw hr
    simp only [g_auditor_examined_tariffed_l5, lenI, List.length_map, ltI, getI_nat, hx, Option.bind_some, a_validArticle, a_need, exc_need, hw, eqI_d]
    rw [decide_eq_true (by omega), cond_true]
    simp only at hk
    have hk1 : wi (k + 1) = k + 1 := by rw [wi_id] <;> omega
    cases ha : artB x
    · simp [tarF, ha, tarM]
    · rw [cond_true, hk1]
      by_cases h6 : x.Kind = 6
      · have := hr (k + 1, x.Price) (by simp; omega)
        simp only at this
        rw [this]; simp [h6, tarF, ha]
      · have := hr (k, z) (by simp; omega)
        simp only at this
        rw [this]; simp [h6, tarF, ha]
theorem a_tariffed (n : Nat) (e : GAuditorExamined) (hn : 1000 ≤ n) : ∃ e', g_auditor_examined_tariffed n e = some (if tariffB e.Claim.Tariff then .ok (tarM e (rateF e.rate e.Claim.Tariff.Articles)) else .error (2, e')) := by
  unfold g_auditor_examined_tariffed tariffB
  simp only [a_isName n _ hn, a_need, exc_need, Option.bind_some, lenI, List.length_map, leI]
  cases h1 : nameB e.Claim.Tariff.Name
  · exact ⟨tarM e e.rate, by simp [tarM]⟩
  · by_cases h2 : e.Claim.Tariff.Articles.length ≤ 12
    · rw [a_tariffed1 n e hn h2]
      obtain ⟨e', he⟩ := tarF_eq e e.Claim.Tariff.Articles 0 e.rate
      have h2' : (e.Claim.Tariff.Articles.length : Int) ≤ 12 := by omega
      exact ⟨e', by simp [h2, h2', he]⟩
    · have h2' : ¬ (e.Claim.Tariff.Articles.length : Int) ≤ 12 := by omega
      exact ⟨tarM e e.rate, by simp [h2, h2', tarM]⟩
end Go.Proofs
namespace Go.Proofs
open Go Go.Abs
set_option maxRecDepth 100000
set_option linter.unusedVariables false
def addS (m d e : Int) (sl : List GSlice) : Int × List GSlice := (wi (m + 1), sl ++ [⟨m, d⟩])
def derS (m0 : Int) (p x : GReading) (e : Int) (sl : List GSlice) : Int × List GSlice :=
  if x.Serial = p.Serial ∧ m0 < x.Minute then
    if wi (x.Register - p.Register) = 0 then (e, sl)
    else match sl.getLast? with
      | some q => if q.Minute = wi (x.Minute - 1) then (e, sl.set (sl.length - 1) ⟨q.Minute, wi (q.Energy + wi (x.Register - p.Register))⟩) else addS (wi (x.Minute - 1)) (wi (x.Register - p.Register)) e sl
      | none => addS (wi (x.Minute - 1)) (wi (x.Register - p.Register)) e sl
  else (e, sl)
def derF (m0 : Int) : GReading → Int → List GSlice → List GReading → Int × List GSlice
  | _, e, sl, [] => (e, sl)
  | p, e, sl, x :: r => derF m0 x (derS m0 p x e sl).1 (derS m0 p x e sl).2 r
theorem getI_last {α : Type} {l : List α} (h : 0 < l.length) (h2 : l.length ≤ 1000000) : getI l (wi ((l.length : Int) - 1)) = l.getLast? := by
  rw [wi_id (by omega) (by omega), show ((l.length : Int) - 1) = ((l.length - 1 : Nat) : Int) from by omega, getI_nat, List.getLast?_eq_getElem?]
theorem a_derive4 (n : Nat) (e : GAuditorExamined) (x1 : GReading) (hn : 1000 ≤ n) (hl : e.Claim.Readings.length ≤ 64) {r : List GReading} (he : e.Claim.Readings = x1 :: r) :
    loopN (fun recl4 (v : Int × Int × (OL GSlice)) => g_auditor_examined_derive_l4 e x1 recl4 v.1 v.2.1 v.2.2) n (1, x1.Minute, OL.nil) = some ((e.Claim.Readings.length : Int), derF x1.Minute x1 x1.Minute [] r) := by
  have := loop_gen (l := e.Claim.Readings) (fun (a : GReading × Int × OL GSlice) i => (i, a.2.1, a.2.2)) (B := fun recl4 (v : Int × Int × (OL GSlice)) => g_auditor_examined_derive_l4 e x1 recl4 v.1 v.2.1 v.2.2)
    (F := fun a r => ((e.Claim.Readings.length : Int), derF x1.Minute a.1 a.2.1 a.2.2.toL r)) (fun i a => 1 ≤ i ∧ e.Claim.Readings[i - 1]? = some a.1 ∧ a.2.2.toL.length ≤ i) (by omega) ?_ ?_ (n := n) 1 (x1, x1.Minute, OL.nil) (by simp [he]) (by simp [he]) (by omega)
  · simpa [he] using this
  · rintro rec ⟨p, en, ol⟩ ⟨h1, h2, h3⟩
    simp only [g_auditor_examined_derive_l4, lenI, List.length_map, ltI]
    rw [decide_eq_false (by omega), cond_false]
    simp [derF]
  · rintro rec ⟨p, en, ol⟩ i x r' ⟨h1, h2, h3⟩ hd hx hi hw hr
    simp only at h2 h3 hr
    have hp : wi ((i : Int) - 1) = ((i - 1 : Nat) : Int) := by rw [wi_id] <;> omega
    have hr' : ∀ (en : Int) (ol : OL GSlice), ol.toL.length ≤ i + 1 → rec (((i + 1 : Nat) : Int), en, ol) = some ((e.Claim.Readings.length : Int), derF x1.Minute x en ol.toL r') := fun en ol ho => hr (x, en, ol) ⟨by omega, by simpa using hx, ho⟩
    simp only [g_auditor_examined_derive_l4, lenI, List.length_map, ltI, hp, getI_nat, h2, hx, hw, Option.bind_some, eqI_d, derF, cond_some]
    rw [decide_eq_true (by omega), cond_true]
    by_cases c1 : x.Serial = p.Serial ∧ x1.Minute < x.Minute
    rotate_left
    · have : (bif decide (x.Serial = p.Serial) then decide (x1.Minute < x.Minute) else false) = false := by
        by_cases a : x.Serial = p.Serial <;> by_cases b : x1.Minute < x.Minute <;> simp [a, b]
        exact c1 ⟨a, b⟩
      rw [this, cond_false, hr' en ol (by omega)]
      simp only [derS, if_neg c1]
    · have : (bif decide (x.Serial = p.Serial) then decide (x1.Minute < x.Minute) else false) = true := by simp [c1.1, c1.2]
      rw [this, cond_true]
      simp only [derS, if_pos c1]
      by_cases c2 : wi (x.Register - p.Register) = 0
      · simp only [c2, decide_true, cond_true, if_true]
        exact hr' en ol (by omega)
      · simp only [c2, decide_false, cond_false, if_false]
        have hroom : ∀ m d, roomB (List.length (ol.toL ++ [(⟨m, d⟩ : GSlice)])) 16 = true := by
          intro m d; simp [roomB]; omega
        have happ : (bif roomB (List.length (ol.toL ++ [(⟨wi (x.Minute - 1), wi (x.Register - p.Register)⟩ : GSlice)])) 16 then rec (((i + 1 : Nat) : Int), wi (wi (x.Minute - 1) + 1), OL.own (ol.toL ++ [⟨wi (x.Minute - 1), wi (x.Register - p.Register)⟩])) else none) =
            some ((e.Claim.Readings.length : Int), derF x1.Minute x (addS (wi (x.Minute - 1)) (wi (x.Register - p.Register)) en ol.toL).1 (addS (wi (x.Minute - 1)) (wi (x.Register - p.Register)) en ol.toL).2 r') := by
          rw [hroom, cond_true, hr' _ _ (by simp; omega)]
          rfl
        by_cases c3 : ol.toL = []
        · rw [happ]; simp [c3, addS]
        · have hpos : 0 < ol.toL.length := List.length_pos_iff.2 c3
          obtain ⟨q, hq⟩ : ∃ q, ol.toL.getLast? = some q := ⟨_, List.getLast?_eq_some_getLast c3⟩
          simp only [getI_last hpos (by omega), hq, Option.bind_some]
          rw [decide_eq_true (show (0 : Int) < ol.toL.length from by omega), cond_true, Option.bind_some]
          by_cases c4 : q.Minute = wi (x.Minute - 1)
          · simp only [c4, decide_true, cond_true, if_true]
            rw [hr' _ _ (by simp; omega)]
            rw [wi_id (x := (ol.toL.length : Int) - 1) (by omega) (by omega), show ((ol.toL.length : Int) - 1).toNat = ol.toL.length - 1 from by omega]
            rfl
          · simp only [c4, decide_false, cond_false, if_false]
            exact happ
def sesF : List GReading → GSession
  | [] => ⟨0, 0, 0, []⟩
  | x :: r => ⟨x.Minute, ((x :: r).getLast (by simp)).Minute, (derF x.Minute x x.Minute [] r).1, (derF x.Minute x x.Minute [] r).2⟩
def sesB (s : GSession) : Bool := decide (s.From < s.To) && decide (wi (s.To - s.From) ≤ 2880) && decide (s.Slices.length ≤ 48) && s.Slices.all (fun x => decide (x.Energy ≤ 10000))
theorem a_derive14 (n : Nat) (e : GAuditorExamined) (x1 x2 : GReading) (en : Int) (sl : List GSlice) (hn : 1000 ≤ n) (hl : sl.length ≤ 48) :
    ∃ e', g_auditor_examined_derive_j14 n e x1 x2 en sl = some (if sl.all (fun x => decide (x.Energy ≤ 10000)) then .ok ⟨e.Claim, ⟨x1.Minute, x2.Minute, en, sl⟩, ⟨[], e.bill.Net, e.bill.Tax, e.bill.Total⟩, e.rate⟩ else .error (3, e')) := by
  refine ⟨⟨e.Claim, ⟨e.follows.From, e.follows.To, e.follows.End, []⟩, ⟨[], e.bill.Net, e.bill.Tax, e.bill.Total⟩, e.rate⟩, ?_⟩
  unfold g_auditor_examined_derive_j14
  have := loop_list (l := sl) (B := fun recl15 l15 => g_auditor_examined_derive_l15 n e x1 x2 en sl recl15 l15)
    (F := fun r => if r.all (fun x => decide (x.Energy ≤ 10000)) then .ok ⟨e.Claim, ⟨x1.Minute, x2.Minute, en, sl⟩, ⟨[], e.bill.Net, e.bill.Tax, e.bill.Total⟩, e.rate⟩ else .error (3, ⟨e.Claim, ⟨e.follows.From, e.follows.To, e.follows.End, []⟩, ⟨[], e.bill.Net, e.bill.Tax, e.bill.Total⟩, e.rate⟩))
    (by omega) ?_ ?_ (n := n) 0 (by omega) (by omega)
  · simpa using this
  · intro rec
    simp only [g_auditor_examined_derive_l15, lenI, List.length_map, ltI]
    rw [decide_eq_false (by omega), cond_false]
    simp
  · intro rec i x r hd hx hi hw hr
    simp only [g_auditor_examined_derive_l15, lenI, List.length_map, ltI, getI_nat, hx, Option.bind_some, a_need, exc_need, hw, hr, leI, List.all_cons]
    rw [decide_eq_true (by omega), cond_true]
    by_cases h : x.Energy ≤ 10000 <;> simp [h]
theorem a_derive (n : Nat) (e : GAuditorExamined) (hn : 1000 ≤ n) (hne : e.Claim.Readings ≠ []) (hl : e.Claim.Readings.length ≤ 64) :
    ∃ e', g_auditor_examined_derive n e = some (if sesB (sesF e.Claim.Readings) then .ok ⟨e.Claim, sesF e.Claim.Readings, ⟨[], e.bill.Net, e.bill.Tax, e.bill.Total⟩, e.rate⟩ else .error (3, e')) := by
  obtain ⟨x1, r, he⟩ := List.exists_cons_of_ne_nil hne
  unfold g_auditor_examined_derive
  have hpos : 0 < e.Claim.Readings.length := List.length_pos_iff.2 hne
  have hx2 : e.Claim.Readings.getLast? = some (e.Claim.Readings.getLast hne) := List.getLast?_eq_some_getLast hne
  have h0 : getI e.Claim.Readings 0 = some x1 := by rw [he]; rfl
  have h4 := a_derive4 n e x1 hn hl he
  simp only [lenI, List.length_map, h0, Option.bind_some, getI_last hpos (by omega), hx2]
  have hmatch : ∀ (k : Int × Int × List GSlice → Option (Except (Int × GAuditorExamined) GAuditorExamined)), (loopN (fun recl4 x => g_auditor_examined_derive_l4 e x1 recl4 x.1 x.2.1 x.2.2) n (1, x1.Minute, OL.nil)).bind k = k ((e.Claim.Readings.length : Int), derF x1.Minute x1 x1.Minute [] r) := by
    intro k; rw [h4]; rfl
  rw [hmatch]
  have hs : sesF e.Claim.Readings = ⟨x1.Minute, (e.Claim.Readings.getLast hne).Minute, (derF x1.Minute x1 x1.Minute [] r).1, (derF x1.Minute x1 x1.Minute [] r).2⟩ := by
    have : ∀ (l : List GReading) (h : l ≠ []), l = x1 :: r → sesF l = ⟨x1.Minute, (l.getLast h).Minute, (derF x1.Minute x1 x1.Minute [] r).1, (derF x1.Minute x1 x1.Minute [] r).2⟩ := by
      intro l h hl; subst hl; rfl
    exact this _ hne he
  rw [hs]
  generalize (e.Claim.Readings.getLast hne) = x2
  generalize derF x1.Minute x1 x1.Minute [] r = q
  obtain ⟨en, sl⟩ := q
  simp only [a_need, exc_need, Option.bind_some, ltI, leI, sesB]
  by_cases c1 : x1.Minute < x2.Minute
  · by_cases c2 : wi (x2.Minute - x1.Minute) ≤ 2880
    · by_cases c3 : sl.length ≤ 48
      · have c3' : (sl.length : Int) ≤ 48 := by omega
        obtain ⟨e', h⟩ := a_derive14 n e x1 x2 en sl hn c3
        exact ⟨e', by simp only [c1, c2, c3, c3', decide_true, cond_true, Bool.true_and]; exact h⟩
      · have c3' : ¬ (sl.length : Int) ≤ 48 := by omega
        exact ⟨_, by simp only [c1, c2, c3, c3', decide_true, decide_false, cond_true, cond_false, Bool.true_and, Bool.false_and, Bool.and_false, Bool.false_eq_true, if_false]; rfl⟩
    · exact ⟨_, by simp only [c1, c2, decide_true, decide_false, cond_true, cond_false, Bool.false_and, Bool.and_false, Bool.false_eq_true, if_false]; rfl⟩
  · exact ⟨_, by simp only [c1, decide_false, cond_false, Bool.false_and, Bool.false_eq_true, if_false]; rfl⟩
theorem a_sameSlice (n : Nat) (a b : List GSlice) (hn : 1000 ≤ n) (hl : b.length ≤ 900) : g_auditor_same_api_Slice n a b = some (decide (a = b)) := by
  unfold g_auditor_same_api_Slice
  simp only [lenI, List.length_map, eqI_d]
  by_cases h : a.length = b.length
  rotate_left
  · have h' : ¬ (a.length : Int) = b.length := by omega
    have h2 : ¬ a = b := fun h3 => h (by rw [h3])
    simp [h', h2]
  · rw [decide_eq_true (show (a.length : Int) = b.length from by omega), Bool.not_true, cond_false]
    have := loop_gen (l := a) (fun (_ : List GSlice) i => i) (B := fun recl1 l1 => g_auditor_same_api_Slice_l1 a b recl1 l1) (F := fun q r => decide (r = q)) (fun i q => b.drop i = q) (by omega) ?_ ?_ (n := n) 0 b (by simp) (by omega) (by omega)
    · simpa using this
    · intro rec q hq
      simp only [g_auditor_same_api_Slice_l1, lenI, List.length_map, ltI]
      rw [decide_eq_false (by omega), cond_false]
      rw [h, List.drop_length] at hq
      subst hq; simp
    · intro rec q i x r hq hd hx hi hw hr
      have hb : b[i]? = some b[i] := by rw [List.getElem?_eq_getElem]
      have hq2 : q = b[i] :: b.drop (i + 1) := by rw [← hq, List.drop_eq_getElem_cons (by omega)]
      simp only [g_auditor_same_api_Slice_l1, lenI, List.length_map, ltI, getI_nat, hx, hb, Option.bind_some, eqI_d, opq, hw]
      rw [decide_eq_true (by omega), cond_true, hr _ rfl, hq2]
      obtain ⟨xm, xe⟩ := x
      generalize b[i] = y
      obtain ⟨ym, ye⟩ := y
      by_cases h1 : xm = ym <;> by_cases h2 : xe = ye <;> simp [h1, h2]
theorem a_sameLine (n : Nat) (a b : List GLine) (hn : 1000 ≤ n) (hl : b.length ≤ 900) : g_auditor_same_api_Line n a b = some (decide (a = b)) := by
  unfold g_auditor_same_api_Line
  simp only [lenI, List.length_map, eqI_d]
  by_cases h : a.length = b.length
  rotate_left
  · have h' : ¬ (a.length : Int) = b.length := by omega
    have h2 : ¬ a = b := fun h3 => h (by rw [h3])
    simp [h', h2]
  · rw [decide_eq_true (show (a.length : Int) = b.length from by omega), Bool.not_true, cond_false]
    have := loop_gen (l := a) (fun (_ : List GLine) i => i) (B := fun recl1 l1 => g_auditor_same_api_Line_l1 a b recl1 l1) (F := fun q r => decide (r = q)) (fun i q => b.drop i = q) (by omega) ?_ ?_ (n := n) 0 b (by simp) (by omega) (by omega)
    · simpa using this
    · intro rec q hq
      simp only [g_auditor_same_api_Line_l1, lenI, List.length_map, ltI]
      rw [decide_eq_false (by omega), cond_false]
      rw [h, List.drop_length] at hq
      subst hq; simp
    · intro rec q i x r hq hd hx hi hw hr
      have hb : b[i]? = some b[i] := by rw [List.getElem?_eq_getElem]
      have hq2 : q = b[i] :: b.drop (i + 1) := by rw [← hq, List.drop_eq_getElem_cons (by omega)]
      simp only [g_auditor_same_api_Line_l1, lenI, List.length_map, ltI, getI_nat, hx, hb, Option.bind_some, eqI_d, opq, hw]
      rw [decide_eq_true (by omega), cond_true, hr _ rfl, hq2]
      obtain ⟨xm, xe⟩ := x
      generalize b[i] = y
      obtain ⟨ym, ye⟩ := y
      by_cases h1 : xm = ym <;> by_cases h2 : xe = ye <;> simp [h1, h2]
theorem a_compared (n : Nat) (e : GAuditorExamined) (hn : 1000 ≤ n) (hl : e.follows.Slices.length ≤ 900) : g_auditor_examined_compared n e = some (needE (decide (e.Claim.Session = e.follows)) 3) := by
  unfold g_auditor_examined_compared
  simp only [a_sameSlice n _ _ hn hl, a_need, exc_need, Option.bind_some, eqI_d]
  generalize e.Claim.Session = s
  generalize e.follows = t
  obtain ⟨a1, a2, a3, a4⟩ := s
  obtain ⟨b1, b2, b3, b4⟩ := t
  by_cases h1 : a1 = b1 <;> by_cases h2 : a2 = b2 <;> by_cases h3 : a3 = b3 <;> by_cases h4 : a4 = b4 <;> simp [h1, h2, h3, h4, needE]
end Go.Proofs
namespace Go.Proofs
open Go Go.Abs
set_option maxRecDepth 100000
set_option linter.unusedVariables false
theorem head_big : g_law43_head 36893488147419103232 = some true := by kernel_rfl
def offF (m : Int) : Int → List GChange → Int
  | o, [] => o
  | o, x :: r => offF m (if x.At ≤ m then x.Offset else o) r
theorem a_offset (n : Nat) (e : GAuditorExamined) (m : Int) (hn : 1000 ≤ n) (hl : e.Claim.Calendar.Changes.length ≤ 900) : g_auditor_examined_offset n e m = some (offF m e.Claim.Calendar.Offset e.Claim.Calendar.Changes) := by
  unfold g_auditor_examined_offset
  have := loop_acc (l := e.Claim.Calendar.Changes) (B := fun recl1 (v : Int × Int) => g_auditor_examined_offset_l1 e m recl1 v.1 v.2) (F := offF m) (by omega) ?_ ?_ (n := n) 0 e.Claim.Calendar.Offset (by omega) (by omega)
  · simpa using this
  · intro rec a; simp [g_auditor_examined_offset_l1, ltI, lenI, offF]
  · intro rec a i x r hd hx hi hw hr
    simp only [g_auditor_examined_offset_l1, lenI, List.length_map, getI_nat, hx, Option.bind_some, hw, hr, ltI, leI, offF]
    rw [decide_eq_true (by omega), cond_true]
    by_cases h : x.At ≤ m <;> simp [h]
def wkF (d : Int) : Int := if Int.tmod (wi (d + 7)) 7 = 5 then 1 else if Int.tmod (wi (d + 7)) 7 = 6 then 2 else 0
def typF (d : Int) : List Int → Int
  | [] => wkF d
  | x :: r => if x = d then 2 else typF d r
theorem typF_range (d : Int) : ∀ l, 0 ≤ typF d l ∧ typF d l ≤ 2
  | [] => by
    unfold typF wkF
    split
    · omega
    · split <;> omega
  | x :: r => by
    have := typF_range d r
    unfold typF; split <;> omega
theorem a_typeOf (n : Nat) (e : GAuditorExamined) (d : Int) (hn : 1000 ≤ n) (hl : e.Claim.Calendar.Holidays.length ≤ 900) : g_auditor_examined_typeOf n e d = some (typF d e.Claim.Calendar.Holidays) := by
  unfold g_auditor_examined_typeOf
  have := loop_list (l := e.Claim.Calendar.Holidays) (B := fun recl2 l2 => g_auditor_examined_typeOf_l2 e d recl2 l2) (F := typF d) (by omega) ?_ ?_ (n := n) 0 (by omega) (by omega)
  · simpa using this
  · intro rec
    simp only [g_auditor_examined_typeOf_l2, lenI, List.length_map, ltI, g_auditor_examined_typeOf_j1, eqI_d]
    rw [decide_eq_false (by omega), cond_false, typF, wkF]
    by_cases h1 : Int.tmod (wi (d + 7)) 7 = 5 <;> by_cases h2 : Int.tmod (wi (d + 7)) 7 = 6 <;> simp [h1, h2]
  · intro rec i x r hd hx hi hw hr
    simp only [g_auditor_examined_typeOf_l2, lenI, List.length_map, getI_nat, hx, Option.bind_some, hw, hr, ltI, eqI_d, typF]
    rw [decide_eq_true (by omega), cond_true]
    by_cases h : x = d <;> simp [h]
def appB (c : GCalendar) (a : GArticle) (m : Int) : Bool :=
  let w := wi (wi (m + offF m c.Offset c.Changes) + 1440)
  decide (a.From ≤ Int.tmod w 1440) && decide (Int.tmod w 1440 < a.To) && !decide (bAnd .i64 a.Days (shlI .i64 1 (typF (wi (wi (Int.tdiv w 1440) - 1)) c.Holidays)) = 0)
theorem a_applies (n : Nat) (e : GAuditorExamined) (a : GArticle) (m : Int) (hn : 1000 ≤ n) (h1 : e.Claim.Calendar.Changes.length ≤ 900) (h2 : e.Claim.Calendar.Holidays.length ≤ 900) :
    g_auditor_examined_applies n e a m = some (appB e.Claim.Calendar a m) := by
  unfold g_auditor_examined_applies appB
  simp only [a_offset n e _ hn h1, a_typeOf n e _ hn h2, Option.bind_some, leI, ltI, eqI_d]
  generalize wi (wi (m + offF m e.Claim.Calendar.Offset e.Claim.Calendar.Changes) + 1440) = w
  have h3 := typF_range (wi (wi (Int.tdiv w 1440) - 1)) e.Claim.Calendar.Holidays
  rw [decide_eq_false (show ¬ typF (wi (wi (Int.tdiv w 1440) - 1)) e.Claim.Calendar.Holidays < 0 from by omega)]
  by_cases c1 : a.From ≤ Int.tmod w 1440 <;> by_cases c2 : Int.tmod w 1440 < a.To <;> simp [c1, c2]
def cntF (c : GCalendar) (a : GArticle) : Nat → Int → Int → Int
  | 0, _, z => z
  | k + 1, m, z => cntF c a k (m + 1) (if appB c a m then wi (z + 1) else z)
def staF (c : GCalendar) (a : GArticle) (f t : Int) : Int :=
  wi (a.Price * wi (Int.tdiv (wi (wi (maxI 0 (cntF c a (t - f).toNat f (wi (0 - a.Free))) + a.Unit) - 1)) a.Unit))
theorem a_started (n : Nat) (e : GAuditorExamined) (a : GArticle) (f t : Int) (hn : 1000 ≤ n) (h1 : e.Claim.Calendar.Changes.length ≤ 900) (h2 : e.Claim.Calendar.Holidays.length ≤ 900) (hu : a.Unit ≠ 0) (hf : -9223372036854775808 ≤ f) (ht : t ≤ 9223372036854775807)
    (hk : (t - f).toNat < n) : g_auditor_examined_started n e a f t = some (staF e.Claim.Calendar a f t) := by
  have key : ∀ (k j : Nat) (z m : Int), (t - m).toNat = k → k < j → -9223372036854775808 ≤ m →
      loopN (fun recl1 (v : Int × Int) => g_auditor_examined_started_l1 n e a t recl1 v.1 v.2) j (z, m) = some (wi (a.Price * wi (Int.tdiv (wi (wi (maxI 0 (cntF e.Claim.Calendar a k m z) + a.Unit) - 1)) a.Unit))) := by
    intro k
    induction k with
    | zero =>
      intro j z m h3 h4 h5
      obtain ⟨j, rfl⟩ : ∃ i, j = i + 1 := ⟨j - 1, by omega⟩
      simp only [loopN, g_auditor_examined_started_l1, ltI, eqI_d, hu, cntF]
      rw [decide_eq_false (by omega)]
      simp
    | succ k ih =>
      intro j z m h3 h4 h5
      obtain ⟨j, rfl⟩ : ∃ i, j = i + 1 := ⟨j - 1, by omega⟩
      have hw : wi (m + 1) = m + 1 := by rw [wi_id] <;> omega
      have h6 := fun z => ih j z (m + 1) (by omega) (by omega) (by omega)
      rw [loopN]
      generalize loopN (fun recl1 (v : Int × Int) => g_auditor_examined_started_l1 n e a t recl1 v.1 v.2) j = rec at h6 ⊢
      simp only [g_auditor_examined_started_l1, ltI, a_applies n e a m hn h1 h2, Option.bind_some, hw, cntF]
      rw [decide_eq_true (by omega), cond_true]
      cases appB e.Claim.Calendar a m
      · rw [cond_false, h6]; simp
      · rw [cond_true, h6]; simp
  exact key _ n _ _ rfl hk hf
def eneF (c : GCalendar) (a : GArticle) : Int → List GSlice → Int
  | z, [] => z
  | z, x :: r => eneF c a (if appB c a x.Minute then wi (z + x.Energy) else z) r
def cosF (c : GCalendar) (s : GSession) (a : GArticle) : Int :=
  if a.Kind = 1 then (if appB c a s.From then a.Price else 0)
  else if a.Kind = 2 then wi (Int.tdiv (wi (wi (wi (2 * a.Price) * eneF c a 0 s.Slices) + 1000)) 2000)
  else if a.Kind = 3 then staF c a s.From s.To
  else if a.Kind = 4 then staF c a s.End s.To
  else 0
theorem a_cost2 (n : Nat) (e : GAuditorExamined) (a : GArticle) (hn : 1000 ≤ n) (h1 : e.Claim.Calendar.Changes.length ≤ 900) (h2 : e.Claim.Calendar.Holidays.length ≤ 900) (h3 : e.follows.Slices.length ≤ 900) :
    loopN (fun recl2 (v : Int × Int) => g_auditor_examined_cost_l2 n e a recl2 v.1 v.2) n (0, 0) = some (wi (Int.tdiv (wi (wi (wi (2 * a.Price) * eneF e.Claim.Calendar a 0 e.follows.Slices) + 1000)) 2000)) := by
  have := loop_acc (l := e.follows.Slices) (B := fun recl2 (v : Int × Int) => g_auditor_examined_cost_l2 n e a recl2 v.1 v.2) (F := fun z r => wi (Int.tdiv (wi (wi (wi (2 * a.Price) * eneF e.Claim.Calendar a z r) + 1000)) 2000)) (by omega) ?_ ?_ (n := n) 0 0 (by omega) (by omega)
  · exact this
  · intro rec z
    have h : ltI ((e.follows.Slices.length : Nat) : Int) (lenI (List.map GSlice.cs e.follows.Slices)) = false := by simp [ltI, lenI]
    show g_auditor_examined_cost_l2 n e a rec z ((e.follows.Slices.length : Nat) : Int) = _
    unfold g_auditor_examined_cost_l2
    rw [h]
    exact cond_false _ _
  · intro rec z i x r hd hx hi hw hr
    have h : ltI (i : Int) (lenI (List.map GSlice.cs e.follows.Slices)) = true := by simp [ltI, lenI]; omega
    show g_auditor_examined_cost_l2 n e a rec z (i : Int) = _
    unfold g_auditor_examined_cost_l2
    rw [h, cond_true, getI_nat, hx, Option.bind_some, a_applies n e a _ hn h1 h2, Option.bind_some, hw, hr, hr]
    have e1 : eneF e.Claim.Calendar a z (x :: r) = eneF e.Claim.Calendar a (if appB e.Claim.Calendar a x.Minute then wi (z + x.Energy) else z) r := rfl
    rw [e1]
    cases appB e.Claim.Calendar a x.Minute
    · rw [cond_false, if_neg (by decide)]
    · rw [cond_true, if_pos rfl]
theorem a_cost (n : Nat) (e : GAuditorExamined) (a : GArticle) (hn : 36893488147419103232 ≤ n) (h1 : e.Claim.Calendar.Changes.length ≤ 900) (h2 : e.Claim.Calendar.Holidays.length ≤ 900) (h3 : e.follows.Slices.length ≤ 900)
    (hu : a.Kind = 3 ∨ a.Kind = 4 → a.Unit ≠ 0) (b1 : i64b e.follows.From) (b2 : i64b e.follows.To) (b3 : i64b e.follows.End) : g_auditor_examined_cost n e a = some (cosF e.Claim.Calendar e.follows a) := by
  unfold g_auditor_examined_cost cosF
  simp only [a_applies n e a _ (by omega) h1 h2, Option.bind_some, eqI_d]
  have hn' : 1000 ≤ n := by omega
  have hloop := a_cost2 n e a hn' h1 h2 h3
  by_cases k1 : a.Kind = 1
  · simp only [k1, decide_true, cond_true, if_true]
    cases appB e.Claim.Calendar a e.follows.From <;> simp
  · by_cases k2 : a.Kind = 2
    · simp only [k2, decide_true, cond_true, if_true, show ¬ ((2 : Int) = 1) from by decide, decide_false, cond_false, if_false]
      exact hloop
    · unfold i64b at b1 b2 b3
      by_cases k3 : a.Kind = 3
      · rw [a_started n e a _ _ (by omega) h1 h2 (hu (.inl k3)) (by omega) (by omega) (by omega)]
        simp [k3]
      · by_cases k4 : a.Kind = 4
        · rw [a_started n e a e.follows.End _ (by omega) h1 h2 (hu (.inr k4)) (by omega) (by omega) (by omega)]
          simp [k4]
        · simp [k1, k2, k3, k4]
end Go.Proofs
namespace Go.Proofs
open Go Go.Abs
set_option maxRecDepth 100000
set_option linter.unusedVariables false
theorem loop_does {α R A V : Type} {l : List α} (S : A → Int → V) {B : (V → Option R) → V → Option R} {Q : A → List α → R → Prop} (Inv : Nat → A → Prop) (hlen : l.length ≤ 4611686018427387904)
    (hend : ∀ rec a, Inv l.length a → Does (B rec (S a (l.length : Int))) (Q a []))
    (hstep : ∀ (rec : V → Option R) (a : A) (i : Nat) (x : α) (r : List α), Inv i a → l.drop i = x :: r → l[i]? = some x → i < l.length → wi ((i : Int) + 1) = ((i + 1 : Nat) : Int) → (∀ a, Inv (i + 1) a → Does (rec (S a ((i + 1 : Nat) : Int))) (Q a r)) → Does (B rec (S a (i : Int))) (Q a (x :: r))) :
    ∀ {n : Nat} (i : Nat) (a : A), Inv i a → i ≤ l.length → l.length - i < n → Does (loopN B n (S a (i : Int))) (Q a (l.drop i))
  | 0, _, _, _, _, h => absurd h (Nat.not_lt_zero _)
  | n + 1, i, a, ha, hi, h => by
    unfold loopN
    by_cases he : i = l.length
    · subst he; simpa using hend _ _ ha
    · have hlt : i < l.length := by omega
      have hd : l.drop i = l[i] :: l.drop (i + 1) := by rw [List.drop_eq_getElem_cons hlt]
      rw [hd]
      exact hstep _ a i _ _ ha hd (by simp [hlt]) hlt (by rw [wi_id] <;> omega) (fun a ha => loop_does S Inv hlen hend hstep (i + 1) a ha (by omega) (by omega))
def linF (c : GCalendar) (s : GSession) : Nat → List GArticle → List GLine
  | _, [] => []
  | i, a :: r => if a.Kind = 5 ∨ a.Kind = 6 then linF c s (i + 1) r else ⟨i, cosF c s a⟩ :: linF c s (i + 1) r
def linB (l : List GLine) : Bool := l.all (fun x => decide (x.Amount ≤ 1000000000))
theorem a_price (n : Nat) (e : GAuditorExamined) (hn : 36893488147419103232 ≤ n) (h1 : e.Claim.Calendar.Changes.length ≤ 900) (h2 : e.Claim.Calendar.Holidays.length ≤ 900) (h3 : e.follows.Slices.length ≤ 900) (h4 : e.Claim.Tariff.Articles.length ≤ 900)
    (hu : ∀ a ∈ e.Claim.Tariff.Articles, a.Kind = 3 ∨ a.Kind = 4 → a.Unit ≠ 0) (b1 : i64b e.follows.From) (b2 : i64b e.follows.To) (b3 : i64b e.follows.End) :
    ∃ e', g_auditor_examined_price n e = some (if linB (linF e.Claim.Calendar e.follows 0 e.Claim.Tariff.Articles) then .ok ⟨e.Claim, e.follows, ⟨linF e.Claim.Calendar e.follows 0 e.Claim.Tariff.Articles, e.bill.Net, e.bill.Tax, e.bill.Total⟩, e.rate⟩ else .error (4, e')) := by
  have key := loop_does (l := e.Claim.Tariff.Articles) (fun (a : Nat × OL GLine) i => (i, a.2)) (B := fun recl1 (v : Int × OL GLine) => g_auditor_examined_price_l1 n e recl1 v.1 v.2)
    (Q := fun a r v => ∃ e', v = if linB (linF e.Claim.Calendar e.follows a.1 r) then .ok ⟨e.Claim, e.follows, ⟨a.2.toL ++ linF e.Claim.Calendar e.follows a.1 r, e.bill.Net, e.bill.Tax, e.bill.Total⟩, e.rate⟩ else .error (4, e'))
    (fun i a => a.1 = i ∧ a.2.toL.length ≤ i) (by omega) ?_ ?_ (n := n) 0 (0, OL.nil) (by simp) (by omega) (by omega)
  · obtain ⟨v, g1, e', g2⟩ := key
    refine ⟨e', ?_⟩
    unfold g_auditor_examined_price
    refine Eq.trans g1 ?_
    rw [g2]; rfl
  · rintro rec ⟨k, ol⟩ ⟨rfl, ho⟩
    have h : ltI ((e.Claim.Tariff.Articles.length : Nat) : Int) (lenI (List.map GArticle.cs e.Claim.Tariff.Articles)) = false := by simp [ltI, lenI]
    show Does (g_auditor_examined_price_l1 n e rec ((e.Claim.Tariff.Articles.length : Nat) : Int) ol) _
    unfold g_auditor_examined_price_l1
    rw [h, cond_false]
    refine does_some ⟨e, ?_⟩
    simp [linF, linB]
  · rintro rec ⟨k, ol⟩ i x r ⟨rfl, ho⟩ hd hx hi hw hr
    simp only at ho
    have h : ltI (k : Int) (lenI (List.map GArticle.cs e.Claim.Tariff.Articles)) = true := by simp [ltI, lenI]; omega
    show Does (g_auditor_examined_price_l1 n e rec (k : Int) ol) _
    unfold g_auditor_examined_price_l1
    rw [h, cond_true, getI_nat, hx, Option.bind_some]
    have hj : (bif eqI x.Kind 5 then some true else some (eqI x.Kind 6)) = some (decide (x.Kind = 5 ∨ x.Kind = 6)) := by
      simp only [eqI_d]
      by_cases c1 : x.Kind = 5 <;> by_cases c2 : x.Kind = 6 <;> simp [c1, c2]
    rw [hj, Option.bind_some, hw]
    by_cases c : x.Kind = 5 ∨ x.Kind = 6
    · rw [decide_eq_true c, cond_true]
      refine does_mono (hr (k + 1, ol) ⟨rfl, by simp; omega⟩) ?_
      rintro v ⟨e', hv⟩
      exact ⟨e', by rw [hv, linF, if_pos c]⟩
    · rw [decide_eq_false c, cond_false]
      have hc := a_cost n (⟨e.Claim, e.follows, ⟨ol.toL, e.bill.Net, e.bill.Tax, e.bill.Total⟩, e.rate⟩ : GAuditorExamined) x hn h1 h2 h3 (hu x (List.mem_of_getElem? hx)) b1 b2 b3
      rw [hc, Option.bind_some, a_need, Option.bind_some, exc_need]
      simp only
      have hroom : roomB (List.length (ol.toL ++ [(⟨(k : Int), cosF e.Claim.Calendar e.follows x⟩ : GLine)])) 16 = true := by simp [roomB]; omega
      rw [hroom, cond_true, leI]
      have e1 : linF e.Claim.Calendar e.follows k (x :: r) = ⟨(k : Int), cosF e.Claim.Calendar e.follows x⟩ :: linF e.Claim.Calendar e.follows (k + 1) r := by rw [linF, if_neg c]
      rw [e1]
      by_cases d : cosF e.Claim.Calendar e.follows x ≤ 1000000000
      · rw [decide_eq_true d, cond_true]
        refine does_mono (hr (k + 1, OL.own _) ⟨rfl, by simp; omega⟩) ?_
        rintro v ⟨e', hv⟩
        exact ⟨e', by rw [hv]; simp [linB, d]⟩
      · rw [decide_eq_false d, cond_false]
        exact does_some ⟨_, by simp [linB, d]; rfl⟩
def sumF : Int → List GLine → Int
  | z, [] => z
  | z, x :: r => sumF (wi (z + x.Amount)) r
def capF : Int → List GArticle → Int
  | z, [] => z
  | z, a :: r => capF (if a.Kind = 5 then minI z a.Price else z) r
def taxF (net rate : Int) : Int := wi (Int.tdiv (wi (wi (wi (2 * net) * rate) + 10000)) 20000)
def netF (t : GTariff) (z : Int) (l : List GLine) : Int := capF (sumF z l) t.Articles
def bilF (t : GTariff) (rate z : Int) (l : List GLine) : GBill := ⟨l, netF t z l, taxF (netF t z l) rate, wi (netF t z l + taxF (netF t z l) rate)⟩
def bilB (b : GBill) : Bool := decide (b.Net ≤ 1000000000) && decide (b.Total ≤ 1000000000)
theorem a_add2 (n : Nat) (e : GAuditorExamined) (z : Int) (hn : 1000 ≤ n) (hl : e.bill.Lines.length ≤ 900) : loopN (fun recl2 (v : Int × Int) => g_auditor_examined_add_l2 e recl2 v.1 v.2) n (0, z) = some (sumF z e.bill.Lines) := by
  refine loop_gen (l := e.bill.Lines) (fun (a : Int) i => (i, a)) (B := fun recl2 (v : Int × Int) => g_auditor_examined_add_l2 e recl2 v.1 v.2) (F := sumF) (fun _ _ => True) (by omega) ?_ ?_ (n := n) 0 z trivial (by omega) (by omega)
  · intro rec a _
    have h : ltI ((e.bill.Lines.length : Nat) : Int) (lenI (List.map GLine.cs e.bill.Lines)) = false := by simp [ltI, lenI]
    show g_auditor_examined_add_l2 e rec ((e.bill.Lines.length : Nat) : Int) a = _
    unfold g_auditor_examined_add_l2
    rw [h]; rfl
  · intro rec a i x r _ hd hx hi hw hr
    have h : ltI (i : Int) (lenI (List.map GLine.cs e.bill.Lines)) = true := by simp [ltI, lenI]; omega
    show g_auditor_examined_add_l2 e rec (i : Int) a = _
    unfold g_auditor_examined_add_l2
    rw [h, cond_true, getI_nat, hx, Option.bind_some, hw, hr _ trivial]; rfl
theorem a_add5 (n : Nat) (e : GAuditorExamined) (z : Int) (hn : 1000 ≤ n) (hl : e.Claim.Tariff.Articles.length ≤ 900) : loopN (fun recl5 (v : Int × Int) => g_auditor_examined_add_l5 e recl5 v.1 v.2) n (0, z) = some (capF z e.Claim.Tariff.Articles) := by
  refine loop_gen (l := e.Claim.Tariff.Articles) (fun (a : Int) i => (i, a)) (B := fun recl5 (v : Int × Int) => g_auditor_examined_add_l5 e recl5 v.1 v.2) (F := capF) (fun _ _ => True) (by omega) ?_ ?_ (n := n) 0 z trivial (by omega) (by omega)
  · intro rec a _
    have h : ltI ((e.Claim.Tariff.Articles.length : Nat) : Int) (lenI (List.map GArticle.cs e.Claim.Tariff.Articles)) = false := by simp [ltI, lenI]
    show g_auditor_examined_add_l5 e rec ((e.Claim.Tariff.Articles.length : Nat) : Int) a = _
    unfold g_auditor_examined_add_l5
    rw [h]; rfl
  · intro rec a i x r _ hd hx hi hw hr
    have h : ltI (i : Int) (lenI (List.map GArticle.cs e.Claim.Tariff.Articles)) = true := by simp [ltI, lenI]; omega
    show g_auditor_examined_add_l5 e rec (i : Int) a = _
    unfold g_auditor_examined_add_l5
    rw [h, cond_true, getI_nat, hx, Option.bind_some, hw, hr _ trivial, hr _ trivial, eqI_d, capF]
    by_cases c : x.Kind = 5 <;> simp [c]
theorem a_add (n : Nat) (e : GAuditorExamined) (hn : 1000 ≤ n) (hl : e.bill.Lines.length ≤ 900) (h4 : e.Claim.Tariff.Articles.length ≤ 900) :
    ∃ e', g_auditor_examined_add n e = some (if bilB (bilF e.Claim.Tariff e.rate e.bill.Net e.bill.Lines) then .ok ⟨e.Claim, e.follows, bilF e.Claim.Tariff e.rate e.bill.Net e.bill.Lines, e.rate⟩ else .error (5, e')) := by
  unfold g_auditor_examined_add
  have g1 := a_add2 n e e.bill.Net hn hl
  have g2 := a_add5 n e (sumF e.bill.Net e.bill.Lines) hn h4
  have k1 : ∀ (k : Int → Option (Except (Int × GAuditorExamined) GAuditorExamined)), (loopN (fun recl2 x => g_auditor_examined_add_l2 e recl2 x.1 x.2) n (0, e.bill.Net)).bind k = k (sumF e.bill.Net e.bill.Lines) := fun k => by rw [g1]; rfl
  have k2 : ∀ (k : Int → Option (Except (Int × GAuditorExamined) GAuditorExamined)), (loopN (fun recl5 x => g_auditor_examined_add_l5 e recl5 x.1 x.2) n (0, sumF e.bill.Net e.bill.Lines)).bind k = k (capF (sumF e.bill.Net e.bill.Lines) e.Claim.Tariff.Articles) := fun k => by rw [g2]; rfl
  rw [k1, k2]
  rw [show capF (sumF e.bill.Net e.bill.Lines) e.Claim.Tariff.Articles = netF e.Claim.Tariff e.bill.Net e.bill.Lines from rfl]
  unfold bilB bilF
  generalize netF e.Claim.Tariff e.bill.Net e.bill.Lines = w
  rw [show wi (Int.tdiv (wi (wi (wi (2 * w) * e.rate) + 10000)) 20000) = taxF w e.rate from rfl]
  generalize taxF w e.rate = t
  rw [a_need, Option.bind_some, exc_need, a_need, Option.bind_some, exc_need, leI, leI]
  generalize wi (w + t) = tt
  by_cases c1 : w ≤ 1000000000
  · by_cases c2 : tt ≤ 1000000000
    · exact ⟨e, by simp [c1, c2]⟩
    · exact ⟨_, by simp [c1, c2]; rfl⟩
  · exact ⟨_, by simp [c1]; rfl⟩
end Go.Proofs
namespace Go.Proofs
open Go Go.Abs
set_option maxRecDepth 100000
set_option linter.unusedVariables false
theorem wi_b (x : Int) : i64b (wi x) := by
  simp only [i64b, wi, IntKind.wrap, IntKind.signed, IntKind.bits]
  simp
  omega
theorem artB_unit {a : GArticle} (h : artB a = true) (hk : a.Kind = 3 ∨ a.Kind = 4) : a.Unit ≠ 0 := by
  intro hu
  unfold artB g_auditor_validArticle at h
  simp only [a_inside, cond_some, Option.bind_some, Option.getD_some, eqI_d, hu] at h
  rcases hk with hk | hk <;> simp [hk] at h
theorem tarB_all : ∀ {l : List GArticle} {k : Int}, tarB k l = true → ∀ a ∈ l, artB a = true
  | [], _, _, a, ha => by cases ha
  | x :: r, k, h, a, ha => by
    simp only [tarB, Bool.and_eq_true] at h
    rcases List.mem_cons.1 ha with rfl | ha
    · exact h.1
    · exact tarB_all h.2 a ha
theorem derF_end (m0 : Int) : ∀ (l : List GReading) (p : GReading) (e : Int) (sl : List GSlice), i64b e → i64b (derF m0 p e sl l).1
  | [], p, e, sl, h => h
  | x :: r, p, e, sl, h => by
    unfold derF
    refine derF_end m0 r x _ _ ?_
    unfold derS addS
    split
    · split
      · exact h
      · split
        · split
          · exact h
          · exact wi_b _
        · exact wi_b _
    · exact h
def linesOf (c : GClaim) : List GLine := linF c.Calendar (sesF c.Readings) 0 c.Tariff.Articles
def billOf (c : GClaim) : GBill := bilF c.Tariff (rateF 0 c.Tariff.Articles) 0 (linesOf c)
open Classical in
noncomputable def exa (c : GClaim) (own : Bool) : Int :=
  if ¬ chainOk c.Seed c.Readings then 1
  else if tariffB c.Tariff = false then 2
  else if calB c.Calendar = false then 2
  else if sesB (sesF c.Readings) = false then 3
  else if own = true ∧ c.Session ≠ sesF c.Readings then 3
  else if linB (linesOf c) = false then 4
  else if own = true ∧ c.Bill.Lines ≠ linesOf c then 4
  else if bilB (billOf c) = false then 5
  else if own = true ∧ ¬ (c.Bill.Net = (billOf c).Net ∧ c.Bill.Tax = (billOf c).Tax ∧ c.Bill.Total = (billOf c).Total) then 5
  else 0
theorem linF_len (c : GCalendar) (s : GSession) : ∀ (l : List GArticle) (i : Nat), (linF c s i l).length ≤ l.length
  | [], _ => by simp [linF]
  | a :: r, i => by
    have := linF_len c s r (i + 1)
    unfold linF
    split <;> simp <;> omega
theorem a_j12 (n : Nat) (c : GClaim) (own : Bool) (r : GAuditorExamined) (hn : 1000 ≤ n) (hl : r.bill.Lines.length ≤ 900) (h4 : r.Claim.Tariff.Articles.length ≤ 900) (b : GBill) (hb : bilF r.Claim.Tariff r.rate r.bill.Net r.bill.Lines = b) :
    ∃ e', g_auditor_examine_j12 n c own r = some (e', if bilB b = false then 5 else if own = true ∧ ¬ (c.Bill.Net = b.Net ∧ c.Bill.Tax = b.Tax ∧ c.Bill.Total = b.Total) then 5 else 0) ∧ (bilB b = true → e'.bill = b) := by
  obtain ⟨e1, g1⟩ := a_add n r hn hl h4
  rw [hb] at g1
  unfold g_auditor_examine_j12
  rw [g1, Option.bind_some]
  cases h : bilB b
  · simp only [Bool.false_eq_true, if_false, exc, if_true]
    exact ⟨_, rfl, fun h => by cases h⟩
  · simp only [if_true, exc, Bool.true_eq_false, if_false, a_need, Option.bind_some, eqI_d]
    cases own
    · exact ⟨_, rfl, fun _ => rfl⟩
    · simp only [Bool.not_true, cond_false, true_and]
      by_cases c1 : c.Bill.Net = b.Net
      · by_cases c2 : c.Bill.Tax = b.Tax
        · by_cases c3 : c.Bill.Total = b.Total
          · simp only [c1, c2, c3, decide_true, cond_true, needE, if_true, and_self, not_true_eq_false, if_false]
            exact ⟨_, rfl, fun _ => rfl⟩
          · simp only [c1, c2, c3, decide_true, decide_false, cond_true, needE, if_true, and_false, not_false_eq_true, if_false, Bool.false_eq_true]
            exact ⟨_, rfl, fun _ => rfl⟩
        · simp only [c1, c2, decide_true, decide_false, cond_true, cond_false, needE, if_true, and_false, false_and, not_false_eq_true, if_false, Bool.false_eq_true]
          exact ⟨_, rfl, fun _ => rfl⟩
      · simp only [c1, decide_false, cond_false, needE, if_true, false_and, not_false_eq_true, if_false, Bool.false_eq_true]
        exact ⟨_, rfl, fun _ => rfl⟩
theorem a_j9 (n : Nat) (c : GClaim) (own : Bool) (hn : 36893488147419103232 ≤ n) (h1 : chainOk c.Seed c.Readings) (h2 : tariffB c.Tariff = true) (h3 : calB c.Calendar = true) (h4 : sesB (sesF c.Readings) = true) :
    ∃ e', g_auditor_examine_j9 n c own ⟨c, sesF c.Readings, ⟨[], 0, 0, 0⟩, rateF 0 c.Tariff.Articles⟩ = some (e', if linB (linesOf c) = false then 4 else if own = true ∧ c.Bill.Lines ≠ linesOf c then 4 else if bilB (billOf c) = false then 5 else if own = true ∧ ¬ (c.Bill.Net = (billOf c).Net ∧ c.Bill.Tax = (billOf c).Tax ∧ c.Bill.Total = (billOf c).Total) then 5 else 0) ∧
      ((if linB (linesOf c) = false then 4 else if own = true ∧ c.Bill.Lines ≠ linesOf c then 4 else if bilB (billOf c) = false then 5 else if own = true ∧ ¬ (c.Bill.Net = (billOf c).Net ∧ c.Bill.Tax = (billOf c).Tax ∧ c.Bill.Total = (billOf c).Total) then 5 else 0) = (0 : Int) → e'.bill = billOf c) := by
  have hn' : 1000 ≤ n := by omega
  simp only [calB, Bool.and_eq_true, decide_eq_true_eq] at h3
  simp only [tariffB, Bool.and_eq_true, decide_eq_true_eq] at h2
  have h4' := h4
  simp only [sesB, Bool.and_eq_true, decide_eq_true_eq] at h4'
  have hb : i64b (sesF c.Readings).From ∧ i64b (sesF c.Readings).To ∧ i64b (sesF c.Readings).End := by
    have hm : ∀ x ∈ c.Readings, i64b x.Minute := by
      intro x hx
      obtain ⟨i, hi, hxi⟩ := List.mem_iff_getElem.1 hx
      have := (h1.2 i hi x (by rw [List.getElem?_eq_getElem hi, hxi]; rfl)).2.2.1
      unfold i64b; omega
    cases hl : c.Readings with
    | nil => rw [hl] at h4; exact absurd h4 (by decide)
    | cons x r =>
      rw [hl] at hm
      exact ⟨hm x (by simp), hm _ (List.getLast_mem _), derF_end _ _ _ _ _ (hm x (by simp))⟩
  have hll := linF_len c.Calendar (sesF c.Readings) c.Tariff.Articles 0
  obtain ⟨e1, g1⟩ := a_price n (⟨c, sesF c.Readings, ⟨[], 0, 0, 0⟩, rateF 0 c.Tariff.Articles⟩ : GAuditorExamined) hn (by simp only; omega) (by simp only; omega) (by simp only; omega) (by simp only; omega) (fun a ha => artB_unit (tarB_all h2.2 a ha)) hb.1 hb.2.1 hb.2.2
  simp only at g1
  obtain ⟨e2, g2, g3⟩ := a_j12 n c own (⟨c, sesF c.Readings, ⟨linesOf c, 0, 0, 0⟩, rateF 0 c.Tariff.Articles⟩ : GAuditorExamined) hn' (by simp only [linesOf]; omega) (by simp only; omega) (billOf c) rfl
  unfold g_auditor_examine_j9
  simp only
  rw [g1, Option.bind_some]
  change ∃ e', (exc _ _ (if linB (linesOf c) = true then _ else _)) = _ ∧ _
  cases h5 : linB (linesOf c)
  · simp only [Bool.false_eq_true, if_false, exc, if_true]
    exact ⟨_, rfl, fun h => absurd h (by decide)⟩
  · simp only [if_true, exc, Bool.true_eq_false, if_false, a_need, Option.bind_some]
    cases own
    · simp only [Bool.not_false, cond_true, needE, if_true, Bool.false_eq_true, false_and, if_false] at g2 ⊢
      refine ⟨e2, g2, fun h => g3 ?_⟩
      cases h6 : bilB (billOf c)
      · rw [h6] at h; exact absurd h (by decide)
      · rfl
    · rw [a_sameLine n _ _ hn' (by omega)]
      simp only [Bool.not_true, cond_false, Option.bind_some, true_and] at g2 ⊢
      by_cases h7 : c.Bill.Lines = linesOf c
      · simp only [h7, ne_eq, not_true_eq_false, if_false]
        rw [show decide (linesOf c = linF c.Calendar (sesF c.Readings) 0 c.Tariff.Articles) = true from decide_eq_true rfl]
        simp only [needE, if_true]
        refine ⟨e2, g2, fun h => g3 ?_⟩
        cases h6 : bilB (billOf c)
        · rw [h6, if_pos rfl] at h; exact absurd h (by decide)
        · rfl
      · rw [decide_eq_false (show ¬ c.Bill.Lines = linF c.Calendar (sesF c.Readings) 0 c.Tariff.Articles from h7)]
        simp only [needE, Bool.false_eq_true, if_false, h7, ne_eq, not_false_eq_true, if_true]
        exact ⟨_, rfl, fun h => absurd h (by decide)⟩
theorem a_examine (n : Nat) (c : GClaim) (own : Bool) (hn : 36893488147419103232 ≤ n) : ∃ e', g_auditor_examine n c own = some (e', exa c own) ∧ (exa c own = 0 → e'.bill = billOf c) := by
  have hn' : 1000 ≤ n := by omega
  unfold g_auditor_examine exa
  rw [a_chained n _ hn', Option.bind_some]
  by_cases h1 : chainOk c.Seed c.Readings
  rotate_left
  · rw [okE_f h1, if_pos h1]
    exact ⟨_, rfl, fun h => absurd h (by decide)⟩
  rw [okE_t h1, if_neg (not_not_intro h1)]
  simp only [exc]
  obtain ⟨e1, g1⟩ := a_tariffed n (⟨c, (⟨0, 0, 0, []⟩ : GSession), (⟨[], 0, 0, 0⟩ : GBill), 0⟩ : GAuditorExamined) hn'
  rw [g1, Option.bind_some]
  simp only
  cases h2 : tariffB c.Tariff
  · simp only [Bool.false_eq_true, if_false, if_true]
    exact ⟨_, rfl, fun h => absurd h (by decide)⟩
  simp only [if_true, Bool.true_eq_false, if_false, tarM, exc]
  rw [a_dated n _ hn', Option.bind_some]
  simp only
  cases h3 : calB c.Calendar
  · simp only [if_true, needE, Bool.false_eq_true, if_false]
    exact ⟨_, rfl, fun h => absurd h (by decide)⟩
  simp only [if_true, needE, Bool.true_eq_false, if_false, exc]
  have hne : c.Readings ≠ [] := by intro h; have := h1.1.1; rw [h] at this; simp at this
  obtain ⟨e2, g2⟩ := a_derive n (⟨c, (⟨0, 0, 0, []⟩ : GSession), (⟨[], 0, 0, 0⟩ : GBill), rateF 0 c.Tariff.Articles⟩ : GAuditorExamined) hn' hne h1.1.2
  rw [g2, Option.bind_some]
  simp only
  cases h4 : sesB (sesF c.Readings)
  · simp only [Bool.false_eq_true, if_false, if_true]
    exact ⟨_, rfl, fun h => absurd h (by decide)⟩
  simp only [if_true, Bool.true_eq_false, if_false, exc]
  obtain ⟨e3, g3, g4⟩ := a_j9 n c own hn h1 h2 h3 h4
  cases own
  · simp only [Bool.false_eq_true, false_and, if_false, cond_false] at g3 g4 ⊢
    exact ⟨e3, g3, g4⟩
  · have h48 : (sesF c.Readings).Slices.length ≤ 900 := by
      simp only [sesB, Bool.and_eq_true, decide_eq_true_eq] at h4
      omega
    rw [cond_true, a_compared n _ hn' h48, Option.bind_some]
    simp only [true_and] at g3 g4 ⊢
    by_cases h7 : c.Session = sesF c.Readings
    · simp only [h7, decide_true, needE, if_true, exc, ne_eq, not_true_eq_false, if_false]
      exact ⟨e3, g3, g4⟩
    · simp only [h7, decide_false, needE, if_true, exc, ne_eq, not_false_eq_true, if_false, Bool.false_eq_true]
      exact ⟨_, rfl, fun h => absurd h (by decide)⟩
end Go.Proofs
namespace Go.Proofs
open Go Go.Abs
set_option maxRecDepth 100000
set_option linter.unusedVariables false
structure Zero (c : GClaim) : Prop where
  h1 : chainOk c.Seed c.Readings
  h2 : tariffB c.Tariff = true
  h3 : calB c.Calendar = true
  h4 : sesB (sesF c.Readings) = true
  h5 : c.Session = sesF c.Readings
  h6 : linB (linesOf c) = true
  h7 : c.Bill.Lines = linesOf c
  h8 : bilB (billOf c) = true
  h9 : c.Bill.Net = (billOf c).Net ∧ c.Bill.Tax = (billOf c).Tax ∧ c.Bill.Total = (billOf c).Total
theorem exa_zero {c : GClaim} (h : exa c true = 0) : Zero c := by
  unfold exa at h
  split at h; · cases h
  split at h; · cases h
  split at h; · cases h
  split at h; · cases h
  split at h; · cases h
  split at h; · cases h
  split at h; · cases h
  split at h; · cases h
  split at h; · cases h
  rename_i a1 a2 a3 a4 a5 a6 a7 a8 a9
  exact ⟨Classical.not_not.1 a1, by simpa using a2, by simpa using a3, by simpa using a4, by simpa using a5, by simpa using a6, by simpa using a7, by simpa using a8, by simpa using a9⟩
theorem a_verify (n : Nat) (c : GClaim) (hn : 36893488147419103232 ≤ n) : g_auditor_Verify n c = some (exa c true) := by
  obtain ⟨e, g, _⟩ := a_examine n c true hn
  unfold g_auditor_Verify
  rw [g]; rfl
theorem a_few (n : Nat) (c : GClaim) : ∃ b, g_ref43_Few n c = some b ∧ (b = true → c.Tariff.Articles.length ≤ 20 ∧ c.Session.Slices.length ≤ 60 ∧ c.Readings.length ≤ 80 ∧ c.Bill.Lines.length ≤ 40 ∧ c.Calendar.Changes.length ≤ 30 ∧ c.Calendar.Holidays.length ≤ 60 ∧ c.Tariff.Name.length ≤ 50) := by
  unfold g_ref43_Few g_ref33_Few g_ref26_Few
  simp only [cond_some, Option.bind_some, lenI, List.length_map, leI]
  refine ⟨_, rfl, fun h => ?_⟩
  simp [Bool.cond_eq_ite] at h
  omega
end Go.Proofs
namespace Go.Proofs
open Go Go.Abs
set_option maxRecDepth 100000
set_option linter.unusedVariables false
theorem tmod_range {i : Int} {k : Nat} (h0 : 0 ≤ i) (hk : 0 < k) : ∃ j : Nat, j < k ∧ Int.tmod i k = j := by
  refine ⟨(Int.tmod i k).toNat, ?_, ?_⟩
  · have := Int.tmod_lt_of_pos i (show (0 : Int) < k by omega)
    have := Int.tmod_nonneg (k : Int) h0
    omega
  · have := Int.tmod_nonneg (k : Int) h0
    omega
end Go.Proofs
namespace Go.Proofs
open Go Go.Abs
set_option maxRecDepth 100000
set_option linter.unusedVariables false
def BV (x : Int) : BitVec 64 := BitVec.ofInt 64 x
theorem bv_wu (x : Int) : BV (wu x) = BV x := by
  apply BitVec.eq_of_toNat_eq
  simp only [BV, BitVec.toNat_ofInt, wu, IntKind.wrap, IntKind.signed, IntKind.bits]
  simp
theorem bv_wi (x : Int) : BV (wi x) = BV x := by
  apply BitVec.eq_of_toNat_eq
  simp only [BV, BitVec.toNat_ofInt, wi, IntKind.wrap, IntKind.signed, IntKind.bits]
  simp
  omega
theorem bv_toNat (v : BitVec 64) : BV (v.toNat : Int) = v := by
  unfold BV
  rw [BitVec.ofInt_natCast]
  simp
theorem bv_xorU (a b : Int) : BV (bXor .u64 a b) = BV a ^^^ BV b := (bv_wu _).trans (bv_toNat _)
theorem bv_xorI (a b : Int) : BV (bXor .i64 a b) = BV a ^^^ BV b := (bv_wi _).trans (bv_toNat _)
theorem bv_andU (a b : Int) : BV (bAnd .u64 a b) = BV a &&& BV b := (bv_wu _).trans (bv_toNat _)
theorem wu_bv (x : Int) : wu x = ((BV x).toNat : Int) := by
  simp only [BV, BitVec.toNat_ofInt, wu, IntKind.wrap, IntKind.signed, IntKind.bits]
  simp
  omega
theorem bv_shr (x : Int) (k : Nat) (hk : k ≤ 64) : BV (shrI .u64 (wu x) (k : Int)) = BV x >>> k := by
  rw [wu_bv]
  unfold shrI
  rw [show min ((k : Int)).toNat IntKind.u64.bits = k from by rw [Int.toNat_natCast]; exact Nat.min_eq_left hk]
  rw [Int.fdiv_eq_ediv_of_nonneg _ (by exact_mod_cast Nat.zero_le _)]
  rw [show ((BV x).toNat : Int) / 2 ^ k = (((BV x).toNat / 2 ^ k : Nat) : Int) from by simp]
  unfold BV
  rw [BitVec.ofInt_natCast]
  apply BitVec.eq_of_toNat_eq
  rw [BitVec.toNat_ofNat, BitVec.toNat_ushiftRight, Nat.shiftRight_eq_div_pow, Nat.mod_eq_of_lt]
  exact Nat.lt_of_le_of_lt (Nat.div_le_self _ _) (BitVec.isLt _)
def stepV (s b : BitVec 64) : BitVec 64 := (s ^^^ b) * 1099511628211#64
theorem stepV_inj {s s' b b' : BitVec 64} (h : stepV s b = stepV s' b') : s ^^^ b = s' ^^^ b' := by
  have := congrArg (fun v => v * 14886173955864302971#64) h
  simp only [stepV, BitVec.mul_assoc] at this
  rw [show (1099511628211#64 * 14886173955864302971#64) = 1#64 from by decide, BitVec.mul_one, BitVec.mul_one] at this
  exact this
theorem xor_cancel {a b c : BitVec 64} (h : a ^^^ c = b ^^^ c) : a = b := by
  have := congrArg (fun v => v ^^^ c) h
  simp only [BitVec.xor_assoc, BitVec.xor_self, BitVec.xor_zero] at this
  exact this
theorem xor_cancel_l {a b c : BitVec 64} (h : c ^^^ a = c ^^^ b) : a = b := by
  rw [BitVec.xor_comm c a, BitVec.xor_comm c b] at h
  exact xor_cancel h
theorem foldV_inj (b : Nat → BitVec 64) : ∀ (l : List Nat) (s s' : BitVec 64), l.foldl (fun s k => stepV s (b k)) s = l.foldl (fun s k => stepV s (b k)) s' → s = s'
  | [], _, _, h => h
  | k :: r, s, s', h => xor_cancel (stepV_inj (foldV_inj b r _ _ h))
theorem foldV_congr {b b' : Nat → BitVec 64} (l : List Nat) : ∀ (s : BitVec 64), (∀ k ∈ l, b k = b' k) → l.foldl (fun s k => stepV s (b k)) s = l.foldl (fun s k => stepV s (b' k)) s := by
  induction l with
  | nil => intro s h; rw [List.foldl_nil, List.foldl_nil]
  | cons k r ih =>
    intro s h
    have e := h k List.mem_cons_self
    simp only [List.foldl_cons]
    rw [e]
    exact ih _ (fun i hi => h i (List.mem_cons_of_mem _ hi))
theorem foldV_ne {b b' : Nat → BitVec 64} {j : Nat} : ∀ (l : List Nat) (s : BitVec 64), (∀ k ∈ l, k ≠ j → b k = b' k) → b j ≠ b' j → l.Nodup → j ∈ l → l.foldl (fun s k => stepV s (b k)) s ≠ l.foldl (fun s k => stepV s (b' k)) s
  | [], _, _, _, _, hj => absurd hj (by simp)
  | k :: r, s, h, hb, hn, hj => by
    simp only [List.foldl_cons]
    rw [List.nodup_cons] at hn
    by_cases hk : k = j
    · subst hk
      intro e
      rw [foldV_congr r _ (fun i hi => h i (List.mem_cons_of_mem _ hi) (fun e => hn.1 (e ▸ hi)))] at e
      exact hb (xor_cancel_l (stepV_inj (foldV_inj b' r _ _ e)))
    · rw [h k List.mem_cons_self hk]
      exact foldV_ne r _ (fun i hi => h i (List.mem_cons_of_mem _ hi)) hb hn.2 ((List.mem_cons.1 hj).resolve_left (fun e => hk e.symm))
def ks : List Nat := [56, 48, 40, 32, 24, 16, 8, 0]
def mixV (s x : BitVec 64) : BitVec 64 := ks.foldl (fun s k => stepV s ((x >>> k) &&& 255#64)) s
theorem bv_mixB (s x : Int) (k : Nat) (hk : k ≤ 64) : BV (mixB s x (k : Int)) = stepV (BV s) ((BV x >>> k) &&& 255#64) := by
  unfold mixB
  rw [bv_wu]
  unfold BV
  rw [BitVec.ofInt_mul]
  change BV _ * _ = _
  rw [bv_xorU, bv_andU, bv_shr _ _ hk]
  rfl
theorem bv_mixW (s x : Int) : BV (mixW s x) = mixV (BV s) (BV x) := by
  unfold mixW mixV ks
  simp only [List.foldl]
  have e := fun (s : Int) (k : Nat) hk => bv_mixB s x k hk
  rw [← e _ 56 (by omega), ← e _ 48 (by omega), ← e _ 40 (by omega), ← e _ 32 (by omega), ← e _ 24 (by omega), ← e _ 16 (by omega), ← e _ 8 (by omega), ← e _ 0 (by omega)]
  rfl
theorem bv_link (s : Int) (r : GReading) : BV (linkF s r) = mixV (mixV (mixV (mixV (BV s) (BV r.Serial)) (BV r.Number)) (BV r.Minute)) (BV r.Register) := by
  unfold linkF
  simp only [List.foldl]
  rw [bv_mixW, bv_mixW, bv_mixW, bv_mixW]
theorem mixV_inj {s s' x : BitVec 64} (h : mixV s x = mixV s' x) : s = s' := foldV_inj _ _ _ _ h
theorem byte_d (y j k : Nat) (hy : y < 256) (hj : j < 8) (hk : k ∈ ks) : ((BitVec.ofNat 64 (y * 2 ^ (8 * j)) >>> k) &&& 255#64) = if k = 8 * j then BitVec.ofNat 64 y else 0#64 := by
  apply BitVec.eq_of_toNat_eq
  rw [BitVec.toNat_and, BitVec.toNat_ushiftRight, BitVec.toNat_ofNat, BitVec.toNat_ofNat, Nat.shiftRight_eq_div_pow]
  rw [show (255 % 2 ^ 64 : Nat) = 2 ^ 8 - 1 from by decide, Nat.and_two_pow_sub_one_eq_mod]
  have hj' : j = 0 ∨ j = 1 ∨ j = 2 ∨ j = 3 ∨ j = 4 ∨ j = 5 ∨ j = 6 ∨ j = 7 := by omega
  have hk' : k = 56 ∨ k = 48 ∨ k = 40 ∨ k = 32 ∨ k = 24 ∨ k = 16 ∨ k = 8 ∨ k = 0 := by simpa [ks] using hk
  rcases hj' with rfl | rfl | rfl | rfl | rfl | rfl | rfl | rfl <;> rcases hk' with rfl | rfl | rfl | rfl | rfl | rfl | rfl | rfl <;> simp <;> omega
theorem byte_x (x d : BitVec 64) (k : Nat) : (((x ^^^ d) >>> k) &&& 255#64) = ((x >>> k) &&& 255#64) ^^^ ((d >>> k) &&& 255#64) := by
  rw [BitVec.ushiftRight_xor_distrib]
  apply BitVec.eq_of_getLsbD_eq
  intro i hi
  simp only [BitVec.getLsbD_and, BitVec.getLsbD_xor]
  cases (x >>> k).getLsbD i <;> cases (d >>> k).getLsbD i <;> cases (255#64).getLsbD i <;> rfl
theorem mixV_ne (s x : BitVec 64) (y j : Nat) (hy : y < 256) (hy0 : y ≠ 0) (hj : j < 8) : mixV s (x ^^^ BitVec.ofNat 64 (y * 2 ^ (8 * j))) ≠ mixV s x := by
  refine foldV_ne (j := 8 * j) ks s ?_ ?_ (by decide) ?_
  · intro k hk hkj
    rw [byte_x, byte_d y j k hy hj hk, if_neg hkj, BitVec.xor_zero]
  · have hm : 8 * j ∈ ks := by simp [ks]; omega
    rw [byte_x, byte_d y j _ hy hj hm, if_pos rfl]
    intro h
    have h2 : ∀ a b : BitVec 64, a ^^^ b = a → b = 0#64 := by
      intro a b h
      have : a ^^^ b = a ^^^ 0#64 := by rw [h, BitVec.xor_zero]
      exact xor_cancel_l this
    have := congrArg BitVec.toNat (h2 _ _ h)
    rw [BitVec.toNat_ofNat, Nat.mod_eq_of_lt (by omega)] at this
    exact hy0 this
  · simp [ks]; omega
theorem xor_ne (x : BitVec 64) (y j : Nat) (hy : y < 256) (hy0 : y ≠ 0) (hj : j < 8) : x ^^^ BitVec.ofNat 64 (y * 2 ^ (8 * j)) ≠ x := by
  intro h
  exact mixV_ne 0#64 x y j hy hy0 hj (by rw [h])
end Go.Proofs
namespace Go.Proofs
open Go Go.Abs
set_option maxRecDepth 100000
set_option linter.unusedVariables false
theorem prev_set (seed : Int) (l : List GReading) (p : Nat) (r : GReading) : prevLink seed (l.set p r) p = prevLink seed l p := by
  unfold prevLink
  by_cases h : p = 0
  · rw [if_pos h, if_pos h]
  · rw [if_neg h, if_neg h, List.getElem?_set_ne (by omega)]
theorem chain_set {seed : Int} {l : List GReading} {p : Nat} {r r' : GReading} (hl : l[p]? = some r) (h : chainOk seed l) (h' : chainOk seed (l.set p r')) : r.Link = linkF (prevLink seed l p) r ∧ r'.Link = linkF (prevLink seed l p) r' := by
  have hp := (List.getElem?_eq_some_iff.1 hl).1
  refine ⟨(h.2 p hp r hl).2.2.2.2.2, ?_⟩
  have := (h'.2 p (by simpa using hp) r' (by rw [List.getElem?_set_self hp]; rfl)).2.2.2.2.2
  rw [prev_set] at this
  exact this
theorem exa_chain {t : GTariff} {k : GCalendar} {l : List GReading} {seed : Int} {s : GSession} {b : GBill} (h : ¬ chainOk seed l) : exa ⟨t, k, l, seed, s, b⟩ true = 1 := by
  unfold exa
  rw [if_pos h]
theorem dx (y j : Nat) (hy : y < 256) (hj : j < 8) : BV (shlI .u64 (wu (y : Int)) (w8 (8 * (j : Int)))) = BitVec.ofNat 64 (y * 2 ^ (8 * j)) := by
  have e1 : w8 (8 * (j : Int)) = ((8 * j : Nat) : Int) := by
    simp only [w8, IntKind.wrap, IntKind.signed, IntKind.bits]
    simp
    omega
  have e2 : wu (y : Int) = (y : Int) := by
    simp only [wu, IntKind.wrap, IntKind.signed, IntKind.bits]
    simp
    omega
  rw [e1, e2]
  unfold shlI
  rw [Int.toNat_natCast, show min (8 * j) IntKind.u64.bits = 8 * j from Nat.min_eq_left (show 8 * j ≤ 64 by omega)]
  refine (bv_wu _).trans ?_
  rw [show (y : Int) * 2 ^ (8 * j) = ((y * 2 ^ (8 * j) : Nat) : Int) from by simp]
  unfold BV
  rw [BitVec.ofInt_natCast]
theorem readings_plain (c : GClaim) (i w t y : Int) (hi : 0 ≤ i ∧ i ≤ 255) (hw : 0 ≤ w ∧ w ≤ 255) (ht : 0 ≤ t ∧ t ≤ 255) (hy : 0 ≤ y ∧ y ≤ 255) :
    g_law43_AuditorReadings 36893488147419103232 c i w t y = some true := by
  unfold g_law43_AuditorReadings
  generalize hn : (36893488147419103232 : Nat) = n
  have hh : g_law43_head n = some true := by rw [← hn]; exact head_big
  obtain ⟨b, f1, f2⟩ := a_few n c
  rw [hh, Option.bind_some, f1, Option.bind_some]
  simp only [a_verify n _ (by omega), Option.bind_some, cond_some, List.nil_append, lenI, List.length_map, eqI_d]
  by_cases hz : b = true ∧ y ≠ 0 ∧ exa c true = 0 ∧ c.Readings.length ≠ 0
  rotate_left
  · have : (bif !b then true else bif decide (y = 0) then true else bif !decide (exa c true = 0) then true else decide ((c.Readings.length : Int) = 0)) = true := by
      cases b
      · rfl
      · by_cases a1 : y = 0
        · simp [a1]
        by_cases a2 : exa c true = 0
        · have : c.Readings.length = 0 := by
            apply Classical.byContradiction
            intro h
            exact hz ⟨rfl, a1, a2, h⟩
          simp [a1, a2, this]
        · simp [a1, a2]
    rw [this, cond_true]
  obtain ⟨rfl, hy0, hz, hl⟩ := hz
  have z := exa_zero hz
  have f3 := f2 rfl
  have hl' : ¬ (c.Readings.length : Int) = 0 := by omega
  have : (bif !true then true else bif decide (y = 0) then true else bif !decide (exa c true = 0) then true else decide ((c.Readings.length : Int) = 0)) = false := by simp only [hy0, hz, hl', decide_false, decide_true, Bool.not_true, cond_false]
  rw [this, cond_false]
  have hroom : roomB c.Readings.length 40 = true := by simp [roomB]; omega
  rw [hroom, cond_true, decide_eq_false hl', Bool.not_false, cond_true]
  have hwi : wi i = i := wi_id (by omega) (by omega)
  obtain ⟨p, hp, ep⟩ := tmod_range (k := c.Readings.length) hi.1 (by omega)
  obtain ⟨j, hj, ej⟩ := tmod_range (k := 8) ht.1 (by omega)
  rw [show ((8 : Nat) : Int) = 8 from rfl] at ej
  obtain ⟨y', ey⟩ : ∃ y' : Nat, y = (y' : Int) := ⟨y.toNat, by omega⟩
  subst ey
  have hx : c.Readings[p]? = some c.Readings[p] := by rw [List.getElem?_eq_getElem]
  generalize c.Readings[p] = x at hx
  rw [hwi, ep, getI_nat, hx, Option.bind_some, ej, Int.toNat_natCast]
  have hd := dx y' j (by omega) hj
  have hw8 : ltI (w8 (8 * (j : Int))) 0 = false := by
    have e1 : w8 (8 * (j : Int)) = ((8 * j : Nat) : Int) := by
      simp only [w8, IntKind.wrap, IntKind.signed, IntKind.bits]
      simp
      omega
    rw [e1]
    simp [ltI]
    omega
  rw [hw8, Bool.not_false, cond_true]
  generalize hX : shlI .u64 (wu (y' : Int)) (w8 (8 * (j : Int))) = X at hd ⊢
  have hy256 : y' < 256 := by omega
  have hy0' : y' ≠ 0 := by omega
  have ne := fun s x => mixV_ne s x y' j hy256 hy0' hj
  have xne := fun x => xor_ne x y' j hy256 hy0' hj
  by_cases k0 : Int.tmod w 6 = 0
  · simp only [k0, decide_true, cond_true]
    rw [exa_chain (fun h => ?_)]
    · rfl
    · obtain ⟨e1, e2⟩ := chain_set hx z.h1 h
      have := congrArg BV (e1.symm.trans e2)
      rw [bv_link, bv_link] at this
      simp only at this
      rw [bv_xorI, bv_wi, hd] at this
      exact ne _ _ (mixV_inj (mixV_inj (mixV_inj this))).symm
  by_cases k1 : Int.tmod w 6 = 1
  · simp only [k1, decide_true, cond_true, show decide ((1 : Int) = 0) = false from rfl, cond_false]
    rw [exa_chain (fun h => ?_)]
    · rfl
    · obtain ⟨e1, e2⟩ := chain_set hx z.h1 h
      have := congrArg BV (e1.symm.trans e2)
      rw [bv_link, bv_link] at this
      simp only at this
      rw [bv_xorI, bv_wi, hd] at this
      exact ne _ _ (mixV_inj (mixV_inj this)).symm
  by_cases k2 : Int.tmod w 6 = 2
  · simp only [k2, decide_true, cond_true, show decide ((2 : Int) = 0) = false from rfl, show decide ((2 : Int) = 1) = false from rfl, cond_false]
    rw [exa_chain (fun h => ?_)]
    · rfl
    · obtain ⟨e1, e2⟩ := chain_set hx z.h1 h
      have := congrArg BV (e1.symm.trans e2)
      rw [bv_link, bv_link] at this
      simp only at this
      rw [bv_xorI, bv_wi, hd] at this
      exact ne _ _ (mixV_inj this).symm
  by_cases k3 : Int.tmod w 6 = 3
  · simp only [k3, decide_true, cond_true, show decide ((3 : Int) = 0) = false from rfl, show decide ((3 : Int) = 1) = false from rfl, show decide ((3 : Int) = 2) = false from rfl, cond_false]
    rw [exa_chain (fun h => ?_)]
    · rfl
    · obtain ⟨e1, e2⟩ := chain_set hx z.h1 h
      have := congrArg BV (e1.symm.trans e2)
      rw [bv_link, bv_link] at this
      simp only at this
      rw [bv_xorI, bv_wi, hd] at this
      exact ne _ _ this.symm
  by_cases k4 : Int.tmod w 6 = 4
  · simp only [k4, decide_true, cond_true, show decide ((4 : Int) = 0) = false from rfl, show decide ((4 : Int) = 1) = false from rfl, show decide ((4 : Int) = 2) = false from rfl, show decide ((4 : Int) = 3) = false from rfl, cond_false]
    rw [exa_chain (fun h => ?_)]
    · rfl
    · obtain ⟨e1, e2⟩ := chain_set hx z.h1 h
      have e3 : bXor .u64 x.Link X = x.Link := by
        rw [e1]
        rw [e1] at e2
        exact e2
      have := congrArg BV e3
      rw [bv_xorU, hd] at this
      exact xne _ this
  simp only [k0, k1, k2, k3, k4, decide_false, cond_false, cond_true]
  rw [exa_chain (fun h => ?_)]
  · rfl
  · have h0 : 0 < c.Readings.length := by omega
    have hx0 : c.Readings[0]? = some c.Readings[0] := by rw [List.getElem?_eq_getElem]
    generalize c.Readings[0] = x0 at hx0
    have e1 := (z.h1.2 0 h0 x0 hx0).2.2.2.2.2
    have e2 := (h.2 0 h0 x0 hx0).2.2.2.2.2
    rw [show ∀ s, prevLink s c.Readings 0 = s from fun _ => rfl] at e1 e2
    have := congrArg BV (e1.symm.trans e2)
    rw [bv_link, bv_link] at this
    rw [bv_xorU, hd] at this
    exact xne _ (mixV_inj (mixV_inj (mixV_inj (mixV_inj this)))).symm
end Go.Proofs
namespace Go.Proofs.Ytgehgobiibddaaa
open Go Go.Abs Go.Proofs
theorem auditorReadings_holds : Rows.AuditorReadingsSaid :=
  auditorReadings_said (fun c i w t y _ hi hw ht hy => ⟨_, readings_plain c i w t y hi hw ht hy⟩)
end Go.Proofs.Ytgehgobiibddaaa
