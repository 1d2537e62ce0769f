/-
  A part of the proof of a statement of the seat Ytfkhnaogcahcoaa.
-/
import Derived.Test.YtfkhnaogcahcoaaFre03
namespace Go.Proofs
open Go Go.Abs
set_option maxRecDepth 100000
set_option linter.unusedVariables false
theorem g_bill_sum_ok (n : Nat) (a0t : GTariff) (a1c : GCalendar) (a2s : GSession) : ∀ r, g_bill_sum n a0t a1c a2s = some r → PCall Try.prog 32 [ag (GTariff.cs a0t), ag (GCalendar.cs a1c), ag (GSession.cs a2s)] (excE (fun r : GBill => (ag (GBill.cs r) : AV)) (fun e : Int => (.ifc 88 (.agg [I e]) : AV)) r) := by
 refine pcall_sim (X := excE (fun r : GBill => (ag (GBill.cs r) : AV)) (fun e : Int => (.ifc 88 (.agg [I e]) : AV))) Try.func32 rfl Try.ntmps32 rfl ?_
 unfold g_bill_sum
 refine sim_run Try.fm ⟨[3, 4, 5, 6], [3, 4, 5, 6], [], []⟩ ⟨[(3, .ptr 3 0), (4, .ptr 4 0), (5, .ptr 5 0), (6, .ptr 6 0)], [(3, .box 34 (bxc (GTariff.cs a0t))), (4, .box 38 (bxc (GCalendar.cs a1c))), (5, .box 24 (bxc (GSession.cs a2s))), (6, .box 62 [.p (.val (.slice none 0 0)), I 0, I 0, I 0])]⟩ krf ?_
 refine sim_run Try.fm ⟨[3, 4, 5, 6, 7], [3, 4, 5, 6, 7], [], []⟩ ⟨[(3, .ptr 3 0), (4, .ptr 4 0), (5, .ptr 5 0), (6, .ptr 6 0), (7, .ptr 7 0)], [(3, .box 34 (bxc (GTariff.cs a0t))), (4, .box 38 (bxc (GCalendar.cs a1c))), (5, .box 24 (bxc (GSession.cs a2s))), (6, .box 62 [.p (.val (.slice none 0 0)), I 0, I 0, I 0]), (7, .box 62 [.p (.val (.slice none 0 0)), I 0, I 0, I 0])]⟩ krf ?_
 refine sim_run Try.fm ⟨[3, 4, 5, 6, 7, 8, 9], [3, 4, 5, 6, 7], [], []⟩ ⟨[(3, .ptr 3 0), (4, .ptr 4 0), (5, .ptr 5 0), (6, .ptr 6 0), (7, .ptr 7 0), (8, I 0), (9, I (-1))], [(3, .box 34 (bxc (GTariff.cs a0t))), (4, .box 38 (bxc (GCalendar.cs a1c))), (5, .box 24 (bxc (GSession.cs a2s))), (6, .box 62 [.p (.val (.slice none 0 0)), I 0, I 0, I 0]), (7, .box 62 [.p (.val (.slice none 0 0)), I 0, I 0, I 0])]⟩ krf ?_
 refine sim_cps (fun (j1_1, j1_2, j1_3, j1_4) => ⟨[(6, .ptr 6 0), (7, .ptr 7 0), (8, I j1_1), (9, I j1_2)], [(6, .box 62 [.p (.val (.slice none 0 0)), I 0, I 0, I 0]), (7, .box 62 [osl 2 GLine.cs j1_3 38, I j1_4, I 0, I 0])] ++ oarr 96 2 GLine.cs j1_3 38⟩ : (Int × Int × (OL GLine) × Int) → St) (fun (j1_1, j1_2, j1_3, j1_4) => g_bill_sum_j1 n j1_1 j1_2 j1_3 j1_4) ?_ ?_
 ·rintro ⟨j1_1, j1_2, j1_3, j1_4⟩
  show SimE (g_bill_sum_j1 n j1_1 j1_2 j1_3 j1_4) _ _ _ _ _ _
  unfold g_bill_sum_j1
  rcases j1_3 with _ | ow_j1_3
  ·refine sim_bind (fun j2 => ⟨[(6, .ptr 6 0), (7, .ptr 7 0), (8, I j1_1)], [(6, .box 62 [.p (.val (.slice none 0 0)), I 0, I 0, I 0]), (7, .box 62 [.p (.val (.slice none 0 0)), I j2, I 0, I 0])]⟩ : Int → St) ?_ ?_
   ·refine sim_run Try.fm ⟨[6, 7, 8, 9, 63], [6, 7], [], []⟩ ⟨[(6, .ptr 6 0), (7, .ptr 7 0), (8, I j1_1), (9, I j1_2), (63, B (leI 0 j1_2))], [(6, .box 62 [.p (.val (.slice none 0 0)), I 0, I 0, I 0]), (7, .box 62 [.p (.val (.slice none 0 0)), I j1_4, I 0, I 0])]⟩ krf ?_
    refine sim_cond (leI 0 j1_2) krf ?_ ?_
    ·refine sim_last Try.fm krf ?_
     exact nq_n (minI j1_4 j1_2) ⟨[6, 7, 8], [6, 7], [], []⟩ krf
    ·refine sim_skip ?_
     exact nq_n j1_4 ⟨[6, 7, 8], [6, 7], [], []⟩ krf
   ·rintro j2
    refine sim_seq ?_
    refine sim_reg ?_
    refine xs_run 3 krf ?_
    refine xs_call [] krf (g_money_Tax_ok n j2 j1_1) krf krf (fun _ => by kernel_rfl) (fun r3 => ?_)
    refine xs_run 2 krf ?_
    refine xs_exc [] krf (g_bill_must_ok n r3.1 r3.2) krf krf (fun _ => by kernel_rfl) (fun _ => by kernel_rfl) (fun r4 => ?_) (fun e5 => ?_)
    ·refine xs_run 2 krf ?_
     refine xs_end ?_
     refine sq_nk ⟨[6, 7], [6, 7], [], []⟩ ⟨[(6, .ptr 6 0), (7, .ptr 7 0)], [(6, .box 62 [.p (.val (.slice none 0 0)), I 0, I 0, I 0]), (7, .box 62 [.p (.val (.slice none 0 0)), I j2, I r4, I 0])]⟩ krf ?_
     refine sim_run Try.fm ⟨[6, 7], [6, 7], [], []⟩ ⟨[(6, .ptr 6 0), (7, .ptr 7 0)], [(6, .box 62 [.p (.val (.slice none 0 0)), I 0, I 0, I 0]), (7, .box 62 [.p (.val (.slice none 0 0)), I j2, I r4, I (wi (j2 + r4))])]⟩ krf ?_
     refine sim_seq ?_
     refine sim_run Try.fm ⟨[6, 7, 85], [6, 7], [], []⟩ ⟨[(6, .ptr 6 0), (7, .ptr 7 0), (85, B (ltI 1000000000 (wi (j2 + r4))))], [(6, .box 62 [.p (.val (.slice none 0 0)), I 0, I 0, I 0]), (7, .box 62 [.p (.val (.slice none 0 0)), I j2, I r4, I (wi (j2 + r4))])]⟩ krf ?_
     refine sim_cond (ltI 1000000000 (wi (j2 + r4))) krf ?_ ?_
     ·refine sim_reg ?_
      refine xs_run 2 krf ?_
      refine xs_panic 88 (.agg [I 3]) krf rfl krf ?_
      refine sq_p ?_
      exact rq_p krf krf
     ·refine sim_skip ?_
      refine sq_nk ⟨[6, 7], [6, 7], [], []⟩ ⟨[(6, .ptr 6 0), (7, .ptr 7 0)], [(6, .box 62 [.p (.val (.slice none 0 0)), I 0, I 0, I 0]), (7, .box 62 [.p (.val (.slice none 0 0)), I j2, I r4, I (wi (j2 + r4))])]⟩ krf ?_
      refine sim_run Try.fm ⟨[6], [6], [], []⟩ ⟨[(6, .ptr 6 0)], [(6, .box 62 [.p (.val (.slice none 0 0)), I j2, I r4, I (wi (j2 + r4))])]⟩ krf ?_
      refine sim_ret ?_
      exact rq_ret (.agg [.sl 2, .id, .id, .id]) krf krf krf
    ·refine sq_p ?_
     exact rq_p krf krf
  ·refine sim_bind (fun j2 => ⟨[(6, .ptr 6 0), (7, .ptr 7 0), (8, I j1_1)], [(6, .box 62 [.p (.val (.slice none 0 0)), I 0, I 0, I 0]), (7, .box 62 [.tsl 2 (List.map GLine.cs (OL.own ow_j1_3).toL) 38, I j2, I 0, I 0]), (38, .arr 96 2 (List.map GLine.cs (OL.own ow_j1_3).toL).length)]⟩ : Int → St) ?_ ?_
   ·refine sim_run Try.fm ⟨[6, 7, 8, 9, 63], [6, 7, 38], [], []⟩ ⟨[(6, .ptr 6 0), (7, .ptr 7 0), (8, I j1_1), (9, I j1_2), (63, B (leI 0 j1_2))], [(6, .box 62 [.p (.val (.slice none 0 0)), I 0, I 0, I 0]), (7, .box 62 [.tsl 2 (List.map GLine.cs (OL.own ow_j1_3).toL) 38, I j1_4, I 0, I 0]), (38, .arr 96 2 (List.map GLine.cs (OL.own ow_j1_3).toL).length)]⟩ krf ?_
    refine sim_cond (leI 0 j1_2) krf ?_ ?_
    ·refine sim_last Try.fm krf ?_
     exact nq_n (minI j1_4 j1_2) ⟨[6, 7, 8], [6, 7, 38], [], []⟩ krf
    ·refine sim_skip ?_
     exact nq_n j1_4 ⟨[6, 7, 8], [6, 7, 38], [], []⟩ krf
   ·rintro j2
    refine sim_seq ?_
    refine sim_reg ?_
    refine xs_run 3 krf ?_
    refine xs_call [] krf (g_money_Tax_ok n j2 j1_1) krf krf (fun _ => by kernel_rfl) (fun r3 => ?_)
    refine xs_run 2 krf ?_
    refine xs_exc [] krf (g_bill_must_ok n r3.1 r3.2) krf krf (fun _ => by kernel_rfl) (fun _ => by kernel_rfl) (fun r4 => ?_) (fun e5 => ?_)
    ·refine xs_run 2 krf ?_
     refine xs_end ?_
     refine sq_nk ⟨[6, 7], [6, 7, 38], [], []⟩ ⟨[(6, .ptr 6 0), (7, .ptr 7 0)], [(6, .box 62 [.p (.val (.slice none 0 0)), I 0, I 0, I 0]), (7, .box 62 [.tsl 2 (List.map GLine.cs (OL.own ow_j1_3).toL) 38, I j2, I r4, I 0]), (38, .arr 96 2 (List.map GLine.cs (OL.own ow_j1_3).toL).length)]⟩ krf ?_
     refine sim_run Try.fm ⟨[6, 7], [6, 7, 38], [], []⟩ ⟨[(6, .ptr 6 0), (7, .ptr 7 0)], [(6, .box 62 [.p (.val (.slice none 0 0)), I 0, I 0, I 0]), (7, .box 62 [.tsl 2 (List.map GLine.cs (OL.own ow_j1_3).toL) 38, I j2, I r4, I (wi (j2 + r4))]), (38, .arr 96 2 (List.map GLine.cs (OL.own ow_j1_3).toL).length)]⟩ krf ?_
     refine sim_seq ?_
     refine sim_run Try.fm ⟨[6, 7, 85], [6, 7, 38], [], []⟩ ⟨[(6, .ptr 6 0), (7, .ptr 7 0), (85, B (ltI 1000000000 (wi (j2 + r4))))], [(6, .box 62 [.p (.val (.slice none 0 0)), I 0, I 0, I 0]), (7, .box 62 [.tsl 2 (List.map GLine.cs (OL.own ow_j1_3).toL) 38, I j2, I r4, I (wi (j2 + r4))]), (38, .arr 96 2 (List.map GLine.cs (OL.own ow_j1_3).toL).length)]⟩ krf ?_
     refine sim_cond (ltI 1000000000 (wi (j2 + r4))) krf ?_ ?_
     ·refine sim_reg ?_
      refine xs_run 2 krf ?_
      refine xs_panic 88 (.agg [I 3]) krf rfl krf ?_
      refine sq_p ?_
      exact rq_p krf krf
     ·refine sim_skip ?_
      refine sq_nk ⟨[6, 7], [6, 7, 38], [], []⟩ ⟨[(6, .ptr 6 0), (7, .ptr 7 0)], [(6, .box 62 [.p (.val (.slice none 0 0)), I 0, I 0, I 0]), (7, .box 62 [.tsl 2 (List.map GLine.cs (OL.own ow_j1_3).toL) 38, I j2, I r4, I (wi (j2 + r4))]), (38, .arr 96 2 (List.map GLine.cs (OL.own ow_j1_3).toL).length)]⟩ krf ?_
      refine sim_run Try.fm ⟨[6], [6, 38], [], []⟩ ⟨[(6, .ptr 6 0)], [(6, .box 62 [.tsl 2 (List.map GLine.cs (OL.own ow_j1_3).toL) 38, I j2, I r4, I (wi (j2 + r4))]), (38, .arr 96 2 (List.map GLine.cs (OL.own ow_j1_3).toL).length)]⟩ krf ?_
      refine sim_ret ?_
      exact rq_ret (.agg [.sl 2, .id, .id, .id]) krf krf krf
    ·refine sq_p ?_
     exact rq_p krf krf
 ·refine sim_run Try.fm ⟨[4, 5, 6, 7, 8, 9, 15, 16, 17], [4, 5, 6, 7], [], []⟩ ⟨[(4, .ptr 4 0), (5, .ptr 5 0), (6, .ptr 6 0), (7, .ptr 7 0), (8, I 0), (9, I (-1)), (15, .p (.sl 7 (List.map GArticle.cs a0t.Articles))), (16, I (lenI (List.map GArticle.cs a0t.Articles))), (17, I 0)], [(4, .box 38 (bxc (GCalendar.cs a1c))), (5, .box 24 (bxc (GSession.cs a2s))), (6, .box 62 [.p (.val (.slice none 0 0)), I 0, I 0, I 0]), (7, .box 62 [.p (.val (.slice none 0 0)), I 0, I 0, I 0])]⟩ krf ?_
  refine sim_block ?_
  refine sim_loop (fun (l6_1, l6_2, l6_3, l6_4, l6_5) => ⟨[(4, .ptr 4 0), (5, .ptr 5 0), (6, .ptr 6 0), (7, .ptr 7 0), (8, I l6_1), (9, I l6_2), (15, .p (.sl 7 (List.map GArticle.cs a0t.Articles))), (16, I (lenI (List.map GArticle.cs a0t.Articles))), (17, I l6_3)], [(4, .box 38 (bxc (GCalendar.cs a1c))), (5, .box 24 (bxc (GSession.cs a2s))), (6, .box 62 [.p (.val (.slice none 0 0)), I 0, I 0, I 0]), (7, .box 62 [osl 2 GLine.cs l6_4 38, I l6_5, I 0, I 0])] ++ oarr 96 2 GLine.cs l6_4 38⟩ : (Int × Int × Int × (OL GLine) × Int) → St) (weak_shr (K := ⟨[4, 5, 6, 7, 8, 9, 15, 16, 17], [4, 5, 6, 7], [], []⟩) krf) ?_
  rintro recl6 ⟨l6_1, l6_2, l6_3, l6_4, l6_5⟩
  show SimE (g_bill_sum_l6 n a0t a1c a2s recl6 l6_1 l6_2 l6_3 l6_4 l6_5) _ _ _ _ _ _
  unfold g_bill_sum_l6
  rcases l6_4 with _ | ow_l6_4
  ·refine sim_run Try.fm ⟨[4, 5, 6, 7, 8, 9, 15, 16, 17, 18], [4, 5, 6, 7], [], []⟩ ⟨[(4, .ptr 4 0), (5, .ptr 5 0), (6, .ptr 6 0), (7, .ptr 7 0), (8, I l6_1), (9, I l6_2), (15, .p (.sl 7 (List.map GArticle.cs a0t.Articles))), (16, I (lenI (List.map GArticle.cs a0t.Articles))), (17, I l6_3), (18, B (ltI l6_3 (lenI (List.map GArticle.cs a0t.Articles))))], [(4, .box 38 (bxc (GCalendar.cs a1c))), (5, .box 24 (bxc (GSession.cs a2s))), (6, .box 62 [.p (.val (.slice none 0 0)), I 0, I 0, I 0]), (7, .box 62 [.p (.val (.slice none 0 0)), I l6_5, I 0, I 0])]⟩ krf ?_
   refine sim_seq ?_
   refine sim_cond (ltI l6_3 (lenI (List.map GArticle.cs a0t.Articles))) krf ?_ ?_
   ·refine sim_skip ?_
    refine sq_nk ⟨[4, 5, 6, 7, 8, 9, 15, 16, 17], [4, 5, 6, 7], [], []⟩ ⟨[(4, .ptr 4 0), (5, .ptr 5 0), (6, .ptr 6 0), (7, .ptr 7 0), (8, I l6_1), (9, I l6_2), (15, .p (.sl 7 (List.map GArticle.cs a0t.Articles))), (16, I (lenI (List.map GArticle.cs a0t.Articles))), (17, I l6_3)], [(4, .box 38 (bxc (GCalendar.cs a1c))), (5, .box 24 (bxc (GSession.cs a2s))), (6, .box 62 [.p (.val (.slice none 0 0)), I 0, I 0, I 0]), (7, .box 62 [.p (.val (.slice none 0 0)), I l6_5, I 0, I 0])]⟩ krf ?_
    refine sim_seq ?_
    refine sim_block ?_
    refine sim_seq ?_
    refine sim_reg ?_
    refine xs_run 1 krf ?_
    refine xs_get krf krf (aop_idx (e := 47) (S := 7) (enc := GArticle.cs) (l := a0t.Articles) (k := .i64) (n := l6_3) (sv := .p (.sl 7 (List.map GArticle.cs a0t.Articles))) rfl krf krf krf krf krf) (fun x7 => ?_)
    refine xs_run 4 krf ?_
    refine xs_end ?_
    refine sq_nk ⟨[4, 5, 6, 7, 8, 9, 10, 11, 15, 16, 17], [4, 5, 6, 7, 11], [], []⟩ ⟨[(4, .ptr 4 0), (5, .ptr 5 0), (6, .ptr 6 0), (7, .ptr 7 0), (8, I l6_1), (9, I l6_2), (10, I l6_3), (11, .ptr 11 0), (15, .p (.sl 7 (List.map GArticle.cs a0t.Articles))), (16, I (lenI (List.map GArticle.cs a0t.Articles))), (17, I l6_3)], [(4, .box 38 (bxc (GCalendar.cs a1c))), (5, .box 24 (bxc (GSession.cs a2s))), (6, .box 62 [.p (.val (.slice none 0 0)), I 0, I 0, I 0]), (7, .box 62 [.p (.val (.slice none 0 0)), I l6_5, I 0, I 0]), (11, .box 47 (bxc (GArticle.cs x7)))]⟩ krf ?_
    refine sim_run Try.fm ⟨[4, 5, 6, 7, 8, 9, 10, 11, 15, 16, 17, 23], [4, 5, 6, 7, 11], [], []⟩ ⟨[(4, .ptr 4 0), (5, .ptr 5 0), (6, .ptr 6 0), (7, .ptr 7 0), (8, I l6_1), (9, I l6_2), (10, I l6_3), (11, .ptr 11 0), (15, .p (.sl 7 (List.map GArticle.cs a0t.Articles))), (16, I (lenI (List.map GArticle.cs a0t.Articles))), (17, I l6_3), (23, I x7.Kind)], [(4, .box 38 (bxc (GCalendar.cs a1c))), (5, .box 24 (bxc (GSession.cs a2s))), (6, .box 62 [.p (.val (.slice none 0 0)), I 0, I 0, I 0]), (7, .box 62 [.p (.val (.slice none 0 0)), I l6_5, I 0, I 0]), (11, .box 47 (bxc (GArticle.cs x7)))]⟩ krf ?_
    refine sim_block ?_
    refine sim_run Try.fm ⟨[4, 5, 6, 7, 8, 9, 10, 11, 15, 16, 17, 23, 45], [4, 5, 6, 7, 11], [], []⟩ ⟨[(4, .ptr 4 0), (5, .ptr 5 0), (6, .ptr 6 0), (7, .ptr 7 0), (8, I l6_1), (9, I l6_2), (10, I l6_3), (11, .ptr 11 0), (15, .p (.sl 7 (List.map GArticle.cs a0t.Articles))), (16, I (lenI (List.map GArticle.cs a0t.Articles))), (17, I l6_3), (23, I x7.Kind), (45, B (eqI x7.Kind 5))], [(4, .box 38 (bxc (GCalendar.cs a1c))), (5, .box 24 (bxc (GSession.cs a2s))), (6, .box 62 [.p (.val (.slice none 0 0)), I 0, I 0, I 0]), (7, .box 62 [.p (.val (.slice none 0 0)), I l6_5, I 0, I 0]), (11, .box 47 (bxc (GArticle.cs x7)))]⟩ krf ?_
    refine sim_cond (eqI x7.Kind 5) krf ?_ ?_
    ·refine sim_bind (fun j8 => ⟨[(4, .ptr 4 0), (5, .ptr 5 0), (6, .ptr 6 0), (7, .ptr 7 0), (8, I l6_1), (9, I l6_2), (11, .ptr 11 0), (15, .p (.sl 7 (List.map GArticle.cs a0t.Articles))), (16, I (lenI (List.map GArticle.cs a0t.Articles))), (17, I l6_3), (54, B j8)], [(4, .box 38 (bxc (GCalendar.cs a1c))), (5, .box 24 (bxc (GSession.cs a2s))), (6, .box 62 [.p (.val (.slice none 0 0)), I 0, I 0, I 0]), (7, .box 62 [.p (.val (.slice none 0 0)), I l6_5, I 0, I 0]), (11, .box 47 (bxc (GArticle.cs x7)))]⟩ : Bool → St) ?_ ?_
     ·refine sim_reg ?_
      refine xs_run 3 krf ?_
      refine xs_split (ltI l6_2 0) (fun h9 => ?_) (fun h9 => ?_)
      ·refine xs_no (want_ft krf h9) krf ?_
       refine xs_run 4 krf ?_
       refine xs_end ?_
       exact nq_n true ⟨[4, 5, 6, 7, 8, 9, 11, 15, 16, 17, 54], [4, 5, 6, 7, 11], [], []⟩ krf
      ·refine xs_one (want_ff krf h9) krf ?_
       refine xs_run 4 krf ?_
       refine xs_end ?_
       exact nq_n (ltI x7.Price l6_2) ⟨[4, 5, 6, 7, 8, 9, 11, 15, 16, 17, 54], [4, 5, 6, 7, 11], [], []⟩ krf
     ·rintro j8
      refine sim_cond j8 krf ?_ ?_
      ·refine sim_last Try.fm krf ?_
       refine bq_n ?_
       refine bq_n ?_
       refine sq_nk ⟨[4, 5, 6, 7, 8, 9, 15, 16, 17], [4, 5, 6, 7], [], []⟩ ⟨[(4, .ptr 4 0), (5, .ptr 5 0), (6, .ptr 6 0), (7, .ptr 7 0), (8, I l6_1), (9, I x7.Price), (15, .p (.sl 7 (List.map GArticle.cs a0t.Articles))), (16, I (lenI (List.map GArticle.cs a0t.Articles))), (17, I l6_3)], [(4, .box 38 (bxc (GCalendar.cs a1c))), (5, .box 24 (bxc (GSession.cs a2s))), (6, .box 62 [.p (.val (.slice none 0 0)), I 0, I 0, I 0]), (7, .box 62 [.p (.val (.slice none 0 0)), I l6_5, I 0, I 0])]⟩ krf ?_
       refine sim_last Try.fm krf ?_
       exact kq_n (l6_1, x7.Price, wi (l6_3 + 1), OL.nil, l6_5) ⟨[4, 5, 6, 7, 8, 9, 15, 16, 17], [4, 5, 6, 7], [], []⟩ krf
      ·refine sim_skip ?_
       refine bq_n ?_
       refine bq_n ?_
       refine sq_nk ⟨[4, 5, 6, 7, 8, 9, 15, 16, 17], [4, 5, 6, 7], [], []⟩ ⟨[(4, .ptr 4 0), (5, .ptr 5 0), (6, .ptr 6 0), (7, .ptr 7 0), (8, I l6_1), (9, I l6_2), (15, .p (.sl 7 (List.map GArticle.cs a0t.Articles))), (16, I (lenI (List.map GArticle.cs a0t.Articles))), (17, I l6_3)], [(4, .box 38 (bxc (GCalendar.cs a1c))), (5, .box 24 (bxc (GSession.cs a2s))), (6, .box 62 [.p (.val (.slice none 0 0)), I 0, I 0, I 0]), (7, .box 62 [.p (.val (.slice none 0 0)), I l6_5, I 0, I 0])]⟩ krf ?_
       refine sim_last Try.fm krf ?_
       exact kq_n (l6_1, l6_2, wi (l6_3 + 1), OL.nil, l6_5) ⟨[4, 5, 6, 7, 8, 9, 15, 16, 17], [4, 5, 6, 7], [], []⟩ krf
    ·refine sim_run Try.fm ⟨[4, 5, 6, 7, 8, 9, 10, 11, 15, 16, 17, 57], [4, 5, 6, 7, 11], [], []⟩ ⟨[(4, .ptr 4 0), (5, .ptr 5 0), (6, .ptr 6 0), (7, .ptr 7 0), (8, I l6_1), (9, I l6_2), (10, I l6_3), (11, .ptr 11 0), (15, .p (.sl 7 (List.map GArticle.cs a0t.Articles))), (16, I (lenI (List.map GArticle.cs a0t.Articles))), (17, I l6_3), (57, B (eqI x7.Kind 6))], [(4, .box 38 (bxc (GCalendar.cs a1c))), (5, .box 24 (bxc (GSession.cs a2s))), (6, .box 62 [.p (.val (.slice none 0 0)), I 0, I 0, I 0]), (7, .box 62 [.p (.val (.slice none 0 0)), I l6_5, I 0, I 0]), (11, .box 47 (bxc (GArticle.cs x7)))]⟩ krf ?_
     refine sim_cond (eqI x7.Kind 6) krf ?_ ?_
     ·refine sim_last Try.fm krf ?_
      refine bq_n ?_
      refine bq_n ?_
      refine sq_nk ⟨[4, 5, 6, 7, 8, 9, 15, 16, 17], [4, 5, 6, 7], [], []⟩ ⟨[(4, .ptr 4 0), (5, .ptr 5 0), (6, .ptr 6 0), (7, .ptr 7 0), (8, I x7.Price), (9, I l6_2), (15, .p (.sl 7 (List.map GArticle.cs a0t.Articles))), (16, I (lenI (List.map GArticle.cs a0t.Articles))), (17, I l6_3)], [(4, .box 38 (bxc (GCalendar.cs a1c))), (5, .box 24 (bxc (GSession.cs a2s))), (6, .box 62 [.p (.val (.slice none 0 0)), I 0, I 0, I 0]), (7, .box 62 [.p (.val (.slice none 0 0)), I l6_5, I 0, I 0])]⟩ krf ?_
      refine sim_last Try.fm krf ?_
      exact kq_n (x7.Price, l6_2, wi (l6_3 + 1), OL.nil, l6_5) ⟨[4, 5, 6, 7, 8, 9, 15, 16, 17], [4, 5, 6, 7], [], []⟩ krf
     ·refine sim_run Try.fm ⟨[4, 5, 6, 7, 8, 9, 10, 12, 15, 16, 17], [4, 5, 6, 7, 28], [], []⟩ ⟨[(4, .ptr 4 0), (5, .ptr 5 0), (6, .ptr 6 0), (7, .ptr 7 0), (8, I l6_1), (9, I l6_2), (10, I l6_3), (12, .ptr 28 0), (15, .p (.sl 7 (List.map GArticle.cs a0t.Articles))), (16, I (lenI (List.map GArticle.cs a0t.Articles))), (17, I l6_3)], [(4, .box 38 (bxc (GCalendar.cs a1c))), (5, .box 24 (bxc (GSession.cs a2s))), (6, .box 62 [.p (.val (.slice none 0 0)), I 0, I 0, I 0]), (7, .box 62 [.p (.val (.slice none 0 0)), I l6_5, I 0, I 0]), (28, .box 92 (bxc (GBB.cs ⟨x7, a1c, a2s⟩)))]⟩ krf ?_
      refine sim_cps (fun j10 => ⟨[(4, .ptr 4 0), (5, .ptr 5 0), (6, .ptr 6 0), (7, .ptr 7 0), (8, I l6_1), (9, I l6_2), (10, I l6_3), (13, I j10), (15, .p (.sl 7 (List.map GArticle.cs a0t.Articles))), (16, I (lenI (List.map GArticle.cs a0t.Articles))), (17, I l6_3)], [(4, .box 38 (bxc (GCalendar.cs a1c))), (5, .box 24 (bxc (GSession.cs a2s))), (6, .box 62 [.p (.val (.slice none 0 0)), I 0, I 0, I 0]), (7, .box 62 [.p (.val (.slice none 0 0)), I l6_5, I 0, I 0])]⟩ : Int → St) (fun j10 => g_bill_sum_j10 l6_1 l6_2 l6_3 OL.nil l6_5 recl6 j10) ?_ ?_
      ·rintro j10
       show SimE (g_bill_sum_j10 l6_1 l6_2 l6_3 OL.nil l6_5 recl6 j10) _ _ _ _ _ _
       unfold g_bill_sum_j10
       refine sim_seq ?_
       refine sim_reg ?_
       refine xs_run 6 krf ?_
       refine xs_if krf krf (aop_app0 (e := 96) (S := 2) (by_ := 16) (enc := GLine.cs) (d := 38) (l2 := [(⟨l6_3, j10⟩ : GLine)]) (xv := .tsl 2 (List.map GLine.cs [(⟨l6_3, j10⟩ : GLine)]) 37) rfl rfl krf krf rfl krf krf krf rfl krf) ?_
       refine xs_run 2 krf ?_
       refine xs_end ?_
       refine sq_nk ⟨[4, 5, 6, 7, 8, 9, 13, 15, 16, 17], [4, 5, 6, 7, 38], [], []⟩ ⟨[(4, .ptr 4 0), (5, .ptr 5 0), (6, .ptr 6 0), (7, .ptr 7 0), (8, I l6_1), (9, I l6_2), (13, I j10), (15, .p (.sl 7 (List.map GArticle.cs a0t.Articles))), (16, I (lenI (List.map GArticle.cs a0t.Articles))), (17, I l6_3)], [(4, .box 38 (bxc (GCalendar.cs a1c))), (5, .box 24 (bxc (GSession.cs a2s))), (6, .box 62 [.p (.val (.slice none 0 0)), I 0, I 0, I 0]), (7, .box 62 [.tsl 2 (List.map GLine.cs (OL.nil.toL ++ [(⟨l6_3, j10⟩ : GLine)])) 38, I l6_5, I 0, I 0]), (38, .arr 96 2 (List.map GLine.cs (OL.nil.toL ++ [(⟨l6_3, j10⟩ : GLine)])).length)]⟩ krf ?_
       refine sim_last Try.fm krf ?_
       refine bq_n ?_
       refine bq_n ?_
       refine sq_nk ⟨[4, 5, 6, 7, 8, 9, 15, 16, 17], [4, 5, 6, 7, 38], [], []⟩ ⟨[(4, .ptr 4 0), (5, .ptr 5 0), (6, .ptr 6 0), (7, .ptr 7 0), (8, I l6_1), (9, I l6_2), (15, .p (.sl 7 (List.map GArticle.cs a0t.Articles))), (16, I (lenI (List.map GArticle.cs a0t.Articles))), (17, I l6_3)], [(4, .box 38 (bxc (GCalendar.cs a1c))), (5, .box 24 (bxc (GSession.cs a2s))), (6, .box 62 [.p (.val (.slice none 0 0)), I 0, I 0, I 0]), (7, .box 62 [.tsl 2 (List.map GLine.cs (OL.nil.toL ++ [(⟨l6_3, j10⟩ : GLine)])) 38, I (wi (l6_5 + j10)), I 0, I 0]), (38, .arr 96 2 (List.map GLine.cs (OL.nil.toL ++ [(⟨l6_3, j10⟩ : GLine)])).length)]⟩ krf ?_
       refine sim_last Try.fm krf ?_
       exact kq_n (l6_1, l6_2, wi (l6_3 + 1), OL.own (OL.nil.toL ++ [(⟨l6_3, j10⟩ : GLine)]), wi (l6_5 + j10)) ⟨[4, 5, 6, 7, 8, 9, 15, 16, 17], [4, 5, 6, 7, 38], [], []⟩ krf
      ·refine sim_reg ?_
       refine xs_run 1 krf ?_
       refine xs_inline [(1028, .box 92 (bxc (GBB.cs ⟨x7, a1c, a2s⟩)))] [.ptr 1028 0] [(1028, 28)] [] [] krf Try.func39 rfl Try.ntmps39 rfl krf krf krf ?_
       refine sim_run Try.fm ⟨[0], [1028], [], []⟩ ⟨[(0, .ptr 1028 0)], [(1028, .box 92 (bxc (GBB.cs ⟨x7, a1c, a2s⟩)))]⟩ krf ?_
       refine sim_seq ?_
       refine sim_run Try.fm ⟨[0, 6, 7], [1028], [], []⟩ ⟨[(0, .ptr 1028 0), (6, .ptr 1028 0), (7, I x7.Kind)], [(1028, .box 92 (bxc (GBB.cs ⟨x7, a1c, a2s⟩)))]⟩ krf ?_
       refine sim_block ?_
       refine sim_run Try.fm ⟨[0, 6, 7, 8], [1028], [], []⟩ ⟨[(0, .ptr 1028 0), (6, .ptr 1028 0), (7, I x7.Kind), (8, B (eqI x7.Kind 1))], [(1028, .box 92 (bxc (GBB.cs ⟨x7, a1c, a2s⟩)))]⟩ krf ?_
       refine sim_cond (eqI x7.Kind 1) krf ?_ ?_
       ·refine sim_run Try.fm ⟨[2], [1028], [], []⟩ ⟨[(2, .fn (.func 48) [.ptr 1028 0] [])], [(1028, .box 92 (bxc (GBB.cs ⟨x7, a1c, a2s⟩)))]⟩ krf ?_
        refine sim_ret ?_
        refine bq_r ?_
        refine sq_r ?_
        refine iq_ret .id [1028] [] (.fn (.func 48) [.ptr 1028 0] []) krf krf ?_
        refine kr0 ?_
        refine xs_inline [(1028, .box 92 (bxc (GBB.cs ⟨x7, a1c, a2s⟩)))] [.ptr 1028 0] [(1028, 28)] [] [] krf Try.func48 rfl Try.ntmps48 rfl krf krf krf ?_
        refine sim_run Try.fm ⟨[0], [1028], [], []⟩ ⟨[(0, .ptr 1028 0)], [(1028, .box 92 (bxc (GBB.cs ⟨x7, a1c, a2s⟩)))]⟩ krf ?_
        refine sim_seq ?_
        refine sim_seq ?_
        refine sim_reg ?_
        refine xs_run 6 krf ?_
        refine xs_ro [.ro [], .cv (.id)] krf (g_bb_applies_ok n (⟨x7, a1c, a2s⟩ : GBB) a2s.From) krf krf (fun _ => by kernel_rfl) (fun r11 => ?_)
        refine xs_end ?_
        refine sq_nk ⟨[0, 6, 7, 9], [1028], [], []⟩ ⟨[(0, .ptr 1028 0), (6, .ptr 1028 10), (7, .ptr 1028 10), (9, B r11)], [(1028, .box 92 (bxc (GBB.cs ⟨x7, a1c, a2s⟩)))]⟩ krf ?_
        refine sim_cond r11 krf ?_ ?_
        ·refine sim_run Try.fm ⟨[2], [1028], [], []⟩ ⟨[(2, I x7.Price)], [(1028, .box 92 (bxc (GBB.cs ⟨x7, a1c, a2s⟩)))]⟩ krf ?_
         refine sim_ret ?_
         refine sq_r ?_
         refine iq_ret .id [1028] [] (I x7.Price) krf krf ?_
         refine kr0 ?_
         refine xs_run 1 krf ?_
         refine xs_end ?_
         exact kq_n (k := fun j10 => g_bill_sum_j10 l6_1 l6_2 l6_3 OL.nil l6_5 recl6 j10) x7.Price ⟨[4, 5, 6, 7, 8, 9, 10, 13, 15, 16, 17], [4, 5, 6, 7], [], []⟩ krf
        ·refine sim_skip ?_
         refine sq_nk ⟨[6, 7], [1028], [], []⟩ ⟨[(6, .ptr 1028 10), (7, .ptr 1028 10)], [(1028, .box 92 (bxc (GBB.cs ⟨x7, a1c, a2s⟩)))]⟩ krf ?_
         refine sim_run Try.fm ⟨[2], [1028], [], []⟩ ⟨[(2, I 0)], [(1028, .box 92 (bxc (GBB.cs ⟨x7, a1c, a2s⟩)))]⟩ krf ?_
         refine sim_ret ?_
         refine iq_ret .id [1028] [] (I 0) krf krf ?_
         refine kr0 ?_
         refine xs_run 1 krf ?_
         refine xs_end ?_
         exact kq_n (k := fun j10 => g_bill_sum_j10 l6_1 l6_2 l6_3 OL.nil l6_5 recl6 j10) 0 ⟨[4, 5, 6, 7, 8, 9, 10, 13, 15, 16, 17], [4, 5, 6, 7], [], []⟩ krf
       ·refine sim_run Try.fm ⟨[0, 6, 7, 12], [1028], [], []⟩ ⟨[(0, .ptr 1028 0), (6, .ptr 1028 0), (7, I x7.Kind), (12, B (eqI x7.Kind 2))], [(1028, .box 92 (bxc (GBB.cs ⟨x7, a1c, a2s⟩)))]⟩ krf ?_
        refine sim_cond (eqI x7.Kind 2) krf ?_ ?_
        ·refine sim_run Try.fm ⟨[2], [1028], [], []⟩ ⟨[(2, .fn (.func 49) [.ptr 1028 0] [])], [(1028, .box 92 (bxc (GBB.cs ⟨x7, a1c, a2s⟩)))]⟩ krf ?_
         refine sim_ret ?_
         refine bq_r ?_
         refine sq_r ?_
         refine iq_ret .id [1028] [] (.fn (.func 49) [.ptr 1028 0] []) krf krf ?_
         refine kr0 ?_
         refine xs_inline [(1028, .box 92 (bxc (GBB.cs ⟨x7, a1c, a2s⟩)))] [.ptr 1028 0] [(1028, 28)] [] [] krf Try.func49 rfl Try.ntmps49 rfl krf krf krf ?_
         refine sim_run Try.fm ⟨[0], [1028], [], []⟩ ⟨[(0, .ptr 1028 0)], [(1028, .box 92 (bxc (GBB.cs ⟨x7, a1c, a2s⟩)))]⟩ krf ?_
         refine sim_run Try.fm ⟨[0, 3], [1028], [], []⟩ ⟨[(0, .ptr 1028 0), (3, I 0)], [(1028, .box 92 (bxc (GBB.cs ⟨x7, a1c, a2s⟩)))]⟩ krf ?_
         refine sim_bind (fun j12 => ⟨[(0, .ptr 1028 0), (3, I j12), (6, .ptr 1028 0), (7, .ptr 1028 0)], [(1028, .box 92 (bxc (GBB.cs ⟨x7, a1c, a2s⟩)))]⟩ : Int → St) ?_ ?_
         ·refine sim_run Try.fm ⟨[0, 3, 6, 7, 10, 11, 12], [1028], [], []⟩ ⟨[(0, .ptr 1028 0), (3, I 0), (6, .ptr 1028 0), (7, .ptr 1028 0), (10, .p (.sl 2 (List.map GSlice.cs a2s.Slices))), (11, I (lenI (List.map GSlice.cs a2s.Slices))), (12, I 0)], [(1028, .box 92 (bxc (GBB.cs ⟨x7, a1c, a2s⟩)))]⟩ krf ?_
          refine sim_block ?_
          refine sim_loop (fun (l13_1, l13_2) => ⟨[(0, .ptr 1028 0), (3, I l13_1), (6, .ptr 1028 0), (7, .ptr 1028 0), (10, .p (.sl 2 (List.map GSlice.cs a2s.Slices))), (11, I (lenI (List.map GSlice.cs a2s.Slices))), (12, I l13_2)], [(1028, .box 92 (bxc (GBB.cs ⟨x7, a1c, a2s⟩)))]⟩ : (Int × Int) → St) (weak_shr (K := ⟨[0, 3, 6, 7, 10, 11, 12], [1028], [], []⟩) krf) ?_
          rintro recl13 ⟨l13_1, l13_2⟩
          show SimE (g_bill_sum_l13 n a1c a2s x7 recl13 l13_1 l13_2) _ _ _ _ _ _
          unfold g_bill_sum_l13
          refine sim_run Try.fm ⟨[0, 3, 6, 7, 10, 11, 12, 13], [1028], [], []⟩ ⟨[(0, .ptr 1028 0), (3, I l13_1), (6, .ptr 1028 0), (7, .ptr 1028 0), (10, .p (.sl 2 (List.map GSlice.cs a2s.Slices))), (11, I (lenI (List.map GSlice.cs a2s.Slices))), (12, I l13_2), (13, B (ltI l13_2 (lenI (List.map GSlice.cs a2s.Slices))))], [(1028, .box 92 (bxc (GBB.cs ⟨x7, a1c, a2s⟩)))]⟩ krf ?_
          refine sim_seq ?_
          refine sim_cond (ltI l13_2 (lenI (List.map GSlice.cs a2s.Slices))) krf ?_ ?_
          ·refine sim_skip ?_
           refine sq_nk ⟨[0, 3, 6, 7, 10, 11, 12], [1028], [], []⟩ ⟨[(0, .ptr 1028 0), (3, I l13_1), (6, .ptr 1028 0), (7, .ptr 1028 0), (10, .p (.sl 2 (List.map GSlice.cs a2s.Slices))), (11, I (lenI (List.map GSlice.cs a2s.Slices))), (12, I l13_2)], [(1028, .box 92 (bxc (GBB.cs ⟨x7, a1c, a2s⟩)))]⟩ krf ?_
           refine sim_seq ?_
           refine sim_block ?_
           refine sim_seq ?_
           refine sim_reg ?_
           refine xs_get krf krf (aop_idx (e := 54) (S := 2) (enc := GSlice.cs) (l := a2s.Slices) (k := .i64) (n := l13_2) (sv := .p (.sl 2 (List.map GSlice.cs a2s.Slices))) rfl krf krf krf krf krf) (fun x14 => ?_)
           refine xs_run 3 krf ?_
           refine xs_end ?_
           refine sq_nk ⟨[0, 3, 5, 6, 7, 10, 11, 12], [5, 1028], [], []⟩ ⟨[(0, .ptr 1028 0), (3, I l13_1), (5, .ptr 5 0), (6, .ptr 1028 0), (7, .ptr 1028 0), (10, .p (.sl 2 (List.map GSlice.cs a2s.Slices))), (11, I (lenI (List.map GSlice.cs a2s.Slices))), (12, I l13_2)], [(5, .box 54 (bxc (GSlice.cs x14))), (1028, .box 92 (bxc (GBB.cs ⟨x7, a1c, a2s⟩)))]⟩ krf ?_
           refine sim_seq ?_
           refine sim_reg ?_
           refine xs_run 3 krf ?_
           refine xs_ro [.ro [], .cv (.id)] krf (g_bb_applies_ok n (⟨x7, a1c, a2s⟩ : GBB) x14.Minute) krf krf (fun _ => by kernel_rfl) (fun r15 => ?_)
           refine xs_end ?_
           refine sq_nk ⟨[0, 3, 5, 6, 7, 10, 11, 12, 19], [5, 1028], [], []⟩ ⟨[(0, .ptr 1028 0), (3, I l13_1), (5, .ptr 5 0), (6, .ptr 1028 0), (7, .ptr 1028 0), (10, .p (.sl 2 (List.map GSlice.cs a2s.Slices))), (11, I (lenI (List.map GSlice.cs a2s.Slices))), (12, I l13_2), (19, B r15)], [(5, .box 54 (bxc (GSlice.cs x14))), (1028, .box 92 (bxc (GBB.cs ⟨x7, a1c, a2s⟩)))]⟩ krf ?_
           refine sim_cond r15 krf ?_ ?_
           ·refine sim_last Try.fm krf ?_
            refine bq_n ?_
            refine sq_nk ⟨[0, 3, 6, 7, 10, 11, 12], [1028], [], []⟩ ⟨[(0, .ptr 1028 0), (3, I (wi (l13_1 + x14.Energy))), (6, .ptr 1028 0), (7, .ptr 1028 0), (10, .p (.sl 2 (List.map GSlice.cs a2s.Slices))), (11, I (lenI (List.map GSlice.cs a2s.Slices))), (12, I l13_2)], [(1028, .box 92 (bxc (GBB.cs ⟨x7, a1c, a2s⟩)))]⟩ krf ?_
            refine sim_last Try.fm krf ?_
            exact kq_n (wi (l13_1 + x14.Energy), wi (l13_2 + 1)) ⟨[0, 3, 6, 7, 10, 11, 12], [1028], [], []⟩ krf
           ·refine sim_skip ?_
            refine bq_n ?_
            refine sq_nk ⟨[0, 3, 6, 7, 10, 11, 12], [1028], [], []⟩ ⟨[(0, .ptr 1028 0), (3, I l13_1), (6, .ptr 1028 0), (7, .ptr 1028 0), (10, .p (.sl 2 (List.map GSlice.cs a2s.Slices))), (11, I (lenI (List.map GSlice.cs a2s.Slices))), (12, I l13_2)], [(1028, .box 92 (bxc (GBB.cs ⟨x7, a1c, a2s⟩)))]⟩ krf ?_
            refine sim_last Try.fm krf ?_
            exact kq_n (l13_1, wi (l13_2 + 1)) ⟨[0, 3, 6, 7, 10, 11, 12], [1028], [], []⟩ krf
          ·refine sim_exit ?_
           refine sq_x ?_
           refine kq_x ?_
           refine bq_hit ?_
           exact nq_n l13_1 ⟨[0, 3, 6, 7], [1028], [], []⟩ krf
         ·rintro j12
          refine sim_seq ?_
          refine sim_reg ?_
          refine xs_run 6 krf ?_
          refine xs_call [] krf (g_money_Times_ok n x7.Price j12 1000) krf krf (fun _ => by kernel_rfl) (fun r16 => ?_)
          refine xs_run 2 krf ?_
          refine xs_exc [] krf (g_bill_must_ok n r16.1 r16.2) krf krf (fun _ => by kernel_rfl) (fun _ => by kernel_rfl) (fun r17 => ?_) (fun e18 => ?_)
          ·refine xs_run 1 krf ?_
           refine xs_end ?_
           refine sq_nk ⟨[2], [1028], [], []⟩ ⟨[(2, I r17)], [(1028, .box 92 (bxc (GBB.cs ⟨x7, a1c, a2s⟩)))]⟩ krf ?_
           refine sim_ret ?_
           refine iq_ret .id [1028] [] (I r17) krf krf ?_
           refine kr0 ?_
           refine xs_run 1 krf ?_
           refine xs_end ?_
           exact kq_n (k := fun j10 => g_bill_sum_j10 l6_1 l6_2 l6_3 OL.nil l6_5 recl6 j10) r17 ⟨[4, 5, 6, 7, 8, 9, 10, 13, 15, 16, 17], [4, 5, 6, 7], [], []⟩ krf
          ·refine sq_p ?_
           refine iq_p [1028] [] krf ?_
           refine kq_p ?_
           refine bq_p ?_
           refine bq_p ?_
           refine sq_p ?_
           refine kq_p ?_
           refine bq_p ?_
           refine kq_p ?_
           exact rq_p krf krf
        ·refine sim_run Try.fm ⟨[0, 6, 7, 16], [1028], [], []⟩ ⟨[(0, .ptr 1028 0), (6, .ptr 1028 0), (7, I x7.Kind), (16, B (eqI x7.Kind 3))], [(1028, .box 92 (bxc (GBB.cs ⟨x7, a1c, a2s⟩)))]⟩ krf ?_
         refine sim_cond (eqI x7.Kind 3) krf ?_ ?_
         ·refine sim_run Try.fm ⟨[2], [1028], [], []⟩ ⟨[(2, .fn (.func 50) [.ptr 1028 0] [])], [(1028, .box 92 (bxc (GBB.cs ⟨x7, a1c, a2s⟩)))]⟩ krf ?_
          refine sim_ret ?_
          refine bq_r ?_
          refine sq_r ?_
          refine iq_ret .id [1028] [] (.fn (.func 50) [.ptr 1028 0] []) krf krf ?_
          refine kr0 ?_
          refine xs_inline [(1028, .box 92 (bxc (GBB.cs ⟨x7, a1c, a2s⟩)))] [.ptr 1028 0] [(1028, 28)] [] [] krf Try.func50 rfl Try.ntmps50 rfl krf krf krf ?_
          refine sim_run Try.fm ⟨[0], [1028], [], []⟩ ⟨[(0, .ptr 1028 0)], [(1028, .box 92 (bxc (GBB.cs ⟨x7, a1c, a2s⟩)))]⟩ krf ?_
          refine sim_seq ?_
          refine sim_drw Try.fm rfl ?_
          refine xs_run 11 krf ?_
          refine xs_seqL rfl krf krf ?_
          refine xs_roE [.ro [], .cv (.id), .cv (.id)] krf (g_bb_stretch_ok n (⟨x7, a1c, a2s⟩ : GBB) a2s.From a2s.To) krf krf (fun _ => by kernel_rfl) (fun _ => by kernel_rfl) (fun r19 => ?_) (fun e20 => ?_)
          ·refine xs_run 1 krf ?_
           refine xs_end ?_
           refine sq_nk ⟨[2], [1028], [], []⟩ ⟨[(2, I r19)], [(1028, .box 92 (bxc (GBB.cs ⟨x7, a1c, a2s⟩)))]⟩ krf ?_
           refine sim_ret ?_
           refine iq_ret .id [1028] [] (I r19) krf krf ?_
           refine kr0 ?_
           refine xs_run 1 krf ?_
           refine xs_end ?_
           exact kq_n (k := fun j10 => g_bill_sum_j10 l6_1 l6_2 l6_3 OL.nil l6_5 recl6 j10) r19 ⟨[4, 5, 6, 7, 8, 9, 10, 13, 15, 16, 17], [4, 5, 6, 7], [], []⟩ krf
          ·refine sq_p ?_
           refine iq_p [1028] [] krf ?_
           refine kq_p ?_
           refine bq_p ?_
           refine bq_p ?_
           refine sq_p ?_
           refine kq_p ?_
           refine bq_p ?_
           refine kq_p ?_
           exact rq_p krf krf
         ·refine sim_run Try.fm ⟨[0, 6, 7, 20], [1028], [], []⟩ ⟨[(0, .ptr 1028 0), (6, .ptr 1028 0), (7, I x7.Kind), (20, B (eqI x7.Kind 4))], [(1028, .box 92 (bxc (GBB.cs ⟨x7, a1c, a2s⟩)))]⟩ krf ?_
          refine sim_cond (eqI x7.Kind 4) krf ?_ ?_
          ·refine sim_run Try.fm ⟨[2], [1028], [], []⟩ ⟨[(2, .fn (.func 51) [.ptr 1028 0] [])], [(1028, .box 92 (bxc (GBB.cs ⟨x7, a1c, a2s⟩)))]⟩ krf ?_
           refine sim_ret ?_
           refine bq_r ?_
           refine sq_r ?_
           refine iq_ret .id [1028] [] (.fn (.func 51) [.ptr 1028 0] []) krf krf ?_
           refine kr0 ?_
           refine xs_inline [(1028, .box 92 (bxc (GBB.cs ⟨x7, a1c, a2s⟩)))] [.ptr 1028 0] [(1028, 28)] [] [] krf Try.func51 rfl Try.ntmps51 rfl krf krf krf ?_
           refine sim_run Try.fm ⟨[0], [1028], [], []⟩ ⟨[(0, .ptr 1028 0)], [(1028, .box 92 (bxc (GBB.cs ⟨x7, a1c, a2s⟩)))]⟩ krf ?_
           refine sim_seq ?_
           refine sim_drw Try.fm rfl ?_
           refine xs_run 11 krf ?_
           refine xs_seqL rfl krf krf ?_
           refine xs_roE [.ro [], .cv (.id), .cv (.id)] krf (g_bb_stretch_ok n (⟨x7, a1c, a2s⟩ : GBB) a2s.End a2s.To) krf krf (fun _ => by kernel_rfl) (fun _ => by kernel_rfl) (fun r21 => ?_) (fun e22 => ?_)
           ·refine xs_run 1 krf ?_
            refine xs_end ?_
            refine sq_nk ⟨[2], [1028], [], []⟩ ⟨[(2, I r21)], [(1028, .box 92 (bxc (GBB.cs ⟨x7, a1c, a2s⟩)))]⟩ krf ?_
            refine sim_ret ?_
            refine iq_ret .id [1028] [] (I r21) krf krf ?_
            refine kr0 ?_
            refine xs_run 1 krf ?_
            refine xs_end ?_
            exact kq_n (k := fun j10 => g_bill_sum_j10 l6_1 l6_2 l6_3 OL.nil l6_5 recl6 j10) r21 ⟨[4, 5, 6, 7, 8, 9, 10, 13, 15, 16, 17], [4, 5, 6, 7], [], []⟩ krf
           ·refine sq_p ?_
            refine iq_p [1028] [] krf ?_
            refine kq_p ?_
            refine bq_p ?_
            refine bq_p ?_
            refine sq_p ?_
            refine kq_p ?_
            refine bq_p ?_
            refine kq_p ?_
            exact rq_p krf krf
          ·refine sim_skip ?_
           refine bq_n ?_
           refine sq_nk ⟨[0, 6, 7], [1028], [], []⟩ ⟨[(0, .ptr 1028 0), (6, .ptr 1028 0), (7, I x7.Kind)], [(1028, .box 92 (bxc (GBB.cs ⟨x7, a1c, a2s⟩)))]⟩ krf ?_
           refine sim_run Try.fm ⟨[2], [1028], [], []⟩ ⟨[(2, .fn (.func 52) [.ptr 1028 0] [])], [(1028, .box 92 (bxc (GBB.cs ⟨x7, a1c, a2s⟩)))]⟩ krf ?_
           refine sim_ret ?_
           refine iq_ret .id [1028] [] (.fn (.func 52) [.ptr 1028 0] []) krf krf ?_
           refine kr0 ?_
           refine xs_inline [(1028, .box 92 (bxc (GBB.cs ⟨x7, a1c, a2s⟩)))] [.ptr 1028 0] [(1028, 28)] [] [] krf Try.func52 rfl Try.ntmps52 rfl krf krf krf ?_
           refine sim_run Try.fm ⟨[], [1028], [], []⟩ ⟨[], [(1028, .box 92 (bxc (GBB.cs ⟨x7, a1c, a2s⟩)))]⟩ krf ?_
           refine sim_run Try.fm ⟨[2], [1028], [], []⟩ ⟨[(2, I 0)], [(1028, .box 92 (bxc (GBB.cs ⟨x7, a1c, a2s⟩)))]⟩ krf ?_
           refine sim_ret ?_
           refine iq_ret .id [1028] [] (I 0) krf krf ?_
           refine kr0 ?_
           refine xs_run 1 krf ?_
           refine xs_end ?_
           exact kq_n (k := fun j10 => g_bill_sum_j10 l6_1 l6_2 l6_3 OL.nil l6_5 recl6 j10) 0 ⟨[4, 5, 6, 7, 8, 9, 10, 13, 15, 16, 17], [4, 5, 6, 7], [], []⟩ krf
   ·refine sim_exit ?_
    refine sq_x ?_
    refine kq_x ?_
    refine bq_hit ?_
    exact kq_n (k := fun (j1_1, j1_2, j1_3, j1_4) => g_bill_sum_j1 n j1_1 j1_2 j1_3 j1_4) (l6_1, l6_2, OL.nil, l6_5) ⟨[6, 7, 8, 9], [6, 7], [], []⟩ krf
  ·refine sim_run Try.fm ⟨[4, 5, 6, 7, 8, 9, 15, 16, 17, 18], [4, 5, 6, 7, 38], [], []⟩ ⟨[(4, .ptr 4 0), (5, .ptr 5 0), (6, .ptr 6 0), (7, .ptr 7 0), (8, I l6_1), (9, I l6_2), (15, .p (.sl 7 (List.map GArticle.cs a0t.Articles))), (16, I (lenI (List.map GArticle.cs a0t.Articles))), (17, I l6_3), (18, B (ltI l6_3 (lenI (List.map GArticle.cs a0t.Articles))))], [(4, .box 38 (bxc (GCalendar.cs a1c))), (5, .box 24 (bxc (GSession.cs a2s))), (6, .box 62 [.p (.val (.slice none 0 0)), I 0, I 0, I 0]), (7, .box 62 [.tsl 2 (List.map GLine.cs (OL.own ow_l6_4).toL) 38, I l6_5, I 0, I 0]), (38, .arr 96 2 (List.map GLine.cs (OL.own ow_l6_4).toL).length)]⟩ krf ?_
   refine sim_seq ?_
   refine sim_cond (ltI l6_3 (lenI (List.map GArticle.cs a0t.Articles))) krf ?_ ?_
   ·refine sim_skip ?_
    refine sq_nk ⟨[4, 5, 6, 7, 8, 9, 15, 16, 17], [4, 5, 6, 7, 38], [], []⟩ ⟨[(4, .ptr 4 0), (5, .ptr 5 0), (6, .ptr 6 0), (7, .ptr 7 0), (8, I l6_1), (9, I l6_2), (15, .p (.sl 7 (List.map GArticle.cs a0t.Articles))), (16, I (lenI (List.map GArticle.cs a0t.Articles))), (17, I l6_3)], [(4, .box 38 (bxc (GCalendar.cs a1c))), (5, .box 24 (bxc (GSession.cs a2s))), (6, .box 62 [.p (.val (.slice none 0 0)), I 0, I 0, I 0]), (7, .box 62 [.tsl 2 (List.map GLine.cs (OL.own ow_l6_4).toL) 38, I l6_5, I 0, I 0]), (38, .arr 96 2 (List.map GLine.cs (OL.own ow_l6_4).toL).length)]⟩ krf ?_
    refine sim_seq ?_
    refine sim_block ?_
    refine sim_seq ?_
    refine sim_reg ?_
    refine xs_run 1 krf ?_
    refine xs_get krf krf (aop_idx (e := 47) (S := 7) (enc := GArticle.cs) (l := a0t.Articles) (k := .i64) (n := l6_3) (sv := .p (.sl 7 (List.map GArticle.cs a0t.Articles))) rfl krf krf krf krf krf) (fun x7 => ?_)
    refine xs_run 4 krf ?_
    refine xs_end ?_
    refine sq_nk ⟨[4, 5, 6, 7, 8, 9, 10, 11, 15, 16, 17], [4, 5, 6, 7, 11, 38], [], []⟩ ⟨[(4, .ptr 4 0), (5, .ptr 5 0), (6, .ptr 6 0), (7, .ptr 7 0), (8, I l6_1), (9, I l6_2), (10, I l6_3), (11, .ptr 11 0), (15, .p (.sl 7 (List.map GArticle.cs a0t.Articles))), (16, I (lenI (List.map GArticle.cs a0t.Articles))), (17, I l6_3)], [(4, .box 38 (bxc (GCalendar.cs a1c))), (5, .box 24 (bxc (GSession.cs a2s))), (6, .box 62 [.p (.val (.slice none 0 0)), I 0, I 0, I 0]), (7, .box 62 [.tsl 2 (List.map GLine.cs (OL.own ow_l6_4).toL) 38, I l6_5, I 0, I 0]), (11, .box 47 (bxc (GArticle.cs x7))), (38, .arr 96 2 (List.map GLine.cs (OL.own ow_l6_4).toL).length)]⟩ krf ?_
    refine sim_run Try.fm ⟨[4, 5, 6, 7, 8, 9, 10, 11, 15, 16, 17, 23], [4, 5, 6, 7, 11, 38], [], []⟩ ⟨[(4, .ptr 4 0), (5, .ptr 5 0), (6, .ptr 6 0), (7, .ptr 7 0), (8, I l6_1), (9, I l6_2), (10, I l6_3), (11, .ptr 11 0), (15, .p (.sl 7 (List.map GArticle.cs a0t.Articles))), (16, I (lenI (List.map GArticle.cs a0t.Articles))), (17, I l6_3), (23, I x7.Kind)], [(4, .box 38 (bxc (GCalendar.cs a1c))), (5, .box 24 (bxc (GSession.cs a2s))), (6, .box 62 [.p (.val (.slice none 0 0)), I 0, I 0, I 0]), (7, .box 62 [.tsl 2 (List.map GLine.cs (OL.own ow_l6_4).toL) 38, I l6_5, I 0, I 0]), (11, .box 47 (bxc (GArticle.cs x7))), (38, .arr 96 2 (List.map GLine.cs (OL.own ow_l6_4).toL).length)]⟩ krf ?_
    refine sim_block ?_
    refine sim_run Try.fm ⟨[4, 5, 6, 7, 8, 9, 10, 11, 15, 16, 17, 23, 45], [4, 5, 6, 7, 11, 38], [], []⟩ ⟨[(4, .ptr 4 0), (5, .ptr 5 0), (6, .ptr 6 0), (7, .ptr 7 0), (8, I l6_1), (9, I l6_2), (10, I l6_3), (11, .ptr 11 0), (15, .p (.sl 7 (List.map GArticle.cs a0t.Articles))), (16, I (lenI (List.map GArticle.cs a0t.Articles))), (17, I l6_3), (23, I x7.Kind), (45, B (eqI x7.Kind 5))], [(4, .box 38 (bxc (GCalendar.cs a1c))), (5, .box 24 (bxc (GSession.cs a2s))), (6, .box 62 [.p (.val (.slice none 0 0)), I 0, I 0, I 0]), (7, .box 62 [.tsl 2 (List.map GLine.cs (OL.own ow_l6_4).toL) 38, I l6_5, I 0, I 0]), (11, .box 47 (bxc (GArticle.cs x7))), (38, .arr 96 2 (List.map GLine.cs (OL.own ow_l6_4).toL).length)]⟩ krf ?_
    refine sim_cond (eqI x7.Kind 5) krf ?_ ?_
    ·refine sim_bind (fun j8 => ⟨[(4, .ptr 4 0), (5, .ptr 5 0), (6, .ptr 6 0), (7, .ptr 7 0), (8, I l6_1), (9, I l6_2), (11, .ptr 11 0), (15, .p (.sl 7 (List.map GArticle.cs a0t.Articles))), (16, I (lenI (List.map GArticle.cs a0t.Articles))), (17, I l6_3), (54, B j8)], [(4, .box 38 (bxc (GCalendar.cs a1c))), (5, .box 24 (bxc (GSession.cs a2s))), (6, .box 62 [.p (.val (.slice none 0 0)), I 0, I 0, I 0]), (7, .box 62 [.tsl 2 (List.map GLine.cs (OL.own ow_l6_4).toL) 38, I l6_5, I 0, I 0]), (11, .box 47 (bxc (GArticle.cs x7))), (38, .arr 96 2 (List.map GLine.cs (OL.own ow_l6_4).toL).length)]⟩ : Bool → St) ?_ ?_
     ·refine sim_reg ?_
      refine xs_run 3 krf ?_
      refine xs_split (ltI l6_2 0) (fun h9 => ?_) (fun h9 => ?_)
      ·refine xs_no (want_ft krf h9) krf ?_
       refine xs_run 4 krf ?_
       refine xs_end ?_
       exact nq_n true ⟨[4, 5, 6, 7, 8, 9, 11, 15, 16, 17, 54], [4, 5, 6, 7, 11, 38], [], []⟩ krf
      ·refine xs_one (want_ff krf h9) krf ?_
       refine xs_run 4 krf ?_
       refine xs_end ?_
       exact nq_n (ltI x7.Price l6_2) ⟨[4, 5, 6, 7, 8, 9, 11, 15, 16, 17, 54], [4, 5, 6, 7, 11, 38], [], []⟩ krf
     ·rintro j8
      refine sim_cond j8 krf ?_ ?_
      ·refine sim_last Try.fm krf ?_
       refine bq_n ?_
       refine bq_n ?_
       refine sq_nk ⟨[4, 5, 6, 7, 8, 9, 15, 16, 17], [4, 5, 6, 7, 38], [], []⟩ ⟨[(4, .ptr 4 0), (5, .ptr 5 0), (6, .ptr 6 0), (7, .ptr 7 0), (8, I l6_1), (9, I x7.Price), (15, .p (.sl 7 (List.map GArticle.cs a0t.Articles))), (16, I (lenI (List.map GArticle.cs a0t.Articles))), (17, I l6_3)], [(4, .box 38 (bxc (GCalendar.cs a1c))), (5, .box 24 (bxc (GSession.cs a2s))), (6, .box 62 [.p (.val (.slice none 0 0)), I 0, I 0, I 0]), (7, .box 62 [.tsl 2 (List.map GLine.cs (OL.own ow_l6_4).toL) 38, I l6_5, I 0, I 0]), (38, .arr 96 2 (List.map GLine.cs (OL.own ow_l6_4).toL).length)]⟩ krf ?_
       refine sim_last Try.fm krf ?_
       exact kq_n (l6_1, x7.Price, wi (l6_3 + 1), (OL.own ow_l6_4), l6_5) ⟨[4, 5, 6, 7, 8, 9, 15, 16, 17], [4, 5, 6, 7, 38], [], []⟩ krf
      ·refine sim_skip ?_
       refine bq_n ?_
       refine bq_n ?_
       refine sq_nk ⟨[4, 5, 6, 7, 8, 9, 15, 16, 17], [4, 5, 6, 7, 38], [], []⟩ ⟨[(4, .ptr 4 0), (5, .ptr 5 0), (6, .ptr 6 0), (7, .ptr 7 0), (8, I l6_1), (9, I l6_2), (15, .p (.sl 7 (List.map GArticle.cs a0t.Articles))), (16, I (lenI (List.map GArticle.cs a0t.Articles))), (17, I l6_3)], [(4, .box 38 (bxc (GCalendar.cs a1c))), (5, .box 24 (bxc (GSession.cs a2s))), (6, .box 62 [.p (.val (.slice none 0 0)), I 0, I 0, I 0]), (7, .box 62 [.tsl 2 (List.map GLine.cs (OL.own ow_l6_4).toL) 38, I l6_5, I 0, I 0]), (38, .arr 96 2 (List.map GLine.cs (OL.own ow_l6_4).toL).length)]⟩ krf ?_
       refine sim_last Try.fm krf ?_
       exact kq_n (l6_1, l6_2, wi (l6_3 + 1), (OL.own ow_l6_4), l6_5) ⟨[4, 5, 6, 7, 8, 9, 15, 16, 17], [4, 5, 6, 7, 38], [], []⟩ krf
    ·refine sim_run Try.fm ⟨[4, 5, 6, 7, 8, 9, 10, 11, 15, 16, 17, 57], [4, 5, 6, 7, 11, 38], [], []⟩ ⟨[(4, .ptr 4 0), (5, .ptr 5 0), (6, .ptr 6 0), (7, .ptr 7 0), (8, I l6_1), (9, I l6_2), (10, I l6_3), (11, .ptr 11 0), (15, .p (.sl 7 (List.map GArticle.cs a0t.Articles))), (16, I (lenI (List.map GArticle.cs a0t.Articles))), (17, I l6_3), (57, B (eqI x7.Kind 6))], [(4, .box 38 (bxc (GCalendar.cs a1c))), (5, .box 24 (bxc (GSession.cs a2s))), (6, .box 62 [.p (.val (.slice none 0 0)), I 0, I 0, I 0]), (7, .box 62 [.tsl 2 (List.map GLine.cs (OL.own ow_l6_4).toL) 38, I l6_5, I 0, I 0]), (11, .box 47 (bxc (GArticle.cs x7))), (38, .arr 96 2 (List.map GLine.cs (OL.own ow_l6_4).toL).length)]⟩ krf ?_
     refine sim_cond (eqI x7.Kind 6) krf ?_ ?_
     ·refine sim_last Try.fm krf ?_
      refine bq_n ?_
      refine bq_n ?_
      refine sq_nk ⟨[4, 5, 6, 7, 8, 9, 15, 16, 17], [4, 5, 6, 7, 38], [], []⟩ ⟨[(4, .ptr 4 0), (5, .ptr 5 0), (6, .ptr 6 0), (7, .ptr 7 0), (8, I x7.Price), (9, I l6_2), (15, .p (.sl 7 (List.map GArticle.cs a0t.Articles))), (16, I (lenI (List.map GArticle.cs a0t.Articles))), (17, I l6_3)], [(4, .box 38 (bxc (GCalendar.cs a1c))), (5, .box 24 (bxc (GSession.cs a2s))), (6, .box 62 [.p (.val (.slice none 0 0)), I 0, I 0, I 0]), (7, .box 62 [.tsl 2 (List.map GLine.cs (OL.own ow_l6_4).toL) 38, I l6_5, I 0, I 0]), (38, .arr 96 2 (List.map GLine.cs (OL.own ow_l6_4).toL).length)]⟩ krf ?_
      refine sim_last Try.fm krf ?_
      exact kq_n (x7.Price, l6_2, wi (l6_3 + 1), (OL.own ow_l6_4), l6_5) ⟨[4, 5, 6, 7, 8, 9, 15, 16, 17], [4, 5, 6, 7, 38], [], []⟩ krf
     ·refine sim_run Try.fm ⟨[4, 5, 6, 7, 8, 9, 10, 12, 15, 16, 17], [4, 5, 6, 7, 28, 38], [], []⟩ ⟨[(4, .ptr 4 0), (5, .ptr 5 0), (6, .ptr 6 0), (7, .ptr 7 0), (8, I l6_1), (9, I l6_2), (10, I l6_3), (12, .ptr 28 0), (15, .p (.sl 7 (List.map GArticle.cs a0t.Articles))), (16, I (lenI (List.map GArticle.cs a0t.Articles))), (17, I l6_3)], [(4, .box 38 (bxc (GCalendar.cs a1c))), (5, .box 24 (bxc (GSession.cs a2s))), (6, .box 62 [.p (.val (.slice none 0 0)), I 0, I 0, I 0]), (7, .box 62 [.tsl 2 (List.map GLine.cs (OL.own ow_l6_4).toL) 38, I l6_5, I 0, I 0]), (28, .box 92 (bxc (GBB.cs ⟨x7, a1c, a2s⟩))), (38, .arr 96 2 (List.map GLine.cs (OL.own ow_l6_4).toL).length)]⟩ krf ?_
      refine sim_cps (fun j10 => ⟨[(4, .ptr 4 0), (5, .ptr 5 0), (6, .ptr 6 0), (7, .ptr 7 0), (8, I l6_1), (9, I l6_2), (10, I l6_3), (13, I j10), (15, .p (.sl 7 (List.map GArticle.cs a0t.Articles))), (16, I (lenI (List.map GArticle.cs a0t.Articles))), (17, I l6_3)], [(4, .box 38 (bxc (GCalendar.cs a1c))), (5, .box 24 (bxc (GSession.cs a2s))), (6, .box 62 [.p (.val (.slice none 0 0)), I 0, I 0, I 0]), (7, .box 62 [.tsl 2 (List.map GLine.cs (OL.own ow_l6_4).toL) 38, I l6_5, I 0, I 0]), (38, .arr 96 2 (List.map GLine.cs (OL.own ow_l6_4).toL).length)]⟩ : Int → St) (fun j10 => g_bill_sum_j10 l6_1 l6_2 l6_3 (OL.own ow_l6_4) l6_5 recl6 j10) ?_ ?_
      ·rintro j10
       show SimE (g_bill_sum_j10 l6_1 l6_2 l6_3 (OL.own ow_l6_4) l6_5 recl6 j10) _ _ _ _ _ _
       unfold g_bill_sum_j10
       refine sim_seq ?_
       refine sim_reg ?_
       refine xs_run 6 krf ?_
       refine xs_if krf krf (aop_app (e := 96) (S := 2) (by_ := 16) (enc := GLine.cs) (tk := 38) (l := (OL.own ow_l6_4).toL) (l2 := [(⟨l6_3, j10⟩ : GLine)]) (xv := .tsl 2 (List.map GLine.cs [(⟨l6_3, j10⟩ : GLine)]) 37) rfl krf krf rfl krf krf krf rfl krf) ?_
       refine xs_run 2 krf ?_
       refine xs_end ?_
       refine sq_nk ⟨[4, 5, 6, 7, 8, 9, 13, 15, 16, 17], [4, 5, 6, 7, 38], [], []⟩ ⟨[(4, .ptr 4 0), (5, .ptr 5 0), (6, .ptr 6 0), (7, .ptr 7 0), (8, I l6_1), (9, I l6_2), (13, I j10), (15, .p (.sl 7 (List.map GArticle.cs a0t.Articles))), (16, I (lenI (List.map GArticle.cs a0t.Articles))), (17, I l6_3)], [(4, .box 38 (bxc (GCalendar.cs a1c))), (5, .box 24 (bxc (GSession.cs a2s))), (6, .box 62 [.p (.val (.slice none 0 0)), I 0, I 0, I 0]), (7, .box 62 [.tsl 2 (List.map GLine.cs ((OL.own ow_l6_4).toL ++ [(⟨l6_3, j10⟩ : GLine)])) 38, I l6_5, I 0, I 0]), (38, .arr 96 2 (List.map GLine.cs ((OL.own ow_l6_4).toL ++ [(⟨l6_3, j10⟩ : GLine)])).length)]⟩ krf ?_
       refine sim_last Try.fm krf ?_
       refine bq_n ?_
       refine bq_n ?_
       refine sq_nk ⟨[4, 5, 6, 7, 8, 9, 15, 16, 17], [4, 5, 6, 7, 38], [], []⟩ ⟨[(4, .ptr 4 0), (5, .ptr 5 0), (6, .ptr 6 0), (7, .ptr 7 0), (8, I l6_1), (9, I l6_2), (15, .p (.sl 7 (List.map GArticle.cs a0t.Articles))), (16, I (lenI (List.map GArticle.cs a0t.Articles))), (17, I l6_3)], [(4, .box 38 (bxc (GCalendar.cs a1c))), (5, .box 24 (bxc (GSession.cs a2s))), (6, .box 62 [.p (.val (.slice none 0 0)), I 0, I 0, I 0]), (7, .box 62 [.tsl 2 (List.map GLine.cs ((OL.own ow_l6_4).toL ++ [(⟨l6_3, j10⟩ : GLine)])) 38, I (wi (l6_5 + j10)), I 0, I 0]), (38, .arr 96 2 (List.map GLine.cs ((OL.own ow_l6_4).toL ++ [(⟨l6_3, j10⟩ : GLine)])).length)]⟩ krf ?_
       refine sim_last Try.fm krf ?_
       exact kq_n (l6_1, l6_2, wi (l6_3 + 1), OL.own ((OL.own ow_l6_4).toL ++ [(⟨l6_3, j10⟩ : GLine)]), wi (l6_5 + j10)) ⟨[4, 5, 6, 7, 8, 9, 15, 16, 17], [4, 5, 6, 7, 38], [], []⟩ krf
      ·refine sim_reg ?_
       refine xs_run 1 krf ?_
       refine xs_inline [(1028, .box 92 (bxc (GBB.cs ⟨x7, a1c, a2s⟩)))] [.ptr 1028 0] [(1028, 28)] [] [] krf Try.func39 rfl Try.ntmps39 rfl krf krf krf ?_
       refine sim_run Try.fm ⟨[0], [1028], [], []⟩ ⟨[(0, .ptr 1028 0)], [(1028, .box 92 (bxc (GBB.cs ⟨x7, a1c, a2s⟩)))]⟩ krf ?_
       refine sim_seq ?_
       refine sim_run Try.fm ⟨[0, 6, 7], [1028], [], []⟩ ⟨[(0, .ptr 1028 0), (6, .ptr 1028 0), (7, I x7.Kind)], [(1028, .box 92 (bxc (GBB.cs ⟨x7, a1c, a2s⟩)))]⟩ krf ?_
       refine sim_block ?_
       refine sim_run Try.fm ⟨[0, 6, 7, 8], [1028], [], []⟩ ⟨[(0, .ptr 1028 0), (6, .ptr 1028 0), (7, I x7.Kind), (8, B (eqI x7.Kind 1))], [(1028, .box 92 (bxc (GBB.cs ⟨x7, a1c, a2s⟩)))]⟩ krf ?_
       refine sim_cond (eqI x7.Kind 1) krf ?_ ?_
       ·refine sim_run Try.fm ⟨[2], [1028], [], []⟩ ⟨[(2, .fn (.func 48) [.ptr 1028 0] [])], [(1028, .box 92 (bxc (GBB.cs ⟨x7, a1c, a2s⟩)))]⟩ krf ?_
        refine sim_ret ?_
        refine bq_r ?_
        refine sq_r ?_
        refine iq_ret .id [1028] [] (.fn (.func 48) [.ptr 1028 0] []) krf krf ?_
        refine kr0 ?_
        refine xs_inline [(1028, .box 92 (bxc (GBB.cs ⟨x7, a1c, a2s⟩)))] [.ptr 1028 0] [(1028, 28)] [] [] krf Try.func48 rfl Try.ntmps48 rfl krf krf krf ?_
        refine sim_run Try.fm ⟨[0], [1028], [], []⟩ ⟨[(0, .ptr 1028 0)], [(1028, .box 92 (bxc (GBB.cs ⟨x7, a1c, a2s⟩)))]⟩ krf ?_
        refine sim_seq ?_
        refine sim_seq ?_
        refine sim_reg ?_
        refine xs_run 6 krf ?_
        refine xs_ro [.ro [], .cv (.id)] krf (g_bb_applies_ok n (⟨x7, a1c, a2s⟩ : GBB) a2s.From) krf krf (fun _ => by kernel_rfl) (fun r11 => ?_)
        refine xs_end ?_
        refine sq_nk ⟨[0, 6, 7, 9], [1028], [], []⟩ ⟨[(0, .ptr 1028 0), (6, .ptr 1028 10), (7, .ptr 1028 10), (9, B r11)], [(1028, .box 92 (bxc (GBB.cs ⟨x7, a1c, a2s⟩)))]⟩ krf ?_
        refine sim_cond r11 krf ?_ ?_
        ·refine sim_run Try.fm ⟨[2], [1028], [], []⟩ ⟨[(2, I x7.Price)], [(1028, .box 92 (bxc (GBB.cs ⟨x7, a1c, a2s⟩)))]⟩ krf ?_
         refine sim_ret ?_
         refine sq_r ?_
         refine iq_ret .id [1028] [] (I x7.Price) krf krf ?_
         refine kr0 ?_
         refine xs_run 1 krf ?_
         refine xs_end ?_
         exact kq_n (k := fun j10 => g_bill_sum_j10 l6_1 l6_2 l6_3 (OL.own ow_l6_4) l6_5 recl6 j10) x7.Price ⟨[4, 5, 6, 7, 8, 9, 10, 13, 15, 16, 17], [4, 5, 6, 7, 38], [], []⟩ krf
        ·refine sim_skip ?_
         refine sq_nk ⟨[6, 7], [1028], [], []⟩ ⟨[(6, .ptr 1028 10), (7, .ptr 1028 10)], [(1028, .box 92 (bxc (GBB.cs ⟨x7, a1c, a2s⟩)))]⟩ krf ?_
         refine sim_run Try.fm ⟨[2], [1028], [], []⟩ ⟨[(2, I 0)], [(1028, .box 92 (bxc (GBB.cs ⟨x7, a1c, a2s⟩)))]⟩ krf ?_
         refine sim_ret ?_
         refine iq_ret .id [1028] [] (I 0) krf krf ?_
         refine kr0 ?_
         refine xs_run 1 krf ?_
         refine xs_end ?_
         exact kq_n (k := fun j10 => g_bill_sum_j10 l6_1 l6_2 l6_3 (OL.own ow_l6_4) l6_5 recl6 j10) 0 ⟨[4, 5, 6, 7, 8, 9, 10, 13, 15, 16, 17], [4, 5, 6, 7, 38], [], []⟩ krf
       ·refine sim_run Try.fm ⟨[0, 6, 7, 12], [1028], [], []⟩ ⟨[(0, .ptr 1028 0), (6, .ptr 1028 0), (7, I x7.Kind), (12, B (eqI x7.Kind 2))], [(1028, .box 92 (bxc (GBB.cs ⟨x7, a1c, a2s⟩)))]⟩ krf ?_
        refine sim_cond (eqI x7.Kind 2) krf ?_ ?_
        ·refine sim_run Try.fm ⟨[2], [1028], [], []⟩ ⟨[(2, .fn (.func 49) [.ptr 1028 0] [])], [(1028, .box 92 (bxc (GBB.cs ⟨x7, a1c, a2s⟩)))]⟩ krf ?_
         refine sim_ret ?_
         refine bq_r ?_
         refine sq_r ?_
         refine iq_ret .id [1028] [] (.fn (.func 49) [.ptr 1028 0] []) krf krf ?_
         refine kr0 ?_
         refine xs_inline [(1028, .box 92 (bxc (GBB.cs ⟨x7, a1c, a2s⟩)))] [.ptr 1028 0] [(1028, 28)] [] [] krf Try.func49 rfl Try.ntmps49 rfl krf krf krf ?_
         refine sim_run Try.fm ⟨[0], [1028], [], []⟩ ⟨[(0, .ptr 1028 0)], [(1028, .box 92 (bxc (GBB.cs ⟨x7, a1c, a2s⟩)))]⟩ krf ?_
         refine sim_run Try.fm ⟨[0, 3], [1028], [], []⟩ ⟨[(0, .ptr 1028 0), (3, I 0)], [(1028, .box 92 (bxc (GBB.cs ⟨x7, a1c, a2s⟩)))]⟩ krf ?_
         refine sim_bind (fun j12 => ⟨[(0, .ptr 1028 0), (3, I j12), (6, .ptr 1028 0), (7, .ptr 1028 0)], [(1028, .box 92 (bxc (GBB.cs ⟨x7, a1c, a2s⟩)))]⟩ : Int → St) ?_ ?_
         ·refine sim_run Try.fm ⟨[0, 3, 6, 7, 10, 11, 12], [1028], [], []⟩ ⟨[(0, .ptr 1028 0), (3, I 0), (6, .ptr 1028 0), (7, .ptr 1028 0), (10, .p (.sl 2 (List.map GSlice.cs a2s.Slices))), (11, I (lenI (List.map GSlice.cs a2s.Slices))), (12, I 0)], [(1028, .box 92 (bxc (GBB.cs ⟨x7, a1c, a2s⟩)))]⟩ krf ?_
          refine sim_block ?_
          refine sim_loop (fun (l13_1, l13_2) => ⟨[(0, .ptr 1028 0), (3, I l13_1), (6, .ptr 1028 0), (7, .ptr 1028 0), (10, .p (.sl 2 (List.map GSlice.cs a2s.Slices))), (11, I (lenI (List.map GSlice.cs a2s.Slices))), (12, I l13_2)], [(1028, .box 92 (bxc (GBB.cs ⟨x7, a1c, a2s⟩)))]⟩ : (Int × Int) → St) (weak_shr (K := ⟨[0, 3, 6, 7, 10, 11, 12], [1028], [], []⟩) krf) ?_
          rintro recl13 ⟨l13_1, l13_2⟩
          show SimE (g_bill_sum_l13 n a1c a2s x7 recl13 l13_1 l13_2) _ _ _ _ _ _
          unfold g_bill_sum_l13
          refine sim_run Try.fm ⟨[0, 3, 6, 7, 10, 11, 12, 13], [1028], [], []⟩ ⟨[(0, .ptr 1028 0), (3, I l13_1), (6, .ptr 1028 0), (7, .ptr 1028 0), (10, .p (.sl 2 (List.map GSlice.cs a2s.Slices))), (11, I (lenI (List.map GSlice.cs a2s.Slices))), (12, I l13_2), (13, B (ltI l13_2 (lenI (List.map GSlice.cs a2s.Slices))))], [(1028, .box 92 (bxc (GBB.cs ⟨x7, a1c, a2s⟩)))]⟩ krf ?_
          refine sim_seq ?_
          refine sim_cond (ltI l13_2 (lenI (List.map GSlice.cs a2s.Slices))) krf ?_ ?_
          ·refine sim_skip ?_
           refine sq_nk ⟨[0, 3, 6, 7, 10, 11, 12], [1028], [], []⟩ ⟨[(0, .ptr 1028 0), (3, I l13_1), (6, .ptr 1028 0), (7, .ptr 1028 0), (10, .p (.sl 2 (List.map GSlice.cs a2s.Slices))), (11, I (lenI (List.map GSlice.cs a2s.Slices))), (12, I l13_2)], [(1028, .box 92 (bxc (GBB.cs ⟨x7, a1c, a2s⟩)))]⟩ krf ?_
           refine sim_seq ?_
           refine sim_block ?_
           refine sim_seq ?_
           refine sim_reg ?_
           refine xs_get krf krf (aop_idx (e := 54) (S := 2) (enc := GSlice.cs) (l := a2s.Slices) (k := .i64) (n := l13_2) (sv := .p (.sl 2 (List.map GSlice.cs a2s.Slices))) rfl krf krf krf krf krf) (fun x14 => ?_)
           refine xs_run 3 krf ?_
           refine xs_end ?_
           refine sq_nk ⟨[0, 3, 5, 6, 7, 10, 11, 12], [5, 1028], [], []⟩ ⟨[(0, .ptr 1028 0), (3, I l13_1), (5, .ptr 5 0), (6, .ptr 1028 0), (7, .ptr 1028 0), (10, .p (.sl 2 (List.map GSlice.cs a2s.Slices))), (11, I (lenI (List.map GSlice.cs a2s.Slices))), (12, I l13_2)], [(5, .box 54 (bxc (GSlice.cs x14))), (1028, .box 92 (bxc (GBB.cs ⟨x7, a1c, a2s⟩)))]⟩ krf ?_
           refine sim_seq ?_
           refine sim_reg ?_
           refine xs_run 3 krf ?_
           refine xs_ro [.ro [], .cv (.id)] krf (g_bb_applies_ok n (⟨x7, a1c, a2s⟩ : GBB) x14.Minute) krf krf (fun _ => by kernel_rfl) (fun r15 => ?_)
           refine xs_end ?_
           refine sq_nk ⟨[0, 3, 5, 6, 7, 10, 11, 12, 19], [5, 1028], [], []⟩ ⟨[(0, .ptr 1028 0), (3, I l13_1), (5, .ptr 5 0), (6, .ptr 1028 0), (7, .ptr 1028 0), (10, .p (.sl 2 (List.map GSlice.cs a2s.Slices))), (11, I (lenI (List.map GSlice.cs a2s.Slices))), (12, I l13_2), (19, B r15)], [(5, .box 54 (bxc (GSlice.cs x14))), (1028, .box 92 (bxc (GBB.cs ⟨x7, a1c, a2s⟩)))]⟩ krf ?_
           refine sim_cond r15 krf ?_ ?_
           ·refine sim_last Try.fm krf ?_
            refine bq_n ?_
            refine sq_nk ⟨[0, 3, 6, 7, 10, 11, 12], [1028], [], []⟩ ⟨[(0, .ptr 1028 0), (3, I (wi (l13_1 + x14.Energy))), (6, .ptr 1028 0), (7, .ptr 1028 0), (10, .p (.sl 2 (List.map GSlice.cs a2s.Slices))), (11, I (lenI (List.map GSlice.cs a2s.Slices))), (12, I l13_2)], [(1028, .box 92 (bxc (GBB.cs ⟨x7, a1c, a2s⟩)))]⟩ krf ?_
            refine sim_last Try.fm krf ?_
            exact kq_n (wi (l13_1 + x14.Energy), wi (l13_2 + 1)) ⟨[0, 3, 6, 7, 10, 11, 12], [1028], [], []⟩ krf
           ·refine sim_skip ?_
            refine bq_n ?_
            refine sq_nk ⟨[0, 3, 6, 7, 10, 11, 12], [1028], [], []⟩ ⟨[(0, .ptr 1028 0), (3, I l13_1), (6, .ptr 1028 0), (7, .ptr 1028 0), (10, .p (.sl 2 (List.map GSlice.cs a2s.Slices))), (11, I (lenI (List.map GSlice.cs a2s.Slices))), (12, I l13_2)], [(1028, .box 92 (bxc (GBB.cs ⟨x7, a1c, a2s⟩)))]⟩ krf ?_
            refine sim_last Try.fm krf ?_
            exact kq_n (l13_1, wi (l13_2 + 1)) ⟨[0, 3, 6, 7, 10, 11, 12], [1028], [], []⟩ krf
          ·refine sim_exit ?_
           refine sq_x ?_
           refine kq_x ?_
           refine bq_hit ?_
           exact nq_n l13_1 ⟨[0, 3, 6, 7], [1028], [], []⟩ krf
         ·rintro j12
          refine sim_seq ?_
          refine sim_reg ?_
          refine xs_run 6 krf ?_
          refine xs_call [] krf (g_money_Times_ok n x7.Price j12 1000) krf krf (fun _ => by kernel_rfl) (fun r16 => ?_)
          refine xs_run 2 krf ?_
          refine xs_exc [] krf (g_bill_must_ok n r16.1 r16.2) krf krf (fun _ => by kernel_rfl) (fun _ => by kernel_rfl) (fun r17 => ?_) (fun e18 => ?_)
          ·refine xs_run 1 krf ?_
           refine xs_end ?_
           refine sq_nk ⟨[2], [1028], [], []⟩ ⟨[(2, I r17)], [(1028, .box 92 (bxc (GBB.cs ⟨x7, a1c, a2s⟩)))]⟩ krf ?_
           refine sim_ret ?_
           refine iq_ret .id [1028] [] (I r17) krf krf ?_
           refine kr0 ?_
           refine xs_run 1 krf ?_
           refine xs_end ?_
           exact kq_n (k := fun j10 => g_bill_sum_j10 l6_1 l6_2 l6_3 (OL.own ow_l6_4) l6_5 recl6 j10) r17 ⟨[4, 5, 6, 7, 8, 9, 10, 13, 15, 16, 17], [4, 5, 6, 7, 38], [], []⟩ krf
          ·refine sq_p ?_
           refine iq_p [1028] [] krf ?_
           refine kq_p ?_
           refine bq_p ?_
           refine bq_p ?_
           refine sq_p ?_
           refine kq_p ?_
           refine bq_p ?_
           refine kq_p ?_
           exact rq_p krf krf
        ·refine sim_run Try.fm ⟨[0, 6, 7, 16], [1028], [], []⟩ ⟨[(0, .ptr 1028 0), (6, .ptr 1028 0), (7, I x7.Kind), (16, B (eqI x7.Kind 3))], [(1028, .box 92 (bxc (GBB.cs ⟨x7, a1c, a2s⟩)))]⟩ krf ?_
         refine sim_cond (eqI x7.Kind 3) krf ?_ ?_
         ·refine sim_run Try.fm ⟨[2], [1028], [], []⟩ ⟨[(2, .fn (.func 50) [.ptr 1028 0] [])], [(1028, .box 92 (bxc (GBB.cs ⟨x7, a1c, a2s⟩)))]⟩ krf ?_
          refine sim_ret ?_
          refine bq_r ?_
          refine sq_r ?_
          refine iq_ret .id [1028] [] (.fn (.func 50) [.ptr 1028 0] []) krf krf ?_
          refine kr0 ?_
          refine xs_inline [(1028, .box 92 (bxc (GBB.cs ⟨x7, a1c, a2s⟩)))] [.ptr 1028 0] [(1028, 28)] [] [] krf Try.func50 rfl Try.ntmps50 rfl krf krf krf ?_
          refine sim_run Try.fm ⟨[0], [1028], [], []⟩ ⟨[(0, .ptr 1028 0)], [(1028, .box 92 (bxc (GBB.cs ⟨x7, a1c, a2s⟩)))]⟩ krf ?_
          refine sim_seq ?_
          refine sim_drw Try.fm rfl ?_
          refine xs_run 11 krf ?_
          refine xs_seqL rfl krf krf ?_
          refine xs_roE [.ro [], .cv (.id), .cv (.id)] krf (g_bb_stretch_ok n (⟨x7, a1c, a2s⟩ : GBB) a2s.From a2s.To) krf krf (fun _ => by kernel_rfl) (fun _ => by kernel_rfl) (fun r19 => ?_) (fun e20 => ?_)
          ·refine xs_run 1 krf ?_
           refine xs_end ?_
           refine sq_nk ⟨[2], [1028], [], []⟩ ⟨[(2, I r19)], [(1028, .box 92 (bxc (GBB.cs ⟨x7, a1c, a2s⟩)))]⟩ krf ?_
           refine sim_ret ?_
           refine iq_ret .id [1028] [] (I r19) krf krf ?_
           refine kr0 ?_
           refine xs_run 1 krf ?_
           refine xs_end ?_
           exact kq_n (k := fun j10 => g_bill_sum_j10 l6_1 l6_2 l6_3 (OL.own ow_l6_4) l6_5 recl6 j10) r19 ⟨[4, 5, 6, 7, 8, 9, 10, 13, 15, 16, 17], [4, 5, 6, 7, 38], [], []⟩ krf
          ·refine sq_p ?_
           refine iq_p [1028] [] krf ?_
           refine kq_p ?_
           refine bq_p ?_
           refine bq_p ?_
           refine sq_p ?_
           refine kq_p ?_
           refine bq_p ?_
           refine kq_p ?_
           exact rq_p krf krf
         ·refine sim_run Try.fm ⟨[0, 6, 7, 20], [1028], [], []⟩ ⟨[(0, .ptr 1028 0), (6, .ptr 1028 0), (7, I x7.Kind), (20, B (eqI x7.Kind 4))], [(1028, .box 92 (bxc (GBB.cs ⟨x7, a1c, a2s⟩)))]⟩ krf ?_
          refine sim_cond (eqI x7.Kind 4) krf ?_ ?_
          ·refine sim_run Try.fm ⟨[2], [1028], [], []⟩ ⟨[(2, .fn (.func 51) [.ptr 1028 0] [])], [(1028, .box 92 (bxc (GBB.cs ⟨x7, a1c, a2s⟩)))]⟩ krf ?_
           refine sim_ret ?_
           refine bq_r ?_
           refine sq_r ?_
           refine iq_ret .id [1028] [] (.fn (.func 51) [.ptr 1028 0] []) krf krf ?_
           refine kr0 ?_
           refine xs_inline [(1028, .box 92 (bxc (GBB.cs ⟨x7, a1c, a2s⟩)))] [.ptr 1028 0] [(1028, 28)] [] [] krf Try.func51 rfl Try.ntmps51 rfl krf krf krf ?_
           refine sim_run Try.fm ⟨[0], [1028], [], []⟩ ⟨[(0, .ptr 1028 0)], [(1028, .box 92 (bxc (GBB.cs ⟨x7, a1c, a2s⟩)))]⟩ krf ?_
           refine sim_seq ?_
           refine sim_drw Try.fm rfl ?_
           refine xs_run 11 krf ?_
           refine xs_seqL rfl krf krf ?_
           refine xs_roE [.ro [], .cv (.id), .cv (.id)] krf (g_bb_stretch_ok n (⟨x7, a1c, a2s⟩ : GBB) a2s.End a2s.To) krf krf (fun _ => by kernel_rfl) (fun _ => by kernel_rfl) (fun r21 => ?_) (fun e22 => ?_)
           ·refine xs_run 1 krf ?_
            refine xs_end ?_
            refine sq_nk ⟨[2], [1028], [], []⟩ ⟨[(2, I r21)], [(1028, .box 92 (bxc (GBB.cs ⟨x7, a1c, a2s⟩)))]⟩ krf ?_
            refine sim_ret ?_
            refine iq_ret .id [1028] [] (I r21) krf krf ?_
            refine kr0 ?_
            refine xs_run 1 krf ?_
            refine xs_end ?_
            exact kq_n (k := fun j10 => g_bill_sum_j10 l6_1 l6_2 l6_3 (OL.own ow_l6_4) l6_5 recl6 j10) r21 ⟨[4, 5, 6, 7, 8, 9, 10, 13, 15, 16, 17], [4, 5, 6, 7, 38], [], []⟩ krf
           ·refine sq_p ?_
            refine iq_p [1028] [] krf ?_
            refine kq_p ?_
            refine bq_p ?_
            refine bq_p ?_
            refine sq_p ?_
            refine kq_p ?_
            refine bq_p ?_
            refine kq_p ?_
            exact rq_p krf krf
          ·refine sim_skip ?_
           refine bq_n ?_
           refine sq_nk ⟨[0, 6, 7], [1028], [], []⟩ ⟨[(0, .ptr 1028 0), (6, .ptr 1028 0), (7, I x7.Kind)], [(1028, .box 92 (bxc (GBB.cs ⟨x7, a1c, a2s⟩)))]⟩ krf ?_
           refine sim_run Try.fm ⟨[2], [1028], [], []⟩ ⟨[(2, .fn (.func 52) [.ptr 1028 0] [])], [(1028, .box 92 (bxc (GBB.cs ⟨x7, a1c, a2s⟩)))]⟩ krf ?_
           refine sim_ret ?_
           refine iq_ret .id [1028] [] (.fn (.func 52) [.ptr 1028 0] []) krf krf ?_
           refine kr0 ?_
           refine xs_inline [(1028, .box 92 (bxc (GBB.cs ⟨x7, a1c, a2s⟩)))] [.ptr 1028 0] [(1028, 28)] [] [] krf Try.func52 rfl Try.ntmps52 rfl krf krf krf ?_
           refine sim_run Try.fm ⟨[], [1028], [], []⟩ ⟨[], [(1028, .box 92 (bxc (GBB.cs ⟨x7, a1c, a2s⟩)))]⟩ krf ?_
           refine sim_run Try.fm ⟨[2], [1028], [], []⟩ ⟨[(2, I 0)], [(1028, .box 92 (bxc (GBB.cs ⟨x7, a1c, a2s⟩)))]⟩ krf ?_
           refine sim_ret ?_
           refine iq_ret .id [1028] [] (I 0) krf krf ?_
           refine kr0 ?_
           refine xs_run 1 krf ?_
           refine xs_end ?_
           exact kq_n (k := fun j10 => g_bill_sum_j10 l6_1 l6_2 l6_3 (OL.own ow_l6_4) l6_5 recl6 j10) 0 ⟨[4, 5, 6, 7, 8, 9, 10, 13, 15, 16, 17], [4, 5, 6, 7, 38], [], []⟩ krf
   ·refine sim_exit ?_
    refine sq_x ?_
    refine kq_x ?_
    refine bq_hit ?_
    exact kq_n (k := fun (j1_1, j1_2, j1_3, j1_4) => g_bill_sum_j1 n j1_1 j1_2 j1_3 j1_4) (l6_1, l6_2, (OL.own ow_l6_4), l6_5) ⟨[6, 7, 8, 9], [6, 7, 38], [], []⟩ krf
def g_bill_caught_2 (n : Nat) (a0x_0 : Int) (a1err : Int) : Option Int :=
 some a0x_0
theorem g_bill_caught_2_ok (n : Nat) (a0x_0 : Int) (a1err : Int) : ∀ r, g_bill_caught_2 n a0x_0 a1err = some r → ACall Try.prog 31 [.ifc 88 (.agg [I a0x_0]), .ptr 1001 0] (Go.Abs.look [(1001, .box 26 [I a1err])]) (heapR (fun r : Int => ((.ret (.tup []), [(1001, .box 26 [I r])]) : AEnd × List (Nat × Blk))) r) := by
 refine acall_sim (X := fun r : Int => ((.ret (.tup []), [(1001, .box 26 [I r])]) : AEnd × List (Nat × Blk))) [(1001, .box 26 [I a1err])] Try.func31 rfl Try.ntmps31 rfl ?_
 unfold g_bill_caught_2
 refine sim_seq ?_
 refine sim_run Try.fm ⟨[0, 1, 6, 7], [1001], [], []⟩ ⟨[(0, .ifc 88 (.agg [I a0x_0])), (1, .ptr 1001 0), (6, .ifc 88 (.agg [I a0x_0])), (7, B false)], [(1001, .box 26 [I a1err])]⟩ krf ?_
 refine sim_condF krf ?_
 refine sim_skip ?_
 refine sq_nk ⟨[0, 1, 6, 7], [1001], [], []⟩ ⟨[(0, .ifc 88 (.agg [I a0x_0])), (1, .ptr 1001 0), (6, .ifc 88 (.agg [I a0x_0])), (7, B false)], [(1001, .box 26 [I a1err])]⟩ krf ?_
 refine sim_run Try.fm ⟨[0, 1, 4, 5, 6, 7], [4, 1001], [], []⟩ ⟨[(0, .ifc 88 (.agg [I a0x_0])), (1, .ptr 1001 0), (4, .ptr 4 0), (5, B true), (6, .ifc 88 (.agg [I a0x_0])), (7, B false)], [(4, .box 88 [I a0x_0]), (1001, .box 26 [I a1err])]⟩ krf ?_
 refine sim_seq ?_
 refine sim_run Try.fm ⟨[0, 1, 4, 6, 7, 14], [4, 1001], [], []⟩ ⟨[(0, .ifc 88 (.agg [I a0x_0])), (1, .ptr 1001 0), (4, .ptr 4 0), (6, .ifc 88 (.agg [I a0x_0])), (7, B false), (14, B false)], [(4, .box 88 [I a0x_0]), (1001, .box 26 [I a1err])]⟩ krf ?_
 refine sim_condF krf ?_
 refine sim_skip ?_
 refine sq_nk ⟨[1, 4, 6, 7], [4, 1001], [], []⟩ ⟨[(1, .ptr 1001 0), (4, .ptr 4 0), (6, .ifc 88 (.agg [I a0x_0])), (7, B false)], [(4, .box 88 [I a0x_0]), (1001, .box 26 [I a1err])]⟩ krf ?_
 refine sim_last Try.fm krf ?_
 exact hq_n (.id) [1001] [] krf krf krf krf
def g_bill_Bill (n : Nat) (a0t : GTariff) (a1c : GCalendar) (a2s : GSession) : Option (GBill × Int) :=
 ((g_tariff_Valid n a0t).bind fun r2 =>
 cond (!r2)
  (some true)
  ((g_days_Valid n a1c).bind fun r4 =>
  cond (!r4)
   (some true)
   ((g_bill_Valid n a2s).bind fun r6 =>
   some (!r6)))).bind fun j1 =>
 cond j1
  ((g_bill_caught n 1).bind fun r7 =>
  some ((⟨[], 0, 0, 0⟩ : GBill), r7))
  ((g_bill_sum n a0t a1c a2s).bind (exc (fun r8 =>
   (g_bill_caught n 0).bind fun r10 =>
   some (r8, r10)) fun e9 => (g_bill_caught_2 n e9 0).bind fun r11 =>
  some ((⟨[], 0, 0, 0⟩ : GBill), r11)))
theorem g_bill_Bill_okH (n : Nat) (a0t : GTariff) (a1c : GCalendar) (a2s : GSession) : ∀ r, g_bill_Bill n a0t a1c a2s = some r → ACall Try.prog 26 [ag (GTariff.cs a0t), ag (GCalendar.cs a1c), ag (GSession.cs a2s)] (Go.Abs.look []) (heapR (fun r : GBill × Int => ((.ret (.tup [ag (GBill.cs r.1), I r.2]), []) : AEnd × List (Nat × Blk))) r) := by
 refine defer_sim (X := fun r : GBill × Int => ((.ret (.tup [ag (GBill.cs r.1), I r.2]), []) : AEnd × List (Nat × Blk))) [] (⟨Try.f30, _, _, _, 1, _, _, Try.func30, rfl, rfl, rfl, rfl, rfl, rfl, by decide, by decide, rfl, by kernel_rfl⟩ : Catcher Try.prog 30 31) (⟨_, _, _, _, _, 7, 8, _, rfl, rfl, rfl, rfl, rfl, rfl, rfl, by decide⟩ : Deferrer Try.f26 30) 7 Try.func26 Try.ntmps26 rfl krf rfl Try.fm rfl krf krf krf ?_
 unfold g_bill_Bill
 refine sim_keep ⟨[3, 4, 5, 6, 7], [3, 4, 5, 6, 2000], [], []⟩ ⟨[(3, .ptr 3 0), (4, .ptr 4 0), (5, .ptr 5 0), (6, .ptr 6 0), (7, .ptr 2000 0)], [(3, .box 34 (bxc (GTariff.cs a0t))), (4, .box 38 (bxc (GCalendar.cs a1c))), (5, .box 24 (bxc (GSession.cs a2s))), (6, .box 62 [.p (.val (.slice none 0 0)), I 0, I 0, I 0]), (2000, .box 26 [I 0])]⟩ krf ?_
 refine sim_seq ?_
 refine sim_bind (fun j1 => ⟨[(3, .ptr 3 0), (4, .ptr 4 0), (5, .ptr 5 0), (6, .ptr 6 0), (7, .ptr 2000 0), (21, B j1)], [(3, .box 34 (bxc (GTariff.cs a0t))), (4, .box 38 (bxc (GCalendar.cs a1c))), (5, .box 24 (bxc (GSession.cs a2s))), (6, .box 62 [.p (.val (.slice none 0 0)), I 0, I 0, I 0]), (2000, .box 26 [I 0])]⟩ : Bool → St) ?_ ?_
 ·refine sim_reg ?_
  refine xs_run 1 krf ?_
  refine xs_call [] krf (g_tariff_Valid_ok n a0t) krf krf (fun _ => by kernel_rfl) (fun r2 => ?_)
  refine xs_run 2 krf ?_
  refine xs_split (!r2) (fun h3 => ?_) (fun h3 => ?_)
  ·refine xs_no (want_ft krf h3) krf ?_
   refine xs_run 8 krf ?_
   refine xs_end ?_
   exact nq_n true ⟨[3, 4, 5, 6, 7, 21], [3, 4, 5, 6, 2000], [], []⟩ krf
  ·refine xs_one (want_ff krf h3) krf ?_
   refine xs_call [] krf (g_days_Valid_ok n a1c) krf krf (fun _ => by kernel_rfl) (fun r4 => ?_)
   refine xs_run 3 krf ?_
   refine xs_split (!r4) (fun h5 => ?_) (fun h5 => ?_)
   ·refine xs_no (want_ft krf h5) krf ?_
    refine xs_run 3 krf ?_
    refine xs_end ?_
    exact nq_n true ⟨[3, 4, 5, 6, 7, 21], [3, 4, 5, 6, 2000], [], []⟩ krf
   ·refine xs_one (want_ff krf h5) krf ?_
    refine xs_call [] krf (g_bill_Valid_ok n a2s) krf krf (fun _ => by kernel_rfl) (fun r6 => ?_)
    refine xs_run 2 krf ?_
    refine xs_end ?_
    exact nq_n (!r6) ⟨[3, 4, 5, 6, 7, 21], [3, 4, 5, 6, 2000], [], []⟩ krf
 ·rintro j1
  refine sim_cond j1 krf ?_ ?_
  ·refine sim_run Try.fm ⟨[6, 7], [6, 2000], [], []⟩ ⟨[(6, .ptr 6 0), (7, .ptr 2000 0)], [(6, .box 62 [.p (.val (.slice none 0 0)), I 0, I 0, I 0]), (2000, .box 26 [I 1])]⟩ krf ?_
   refine sim_ret ?_
   refine sq_r ?_
   refine dq_ret ?_
   refine sc_heap [(1001, 2000)] [] [] (g_bill_caught_ok n 1) krf krf krf (fun _ => by kernel_rfl) (fun _ => by kernel_rfl) (fun r7 => ?_)
   exact ke_end (.agg [.agg [.sl 2, .id, .id, .id], .id]) [] [] krf krf krf krf
  ·refine sim_skip ?_
   refine sq_nk ⟨[3, 4, 5, 6, 7], [3, 4, 5, 6, 2000], [], []⟩ ⟨[(3, .ptr 3 0), (4, .ptr 4 0), (5, .ptr 5 0), (6, .ptr 6 0), (7, .ptr 2000 0)], [(3, .box 34 (bxc (GTariff.cs a0t))), (4, .box 38 (bxc (GCalendar.cs a1c))), (5, .box 24 (bxc (GSession.cs a2s))), (6, .box 62 [.p (.val (.slice none 0 0)), I 0, I 0, I 0]), (2000, .box 26 [I 0])]⟩ krf ?_
   refine sim_seq ?_
   refine sim_reg ?_
   refine xs_run 3 krf ?_
   refine xs_exc [] krf (g_bill_sum_ok n a0t a1c a2s) krf krf (fun _ => by kernel_rfl) (fun _ => by kernel_rfl) (fun r8 => ?_) (fun e9 => ?_)
   ·refine xs_run 2 krf ?_
    refine xs_end ?_
    refine sq_nk ⟨[6, 7], [6, 2000], [], []⟩ ⟨[(6, .ptr 6 0), (7, .ptr 2000 0)], [(6, .box 62 (bxc (GBill.cs r8))), (2000, .box 26 [I 0])]⟩ krf ?_
    refine sim_ret ?_
    refine dq_ret ?_
    refine sc_heap [(1001, 2000)] [] [] (g_bill_caught_ok n 0) krf krf krf (fun _ => by kernel_rfl) (fun _ => by kernel_rfl) (fun r10 => ?_)
    exact ke_end (.id) [] [] krf krf krf krf
   ·refine sq_p ?_
    refine dq_p ?_
    refine sc_heap [(1001, 2000)] [] [] (g_bill_caught_2_ok n e9 0) krf krf krf (fun _ => by kernel_rfl) (fun _ => by kernel_rfl) (fun r11 => ?_)
    exact ke_end (.agg [.agg [.sl 2, .id, .id, .id], .id]) [] [] krf krf krf krf
theorem g_bill_Bill_ok (n : Nat) (a0t : GTariff) (a1c : GCalendar) (a2s : GSession) : ∀ r, g_bill_Bill n a0t a1c a2s = some r → PCall Try.prog 26 [ag (GTariff.cs a0t), ag (GCalendar.cs a1c), ag (GSession.cs a2s)] (.ret (.tup [ag (GBill.cs r.1), I r.2])) := fun r h => pcall_of (g_bill_Bill_okH n a0t a1c a2s r h) rfl
def g_loophole_Price_j5 (j5 : Int) : Option (Int × Int) :=
 cond (ltI 1000000000 j5)
  (some (0, 3))
  (some (j5, 0))
def g_loophole_Price_l6 (n : Nat) (a0t : GTariff) (a1c : GCalendar) (a2s : GSession) (a3cuts : List Int) (recl6 : (Int × Int × Int) → Option (Int × Int)) (l6_1 : Int) (l6_2 : Int) (l6_3 : Int) : Option (Int × Int) :=
 cond (ltI l6_3 (wi ((lenI (List.map ci a3cuts)) + 1)))
  ((cond (ltI l6_3 (lenI (List.map ci a3cuts)))
   ((getI a3cuts l6_3).bind fun x8 =>
   some x8)
   (some a2s.To)).bind fun j7 =>
  (g_loophole_part n a2s l6_2 j7).bind fun r9 =>
  (g_bill_Bill n a0t a1c r9).bind fun r10 =>
  cond (!eqI r10.2 0)
   (some (0, r10.2))
   (recl6 (wi (l6_1 + r10.1.Total), j7, wi (l6_3 + 1))))
  (g_loophole_Price_j5 l6_1)
def g_loophole_Price (n : Nat) (a0t : GTariff) (a1c : GCalendar) (a2s : GSession) (a3cuts : List Int) : Option (Int × Int) :=
 ((g_loophole_valid n a0t a1c a2s).bind fun r2 =>
 cond (!r2)
  (some true)
  ((g_loophole_validCuts n a2s a3cuts).bind fun r4 =>
  some (!r4))).bind fun j1 =>
 cond j1
  (some (0, 1))
  (loopN (fun recl6 (l6_1, l6_2, l6_3) => g_loophole_Price_l6 n a0t a1c a2s a3cuts recl6 l6_1 l6_2 l6_3) n (0, a2s.From, 0))
theorem g_loophole_Price_ok (n : Nat) (a0t : GTariff) (a1c : GCalendar) (a2s : GSession) (a3cuts : List Int) : ∀ r, g_loophole_Price n a0t a1c a2s a3cuts = some r → PCall Try.prog 16 [ag (GTariff.cs a0t), ag (GCalendar.cs a1c), ag (GSession.cs a2s), .p (.sl 1 (List.map ci a3cuts))] (.ret (.tup [I r.1, I r.2])) := by
 refine pcall_sim (X := fun r : Int × Int => AEnd.ret (.tup [I r.1, I r.2])) Try.func16 rfl Try.ntmps16 rfl ?_
 unfold g_loophole_Price
 refine sim_run Try.fm ⟨[3, 4, 5, 6], [4, 5, 6], [], []⟩ ⟨[(3, .p (.sl 1 (List.map ci a3cuts))), (4, .ptr 4 0), (5, .ptr 5 0), (6, .ptr 6 0)], [(4, .box 34 (bxc (GTariff.cs a0t))), (5, .box 38 (bxc (GCalendar.cs a1c))), (6, .box 24 (bxc (GSession.cs a2s)))]⟩ krf ?_
 refine sim_seq ?_
 refine sim_bind (fun j1 => ⟨[(3, .p (.sl 1 (List.map ci a3cuts))), (4, .ptr 4 0), (5, .ptr 5 0), (6, .ptr 6 0), (26, B j1)], [(4, .box 34 (bxc (GTariff.cs a0t))), (5, .box 38 (bxc (GCalendar.cs a1c))), (6, .box 24 (bxc (GSession.cs a2s)))]⟩ : Bool → St) ?_ ?_
 ·refine sim_reg ?_
  refine xs_run 3 krf ?_
  refine xs_call [] krf (g_loophole_valid_ok n a0t a1c a2s) krf krf (fun _ => by kernel_rfl) (fun r2 => ?_)
  refine xs_run 2 krf ?_
  refine xs_split (!r2) (fun h3 => ?_) (fun h3 => ?_)
  ·refine xs_no (want_ft krf h3) krf ?_
   refine xs_run 4 krf ?_
   refine xs_end ?_
   exact nq_n true ⟨[3, 4, 5, 6, 26], [4, 5, 6], [], []⟩ krf
  ·refine xs_one (want_ff krf h3) krf ?_
   refine xs_run 1 krf ?_
   refine xs_call [] krf (g_loophole_validCuts_ok n a2s a3cuts) krf krf (fun _ => by kernel_rfl) (fun r4 => ?_)
   refine xs_run 2 krf ?_
   refine xs_end ?_
   exact nq_n (!r4) ⟨[3, 4, 5, 6, 26], [4, 5, 6], [], []⟩ krf
 ·rintro j1
  refine sim_cond j1 krf ?_ ?_
  ·refine sim_run Try.fm ⟨[8, 9], [], [], []⟩ ⟨[(8, I 0), (9, I 1)], []⟩ krf ?_
   refine sim_ret ?_
   refine sq_r ?_
   exact rq_ret (.id) krf krf krf
  ·refine sim_skip ?_
   refine sq_nk ⟨[3, 4, 5, 6], [4, 5, 6], [], []⟩ ⟨[(3, .p (.sl 1 (List.map ci a3cuts))), (4, .ptr 4 0), (5, .ptr 5 0), (6, .ptr 6 0)], [(4, .box 34 (bxc (GTariff.cs a0t))), (5, .box 38 (bxc (GCalendar.cs a1c))), (6, .box 24 (bxc (GSession.cs a2s)))]⟩ krf ?_
   refine sim_run Try.fm ⟨[3, 4, 5, 6, 10, 11], [4, 5, 6], [], []⟩ ⟨[(3, .p (.sl 1 (List.map ci a3cuts))), (4, .ptr 4 0), (5, .ptr 5 0), (6, .ptr 6 0), (10, I 0), (11, I a2s.From)], [(4, .box 34 (bxc (GTariff.cs a0t))), (5, .box 38 (bxc (GCalendar.cs a1c))), (6, .box 24 (bxc (GSession.cs a2s)))]⟩ krf ?_
   refine sim_cps (fun j5 => ⟨[(10, I j5)], []⟩ : Int → St) (fun j5 => g_loophole_Price_j5 j5) ?_ ?_
   ·rintro j5
    show SimE (g_loophole_Price_j5 j5) _ _ _ _ _ _
    unfold g_loophole_Price_j5
    refine sim_seq ?_
    refine sim_run Try.fm ⟨[10, 65], [], [], []⟩ ⟨[(10, I j5), (65, B (ltI 1000000000 j5))], []⟩ krf ?_
    refine sim_cond (ltI 1000000000 j5) krf ?_ ?_
    ·refine sim_run Try.fm ⟨[8, 9], [], [], []⟩ ⟨[(8, I 0), (9, I 3)], []⟩ krf ?_
     refine sim_ret ?_
     refine sq_r ?_
     exact rq_ret (.id) krf krf krf
    ·refine sim_skip ?_
     refine sq_nk ⟨[10], [], [], []⟩ ⟨[(10, I j5)], []⟩ krf ?_
     refine sim_run Try.fm ⟨[8, 9], [], [], []⟩ ⟨[(8, I j5), (9, I 0)], []⟩ krf ?_
     refine sim_ret ?_
     exact rq_ret (.id) krf krf krf
   ·refine sim_run Try.fm ⟨[3, 4, 5, 6, 10, 11, 31, 32], [4, 5, 6], [], []⟩ ⟨[(3, .p (.sl 1 (List.map ci a3cuts))), (4, .ptr 4 0), (5, .ptr 5 0), (6, .ptr 6 0), (10, I 0), (11, I a2s.From), (31, I (wi ((lenI (List.map ci a3cuts)) + 1))), (32, I 0)], [(4, .box 34 (bxc (GTariff.cs a0t))), (5, .box 38 (bxc (GCalendar.cs a1c))), (6, .box 24 (bxc (GSession.cs a2s)))]⟩ krf ?_
    refine sim_block ?_
    refine sim_loop (fun (l6_1, l6_2, l6_3) => ⟨[(3, .p (.sl 1 (List.map ci a3cuts))), (4, .ptr 4 0), (5, .ptr 5 0), (6, .ptr 6 0), (10, I l6_1), (11, I l6_2), (31, I (wi ((lenI (List.map ci a3cuts)) + 1))), (32, I l6_3)], [(4, .box 34 (bxc (GTariff.cs a0t))), (5, .box 38 (bxc (GCalendar.cs a1c))), (6, .box 24 (bxc (GSession.cs a2s)))]⟩ : (Int × Int × Int) → St) (weak_shr (K := ⟨[3, 4, 5, 6, 10, 11, 31, 32], [4, 5, 6], [], []⟩) krf) ?_
    rintro recl6 ⟨l6_1, l6_2, l6_3⟩
    show SimE (g_loophole_Price_l6 n a0t a1c a2s a3cuts recl6 l6_1 l6_2 l6_3) _ _ _ _ _ _
    unfold g_loophole_Price_l6
    refine sim_run Try.fm ⟨[3, 4, 5, 6, 10, 11, 31, 32, 33], [4, 5, 6], [], []⟩ ⟨[(3, .p (.sl 1 (List.map ci a3cuts))), (4, .ptr 4 0), (5, .ptr 5 0), (6, .ptr 6 0), (10, I l6_1), (11, I l6_2), (31, I (wi ((lenI (List.map ci a3cuts)) + 1))), (32, I l6_3), (33, B (ltI l6_3 (wi ((lenI (List.map ci a3cuts)) + 1))))], [(4, .box 34 (bxc (GTariff.cs a0t))), (5, .box 38 (bxc (GCalendar.cs a1c))), (6, .box 24 (bxc (GSession.cs a2s)))]⟩ krf ?_
    refine sim_seq ?_
    refine sim_cond (ltI l6_3 (wi ((lenI (List.map ci a3cuts)) + 1))) krf ?_ ?_
    ·refine sim_skip ?_
     refine sq_nk ⟨[3, 4, 5, 6, 10, 11, 31, 32], [4, 5, 6], [], []⟩ ⟨[(3, .p (.sl 1 (List.map ci a3cuts))), (4, .ptr 4 0), (5, .ptr 5 0), (6, .ptr 6 0), (10, I l6_1), (11, I l6_2), (31, I (wi ((lenI (List.map ci a3cuts)) + 1))), (32, I l6_3)], [(4, .box 34 (bxc (GTariff.cs a0t))), (5, .box 38 (bxc (GCalendar.cs a1c))), (6, .box 24 (bxc (GSession.cs a2s)))]⟩ krf ?_
     refine sim_seq ?_
     refine sim_block ?_
     refine sim_run Try.fm ⟨[3, 4, 5, 6, 10, 11, 12, 31, 32], [4, 5, 6], [], []⟩ ⟨[(3, .p (.sl 1 (List.map ci a3cuts))), (4, .ptr 4 0), (5, .ptr 5 0), (6, .ptr 6 0), (10, I l6_1), (11, I l6_2), (12, I l6_3), (31, I (wi ((lenI (List.map ci a3cuts)) + 1))), (32, I l6_3)], [(4, .box 34 (bxc (GTariff.cs a0t))), (5, .box 38 (bxc (GCalendar.cs a1c))), (6, .box 24 (bxc (GSession.cs a2s)))]⟩ krf ?_
     refine sim_run Try.fm ⟨[3, 4, 5, 6, 10, 11, 12, 13, 31, 32], [4, 5, 6], [], []⟩ ⟨[(3, .p (.sl 1 (List.map ci a3cuts))), (4, .ptr 4 0), (5, .ptr 5 0), (6, .ptr 6 0), (10, I l6_1), (11, I l6_2), (12, I l6_3), (13, I a2s.To), (31, I (wi ((lenI (List.map ci a3cuts)) + 1))), (32, I l6_3)], [(4, .box 34 (bxc (GTariff.cs a0t))), (5, .box 38 (bxc (GCalendar.cs a1c))), (6, .box 24 (bxc (GSession.cs a2s)))]⟩ krf ?_
     refine sim_bind (fun j7 => ⟨[(3, .p (.sl 1 (List.map ci a3cuts))), (4, .ptr 4 0), (5, .ptr 5 0), (6, .ptr 6 0), (10, I l6_1), (11, I l6_2), (13, I j7), (31, I (wi ((lenI (List.map ci a3cuts)) + 1))), (32, I l6_3)], [(4, .box 34 (bxc (GTariff.cs a0t))), (5, .box 38 (bxc (GCalendar.cs a1c))), (6, .box 24 (bxc (GSession.cs a2s)))]⟩ : Int → St) ?_ ?_
     ·refine sim_run Try.fm ⟨[3, 4, 5, 6, 10, 11, 12, 13, 31, 32, 40], [4, 5, 6], [], []⟩ ⟨[(3, .p (.sl 1 (List.map ci a3cuts))), (4, .ptr 4 0), (5, .ptr 5 0), (6, .ptr 6 0), (10, I l6_1), (11, I l6_2), (12, I l6_3), (13, I a2s.To), (31, I (wi ((lenI (List.map ci a3cuts)) + 1))), (32, I l6_3), (40, B (ltI l6_3 (lenI (List.map ci a3cuts))))], [(4, .box 34 (bxc (GTariff.cs a0t))), (5, .box 38 (bxc (GCalendar.cs a1c))), (6, .box 24 (bxc (GSession.cs a2s)))]⟩ krf ?_
      refine sim_cond (ltI l6_3 (lenI (List.map ci a3cuts))) krf ?_ ?_
      ·refine sim_reg ?_
       refine xs_run 2 krf ?_
       refine xs_get krf krf (aop_idx (e := 3) (S := 1) (enc := ci) (l := a3cuts) (k := .i64) (n := l6_3) (sv := .p (.sl 1 (List.map ci a3cuts))) rfl krf krf krf krf krf) (fun x8 => ?_)
       refine xs_run 2 krf ?_
       refine xs_end ?_
       exact nq_n x8 ⟨[3, 4, 5, 6, 10, 11, 13, 31, 32], [4, 5, 6], [], []⟩ krf
      ·refine sim_skip ?_
       exact nq_n a2s.To ⟨[3, 4, 5, 6, 10, 11, 13, 31, 32], [4, 5, 6], [], []⟩ krf
     ·rintro j7
      refine sim_seq ?_
      refine sim_drw Try.fm rfl ?_
      refine xs_run 5 krf ?_
      refine xs_call [] krf (g_loophole_part_ok n a2s l6_2 j7) krf krf (fun _ => by kernel_rfl) (fun r9 => ?_)
      refine xs_call [] krf (g_bill_Bill_ok n a0t a1c r9) krf krf (fun _ => by kernel_rfl) (fun r10 => ?_)
      refine xs_run 6 krf ?_
      refine xs_endD krf ?_
      refine sq_nk ⟨[3, 4, 5, 6, 10, 13, 14, 15, 31, 32], [4, 5, 6, 14], [], []⟩ ⟨[(3, .p (.sl 1 (List.map ci a3cuts))), (4, .ptr 4 0), (5, .ptr 5 0), (6, .ptr 6 0), (10, I l6_1), (13, I j7), (14, .ptr 14 0), (15, I r10.2), (31, I (wi ((lenI (List.map ci a3cuts)) + 1))), (32, I l6_3)], [(4, .box 34 (bxc (GTariff.cs a0t))), (5, .box 38 (bxc (GCalendar.cs a1c))), (6, .box 24 (bxc (GSession.cs a2s))), (14, .box 62 (bxc (GBill.cs r10.1)))]⟩ krf ?_
      refine sim_seq ?_
      refine sim_run Try.fm ⟨[3, 4, 5, 6, 10, 13, 14, 15, 31, 32, 56], [4, 5, 6, 14], [], []⟩ ⟨[(3, .p (.sl 1 (List.map ci a3cuts))), (4, .ptr 4 0), (5, .ptr 5 0), (6, .ptr 6 0), (10, I l6_1), (13, I j7), (14, .ptr 14 0), (15, I r10.2), (31, I (wi ((lenI (List.map ci a3cuts)) + 1))), (32, I l6_3), (56, B (!eqI r10.2 0))], [(4, .box 34 (bxc (GTariff.cs a0t))), (5, .box 38 (bxc (GCalendar.cs a1c))), (6, .box 24 (bxc (GSession.cs a2s))), (14, .box 62 (bxc (GBill.cs r10.1)))]⟩ krf ?_
      refine sim_cond (!eqI r10.2 0) krf ?_ ?_
      ·refine sim_run Try.fm ⟨[8, 9], [], [], []⟩ ⟨[(8, I 0), (9, I r10.2)], []⟩ krf ?_
       refine sim_ret ?_
       refine sq_r ?_
       refine bq_r ?_
       refine sq_r ?_
       refine kq_r ?_
       refine bq_r ?_
       refine kq_r ?_
       exact rq_ret (.id) krf krf krf
      ·refine sim_skip ?_
       refine sq_nk ⟨[3, 4, 5, 6, 10, 13, 14, 31, 32], [4, 5, 6, 14], [], []⟩ ⟨[(3, .p (.sl 1 (List.map ci a3cuts))), (4, .ptr 4 0), (5, .ptr 5 0), (6, .ptr 6 0), (10, I l6_1), (13, I j7), (14, .ptr 14 0), (31, I (wi ((lenI (List.map ci a3cuts)) + 1))), (32, I l6_3)], [(4, .box 34 (bxc (GTariff.cs a0t))), (5, .box 38 (bxc (GCalendar.cs a1c))), (6, .box 24 (bxc (GSession.cs a2s))), (14, .box 62 (bxc (GBill.cs r10.1)))]⟩ krf ?_
       refine sim_last Try.fm krf ?_
       refine bq_n ?_
       refine sq_nk ⟨[3, 4, 5, 6, 10, 11, 31, 32], [4, 5, 6], [], []⟩ ⟨[(3, .p (.sl 1 (List.map ci a3cuts))), (4, .ptr 4 0), (5, .ptr 5 0), (6, .ptr 6 0), (10, I (wi (l6_1 + r10.1.Total))), (11, I j7), (31, I (wi ((lenI (List.map ci a3cuts)) + 1))), (32, I l6_3)], [(4, .box 34 (bxc (GTariff.cs a0t))), (5, .box 38 (bxc (GCalendar.cs a1c))), (6, .box 24 (bxc (GSession.cs a2s)))]⟩ krf ?_
       refine sim_last Try.fm krf ?_
       exact kq_n (wi (l6_1 + r10.1.Total), j7, wi (l6_3 + 1)) ⟨[3, 4, 5, 6, 10, 11, 31, 32], [4, 5, 6], [], []⟩ krf
    ·refine sim_exit ?_
     refine sq_x ?_
     refine kq_x ?_
     refine bq_hit ?_
     exact kq_n (k := fun j5 => g_loophole_Price_j5 j5) l6_1 ⟨[10], [], [], []⟩ krf
def g_loophole_Find_l9 (n : Nat) (a0t : GTariff) (a1c : GCalendar) (a2s : GSession) (r6 : Int × Int) (l8_1 : Int) (recl8 : (Int × (List (GLoopholeStretch × Int))) → Option ((List Int) × Bool × Int)) (recl9 : (Int × (List (GLoopholeStretch × Int))) → Option ((List Int) × Bool × Int)) (l9_1 : Int) (l9_2 : List (GLoopholeStretch × Int)) : Option ((List Int) × Bool × Int) :=
 cond (ltI l9_1 a2s.To)
  ((cond (!(mhas me_map_loophole_stretch_int (⟨a2s.From, l8_1⟩ : GLoopholeStretch) l9_2))
   ((g_loophole_part n a2s a2s.From l8_1).bind fun r11 =>
   (g_bill_Bill n a0t a1c r11).bind fun r12 =>
   cond (!eqI r12.2 0)
    (some (1000000001, mset me_map_loophole_stretch_int (⟨a2s.From, l8_1⟩ : GLoopholeStretch) 1000000001 l9_2))
    (some (r12.1.Total, mset me_map_loophole_stretch_int (⟨a2s.From, l8_1⟩ : GLoopholeStretch) r12.1.Total l9_2)))
   (some (mgetD me_map_loophole_stretch_int (⟨a2s.From, l8_1⟩ : GLoopholeStretch) 0 l9_2, l9_2))).bind fun (j10_1, j10_2) =>
  (cond (!(mhas me_map_loophole_stretch_int (⟨l8_1, l9_1⟩ : GLoopholeStretch) j10_2))
   ((g_loophole_part n a2s l8_1 l9_1).bind fun r14 =>
   (g_bill_Bill n a0t a1c r14).bind fun r15 =>
   cond (!eqI r15.2 0)
    (some (1000000001, mset me_map_loophole_stretch_int (⟨l8_1, l9_1⟩ : GLoopholeStretch) 1000000001 j10_2))
    (some (r15.1.Total, mset me_map_loophole_stretch_int (⟨l8_1, l9_1⟩ : GLoopholeStretch) r15.1.Total j10_2)))
   (some (mgetD me_map_loophole_stretch_int (⟨l8_1, l9_1⟩ : GLoopholeStretch) 0 j10_2, j10_2))).bind fun (j13_1, j13_2) =>
  (cond (!(mhas me_map_loophole_stretch_int (⟨l9_1, a2s.To⟩ : GLoopholeStretch) j13_2))
   ((g_loophole_part n a2s l9_1 a2s.To).bind fun r17 =>
   (g_bill_Bill n a0t a1c r17).bind fun r18 =>
   cond (!eqI r18.2 0)
    (some (1000000001, mset me_map_loophole_stretch_int (⟨l9_1, a2s.To⟩ : GLoopholeStretch) 1000000001 j13_2))
    (some (r18.1.Total, mset me_map_loophole_stretch_int (⟨l9_1, a2s.To⟩ : GLoopholeStretch) r18.1.Total j13_2)))
   (some (mgetD me_map_loophole_stretch_int (⟨l9_1, a2s.To⟩ : GLoopholeStretch) 0 j13_2, j13_2))).bind fun (j16_1, j16_2) =>
  cond (ltI (wi ((wi (j10_1 + j13_1)) + j16_1)) r6.1)
   (some ([l8_1, l9_1], true, 0))
   (recl9 (wi (l9_1 + 1), j16_2)))
  (recl8 (wi (l8_1 + 1), l9_2))
def g_loophole_Find_l8 (n : Nat) (a0t : GTariff) (a1c : GCalendar) (a2s : GSession) (r6 : Int × Int) (recl8 : (Int × (List (GLoopholeStretch × Int))) → Option ((List Int) × Bool × Int)) (l8_1 : Int) (l8_2 : List (GLoopholeStretch × Int)) : Option ((List Int) × Bool × Int) :=
 cond (ltI l8_1 a2s.To)
  (loopN (fun recl9 (l9_1, l9_2) => g_loophole_Find_l9 n a0t a1c a2s r6 l8_1 recl8 recl9 l9_1 l9_2) n (wi (l8_1 + 1), l8_2))
  (some ([], false, 0))
def g_loophole_Find_j7 (n : Nat) (a0t : GTariff) (a1c : GCalendar) (a2s : GSession) (a3most : Int) (r6 : Int × Int) (j7 : List (GLoopholeStretch × Int)) : Option ((List Int) × Bool × Int) :=
 cond (ltI a3most 2)
  (some ([], false, 0))
  (loopN (fun recl8 (l8_1, l8_2) => g_loophole_Find_l8 n a0t a1c a2s r6 recl8 l8_1 l8_2) n (wi (a2s.From + 1), j7))
def g_loophole_Find_l19 (n : Nat) (a0t : GTariff) (a1c : GCalendar) (a2s : GSession) (a3most : Int) (r6 : Int × Int) (recl19 : (Int × (List (GLoopholeStretch × Int))) → Option ((List Int) × Bool × Int)) (l19_1 : Int) (l19_2 : List (GLoopholeStretch × Int)) : Option ((List Int) × Bool × Int) :=
 cond (ltI l19_1 a2s.To)
  ((cond (!(mhas me_map_loophole_stretch_int (⟨a2s.From, l19_1⟩ : GLoopholeStretch) l19_2))
   ((g_loophole_part n a2s a2s.From l19_1).bind fun r21 =>
   (g_bill_Bill n a0t a1c r21).bind fun r22 =>
   cond (!eqI r22.2 0)
    (some (1000000001, mset me_map_loophole_stretch_int (⟨a2s.From, l19_1⟩ : GLoopholeStretch) 1000000001 l19_2))
    (some (r22.1.Total, mset me_map_loophole_stretch_int (⟨a2s.From, l19_1⟩ : GLoopholeStretch) r22.1.Total l19_2)))
   (some (mgetD me_map_loophole_stretch_int (⟨a2s.From, l19_1⟩ : GLoopholeStretch) 0 l19_2, l19_2))).bind fun (j20_1, j20_2) =>
  (cond (!(mhas me_map_loophole_stretch_int (⟨l19_1, a2s.To⟩ : GLoopholeStretch) j20_2))
   ((g_loophole_part n a2s l19_1 a2s.To).bind fun r24 =>
   (g_bill_Bill n a0t a1c r24).bind fun r25 =>
   cond (!eqI r25.2 0)
    (some (1000000001, mset me_map_loophole_stretch_int (⟨l19_1, a2s.To⟩ : GLoopholeStretch) 1000000001 j20_2))
    (some (r25.1.Total, mset me_map_loophole_stretch_int (⟨l19_1, a2s.To⟩ : GLoopholeStretch) r25.1.Total j20_2)))
   (some (mgetD me_map_loophole_stretch_int (⟨l19_1, a2s.To⟩ : GLoopholeStretch) 0 j20_2, j20_2))).bind fun (j23_1, j23_2) =>
  cond (ltI (wi (j20_1 + j23_1)) r6.1)
   (some ([l19_1], true, 0))
   (recl19 (wi (l19_1 + 1), j23_2)))
  (g_loophole_Find_j7 n a0t a1c a2s a3most r6 l19_2)
def g_loophole_Find (n : Nat) (a0t : GTariff) (a1c : GCalendar) (a2s : GSession) (a3most : Int) : Option ((List Int) × Bool × Int) :=
 ((g_loophole_valid n a0t a1c a2s).bind fun r2 =>
 cond (!r2)
  (some true)
  (cond (ltI 60 (wi (a2s.To - a2s.From)))
   (some true)
   (cond (ltI a3most 1)
    (some true)
    (some (ltI 2 a3most))))).bind fun j1 =>
 cond j1
  (some ([], false, 1))
  ((g_loophole_Price n a0t a1c a2s []).bind fun r6 =>
  cond (!eqI r6.2 0)
   (some ([], false, r6.2))
   (loopN (fun recl19 (l19_1, l19_2) => g_loophole_Find_l19 n a0t a1c a2s a3most r6 recl19 l19_1 l19_2) n (wi (a2s.From + 1), [])))
theorem g_loophole_Find_ok (n : Nat) (a0t : GTariff) (a1c : GCalendar) (a2s : GSession) (a3most : Int) : ∀ r, g_loophole_Find n a0t a1c a2s a3most = some r → PCall Try.prog 15 [ag (GTariff.cs a0t), ag (GCalendar.cs a1c), ag (GSession.cs a2s), I a3most] (.ret (.tup [.p (.sl 1 (List.map ci r.1)), B r.2.1, I r.2.2])) := by
 refine pcall_sim (X := fun r : (List Int) × Bool × Int => AEnd.ret (.tup [.p (.sl 1 (List.map ci r.1)), B r.2.1, I r.2.2])) Try.func15 rfl Try.ntmps15 rfl ?_
 unfold g_loophole_Find
 refine sim_run Try.fm ⟨[3, 4, 5, 6], [4, 5, 6], [], []⟩ ⟨[(3, I a3most), (4, .ptr 4 0), (5, .ptr 5 0), (6, .ptr 6 0)], [(4, .box 34 (bxc (GTariff.cs a0t))), (5, .box 38 (bxc (GCalendar.cs a1c))), (6, .box 24 (bxc (GSession.cs a2s)))]⟩ krf ?_
 refine sim_scope ?_
 refine sim_seq ?_
 refine sim_bind (fun j1 => ⟨[(3, I a3most), (4, .ptr 4 0), (5, .ptr 5 0), (6, .ptr 6 0), (38, B j1)], [(4, .box 34 (bxc (GTariff.cs a0t))), (5, .box 38 (bxc (GCalendar.cs a1c))), (6, .box 24 (bxc (GSession.cs a2s)))]⟩ : Bool → St) ?_ ?_
 ·refine sim_reg ?_
  refine xs_run 3 krf ?_
  refine xs_call [] krf (g_loophole_valid_ok n a0t a1c a2s) krf krf (fun _ => by kernel_rfl) (fun r2 => ?_)
  refine xs_run 2 krf ?_
  refine xs_split (!r2) (fun h3 => ?_) (fun h3 => ?_)
  ·refine xs_no (want_ft krf h3) krf ?_
   refine xs_run 14 krf ?_
   refine xs_end ?_
   exact nq_n true ⟨[3, 4, 5, 6, 38], [4, 5, 6], [], []⟩ krf
  ·refine xs_one (want_ff krf h3) krf ?_
   refine xs_run 7 krf ?_
   refine xs_split (ltI 60 (wi (a2s.To - a2s.From))) (fun h4 => ?_) (fun h4 => ?_)
   ·refine xs_no (want_ft krf h4) krf ?_
    refine xs_run 6 krf ?_
    refine xs_end ?_
    exact nq_n true ⟨[3, 4, 5, 6, 38], [4, 5, 6], [], []⟩ krf
   ·refine xs_one (want_ff krf h4) krf ?_
    refine xs_run 3 krf ?_
    refine xs_split (ltI a3most 1) (fun h5 => ?_) (fun h5 => ?_)
    ·refine xs_no (want_ft krf h5) krf ?_
     refine xs_run 2 krf ?_
     refine xs_end ?_
     exact nq_n true ⟨[3, 4, 5, 6, 38], [4, 5, 6], [], []⟩ krf
    ·refine xs_one (want_ff krf h5) krf ?_
     refine xs_run 2 krf ?_
     refine xs_end ?_
     exact nq_n (ltI 2 a3most) ⟨[3, 4, 5, 6, 38], [4, 5, 6], [], []⟩ krf
 ·rintro j1
  refine sim_cond j1 krf ?_ ?_
  ·refine sim_run Try.fm ⟨[8, 9, 10], [], [], []⟩ ⟨[(8, .p (.val (.slice none 0 0))), (9, B false), (10, I 1)], []⟩ krf ?_
   refine sim_ret ?_
   refine sq_r ?_
   exact rq_ret (.agg [.sl 1, .id, .id]) krf krf krf
  ·refine sim_skip ?_
   refine sq_nk ⟨[3, 4, 5, 6], [4, 5, 6], [], []⟩ ⟨[(3, I a3most), (4, .ptr 4 0), (5, .ptr 5 0), (6, .ptr 6 0)], [(4, .box 34 (bxc (GTariff.cs a0t))), (5, .box 38 (bxc (GCalendar.cs a1c))), (6, .box 24 (bxc (GSession.cs a2s)))]⟩ krf ?_
   refine sim_seq ?_
   refine sim_reg ?_
   refine xs_run 3 krf ?_
   refine xs_call [.id, .id, .id, .sl 1] krf (g_loophole_Price_ok n a0t a1c a2s []) krf krf (fun _ => by kernel_rfl) (fun r6 => ?_)
   refine xs_run 5 krf ?_
   refine xs_end ?_
   refine sq_nk ⟨[3, 4, 5, 6, 11, 12], [4, 5, 6], [], []⟩ ⟨[(3, I a3most), (4, .ptr 4 0), (5, .ptr 5 0), (6, .ptr 6 0), (11, I r6.1), (12, I r6.2)], [(4, .box 34 (bxc (GTariff.cs a0t))), (5, .box 38 (bxc (GCalendar.cs a1c))), (6, .box 24 (bxc (GSession.cs a2s)))]⟩ krf ?_
   refine sim_seq ?_
   refine sim_run Try.fm ⟨[3, 4, 5, 6, 11, 12, 47], [4, 5, 6], [], []⟩ ⟨[(3, I a3most), (4, .ptr 4 0), (5, .ptr 5 0), (6, .ptr 6 0), (11, I r6.1), (12, I r6.2), (47, B (!eqI r6.2 0))], [(4, .box 34 (bxc (GTariff.cs a0t))), (5, .box 38 (bxc (GCalendar.cs a1c))), (6, .box 24 (bxc (GSession.cs a2s)))]⟩ krf ?_
   refine sim_cond (!eqI r6.2 0) krf ?_ ?_
   ·refine sim_run Try.fm ⟨[8, 9, 10], [], [], []⟩ ⟨[(8, .p (.val (.slice none 0 0))), (9, B false), (10, I r6.2)], []⟩ krf ?_
    refine sim_ret ?_
    refine sq_r ?_
    exact rq_ret (.agg [.sl 1, .id, .id]) krf krf krf
   ·refine sim_skip ?_
    refine sq_nk ⟨[3, 4, 5, 6, 11], [4, 5, 6], [], []⟩ ⟨[(3, I a3most), (4, .ptr 4 0), (5, .ptr 5 0), (6, .ptr 6 0), (11, I r6.1)], [(4, .box 34 (bxc (GTariff.cs a0t))), (5, .box 38 (bxc (GCalendar.cs a1c))), (6, .box 24 (bxc (GSession.cs a2s)))]⟩ krf ?_
    refine sim_seq ?_
    refine sim_reg ?_
    refine xs_run 3 krf ?_
    refine xs_inline [] [.agg [S a0t.Name, .p (.sl 7 (List.map GArticle.cs a0t.Articles))], .agg [I a1c.Offset, .p (.sl 2 (List.map GChange.cs a1c.Changes)), .p (.sl 1 (List.map ci a1c.Holidays))], .agg [I a2s.From, I a2s.To, I a2s.End, .p (.sl 2 (List.map GSlice.cs a2s.Slices))]] [(3, 403), (4, 404), (5, 405), (7, 407), (8, 408)] [] [] krf Try.func24 rfl Try.ntmps24 rfl krf krf krf ?_
    refine sim_run Try.fm ⟨[3, 4, 5], [3, 4, 5], [], []⟩ ⟨[(3, .ptr 3 0), (4, .ptr 4 0), (5, .ptr 5 0)], [(3, .box 34 (bxc (GTariff.cs a0t))), (4, .box 38 (bxc (GCalendar.cs a1c))), (5, .box 24 (bxc (GSession.cs a2s)))]⟩ krf ?_
    refine sim_seq ?_
    refine sim_reg ?_
    refine xs_u krf krf (aop_mk (d := 8) (rsv := none) rfl rfl krf) ?_
    refine xs_run 2 krf ?_
    refine xs_end ?_
    refine sq_nk ⟨[3, 4, 5, 7], [3, 4, 5, 7, 8], [], []⟩ ⟨[(3, .ptr 3 0), (4, .ptr 4 0), (5, .ptr 5 0), (7, .ptr 7 0)], [(3, .box 34 (bxc (GTariff.cs a0t))), (4, .box 38 (bxc (GCalendar.cs a1c))), (5, .box 24 (bxc (GSession.cs a2s))), (7, .box 66 [.mv 8]), (8, .mp (mpL mk_map_loophole_stretch_int mv_map_loophole_stretch_int []))]⟩ krf ?_
    refine sim_run Try.fm ⟨[6], [3, 4, 5, 7, 8], [], []⟩ ⟨[(6, .fn (.func 29) [] [.ptr 7 0, .ptr 3 0, .ptr 4 0, .ptr 5 0])], [(3, .box 34 (bxc (GTariff.cs a0t))), (4, .box 38 (bxc (GCalendar.cs a1c))), (5, .box 24 (bxc (GSession.cs a2s))), (7, .box 66 [.mv 8]), (8, .mp (mpL mk_map_loophole_stretch_int mv_map_loophole_stretch_int []))]⟩ krf ?_
    refine sim_ret ?_
    refine iq_ret .id [3, 4, 5, 7, 8] [] (.fn (.func 29) [] [.ptr 7 0, .ptr 3 0, .ptr 4 0, .ptr 5 0]) krf krf ?_
    refine kr0 ?_
    refine xs_run 1 krf ?_
    refine xs_end ?_
    refine sq_nk ⟨[3, 6, 11, 13], [6, 403, 404, 405, 407, 408], [], []⟩ ⟨[(3, I a3most), (6, .ptr 6 0), (11, I r6.1), (13, .fn (.func 29) [] [.ptr 407 0, .ptr 403 0, .ptr 404 0, .ptr 405 0])], [(6, .box 24 (bxc (GSession.cs a2s))), (403, .box 34 (bxc (GTariff.cs a0t))), (404, .box 38 (bxc (GCalendar.cs a1c))), (405, .box 24 (bxc (GSession.cs a2s))), (407, .box 66 [.mv 408]), (408, .mp (mpL mk_map_loophole_stretch_int mv_map_loophole_stretch_int []))]⟩ krf ?_
    refine sim_cps (fun j7 => ⟨[(3, I a3most), (6, .ptr 6 0), (11, I r6.1), (13, .fn (.func 29) [] [.ptr 407 0, .ptr 403 0, .ptr 404 0, .ptr 405 0])], [(6, .box 24 (bxc (GSession.cs a2s))), (403, .box 34 (bxc (GTariff.cs a0t))), (404, .box 38 (bxc (GCalendar.cs a1c))), (405, .box 24 (bxc (GSession.cs a2s))), (407, .box 66 [.mv 408]), (408, .mp (mpL mk_map_loophole_stretch_int mv_map_loophole_stretch_int j7))]⟩ : (List (GLoopholeStretch × Int)) → St) (fun j7 => g_loophole_Find_j7 n a0t a1c a2s a3most r6 j7) ?_ ?_
    ·rintro j7
     show SimE (g_loophole_Find_j7 n a0t a1c a2s a3most r6 j7) _ _ _ _ _ _
     unfold g_loophole_Find_j7
     refine sim_seq ?_
     refine sim_run Try.fm ⟨[6, 11, 13, 78], [6, 403, 404, 405, 407, 408], [], []⟩ ⟨[(6, .ptr 6 0), (11, I r6.1), (13, .fn (.func 29) [] [.ptr 407 0, .ptr 403 0, .ptr 404 0, .ptr 405 0]), (78, B (ltI a3most 2))], [(6, .box 24 (bxc (GSession.cs a2s))), (403, .box 34 (bxc (GTariff.cs a0t))), (404, .box 38 (bxc (GCalendar.cs a1c))), (405, .box 24 (bxc (GSession.cs a2s))), (407, .box 66 [.mv 408]), (408, .mp (mpL mk_map_loophole_stretch_int mv_map_loophole_stretch_int j7))]⟩ krf ?_
     refine sim_cond (ltI a3most 2) krf ?_ ?_
     ·refine sim_run Try.fm ⟨[8, 9, 10], [], [], []⟩ ⟨[(8, .p (.val (.slice none 0 0))), (9, B false), (10, I 0)], []⟩ krf ?_
      refine sim_ret ?_
      refine sq_r ?_
      exact rq_ret (.agg [.sl 1, .id, .id]) krf krf krf
     ·refine sim_skip ?_
      refine sq_nk ⟨[6, 11, 13], [6, 403, 404, 405, 407, 408], [], []⟩ ⟨[(6, .ptr 6 0), (11, I r6.1), (13, .fn (.func 29) [] [.ptr 407 0, .ptr 403 0, .ptr 404 0, .ptr 405 0])], [(6, .box 24 (bxc (GSession.cs a2s))), (403, .box 34 (bxc (GTariff.cs a0t))), (404, .box 38 (bxc (GCalendar.cs a1c))), (405, .box 24 (bxc (GSession.cs a2s))), (407, .box 66 [.mv 408]), (408, .mp (mpL mk_map_loophole_stretch_int mv_map_loophole_stretch_int j7))]⟩ krf ?_
      refine sim_run Try.fm ⟨[6, 11, 13, 15], [6, 403, 404, 405, 407, 408], [], []⟩ ⟨[(6, .ptr 6 0), (11, I r6.1), (13, .fn (.func 29) [] [.ptr 407 0, .ptr 403 0, .ptr 404 0, .ptr 405 0]), (15, .p (.val (.slice none 0 0)))], [(6, .box 24 (bxc (GSession.cs a2s))), (403, .box 34 (bxc (GTariff.cs a0t))), (404, .box 38 (bxc (GCalendar.cs a1c))), (405, .box 24 (bxc (GSession.cs a2s))), (407, .box 66 [.mv 408]), (408, .mp (mpL mk_map_loophole_stretch_int mv_map_loophole_stretch_int j7))]⟩ krf ?_
      refine sim_seq ?_
      refine sim_label ?_
      refine sq_nk ⟨[6, 11, 13, 15], [6, 403, 404, 405, 407, 408], [], []⟩ ⟨[(6, .ptr 6 0), (11, I r6.1), (13, .fn (.func 29) [] [.ptr 407 0, .ptr 403 0, .ptr 404 0, .ptr 405 0]), (15, .p (.val (.slice none 0 0)))], [(6, .box 24 (bxc (GSession.cs a2s))), (403, .box 34 (bxc (GTariff.cs a0t))), (404, .box 38 (bxc (GCalendar.cs a1c))), (405, .box 24 (bxc (GSession.cs a2s))), (407, .box 66 [.mv 408]), (408, .mp (mpL mk_map_loophole_stretch_int mv_map_loophole_stretch_int j7))]⟩ krf ?_
      refine sim_seq ?_
      refine sim_run Try.fm ⟨[6, 11, 13, 15, 16], [6, 403, 404, 405, 407, 408], [], []⟩ ⟨[(6, .ptr 6 0), (11, I r6.1), (13, .fn (.func 29) [] [.ptr 407 0, .ptr 403 0, .ptr 404 0, .ptr 405 0]), (15, .p (.val (.slice none 0 0))), (16, I (wi (a2s.From + 1)))], [(6, .box 24 (bxc (GSession.cs a2s))), (403, .box 34 (bxc (GTariff.cs a0t))), (404, .box 38 (bxc (GCalendar.cs a1c))), (405, .box 24 (bxc (GSession.cs a2s))), (407, .box 66 [.mv 408]), (408, .mp (mpL mk_map_loophole_stretch_int mv_map_loophole_stretch_int j7))]⟩ krf ?_
      refine sim_block ?_
      refine sim_loop (fun (l8_1, l8_2) => ⟨[(6, .ptr 6 0), (11, I r6.1), (13, .fn (.func 29) [] [.ptr 407 0, .ptr 403 0, .ptr 404 0, .ptr 405 0]), (15, .p (.val (.slice none 0 0))), (16, I l8_1)], [(6, .box 24 (bxc (GSession.cs a2s))), (403, .box 34 (bxc (GTariff.cs a0t))), (404, .box 38 (bxc (GCalendar.cs a1c))), (405, .box 24 (bxc (GSession.cs a2s))), (407, .box 66 [.mv 408]), (408, .mp (mpL mk_map_loophole_stretch_int mv_map_loophole_stretch_int l8_2))]⟩ : (Int × (List (GLoopholeStretch × Int))) → St) (weak_shr (K := ⟨[6, 11, 13, 15, 16], [6, 403, 404, 405, 407, 408], [], []⟩) krf) ?_
      rintro recl8 ⟨l8_1, l8_2⟩
      show SimE (g_loophole_Find_l8 n a0t a1c a2s r6 recl8 l8_1 l8_2) _ _ _ _ _ _
      unfold g_loophole_Find_l8
      refine sim_seq ?_
      refine sim_run Try.fm ⟨[6, 11, 13, 15, 16, 85], [6, 403, 404, 405, 407, 408], [], []⟩ ⟨[(6, .ptr 6 0), (11, I r6.1), (13, .fn (.func 29) [] [.ptr 407 0, .ptr 403 0, .ptr 404 0, .ptr 405 0]), (15, .p (.val (.slice none 0 0))), (16, I l8_1), (85, B (ltI l8_1 a2s.To))], [(6, .box 24 (bxc (GSession.cs a2s))), (403, .box 34 (bxc (GTariff.cs a0t))), (404, .box 38 (bxc (GCalendar.cs a1c))), (405, .box 24 (bxc (GSession.cs a2s))), (407, .box 66 [.mv 408]), (408, .mp (mpL mk_map_loophole_stretch_int mv_map_loophole_stretch_int l8_2))]⟩ krf ?_
      refine sim_cond (ltI l8_1 a2s.To) krf ?_ ?_
      ·refine sim_skip ?_
       refine sq_nk ⟨[6, 11, 13, 15, 16], [6, 403, 404, 405, 407, 408], [], []⟩ ⟨[(6, .ptr 6 0), (11, I r6.1), (13, .fn (.func 29) [] [.ptr 407 0, .ptr 403 0, .ptr 404 0, .ptr 405 0]), (15, .p (.val (.slice none 0 0))), (16, I l8_1)], [(6, .box 24 (bxc (GSession.cs a2s))), (403, .box 34 (bxc (GTariff.cs a0t))), (404, .box 38 (bxc (GCalendar.cs a1c))), (405, .box 24 (bxc (GSession.cs a2s))), (407, .box 66 [.mv 408]), (408, .mp (mpL mk_map_loophole_stretch_int mv_map_loophole_stretch_int l8_2))]⟩ krf ?_
       refine sim_seq ?_
       refine sim_block ?_
       refine sim_run Try.fm ⟨[6, 11, 13, 15, 16, 17], [6, 403, 404, 405, 407, 408], [], []⟩ ⟨[(6, .ptr 6 0), (11, I r6.1), (13, .fn (.func 29) [] [.ptr 407 0, .ptr 403 0, .ptr 404 0, .ptr 405 0]), (15, .p (.val (.slice none 0 0))), (16, I l8_1), (17, I (wi (l8_1 + 1)))], [(6, .box 24 (bxc (GSession.cs a2s))), (403, .box 34 (bxc (GTariff.cs a0t))), (404, .box 38 (bxc (GCalendar.cs a1c))), (405, .box 24 (bxc (GSession.cs a2s))), (407, .box 66 [.mv 408]), (408, .mp (mpL mk_map_loophole_stretch_int mv_map_loophole_stretch_int l8_2))]⟩ krf ?_
       refine sim_block ?_
       refine sim_loop (fun (l9_1, l9_2) => ⟨[(6, .ptr 6 0), (11, I r6.1), (13, .fn (.func 29) [] [.ptr 407 0, .ptr 403 0, .ptr 404 0, .ptr 405 0]), (15, .p (.val (.slice none 0 0))), (16, I l8_1), (17, I l9_1)], [(6, .box 24 (bxc (GSession.cs a2s))), (403, .box 34 (bxc (GTariff.cs a0t))), (404, .box 38 (bxc (GCalendar.cs a1c))), (405, .box 24 (bxc (GSession.cs a2s))), (407, .box 66 [.mv 408]), (408, .mp (mpL mk_map_loophole_stretch_int mv_map_loophole_stretch_int l9_2))]⟩ : (Int × (List (GLoopholeStretch × Int))) → St) (weak_shr (K := ⟨[6, 11, 13, 15, 16, 17], [6, 403, 404, 405, 407, 408], [], []⟩) krf) ?_
       rintro recl9 ⟨l9_1, l9_2⟩
       show SimE (g_loophole_Find_l9 n a0t a1c a2s r6 l8_1 recl8 recl9 l9_1 l9_2) _ _ _ _ _ _
       unfold g_loophole_Find_l9
       refine sim_seq ?_
       refine sim_run Try.fm ⟨[6, 11, 13, 15, 16, 17, 93], [6, 403, 404, 405, 407, 408], [], []⟩ ⟨[(6, .ptr 6 0), (11, I r6.1), (13, .fn (.func 29) [] [.ptr 407 0, .ptr 403 0, .ptr 404 0, .ptr 405 0]), (15, .p (.val (.slice none 0 0))), (16, I l8_1), (17, I l9_1), (93, B (ltI l9_1 a2s.To))], [(6, .box 24 (bxc (GSession.cs a2s))), (403, .box 34 (bxc (GTariff.cs a0t))), (404, .box 38 (bxc (GCalendar.cs a1c))), (405, .box 24 (bxc (GSession.cs a2s))), (407, .box 66 [.mv 408]), (408, .mp (mpL mk_map_loophole_stretch_int mv_map_loophole_stretch_int l9_2))]⟩ krf ?_
       refine sim_cond (ltI l9_1 a2s.To) krf ?_ ?_
       ·refine sim_skip ?_
        refine sq_nk ⟨[6, 11, 13, 15, 16, 17], [6, 403, 404, 405, 407, 408], [], []⟩ ⟨[(6, .ptr 6 0), (11, I r6.1), (13, .fn (.func 29) [] [.ptr 407 0, .ptr 403 0, .ptr 404 0, .ptr 405 0]), (15, .p (.val (.slice none 0 0))), (16, I l8_1), (17, I l9_1)], [(6, .box 24 (bxc (GSession.cs a2s))), (403, .box 34 (bxc (GTariff.cs a0t))), (404, .box 38 (bxc (GCalendar.cs a1c))), (405, .box 24 (bxc (GSession.cs a2s))), (407, .box 66 [.mv 408]), (408, .mp (mpL mk_map_loophole_stretch_int mv_map_loophole_stretch_int l9_2))]⟩ krf ?_
        refine sim_seq ?_
        refine sim_block ?_
        refine sim_seq ?_
        refine sim_hst [0, 1, 2, 3, 5, 6, 7, 10, 11, 12, 13, 16] [5, 6, 7, 10, 11, 12, 13, 16, 9] [(4, []), (8, [9]), (14, []), (15, []), (17, [])] Try.fm rfl krf krf ?_
        refine h_enter (f := 29) (args := [I a2s.From, I l8_1, .ptr 407 0, .ptr 403 0, .ptr 404 0, .ptr 405 0]) (dst := some 100) krf krf ?_
        refine sc_inline (hc := [(1403, .box 34 (bxc (GTariff.cs a0t))), (1404, .box 38 (bxc (GCalendar.cs a1c))), (1405, .box 24 (bxc (GSession.cs a2s))), (1407, .box 66 [.mv 1408]), (1408, .mp (mpL mk_map_loophole_stretch_int mv_map_loophole_stretch_int l9_2))]) (args' := [I a2s.From, I l8_1, .ptr 1407 0, .ptr 1403 0, .ptr 1404 0, .ptr 1405 0]) [(1403, 403), (1404, 404), (1405, 405), (1407, 407), (1408, 408)] [] [] Try.func29 rfl Try.ntmps29 rfl krf krf krf ?_
        refine sim_run Try.fm ⟨[0, 1, 2, 3, 4, 5], [1403, 1404, 1405, 1407, 1408], [], []⟩ ⟨[(0, I a2s.From), (1, I l8_1), (2, .ptr 1407 0), (3, .ptr 1403 0), (4, .ptr 1404 0), (5, .ptr 1405 0)], [(1403, .box 34 (bxc (GTariff.cs a0t))), (1404, .box 38 (bxc (GCalendar.cs a1c))), (1405, .box 24 (bxc (GSession.cs a2s))), (1407, .box 66 [.mv 1408]), (1408, .mp (mpL mk_map_loophole_stretch_int mv_map_loophole_stretch_int l9_2))]⟩ krf ?_
        refine sim_run Try.fm ⟨[0, 1, 2, 3, 4, 5, 9], [9, 1403, 1404, 1405, 1407, 1408], [], []⟩ ⟨[(0, I a2s.From), (1, I l8_1), (2, .ptr 1407 0), (3, .ptr 1403 0), (4, .ptr 1404 0), (5, .ptr 1405 0), (9, .ptr 9 0)], [(9, .box 68 [I a2s.From, I l8_1]), (1403, .box 34 (bxc (GTariff.cs a0t))), (1404, .box 38 (bxc (GCalendar.cs a1c))), (1405, .box 24 (bxc (GSession.cs a2s))), (1407, .box 66 [.mv 1408]), (1408, .mp (mpL mk_map_loophole_stretch_int mv_map_loophole_stretch_int l9_2))]⟩ krf ?_
        refine sim_seq ?_
        refine sim_reg ?_
        refine xs_run 2 krf ?_
        refine xs_u krf krf (aop_look (kt := 68) (e := 3) (ke := mk_map_loophole_stretch_int) (ve := mv_map_loophole_stretch_int) (eq := me_map_loophole_stretch_int) (b := 1408) (m := l9_2) (k := (⟨a2s.From, l8_1⟩ : GLoopholeStretch)) (z0 := 0) rfl krf krf krf krf krf (fun _ => by kernel_rfl) (fun _ _ => (eqV2_eq _ _ _ _ _).symm.trans krf) krf) ?_
        refine xs_run 5 krf ?_
        refine xs_end ?_
        refine sq_nk ⟨[0, 1, 2, 3, 4, 5, 9, 10, 11], [9, 1403, 1404, 1405, 1407, 1408], [], []⟩ ⟨[(0, I a2s.From), (1, I l8_1), (2, .ptr 1407 0), (3, .ptr 1403 0), (4, .ptr 1404 0), (5, .ptr 1405 0), (9, .ptr 9 0), (10, I (mgetD me_map_loophole_stretch_int (⟨a2s.From, l8_1⟩ : GLoopholeStretch) 0 l9_2)), (11, B (mhas me_map_loophole_stretch_int (⟨a2s.From, l8_1⟩ : GLoopholeStretch) l9_2))], [(9, .box 68 [I a2s.From, I l8_1]), (1403, .box 34 (bxc (GTariff.cs a0t))), (1404, .box 38 (bxc (GCalendar.cs a1c))), (1405, .box 24 (bxc (GSession.cs a2s))), (1407, .box 66 [.mv 1408]), (1408, .mp (mpL mk_map_loophole_stretch_int mv_map_loophole_stretch_int l9_2))]⟩ krf ?_
        refine sim_bind (fun (j10_1, j10_2) => ⟨[(10, I j10_1)], [(1403, .box 34 (bxc (GTariff.cs a0t))), (1404, .box 38 (bxc (GCalendar.cs a1c))), (1405, .box 24 (bxc (GSession.cs a2s))), (1407, .box 66 [.mv 1408]), (1408, .mp (mpL mk_map_loophole_stretch_int mv_map_loophole_stretch_int j10_2))]⟩ : (Int × (List (GLoopholeStretch × Int))) → St) ?_ ?_
        ·refine sim_run Try.fm ⟨[0, 1, 2, 3, 4, 5, 9, 10, 24], [9, 1403, 1404, 1405, 1407, 1408], [], []⟩ ⟨[(0, I a2s.From), (1, I l8_1), (2, .ptr 1407 0), (3, .ptr 1403 0), (4, .ptr 1404 0), (5, .ptr 1405 0), (9, .ptr 9 0), (10, I (mgetD me_map_loophole_stretch_int (⟨a2s.From, l8_1⟩ : GLoopholeStretch) 0 l9_2)), (24, B (!(mhas me_map_loophole_stretch_int (⟨a2s.From, l8_1⟩ : GLoopholeStretch) l9_2)))], [(9, .box 68 [I a2s.From, I l8_1]), (1403, .box 34 (bxc (GTariff.cs a0t))), (1404, .box 38 (bxc (GCalendar.cs a1c))), (1405, .box 24 (bxc (GSession.cs a2s))), (1407, .box 66 [.mv 1408]), (1408, .mp (mpL mk_map_loophole_stretch_int mv_map_loophole_stretch_int l9_2))]⟩ krf ?_
         refine sim_cond (!(mhas me_map_loophole_stretch_int (⟨a2s.From, l8_1⟩ : GLoopholeStretch) l9_2)) krf ?_ ?_
         ·refine sim_seq ?_
          refine sim_drw Try.fm rfl ?_
          refine xs_run 5 krf ?_
          refine xs_call [] krf (g_loophole_part_ok n a2s a2s.From l8_1) krf krf (fun _ => by kernel_rfl) (fun r11 => ?_)
          refine xs_call [] krf (g_bill_Bill_ok n a0t a1c r11) krf krf (fun _ => by kernel_rfl) (fun r12 => ?_)
          refine xs_run 6 krf ?_
          refine xs_endD krf ?_
          refine sq_nk ⟨[2, 9, 12, 13], [9, 12, 1403, 1404, 1405, 1407, 1408], [], []⟩ ⟨[(2, .ptr 1407 0), (9, .ptr 9 0), (12, .ptr 12 0), (13, I r12.2)], [(9, .box 68 [I a2s.From, I l8_1]), (12, .box 62 (bxc (GBill.cs r12.1))), (1403, .box 34 (bxc (GTariff.cs a0t))), (1404, .box 38 (bxc (GCalendar.cs a1c))), (1405, .box 24 (bxc (GSession.cs a2s))), (1407, .box 66 [.mv 1408]), (1408, .mp (mpL mk_map_loophole_stretch_int mv_map_loophole_stretch_int l9_2))]⟩ krf ?_
          refine sim_run Try.fm ⟨[2, 9, 10, 13], [9, 1403, 1404, 1405, 1407, 1408], [], []⟩ ⟨[(2, .ptr 1407 0), (9, .ptr 9 0), (10, I r12.1.Total), (13, I r12.2)], [(9, .box 68 [I a2s.From, I l8_1]), (1403, .box 34 (bxc (GTariff.cs a0t))), (1404, .box 38 (bxc (GCalendar.cs a1c))), (1405, .box 24 (bxc (GSession.cs a2s))), (1407, .box 66 [.mv 1408]), (1408, .mp (mpL mk_map_loophole_stretch_int mv_map_loophole_stretch_int l9_2))]⟩ krf ?_
          refine sim_seq ?_
          refine sim_run Try.fm ⟨[2, 9, 10, 38], [9, 1403, 1404, 1405, 1407, 1408], [], []⟩ ⟨[(2, .ptr 1407 0), (9, .ptr 9 0), (10, I r12.1.Total), (38, B (!eqI r12.2 0))], [(9, .box 68 [I a2s.From, I l8_1]), (1403, .box 34 (bxc (GTariff.cs a0t))), (1404, .box 38 (bxc (GCalendar.cs a1c))), (1405, .box 24 (bxc (GSession.cs a2s))), (1407, .box 66 [.mv 1408]), (1408, .mp (mpL mk_map_loophole_stretch_int mv_map_loophole_stretch_int l9_2))]⟩ krf ?_
          refine sim_cond (!eqI r12.2 0) krf ?_ ?_
          ·refine sim_last Try.fm krf ?_
           refine sq_nk ⟨[2, 9, 10], [9, 1403, 1404, 1405, 1407, 1408], [], []⟩ ⟨[(2, .ptr 1407 0), (9, .ptr 9 0), (10, I 1000000001)], [(9, .box 68 [I a2s.From, I l8_1]), (1403, .box 34 (bxc (GTariff.cs a0t))), (1404, .box 38 (bxc (GCalendar.cs a1c))), (1405, .box 24 (bxc (GSession.cs a2s))), (1407, .box 66 [.mv 1408]), (1408, .mp (mpL mk_map_loophole_stretch_int mv_map_loophole_stretch_int l9_2))]⟩ krf ?_
           refine sim_reg ?_
           refine xs_run 3 krf ?_
           refine xs_u krf krf (aop_mset (kt := 68) (e := 3) (ke := mk_map_loophole_stretch_int) (ve := mv_map_loophole_stretch_int) (eq := me_map_loophole_stretch_int) (b := 1408) (m := l9_2) (k := (⟨a2s.From, l8_1⟩ : GLoopholeStretch)) (v := 1000000001) rfl krf krf krf krf krf krf (fun _ => by kernel_rfl) (fun _ _ => (eqV2_eq _ _ _ _ _).symm.trans krf)) ?_
           refine xs_end ?_
           exact nq_n (1000000001, mset me_map_loophole_stretch_int (⟨a2s.From, l8_1⟩ : GLoopholeStretch) 1000000001 l9_2) ⟨[10], [1403, 1404, 1405, 1407, 1408], [], []⟩ krf
          ·refine sim_skip ?_
           refine sq_nk ⟨[2, 9, 10], [9, 1403, 1404, 1405, 1407, 1408], [], []⟩ ⟨[(2, .ptr 1407 0), (9, .ptr 9 0), (10, I r12.1.Total)], [(9, .box 68 [I a2s.From, I l8_1]), (1403, .box 34 (bxc (GTariff.cs a0t))), (1404, .box 38 (bxc (GCalendar.cs a1c))), (1405, .box 24 (bxc (GSession.cs a2s))), (1407, .box 66 [.mv 1408]), (1408, .mp (mpL mk_map_loophole_stretch_int mv_map_loophole_stretch_int l9_2))]⟩ krf ?_
           refine sim_reg ?_
           refine xs_run 3 krf ?_
           refine xs_u krf krf (aop_mset (kt := 68) (e := 3) (ke := mk_map_loophole_stretch_int) (ve := mv_map_loophole_stretch_int) (eq := me_map_loophole_stretch_int) (b := 1408) (m := l9_2) (k := (⟨a2s.From, l8_1⟩ : GLoopholeStretch)) (v := r12.1.Total) rfl krf krf krf krf krf krf (fun _ => by kernel_rfl) (fun _ _ => (eqV2_eq _ _ _ _ _).symm.trans krf)) ?_
           refine xs_end ?_
           exact nq_n (r12.1.Total, mset me_map_loophole_stretch_int (⟨a2s.From, l8_1⟩ : GLoopholeStretch) r12.1.Total l9_2) ⟨[10], [1403, 1404, 1405, 1407, 1408], [], []⟩ krf
         ·refine sim_skip ?_
          exact nq_n (mgetD me_map_loophole_stretch_int (⟨a2s.From, l8_1⟩ : GLoopholeStretch) 0 l9_2, l9_2) ⟨[10], [1403, 1404, 1405, 1407, 1408], [], []⟩ krf
        ·rintro ⟨j10_1, j10_2⟩
         refine sim_run Try.fm ⟨[8], [1403, 1404, 1405, 1407, 1408], [], []⟩ ⟨[(8, I j10_1)], [(1403, .box 34 (bxc (GTariff.cs a0t))), (1404, .box 38 (bxc (GCalendar.cs a1c))), (1405, .box 24 (bxc (GSession.cs a2s))), (1407, .box 66 [.mv 1408]), (1408, .mp (mpL mk_map_loophole_stretch_int mv_map_loophole_stretch_int j10_2))]⟩ krf ?_
         refine sim_ret ?_
         refine iq_ret .id [1403, 1404, 1405, 1407, 1408] [] (I j10_1) krf krf ?_
         refine kh [5, 6, 7, 10, 11, 12, 13, 16] krf (lates_cons (late_move krf) (lates_cons (late_move krf) (lates_cons (late_move krf) (lates_cons (late_move krf) (lates_cons (late_move krf) (lates_cons (late_read (.ptr 6 1) krf rfl) (lates_cons (late_read (I a2s.To) krf rfl) (lates_cons (late_move krf) (lates_nil))))))))) krf ?_
         refine h_enter (f := 29) (args := [I l8_1, I l9_1, .ptr 407 0, .ptr 403 0, .ptr 404 0, .ptr 405 0]) (dst := some 104) krf krf ?_
         refine sc_inline (hc := [(1403, .box 34 (bxc (GTariff.cs a0t))), (1404, .box 38 (bxc (GCalendar.cs a1c))), (1405, .box 24 (bxc (GSession.cs a2s))), (1407, .box 66 [.mv 1408]), (1408, .mp (mpL mk_map_loophole_stretch_int mv_map_loophole_stretch_int j10_2))]) (args' := [I l8_1, I l9_1, .ptr 1407 0, .ptr 1403 0, .ptr 1404 0, .ptr 1405 0]) [(1403, 403), (1404, 404), (1405, 405), (1407, 407), (1408, 408)] [] [] Try.func29 rfl Try.ntmps29 rfl krf krf krf ?_
         refine sim_run Try.fm ⟨[0, 1, 2, 3, 4, 5], [1403, 1404, 1405, 1407, 1408], [], []⟩ ⟨[(0, I l8_1), (1, I l9_1), (2, .ptr 1407 0), (3, .ptr 1403 0), (4, .ptr 1404 0), (5, .ptr 1405 0)], [(1403, .box 34 (bxc (GTariff.cs a0t))), (1404, .box 38 (bxc (GCalendar.cs a1c))), (1405, .box 24 (bxc (GSession.cs a2s))), (1407, .box 66 [.mv 1408]), (1408, .mp (mpL mk_map_loophole_stretch_int mv_map_loophole_stretch_int j10_2))]⟩ krf ?_
         refine sim_run Try.fm ⟨[0, 1, 2, 3, 4, 5, 9], [9, 1403, 1404, 1405, 1407, 1408], [], []⟩ ⟨[(0, I l8_1), (1, I l9_1), (2, .ptr 1407 0), (3, .ptr 1403 0), (4, .ptr 1404 0), (5, .ptr 1405 0), (9, .ptr 9 0)], [(9, .box 68 [I l8_1, I l9_1]), (1403, .box 34 (bxc (GTariff.cs a0t))), (1404, .box 38 (bxc (GCalendar.cs a1c))), (1405, .box 24 (bxc (GSession.cs a2s))), (1407, .box 66 [.mv 1408]), (1408, .mp (mpL mk_map_loophole_stretch_int mv_map_loophole_stretch_int j10_2))]⟩ krf ?_
         refine sim_seq ?_
         refine sim_reg ?_
         refine xs_run 2 krf ?_
         refine xs_u krf krf (aop_look (kt := 68) (e := 3) (ke := mk_map_loophole_stretch_int) (ve := mv_map_loophole_stretch_int) (eq := me_map_loophole_stretch_int) (b := 1408) (m := j10_2) (k := (⟨l8_1, l9_1⟩ : GLoopholeStretch)) (z0 := 0) rfl krf krf krf krf krf (fun _ => by kernel_rfl) (fun _ _ => (eqV2_eq _ _ _ _ _).symm.trans krf) krf) ?_
         refine xs_run 5 krf ?_
         refine xs_end ?_
         refine sq_nk ⟨[0, 1, 2, 3, 4, 5, 9, 10, 11], [9, 1403, 1404, 1405, 1407, 1408], [], []⟩ ⟨[(0, I l8_1), (1, I l9_1), (2, .ptr 1407 0), (3, .ptr 1403 0), (4, .ptr 1404 0), (5, .ptr 1405 0), (9, .ptr 9 0), (10, I (mgetD me_map_loophole_stretch_int (⟨l8_1, l9_1⟩ : GLoopholeStretch) 0 j10_2)), (11, B (mhas me_map_loophole_stretch_int (⟨l8_1, l9_1⟩ : GLoopholeStretch) j10_2))], [(9, .box 68 [I l8_1, I l9_1]), (1403, .box 34 (bxc (GTariff.cs a0t))), (1404, .box 38 (bxc (GCalendar.cs a1c))), (1405, .box 24 (bxc (GSession.cs a2s))), (1407, .box 66 [.mv 1408]), (1408, .mp (mpL mk_map_loophole_stretch_int mv_map_loophole_stretch_int j10_2))]⟩ krf ?_
         refine sim_bind (fun (j13_1, j13_2) => ⟨[(10, I j13_1)], [(1403, .box 34 (bxc (GTariff.cs a0t))), (1404, .box 38 (bxc (GCalendar.cs a1c))), (1405, .box 24 (bxc (GSession.cs a2s))), (1407, .box 66 [.mv 1408]), (1408, .mp (mpL mk_map_loophole_stretch_int mv_map_loophole_stretch_int j13_2))]⟩ : (Int × (List (GLoopholeStretch × Int))) → St) ?_ ?_
         ·refine sim_run Try.fm ⟨[0, 1, 2, 3, 4, 5, 9, 10, 24], [9, 1403, 1404, 1405, 1407, 1408], [], []⟩ ⟨[(0, I l8_1), (1, I l9_1), (2, .ptr 1407 0), (3, .ptr 1403 0), (4, .ptr 1404 0), (5, .ptr 1405 0), (9, .ptr 9 0), (10, I (mgetD me_map_loophole_stretch_int (⟨l8_1, l9_1⟩ : GLoopholeStretch) 0 j10_2)), (24, B (!(mhas me_map_loophole_stretch_int (⟨l8_1, l9_1⟩ : GLoopholeStretch) j10_2)))], [(9, .box 68 [I l8_1, I l9_1]), (1403, .box 34 (bxc (GTariff.cs a0t))), (1404, .box 38 (bxc (GCalendar.cs a1c))), (1405, .box 24 (bxc (GSession.cs a2s))), (1407, .box 66 [.mv 1408]), (1408, .mp (mpL mk_map_loophole_stretch_int mv_map_loophole_stretch_int j10_2))]⟩ krf ?_
          refine sim_cond (!(mhas me_map_loophole_stretch_int (⟨l8_1, l9_1⟩ : GLoopholeStretch) j10_2)) krf ?_ ?_
          ·refine sim_seq ?_
           refine sim_drw Try.fm rfl ?_
           refine xs_run 5 krf ?_
           refine xs_call [] krf (g_loophole_part_ok n a2s l8_1 l9_1) krf krf (fun _ => by kernel_rfl) (fun r14 => ?_)
           refine xs_call [] krf (g_bill_Bill_ok n a0t a1c r14) krf krf (fun _ => by kernel_rfl) (fun r15 => ?_)
           refine xs_run 6 krf ?_
           refine xs_endD krf ?_
           refine sq_nk ⟨[2, 9, 12, 13], [9, 12, 1403, 1404, 1405, 1407, 1408], [], []⟩ ⟨[(2, .ptr 1407 0), (9, .ptr 9 0), (12, .ptr 12 0), (13, I r15.2)], [(9, .box 68 [I l8_1, I l9_1]), (12, .box 62 (bxc (GBill.cs r15.1))), (1403, .box 34 (bxc (GTariff.cs a0t))), (1404, .box 38 (bxc (GCalendar.cs a1c))), (1405, .box 24 (bxc (GSession.cs a2s))), (1407, .box 66 [.mv 1408]), (1408, .mp (mpL mk_map_loophole_stretch_int mv_map_loophole_stretch_int j10_2))]⟩ krf ?_
           refine sim_run Try.fm ⟨[2, 9, 10, 13], [9, 1403, 1404, 1405, 1407, 1408], [], []⟩ ⟨[(2, .ptr 1407 0), (9, .ptr 9 0), (10, I r15.1.Total), (13, I r15.2)], [(9, .box 68 [I l8_1, I l9_1]), (1403, .box 34 (bxc (GTariff.cs a0t))), (1404, .box 38 (bxc (GCalendar.cs a1c))), (1405, .box 24 (bxc (GSession.cs a2s))), (1407, .box 66 [.mv 1408]), (1408, .mp (mpL mk_map_loophole_stretch_int mv_map_loophole_stretch_int j10_2))]⟩ krf ?_
           refine sim_seq ?_
           refine sim_run Try.fm ⟨[2, 9, 10, 38], [9, 1403, 1404, 1405, 1407, 1408], [], []⟩ ⟨[(2, .ptr 1407 0), (9, .ptr 9 0), (10, I r15.1.Total), (38, B (!eqI r15.2 0))], [(9, .box 68 [I l8_1, I l9_1]), (1403, .box 34 (bxc (GTariff.cs a0t))), (1404, .box 38 (bxc (GCalendar.cs a1c))), (1405, .box 24 (bxc (GSession.cs a2s))), (1407, .box 66 [.mv 1408]), (1408, .mp (mpL mk_map_loophole_stretch_int mv_map_loophole_stretch_int j10_2))]⟩ krf ?_
           refine sim_cond (!eqI r15.2 0) krf ?_ ?_
           ·refine sim_last Try.fm krf ?_
            refine sq_nk ⟨[2, 9, 10], [9, 1403, 1404, 1405, 1407, 1408], [], []⟩ ⟨[(2, .ptr 1407 0), (9, .ptr 9 0), (10, I 1000000001)], [(9, .box 68 [I l8_1, I l9_1]), (1403, .box 34 (bxc (GTariff.cs a0t))), (1404, .box 38 (bxc (GCalendar.cs a1c))), (1405, .box 24 (bxc (GSession.cs a2s))), (1407, .box 66 [.mv 1408]), (1408, .mp (mpL mk_map_loophole_stretch_int mv_map_loophole_stretch_int j10_2))]⟩ krf ?_
            refine sim_reg ?_
            refine xs_run 3 krf ?_
            refine xs_u krf krf (aop_mset (kt := 68) (e := 3) (ke := mk_map_loophole_stretch_int) (ve := mv_map_loophole_stretch_int) (eq := me_map_loophole_stretch_int) (b := 1408) (m := j10_2) (k := (⟨l8_1, l9_1⟩ : GLoopholeStretch)) (v := 1000000001) rfl krf krf krf krf krf krf (fun _ => by kernel_rfl) (fun _ _ => (eqV2_eq _ _ _ _ _).symm.trans krf)) ?_
            refine xs_end ?_
            exact nq_n (1000000001, mset me_map_loophole_stretch_int (⟨l8_1, l9_1⟩ : GLoopholeStretch) 1000000001 j10_2) ⟨[10], [1403, 1404, 1405, 1407, 1408], [], []⟩ krf
           ·refine sim_skip ?_
            refine sq_nk ⟨[2, 9, 10], [9, 1403, 1404, 1405, 1407, 1408], [], []⟩ ⟨[(2, .ptr 1407 0), (9, .ptr 9 0), (10, I r15.1.Total)], [(9, .box 68 [I l8_1, I l9_1]), (1403, .box 34 (bxc (GTariff.cs a0t))), (1404, .box 38 (bxc (GCalendar.cs a1c))), (1405, .box 24 (bxc (GSession.cs a2s))), (1407, .box 66 [.mv 1408]), (1408, .mp (mpL mk_map_loophole_stretch_int mv_map_loophole_stretch_int j10_2))]⟩ krf ?_
            refine sim_reg ?_
            refine xs_run 3 krf ?_
            refine xs_u krf krf (aop_mset (kt := 68) (e := 3) (ke := mk_map_loophole_stretch_int) (ve := mv_map_loophole_stretch_int) (eq := me_map_loophole_stretch_int) (b := 1408) (m := j10_2) (k := (⟨l8_1, l9_1⟩ : GLoopholeStretch)) (v := r15.1.Total) rfl krf krf krf krf krf krf (fun _ => by kernel_rfl) (fun _ _ => (eqV2_eq _ _ _ _ _).symm.trans krf)) ?_
            refine xs_end ?_
            exact nq_n (r15.1.Total, mset me_map_loophole_stretch_int (⟨l8_1, l9_1⟩ : GLoopholeStretch) r15.1.Total j10_2) ⟨[10], [1403, 1404, 1405, 1407, 1408], [], []⟩ krf
          ·refine sim_skip ?_
           exact nq_n (mgetD me_map_loophole_stretch_int (⟨l8_1, l9_1⟩ : GLoopholeStretch) 0 j10_2, j10_2) ⟨[10], [1403, 1404, 1405, 1407, 1408], [], []⟩ krf
         ·rintro ⟨j13_1, j13_2⟩
          refine sim_run Try.fm ⟨[8], [1403, 1404, 1405, 1407, 1408], [], []⟩ ⟨[(8, I j13_1)], [(1403, .box 34 (bxc (GTariff.cs a0t))), (1404, .box 38 (bxc (GCalendar.cs a1c))), (1405, .box 24 (bxc (GSession.cs a2s))), (1407, .box 66 [.mv 1408]), (1408, .mp (mpL mk_map_loophole_stretch_int mv_map_loophole_stretch_int j13_2))]⟩ krf ?_
          refine sim_ret ?_
          refine iq_ret .id [1403, 1404, 1405, 1407, 1408] [] (I j13_1) krf krf ?_
          refine kh [10, 11, 12, 13, 16] krf (lates_cons (late_move krf) (lates_cons (late_move krf) (lates_cons (late_read (.ptr 6 1) krf rfl) (lates_cons (late_read (I a2s.To) krf rfl) (lates_cons (late_move krf) (lates_nil)))))) krf ?_
          refine h_enter (f := 29) (args := [I l9_1, I a2s.To, .ptr 407 0, .ptr 403 0, .ptr 404 0, .ptr 405 0]) (dst := some 110) krf krf ?_
          refine sc_inline (hc := [(1403, .box 34 (bxc (GTariff.cs a0t))), (1404, .box 38 (bxc (GCalendar.cs a1c))), (1405, .box 24 (bxc (GSession.cs a2s))), (1407, .box 66 [.mv 1408]), (1408, .mp (mpL mk_map_loophole_stretch_int mv_map_loophole_stretch_int j13_2))]) (args' := [I l9_1, I a2s.To, .ptr 1407 0, .ptr 1403 0, .ptr 1404 0, .ptr 1405 0]) [(1403, 403), (1404, 404), (1405, 405), (1407, 407), (1408, 408)] [] [] Try.func29 rfl Try.ntmps29 rfl krf krf krf ?_
          refine sim_run Try.fm ⟨[0, 1, 2, 3, 4, 5], [1403, 1404, 1405, 1407, 1408], [], []⟩ ⟨[(0, I l9_1), (1, I a2s.To), (2, .ptr 1407 0), (3, .ptr 1403 0), (4, .ptr 1404 0), (5, .ptr 1405 0)], [(1403, .box 34 (bxc (GTariff.cs a0t))), (1404, .box 38 (bxc (GCalendar.cs a1c))), (1405, .box 24 (bxc (GSession.cs a2s))), (1407, .box 66 [.mv 1408]), (1408, .mp (mpL mk_map_loophole_stretch_int mv_map_loophole_stretch_int j13_2))]⟩ krf ?_
          refine sim_run Try.fm ⟨[0, 1, 2, 3, 4, 5, 9], [9, 1403, 1404, 1405, 1407, 1408], [], []⟩ ⟨[(0, I l9_1), (1, I a2s.To), (2, .ptr 1407 0), (3, .ptr 1403 0), (4, .ptr 1404 0), (5, .ptr 1405 0), (9, .ptr 9 0)], [(9, .box 68 [I l9_1, I a2s.To]), (1403, .box 34 (bxc (GTariff.cs a0t))), (1404, .box 38 (bxc (GCalendar.cs a1c))), (1405, .box 24 (bxc (GSession.cs a2s))), (1407, .box 66 [.mv 1408]), (1408, .mp (mpL mk_map_loophole_stretch_int mv_map_loophole_stretch_int j13_2))]⟩ krf ?_
          refine sim_seq ?_
          refine sim_reg ?_
          refine xs_run 2 krf ?_
          refine xs_u krf krf (aop_look (kt := 68) (e := 3) (ke := mk_map_loophole_stretch_int) (ve := mv_map_loophole_stretch_int) (eq := me_map_loophole_stretch_int) (b := 1408) (m := j13_2) (k := (⟨l9_1, a2s.To⟩ : GLoopholeStretch)) (z0 := 0) rfl krf krf krf krf krf (fun _ => by kernel_rfl) (fun _ _ => (eqV2_eq _ _ _ _ _).symm.trans krf) krf) ?_
          refine xs_run 5 krf ?_
          refine xs_end ?_
          refine sq_nk ⟨[0, 1, 2, 3, 4, 5, 9, 10, 11], [9, 1403, 1404, 1405, 1407, 1408], [], []⟩ ⟨[(0, I l9_1), (1, I a2s.To), (2, .ptr 1407 0), (3, .ptr 1403 0), (4, .ptr 1404 0), (5, .ptr 1405 0), (9, .ptr 9 0), (10, I (mgetD me_map_loophole_stretch_int (⟨l9_1, a2s.To⟩ : GLoopholeStretch) 0 j13_2)), (11, B (mhas me_map_loophole_stretch_int (⟨l9_1, a2s.To⟩ : GLoopholeStretch) j13_2))], [(9, .box 68 [I l9_1, I a2s.To]), (1403, .box 34 (bxc (GTariff.cs a0t))), (1404, .box 38 (bxc (GCalendar.cs a1c))), (1405, .box 24 (bxc (GSession.cs a2s))), (1407, .box 66 [.mv 1408]), (1408, .mp (mpL mk_map_loophole_stretch_int mv_map_loophole_stretch_int j13_2))]⟩ krf ?_
          refine sim_bind (fun (j16_1, j16_2) => ⟨[(10, I j16_1)], [(1403, .box 34 (bxc (GTariff.cs a0t))), (1404, .box 38 (bxc (GCalendar.cs a1c))), (1405, .box 24 (bxc (GSession.cs a2s))), (1407, .box 66 [.mv 1408]), (1408, .mp (mpL mk_map_loophole_stretch_int mv_map_loophole_stretch_int j16_2))]⟩ : (Int × (List (GLoopholeStretch × Int))) → St) ?_ ?_
          ·refine sim_run Try.fm ⟨[0, 1, 2, 3, 4, 5, 9, 10, 24], [9, 1403, 1404, 1405, 1407, 1408], [], []⟩ ⟨[(0, I l9_1), (1, I a2s.To), (2, .ptr 1407 0), (3, .ptr 1403 0), (4, .ptr 1404 0), (5, .ptr 1405 0), (9, .ptr 9 0), (10, I (mgetD me_map_loophole_stretch_int (⟨l9_1, a2s.To⟩ : GLoopholeStretch) 0 j13_2)), (24, B (!(mhas me_map_loophole_stretch_int (⟨l9_1, a2s.To⟩ : GLoopholeStretch) j13_2)))], [(9, .box 68 [I l9_1, I a2s.To]), (1403, .box 34 (bxc (GTariff.cs a0t))), (1404, .box 38 (bxc (GCalendar.cs a1c))), (1405, .box 24 (bxc (GSession.cs a2s))), (1407, .box 66 [.mv 1408]), (1408, .mp (mpL mk_map_loophole_stretch_int mv_map_loophole_stretch_int j13_2))]⟩ krf ?_
           refine sim_cond (!(mhas me_map_loophole_stretch_int (⟨l9_1, a2s.To⟩ : GLoopholeStretch) j13_2)) krf ?_ ?_
           ·refine sim_seq ?_
            refine sim_drw Try.fm rfl ?_
            refine xs_run 5 krf ?_
            refine xs_call [] krf (g_loophole_part_ok n a2s l9_1 a2s.To) krf krf (fun _ => by kernel_rfl) (fun r17 => ?_)
            refine xs_call [] krf (g_bill_Bill_ok n a0t a1c r17) krf krf (fun _ => by kernel_rfl) (fun r18 => ?_)
            refine xs_run 6 krf ?_
            refine xs_endD krf ?_
            refine sq_nk ⟨[2, 9, 12, 13], [9, 12, 1403, 1404, 1405, 1407, 1408], [], []⟩ ⟨[(2, .ptr 1407 0), (9, .ptr 9 0), (12, .ptr 12 0), (13, I r18.2)], [(9, .box 68 [I l9_1, I a2s.To]), (12, .box 62 (bxc (GBill.cs r18.1))), (1403, .box 34 (bxc (GTariff.cs a0t))), (1404, .box 38 (bxc (GCalendar.cs a1c))), (1405, .box 24 (bxc (GSession.cs a2s))), (1407, .box 66 [.mv 1408]), (1408, .mp (mpL mk_map_loophole_stretch_int mv_map_loophole_stretch_int j13_2))]⟩ krf ?_
            refine sim_run Try.fm ⟨[2, 9, 10, 13], [9, 1403, 1404, 1405, 1407, 1408], [], []⟩ ⟨[(2, .ptr 1407 0), (9, .ptr 9 0), (10, I r18.1.Total), (13, I r18.2)], [(9, .box 68 [I l9_1, I a2s.To]), (1403, .box 34 (bxc (GTariff.cs a0t))), (1404, .box 38 (bxc (GCalendar.cs a1c))), (1405, .box 24 (bxc (GSession.cs a2s))), (1407, .box 66 [.mv 1408]), (1408, .mp (mpL mk_map_loophole_stretch_int mv_map_loophole_stretch_int j13_2))]⟩ krf ?_
            refine sim_seq ?_
            refine sim_run Try.fm ⟨[2, 9, 10, 38], [9, 1403, 1404, 1405, 1407, 1408], [], []⟩ ⟨[(2, .ptr 1407 0), (9, .ptr 9 0), (10, I r18.1.Total), (38, B (!eqI r18.2 0))], [(9, .box 68 [I l9_1, I a2s.To]), (1403, .box 34 (bxc (GTariff.cs a0t))), (1404, .box 38 (bxc (GCalendar.cs a1c))), (1405, .box 24 (bxc (GSession.cs a2s))), (1407, .box 66 [.mv 1408]), (1408, .mp (mpL mk_map_loophole_stretch_int mv_map_loophole_stretch_int j13_2))]⟩ krf ?_
            refine sim_cond (!eqI r18.2 0) krf ?_ ?_
            ·refine sim_last Try.fm krf ?_
             refine sq_nk ⟨[2, 9, 10], [9, 1403, 1404, 1405, 1407, 1408], [], []⟩ ⟨[(2, .ptr 1407 0), (9, .ptr 9 0), (10, I 1000000001)], [(9, .box 68 [I l9_1, I a2s.To]), (1403, .box 34 (bxc (GTariff.cs a0t))), (1404, .box 38 (bxc (GCalendar.cs a1c))), (1405, .box 24 (bxc (GSession.cs a2s))), (1407, .box 66 [.mv 1408]), (1408, .mp (mpL mk_map_loophole_stretch_int mv_map_loophole_stretch_int j13_2))]⟩ krf ?_
             refine sim_reg ?_
             refine xs_run 3 krf ?_
             refine xs_u krf krf (aop_mset (kt := 68) (e := 3) (ke := mk_map_loophole_stretch_int) (ve := mv_map_loophole_stretch_int) (eq := me_map_loophole_stretch_int) (b := 1408) (m := j13_2) (k := (⟨l9_1, a2s.To⟩ : GLoopholeStretch)) (v := 1000000001) rfl krf krf krf krf krf krf (fun _ => by kernel_rfl) (fun _ _ => (eqV2_eq _ _ _ _ _).symm.trans krf)) ?_
             refine xs_end ?_
             exact nq_n (1000000001, mset me_map_loophole_stretch_int (⟨l9_1, a2s.To⟩ : GLoopholeStretch) 1000000001 j13_2) ⟨[10], [1403, 1404, 1405, 1407, 1408], [], []⟩ krf
            ·refine sim_skip ?_
             refine sq_nk ⟨[2, 9, 10], [9, 1403, 1404, 1405, 1407, 1408], [], []⟩ ⟨[(2, .ptr 1407 0), (9, .ptr 9 0), (10, I r18.1.Total)], [(9, .box 68 [I l9_1, I a2s.To]), (1403, .box 34 (bxc (GTariff.cs a0t))), (1404, .box 38 (bxc (GCalendar.cs a1c))), (1405, .box 24 (bxc (GSession.cs a2s))), (1407, .box 66 [.mv 1408]), (1408, .mp (mpL mk_map_loophole_stretch_int mv_map_loophole_stretch_int j13_2))]⟩ krf ?_
             refine sim_reg ?_
             refine xs_run 3 krf ?_
             refine xs_u krf krf (aop_mset (kt := 68) (e := 3) (ke := mk_map_loophole_stretch_int) (ve := mv_map_loophole_stretch_int) (eq := me_map_loophole_stretch_int) (b := 1408) (m := j13_2) (k := (⟨l9_1, a2s.To⟩ : GLoopholeStretch)) (v := r18.1.Total) rfl krf krf krf krf krf krf (fun _ => by kernel_rfl) (fun _ _ => (eqV2_eq _ _ _ _ _).symm.trans krf)) ?_
             refine xs_end ?_
             exact nq_n (r18.1.Total, mset me_map_loophole_stretch_int (⟨l9_1, a2s.To⟩ : GLoopholeStretch) r18.1.Total j13_2) ⟨[10], [1403, 1404, 1405, 1407, 1408], [], []⟩ krf
           ·refine sim_skip ?_
            exact nq_n (mgetD me_map_loophole_stretch_int (⟨l9_1, a2s.To⟩ : GLoopholeStretch) 0 j13_2, j13_2) ⟨[10], [1403, 1404, 1405, 1407, 1408], [], []⟩ krf
          ·rintro ⟨j16_1, j16_2⟩
           refine sim_run Try.fm ⟨[8], [1403, 1404, 1405, 1407, 1408], [], []⟩ ⟨[(8, I j16_1)], [(1403, .box 34 (bxc (GTariff.cs a0t))), (1404, .box 38 (bxc (GCalendar.cs a1c))), (1405, .box 24 (bxc (GSession.cs a2s))), (1407, .box 66 [.mv 1408]), (1408, .mp (mpL mk_map_loophole_stretch_int mv_map_loophole_stretch_int j16_2))]⟩ krf ?_
           refine sim_ret ?_
           refine iq_ret .id [1403, 1404, 1405, 1407, 1408] [] (I j16_1) krf krf ?_
           refine kh [16, 9] krf (lates_cons (late_move krf) (lates_cons (late_read (I (wi (j10_1 + j13_1))) krf rfl) (lates_nil))) krf ?_
           refine h_op [16] krf krf (lates_cons (late_move krf) (lates_nil)) ?_
           refine h_op [] krf krf (lates_nil) ?_
           refine h_end ?_
           refine sq_nk ⟨[6, 11, 13, 15, 16, 17, 113], [6, 403, 404, 405, 407, 408], [], []⟩ ⟨[(6, .ptr 6 0), (11, I r6.1), (13, .fn (.func 29) [] [.ptr 407 0, .ptr 403 0, .ptr 404 0, .ptr 405 0]), (15, .p (.val (.slice none 0 0))), (16, I l8_1), (17, I l9_1), (113, B (ltI (wi ((wi (j10_1 + j13_1)) + j16_1)) r6.1))], [(6, .box 24 (bxc (GSession.cs a2s))), (403, .box 34 (bxc (GTariff.cs a0t))), (404, .box 38 (bxc (GCalendar.cs a1c))), (405, .box 24 (bxc (GSession.cs a2s))), (407, .box 66 [.mv 408]), (408, .mp (mpL mk_map_loophole_stretch_int mv_map_loophole_stretch_int j16_2))]⟩ krf ?_
           refine sim_cond (ltI (wi ((wi (j10_1 + j13_1)) + j16_1)) r6.1) krf ?_ ?_
           ·refine sim_run Try.fm ⟨[15], [116], [], []⟩ ⟨[(15, .tsl 1 (List.map ci [l8_1, l9_1]) 116)], [(116, .arr 3 1 (List.map ci [l8_1, l9_1]).length)]⟩ krf ?_
            refine sim_exit ?_
            refine bq_miss rfl ?_
            refine sq_x ?_
            refine kq_x ?_
            refine bq_miss rfl ?_
            refine bq_miss rfl ?_
            refine sq_x ?_
            refine kq_x ?_
            refine bq_hit ?_
            refine sq_nk ⟨[15], [116], [], []⟩ ⟨[(15, .tsl 1 (List.map ci [l8_1, l9_1]) 116)], [(116, .arr 3 1 (List.map ci [l8_1, l9_1]).length)]⟩ krf ?_
            refine sim_seq ?_
            refine sim_reg ?_
            refine xs_run 2 krf ?_
            refine xs_u krf krf (aop_nilNe (e := 3) (S := 1) (tk := 116) (ta := 0) (te := 3) (enc := ci) (l := [l8_1, l9_1]) rfl krf krf krf krf krf krf) ?_
            refine xs_run 3 krf ?_
            refine xs_end ?_
            refine sq_nk ⟨[8, 9, 10], [116], [], []⟩ ⟨[(8, .tsl 1 (List.map ci [l8_1, l9_1]) 116), (9, B true), (10, I 0)], [(116, .arr 3 1 (List.map ci [l8_1, l9_1]).length)]⟩ krf ?_
            refine sim_ret ?_
            exact rq_ret (.agg [.sl 1, .id, .id]) krf krf krf
           ·refine sim_skip ?_
            refine bq_n ?_
            refine sq_nk ⟨[6, 11, 13, 15, 16, 17], [6, 403, 404, 405, 407, 408], [], []⟩ ⟨[(6, .ptr 6 0), (11, I r6.1), (13, .fn (.func 29) [] [.ptr 407 0, .ptr 403 0, .ptr 404 0, .ptr 405 0]), (15, .p (.val (.slice none 0 0))), (16, I l8_1), (17, I l9_1)], [(6, .box 24 (bxc (GSession.cs a2s))), (403, .box 34 (bxc (GTariff.cs a0t))), (404, .box 38 (bxc (GCalendar.cs a1c))), (405, .box 24 (bxc (GSession.cs a2s))), (407, .box 66 [.mv 408]), (408, .mp (mpL mk_map_loophole_stretch_int mv_map_loophole_stretch_int j16_2))]⟩ krf ?_
            refine sim_last Try.fm krf ?_
            exact kq_n (wi (l9_1 + 1), j16_2) ⟨[6, 11, 13, 15, 16, 17], [6, 403, 404, 405, 407, 408], [], []⟩ krf
       ·refine sim_exit ?_
        refine sq_x ?_
        refine kq_x ?_
        refine bq_hit ?_
        refine bq_n ?_
        refine sq_nk ⟨[6, 11, 13, 15, 16], [6, 403, 404, 405, 407, 408], [], []⟩ ⟨[(6, .ptr 6 0), (11, I r6.1), (13, .fn (.func 29) [] [.ptr 407 0, .ptr 403 0, .ptr 404 0, .ptr 405 0]), (15, .p (.val (.slice none 0 0))), (16, I l8_1)], [(6, .box 24 (bxc (GSession.cs a2s))), (403, .box 34 (bxc (GTariff.cs a0t))), (404, .box 38 (bxc (GCalendar.cs a1c))), (405, .box 24 (bxc (GSession.cs a2s))), (407, .box 66 [.mv 408]), (408, .mp (mpL mk_map_loophole_stretch_int mv_map_loophole_stretch_int l9_2))]⟩ krf ?_
        refine sim_last Try.fm krf ?_
        exact kq_n (wi (l8_1 + 1), l9_2) ⟨[6, 11, 13, 15, 16], [6, 403, 404, 405, 407, 408], [], []⟩ krf
      ·refine sim_exit ?_
       refine sq_x ?_
       refine kq_x ?_
       refine bq_hit ?_
       refine sq_nk ⟨[15], [], [], []⟩ ⟨[(15, .p (.val (.slice none 0 0)))], []⟩ krf ?_
       refine sim_run Try.fm ⟨[8, 9, 10], [], [], []⟩ ⟨[(8, .p (.val (.slice none 0 0))), (9, B false), (10, I 0)], []⟩ krf ?_
       refine sim_ret ?_
       exact rq_ret (.agg [.sl 1, .id, .id]) krf krf krf
    ·refine sim_run Try.fm ⟨[3, 6, 11, 13, 14], [6, 403, 404, 405, 407, 408], [], []⟩ ⟨[(3, I a3most), (6, .ptr 6 0), (11, I r6.1), (13, .fn (.func 29) [] [.ptr 407 0, .ptr 403 0, .ptr 404 0, .ptr 405 0]), (14, I (wi (a2s.From + 1)))], [(6, .box 24 (bxc (GSession.cs a2s))), (403, .box 34 (bxc (GTariff.cs a0t))), (404, .box 38 (bxc (GCalendar.cs a1c))), (405, .box 24 (bxc (GSession.cs a2s))), (407, .box 66 [.mv 408]), (408, .mp (mpL mk_map_loophole_stretch_int mv_map_loophole_stretch_int []))]⟩ krf ?_
     refine sim_block ?_
     refine sim_loop (fun (l19_1, l19_2) => ⟨[(3, I a3most), (6, .ptr 6 0), (11, I r6.1), (13, .fn (.func 29) [] [.ptr 407 0, .ptr 403 0, .ptr 404 0, .ptr 405 0]), (14, I l19_1)], [(6, .box 24 (bxc (GSession.cs a2s))), (403, .box 34 (bxc (GTariff.cs a0t))), (404, .box 38 (bxc (GCalendar.cs a1c))), (405, .box 24 (bxc (GSession.cs a2s))), (407, .box 66 [.mv 408]), (408, .mp (mpL mk_map_loophole_stretch_int mv_map_loophole_stretch_int l19_2))]⟩ : (Int × (List (GLoopholeStretch × Int))) → St) (weak_shr (K := ⟨[3, 6, 11, 13, 14], [6, 403, 404, 405, 407, 408], [], []⟩) krf) ?_
     rintro recl19 ⟨l19_1, l19_2⟩
     show SimE (g_loophole_Find_l19 n a0t a1c a2s a3most r6 recl19 l19_1 l19_2) _ _ _ _ _ _
     unfold g_loophole_Find_l19
     refine sim_seq ?_
     refine sim_run Try.fm ⟨[3, 6, 11, 13, 14, 59], [6, 403, 404, 405, 407, 408], [], []⟩ ⟨[(3, I a3most), (6, .ptr 6 0), (11, I r6.1), (13, .fn (.func 29) [] [.ptr 407 0, .ptr 403 0, .ptr 404 0, .ptr 405 0]), (14, I l19_1), (59, B (ltI l19_1 a2s.To))], [(6, .box 24 (bxc (GSession.cs a2s))), (403, .box 34 (bxc (GTariff.cs a0t))), (404, .box 38 (bxc (GCalendar.cs a1c))), (405, .box 24 (bxc (GSession.cs a2s))), (407, .box 66 [.mv 408]), (408, .mp (mpL mk_map_loophole_stretch_int mv_map_loophole_stretch_int l19_2))]⟩ krf ?_
     refine sim_cond (ltI l19_1 a2s.To) krf ?_ ?_
     ·refine sim_skip ?_
      refine sq_nk ⟨[3, 6, 11, 13, 14], [6, 403, 404, 405, 407, 408], [], []⟩ ⟨[(3, I a3most), (6, .ptr 6 0), (11, I r6.1), (13, .fn (.func 29) [] [.ptr 407 0, .ptr 403 0, .ptr 404 0, .ptr 405 0]), (14, I l19_1)], [(6, .box 24 (bxc (GSession.cs a2s))), (403, .box 34 (bxc (GTariff.cs a0t))), (404, .box 38 (bxc (GCalendar.cs a1c))), (405, .box 24 (bxc (GSession.cs a2s))), (407, .box 66 [.mv 408]), (408, .mp (mpL mk_map_loophole_stretch_int mv_map_loophole_stretch_int l19_2))]⟩ krf ?_
      refine sim_seq ?_
      refine sim_block ?_
      refine sim_seq ?_
      refine sim_hst [0, 1, 2, 3, 5, 6, 7, 8, 11] [5, 6, 7, 8, 11] [(4, []), (9, []), (10, []), (12, [])] Try.fm rfl krf krf ?_
      refine h_enter (f := 29) (args := [I a2s.From, I l19_1, .ptr 407 0, .ptr 403 0, .ptr 404 0, .ptr 405 0]) (dst := some 66) krf krf ?_
      refine sc_inline (hc := [(1403, .box 34 (bxc (GTariff.cs a0t))), (1404, .box 38 (bxc (GCalendar.cs a1c))), (1405, .box 24 (bxc (GSession.cs a2s))), (1407, .box 66 [.mv 1408]), (1408, .mp (mpL mk_map_loophole_stretch_int mv_map_loophole_stretch_int l19_2))]) (args' := [I a2s.From, I l19_1, .ptr 1407 0, .ptr 1403 0, .ptr 1404 0, .ptr 1405 0]) [(1403, 403), (1404, 404), (1405, 405), (1407, 407), (1408, 408)] [] [] Try.func29 rfl Try.ntmps29 rfl krf krf krf ?_
      refine sim_run Try.fm ⟨[0, 1, 2, 3, 4, 5], [1403, 1404, 1405, 1407, 1408], [], []⟩ ⟨[(0, I a2s.From), (1, I l19_1), (2, .ptr 1407 0), (3, .ptr 1403 0), (4, .ptr 1404 0), (5, .ptr 1405 0)], [(1403, .box 34 (bxc (GTariff.cs a0t))), (1404, .box 38 (bxc (GCalendar.cs a1c))), (1405, .box 24 (bxc (GSession.cs a2s))), (1407, .box 66 [.mv 1408]), (1408, .mp (mpL mk_map_loophole_stretch_int mv_map_loophole_stretch_int l19_2))]⟩ krf ?_
      refine sim_run Try.fm ⟨[0, 1, 2, 3, 4, 5, 9], [9, 1403, 1404, 1405, 1407, 1408], [], []⟩ ⟨[(0, I a2s.From), (1, I l19_1), (2, .ptr 1407 0), (3, .ptr 1403 0), (4, .ptr 1404 0), (5, .ptr 1405 0), (9, .ptr 9 0)], [(9, .box 68 [I a2s.From, I l19_1]), (1403, .box 34 (bxc (GTariff.cs a0t))), (1404, .box 38 (bxc (GCalendar.cs a1c))), (1405, .box 24 (bxc (GSession.cs a2s))), (1407, .box 66 [.mv 1408]), (1408, .mp (mpL mk_map_loophole_stretch_int mv_map_loophole_stretch_int l19_2))]⟩ krf ?_
      refine sim_seq ?_
      refine sim_reg ?_
      refine xs_run 2 krf ?_
      refine xs_u krf krf (aop_look (kt := 68) (e := 3) (ke := mk_map_loophole_stretch_int) (ve := mv_map_loophole_stretch_int) (eq := me_map_loophole_stretch_int) (b := 1408) (m := l19_2) (k := (⟨a2s.From, l19_1⟩ : GLoopholeStretch)) (z0 := 0) rfl krf krf krf krf krf (fun _ => by kernel_rfl) (fun _ _ => (eqV2_eq _ _ _ _ _).symm.trans krf) krf) ?_
      refine xs_run 5 krf ?_
      refine xs_end ?_
      refine sq_nk ⟨[0, 1, 2, 3, 4, 5, 9, 10, 11], [9, 1403, 1404, 1405, 1407, 1408], [], []⟩ ⟨[(0, I a2s.From), (1, I l19_1), (2, .ptr 1407 0), (3, .ptr 1403 0), (4, .ptr 1404 0), (5, .ptr 1405 0), (9, .ptr 9 0), (10, I (mgetD me_map_loophole_stretch_int (⟨a2s.From, l19_1⟩ : GLoopholeStretch) 0 l19_2)), (11, B (mhas me_map_loophole_stretch_int (⟨a2s.From, l19_1⟩ : GLoopholeStretch) l19_2))], [(9, .box 68 [I a2s.From, I l19_1]), (1403, .box 34 (bxc (GTariff.cs a0t))), (1404, .box 38 (bxc (GCalendar.cs a1c))), (1405, .box 24 (bxc (GSession.cs a2s))), (1407, .box 66 [.mv 1408]), (1408, .mp (mpL mk_map_loophole_stretch_int mv_map_loophole_stretch_int l19_2))]⟩ krf ?_
      refine sim_bind (fun (j20_1, j20_2) => ⟨[(10, I j20_1)], [(1403, .box 34 (bxc (GTariff.cs a0t))), (1404, .box 38 (bxc (GCalendar.cs a1c))), (1405, .box 24 (bxc (GSession.cs a2s))), (1407, .box 66 [.mv 1408]), (1408, .mp (mpL mk_map_loophole_stretch_int mv_map_loophole_stretch_int j20_2))]⟩ : (Int × (List (GLoopholeStretch × Int))) → St) ?_ ?_
      ·refine sim_run Try.fm ⟨[0, 1, 2, 3, 4, 5, 9, 10, 24], [9, 1403, 1404, 1405, 1407, 1408], [], []⟩ ⟨[(0, I a2s.From), (1, I l19_1), (2, .ptr 1407 0), (3, .ptr 1403 0), (4, .ptr 1404 0), (5, .ptr 1405 0), (9, .ptr 9 0), (10, I (mgetD me_map_loophole_stretch_int (⟨a2s.From, l19_1⟩ : GLoopholeStretch) 0 l19_2)), (24, B (!(mhas me_map_loophole_stretch_int (⟨a2s.From, l19_1⟩ : GLoopholeStretch) l19_2)))], [(9, .box 68 [I a2s.From, I l19_1]), (1403, .box 34 (bxc (GTariff.cs a0t))), (1404, .box 38 (bxc (GCalendar.cs a1c))), (1405, .box 24 (bxc (GSession.cs a2s))), (1407, .box 66 [.mv 1408]), (1408, .mp (mpL mk_map_loophole_stretch_int mv_map_loophole_stretch_int l19_2))]⟩ krf ?_
       refine sim_cond (!(mhas me_map_loophole_stretch_int (⟨a2s.From, l19_1⟩ : GLoopholeStretch) l19_2)) krf ?_ ?_
       ·refine sim_seq ?_
        refine sim_drw Try.fm rfl ?_
        refine xs_run 5 krf ?_
        refine xs_call [] krf (g_loophole_part_ok n a2s a2s.From l19_1) krf krf (fun _ => by kernel_rfl) (fun r21 => ?_)
        refine xs_call [] krf (g_bill_Bill_ok n a0t a1c r21) krf krf (fun _ => by kernel_rfl) (fun r22 => ?_)
        refine xs_run 6 krf ?_
        refine xs_endD krf ?_
        refine sq_nk ⟨[2, 9, 12, 13], [9, 12, 1403, 1404, 1405, 1407, 1408], [], []⟩ ⟨[(2, .ptr 1407 0), (9, .ptr 9 0), (12, .ptr 12 0), (13, I r22.2)], [(9, .box 68 [I a2s.From, I l19_1]), (12, .box 62 (bxc (GBill.cs r22.1))), (1403, .box 34 (bxc (GTariff.cs a0t))), (1404, .box 38 (bxc (GCalendar.cs a1c))), (1405, .box 24 (bxc (GSession.cs a2s))), (1407, .box 66 [.mv 1408]), (1408, .mp (mpL mk_map_loophole_stretch_int mv_map_loophole_stretch_int l19_2))]⟩ krf ?_
        refine sim_run Try.fm ⟨[2, 9, 10, 13], [9, 1403, 1404, 1405, 1407, 1408], [], []⟩ ⟨[(2, .ptr 1407 0), (9, .ptr 9 0), (10, I r22.1.Total), (13, I r22.2)], [(9, .box 68 [I a2s.From, I l19_1]), (1403, .box 34 (bxc (GTariff.cs a0t))), (1404, .box 38 (bxc (GCalendar.cs a1c))), (1405, .box 24 (bxc (GSession.cs a2s))), (1407, .box 66 [.mv 1408]), (1408, .mp (mpL mk_map_loophole_stretch_int mv_map_loophole_stretch_int l19_2))]⟩ krf ?_
        refine sim_seq ?_
        refine sim_run Try.fm ⟨[2, 9, 10, 38], [9, 1403, 1404, 1405, 1407, 1408], [], []⟩ ⟨[(2, .ptr 1407 0), (9, .ptr 9 0), (10, I r22.1.Total), (38, B (!eqI r22.2 0))], [(9, .box 68 [I a2s.From, I l19_1]), (1403, .box 34 (bxc (GTariff.cs a0t))), (1404, .box 38 (bxc (GCalendar.cs a1c))), (1405, .box 24 (bxc (GSession.cs a2s))), (1407, .box 66 [.mv 1408]), (1408, .mp (mpL mk_map_loophole_stretch_int mv_map_loophole_stretch_int l19_2))]⟩ krf ?_
        refine sim_cond (!eqI r22.2 0) krf ?_ ?_
        ·refine sim_last Try.fm krf ?_
         refine sq_nk ⟨[2, 9, 10], [9, 1403, 1404, 1405, 1407, 1408], [], []⟩ ⟨[(2, .ptr 1407 0), (9, .ptr 9 0), (10, I 1000000001)], [(9, .box 68 [I a2s.From, I l19_1]), (1403, .box 34 (bxc (GTariff.cs a0t))), (1404, .box 38 (bxc (GCalendar.cs a1c))), (1405, .box 24 (bxc (GSession.cs a2s))), (1407, .box 66 [.mv 1408]), (1408, .mp (mpL mk_map_loophole_stretch_int mv_map_loophole_stretch_int l19_2))]⟩ krf ?_
         refine sim_reg ?_
         refine xs_run 3 krf ?_
         refine xs_u krf krf (aop_mset (kt := 68) (e := 3) (ke := mk_map_loophole_stretch_int) (ve := mv_map_loophole_stretch_int) (eq := me_map_loophole_stretch_int) (b := 1408) (m := l19_2) (k := (⟨a2s.From, l19_1⟩ : GLoopholeStretch)) (v := 1000000001) rfl krf krf krf krf krf krf (fun _ => by kernel_rfl) (fun _ _ => (eqV2_eq _ _ _ _ _).symm.trans krf)) ?_
         refine xs_end ?_
         exact nq_n (1000000001, mset me_map_loophole_stretch_int (⟨a2s.From, l19_1⟩ : GLoopholeStretch) 1000000001 l19_2) ⟨[10], [1403, 1404, 1405, 1407, 1408], [], []⟩ krf
        ·refine sim_skip ?_
         refine sq_nk ⟨[2, 9, 10], [9, 1403, 1404, 1405, 1407, 1408], [], []⟩ ⟨[(2, .ptr 1407 0), (9, .ptr 9 0), (10, I r22.1.Total)], [(9, .box 68 [I a2s.From, I l19_1]), (1403, .box 34 (bxc (GTariff.cs a0t))), (1404, .box 38 (bxc (GCalendar.cs a1c))), (1405, .box 24 (bxc (GSession.cs a2s))), (1407, .box 66 [.mv 1408]), (1408, .mp (mpL mk_map_loophole_stretch_int mv_map_loophole_stretch_int l19_2))]⟩ krf ?_
         refine sim_reg ?_
         refine xs_run 3 krf ?_
         refine xs_u krf krf (aop_mset (kt := 68) (e := 3) (ke := mk_map_loophole_stretch_int) (ve := mv_map_loophole_stretch_int) (eq := me_map_loophole_stretch_int) (b := 1408) (m := l19_2) (k := (⟨a2s.From, l19_1⟩ : GLoopholeStretch)) (v := r22.1.Total) rfl krf krf krf krf krf krf (fun _ => by kernel_rfl) (fun _ _ => (eqV2_eq _ _ _ _ _).symm.trans krf)) ?_
         refine xs_end ?_
         exact nq_n (r22.1.Total, mset me_map_loophole_stretch_int (⟨a2s.From, l19_1⟩ : GLoopholeStretch) r22.1.Total l19_2) ⟨[10], [1403, 1404, 1405, 1407, 1408], [], []⟩ krf
       ·refine sim_skip ?_
        exact nq_n (mgetD me_map_loophole_stretch_int (⟨a2s.From, l19_1⟩ : GLoopholeStretch) 0 l19_2, l19_2) ⟨[10], [1403, 1404, 1405, 1407, 1408], [], []⟩ krf
      ·rintro ⟨j20_1, j20_2⟩
       refine sim_run Try.fm ⟨[8], [1403, 1404, 1405, 1407, 1408], [], []⟩ ⟨[(8, I j20_1)], [(1403, .box 34 (bxc (GTariff.cs a0t))), (1404, .box 38 (bxc (GCalendar.cs a1c))), (1405, .box 24 (bxc (GSession.cs a2s))), (1407, .box 66 [.mv 1408]), (1408, .mp (mpL mk_map_loophole_stretch_int mv_map_loophole_stretch_int j20_2))]⟩ krf ?_
       refine sim_ret ?_
       refine iq_ret .id [1403, 1404, 1405, 1407, 1408] [] (I j20_1) krf krf ?_
       refine kh [5, 6, 7, 8, 11] krf (lates_cons (late_move krf) (lates_cons (late_move krf) (lates_cons (late_read (.ptr 6 1) krf rfl) (lates_cons (late_read (I a2s.To) krf rfl) (lates_cons (late_move krf) (lates_nil)))))) krf ?_
       refine h_enter (f := 29) (args := [I l19_1, I a2s.To, .ptr 407 0, .ptr 403 0, .ptr 404 0, .ptr 405 0]) (dst := some 71) krf krf ?_
       refine sc_inline (hc := [(1403, .box 34 (bxc (GTariff.cs a0t))), (1404, .box 38 (bxc (GCalendar.cs a1c))), (1405, .box 24 (bxc (GSession.cs a2s))), (1407, .box 66 [.mv 1408]), (1408, .mp (mpL mk_map_loophole_stretch_int mv_map_loophole_stretch_int j20_2))]) (args' := [I l19_1, I a2s.To, .ptr 1407 0, .ptr 1403 0, .ptr 1404 0, .ptr 1405 0]) [(1403, 403), (1404, 404), (1405, 405), (1407, 407), (1408, 408)] [] [] Try.func29 rfl Try.ntmps29 rfl krf krf krf ?_
       refine sim_run Try.fm ⟨[0, 1, 2, 3, 4, 5], [1403, 1404, 1405, 1407, 1408], [], []⟩ ⟨[(0, I l19_1), (1, I a2s.To), (2, .ptr 1407 0), (3, .ptr 1403 0), (4, .ptr 1404 0), (5, .ptr 1405 0)], [(1403, .box 34 (bxc (GTariff.cs a0t))), (1404, .box 38 (bxc (GCalendar.cs a1c))), (1405, .box 24 (bxc (GSession.cs a2s))), (1407, .box 66 [.mv 1408]), (1408, .mp (mpL mk_map_loophole_stretch_int mv_map_loophole_stretch_int j20_2))]⟩ krf ?_
       refine sim_run Try.fm ⟨[0, 1, 2, 3, 4, 5, 9], [9, 1403, 1404, 1405, 1407, 1408], [], []⟩ ⟨[(0, I l19_1), (1, I a2s.To), (2, .ptr 1407 0), (3, .ptr 1403 0), (4, .ptr 1404 0), (5, .ptr 1405 0), (9, .ptr 9 0)], [(9, .box 68 [I l19_1, I a2s.To]), (1403, .box 34 (bxc (GTariff.cs a0t))), (1404, .box 38 (bxc (GCalendar.cs a1c))), (1405, .box 24 (bxc (GSession.cs a2s))), (1407, .box 66 [.mv 1408]), (1408, .mp (mpL mk_map_loophole_stretch_int mv_map_loophole_stretch_int j20_2))]⟩ krf ?_
       refine sim_seq ?_
       refine sim_reg ?_
       refine xs_run 2 krf ?_
       refine xs_u krf krf (aop_look (kt := 68) (e := 3) (ke := mk_map_loophole_stretch_int) (ve := mv_map_loophole_stretch_int) (eq := me_map_loophole_stretch_int) (b := 1408) (m := j20_2) (k := (⟨l19_1, a2s.To⟩ : GLoopholeStretch)) (z0 := 0) rfl krf krf krf krf krf (fun _ => by kernel_rfl) (fun _ _ => (eqV2_eq _ _ _ _ _).symm.trans krf) krf) ?_
       refine xs_run 5 krf ?_
       refine xs_end ?_
       refine sq_nk ⟨[0, 1, 2, 3, 4, 5, 9, 10, 11], [9, 1403, 1404, 1405, 1407, 1408], [], []⟩ ⟨[(0, I l19_1), (1, I a2s.To), (2, .ptr 1407 0), (3, .ptr 1403 0), (4, .ptr 1404 0), (5, .ptr 1405 0), (9, .ptr 9 0), (10, I (mgetD me_map_loophole_stretch_int (⟨l19_1, a2s.To⟩ : GLoopholeStretch) 0 j20_2)), (11, B (mhas me_map_loophole_stretch_int (⟨l19_1, a2s.To⟩ : GLoopholeStretch) j20_2))], [(9, .box 68 [I l19_1, I a2s.To]), (1403, .box 34 (bxc (GTariff.cs a0t))), (1404, .box 38 (bxc (GCalendar.cs a1c))), (1405, .box 24 (bxc (GSession.cs a2s))), (1407, .box 66 [.mv 1408]), (1408, .mp (mpL mk_map_loophole_stretch_int mv_map_loophole_stretch_int j20_2))]⟩ krf ?_
       refine sim_bind (fun (j23_1, j23_2) => ⟨[(10, I j23_1)], [(1403, .box 34 (bxc (GTariff.cs a0t))), (1404, .box 38 (bxc (GCalendar.cs a1c))), (1405, .box 24 (bxc (GSession.cs a2s))), (1407, .box 66 [.mv 1408]), (1408, .mp (mpL mk_map_loophole_stretch_int mv_map_loophole_stretch_int j23_2))]⟩ : (Int × (List (GLoopholeStretch × Int))) → St) ?_ ?_
       ·refine sim_run Try.fm ⟨[0, 1, 2, 3, 4, 5, 9, 10, 24], [9, 1403, 1404, 1405, 1407, 1408], [], []⟩ ⟨[(0, I l19_1), (1, I a2s.To), (2, .ptr 1407 0), (3, .ptr 1403 0), (4, .ptr 1404 0), (5, .ptr 1405 0), (9, .ptr 9 0), (10, I (mgetD me_map_loophole_stretch_int (⟨l19_1, a2s.To⟩ : GLoopholeStretch) 0 j20_2)), (24, B (!(mhas me_map_loophole_stretch_int (⟨l19_1, a2s.To⟩ : GLoopholeStretch) j20_2)))], [(9, .box 68 [I l19_1, I a2s.To]), (1403, .box 34 (bxc (GTariff.cs a0t))), (1404, .box 38 (bxc (GCalendar.cs a1c))), (1405, .box 24 (bxc (GSession.cs a2s))), (1407, .box 66 [.mv 1408]), (1408, .mp (mpL mk_map_loophole_stretch_int mv_map_loophole_stretch_int j20_2))]⟩ krf ?_
        refine sim_cond (!(mhas me_map_loophole_stretch_int (⟨l19_1, a2s.To⟩ : GLoopholeStretch) j20_2)) krf ?_ ?_
        ·refine sim_seq ?_
         refine sim_drw Try.fm rfl ?_
         refine xs_run 5 krf ?_
         refine xs_call [] krf (g_loophole_part_ok n a2s l19_1 a2s.To) krf krf (fun _ => by kernel_rfl) (fun r24 => ?_)
         refine xs_call [] krf (g_bill_Bill_ok n a0t a1c r24) krf krf (fun _ => by kernel_rfl) (fun r25 => ?_)
         refine xs_run 6 krf ?_
         refine xs_endD krf ?_
         refine sq_nk ⟨[2, 9, 12, 13], [9, 12, 1403, 1404, 1405, 1407, 1408], [], []⟩ ⟨[(2, .ptr 1407 0), (9, .ptr 9 0), (12, .ptr 12 0), (13, I r25.2)], [(9, .box 68 [I l19_1, I a2s.To]), (12, .box 62 (bxc (GBill.cs r25.1))), (1403, .box 34 (bxc (GTariff.cs a0t))), (1404, .box 38 (bxc (GCalendar.cs a1c))), (1405, .box 24 (bxc (GSession.cs a2s))), (1407, .box 66 [.mv 1408]), (1408, .mp (mpL mk_map_loophole_stretch_int mv_map_loophole_stretch_int j20_2))]⟩ krf ?_
         refine sim_run Try.fm ⟨[2, 9, 10, 13], [9, 1403, 1404, 1405, 1407, 1408], [], []⟩ ⟨[(2, .ptr 1407 0), (9, .ptr 9 0), (10, I r25.1.Total), (13, I r25.2)], [(9, .box 68 [I l19_1, I a2s.To]), (1403, .box 34 (bxc (GTariff.cs a0t))), (1404, .box 38 (bxc (GCalendar.cs a1c))), (1405, .box 24 (bxc (GSession.cs a2s))), (1407, .box 66 [.mv 1408]), (1408, .mp (mpL mk_map_loophole_stretch_int mv_map_loophole_stretch_int j20_2))]⟩ krf ?_
         refine sim_seq ?_
         refine sim_run Try.fm ⟨[2, 9, 10, 38], [9, 1403, 1404, 1405, 1407, 1408], [], []⟩ ⟨[(2, .ptr 1407 0), (9, .ptr 9 0), (10, I r25.1.Total), (38, B (!eqI r25.2 0))], [(9, .box 68 [I l19_1, I a2s.To]), (1403, .box 34 (bxc (GTariff.cs a0t))), (1404, .box 38 (bxc (GCalendar.cs a1c))), (1405, .box 24 (bxc (GSession.cs a2s))), (1407, .box 66 [.mv 1408]), (1408, .mp (mpL mk_map_loophole_stretch_int mv_map_loophole_stretch_int j20_2))]⟩ krf ?_
         refine sim_cond (!eqI r25.2 0) krf ?_ ?_
         ·refine sim_last Try.fm krf ?_
          refine sq_nk ⟨[2, 9, 10], [9, 1403, 1404, 1405, 1407, 1408], [], []⟩ ⟨[(2, .ptr 1407 0), (9, .ptr 9 0), (10, I 1000000001)], [(9, .box 68 [I l19_1, I a2s.To]), (1403, .box 34 (bxc (GTariff.cs a0t))), (1404, .box 38 (bxc (GCalendar.cs a1c))), (1405, .box 24 (bxc (GSession.cs a2s))), (1407, .box 66 [.mv 1408]), (1408, .mp (mpL mk_map_loophole_stretch_int mv_map_loophole_stretch_int j20_2))]⟩ krf ?_
          refine sim_reg ?_
          refine xs_run 3 krf ?_
          refine xs_u krf krf (aop_mset (kt := 68) (e := 3) (ke := mk_map_loophole_stretch_int) (ve := mv_map_loophole_stretch_int) (eq := me_map_loophole_stretch_int) (b := 1408) (m := j20_2) (k := (⟨l19_1, a2s.To⟩ : GLoopholeStretch)) (v := 1000000001) rfl krf krf krf krf krf krf (fun _ => by kernel_rfl) (fun _ _ => (eqV2_eq _ _ _ _ _).symm.trans krf)) ?_
          refine xs_end ?_
          exact nq_n (1000000001, mset me_map_loophole_stretch_int (⟨l19_1, a2s.To⟩ : GLoopholeStretch) 1000000001 j20_2) ⟨[10], [1403, 1404, 1405, 1407, 1408], [], []⟩ krf
         ·refine sim_skip ?_
          refine sq_nk ⟨[2, 9, 10], [9, 1403, 1404, 1405, 1407, 1408], [], []⟩ ⟨[(2, .ptr 1407 0), (9, .ptr 9 0), (10, I r25.1.Total)], [(9, .box 68 [I l19_1, I a2s.To]), (1403, .box 34 (bxc (GTariff.cs a0t))), (1404, .box 38 (bxc (GCalendar.cs a1c))), (1405, .box 24 (bxc (GSession.cs a2s))), (1407, .box 66 [.mv 1408]), (1408, .mp (mpL mk_map_loophole_stretch_int mv_map_loophole_stretch_int j20_2))]⟩ krf ?_
          refine sim_reg ?_
          refine xs_run 3 krf ?_
          refine xs_u krf krf (aop_mset (kt := 68) (e := 3) (ke := mk_map_loophole_stretch_int) (ve := mv_map_loophole_stretch_int) (eq := me_map_loophole_stretch_int) (b := 1408) (m := j20_2) (k := (⟨l19_1, a2s.To⟩ : GLoopholeStretch)) (v := r25.1.Total) rfl krf krf krf krf krf krf (fun _ => by kernel_rfl) (fun _ _ => (eqV2_eq _ _ _ _ _).symm.trans krf)) ?_
          refine xs_end ?_
          exact nq_n (r25.1.Total, mset me_map_loophole_stretch_int (⟨l19_1, a2s.To⟩ : GLoopholeStretch) r25.1.Total j20_2) ⟨[10], [1403, 1404, 1405, 1407, 1408], [], []⟩ krf
        ·refine sim_skip ?_
         exact nq_n (mgetD me_map_loophole_stretch_int (⟨l19_1, a2s.To⟩ : GLoopholeStretch) 0 j20_2, j20_2) ⟨[10], [1403, 1404, 1405, 1407, 1408], [], []⟩ krf
       ·rintro ⟨j23_1, j23_2⟩
        refine sim_run Try.fm ⟨[8], [1403, 1404, 1405, 1407, 1408], [], []⟩ ⟨[(8, I j23_1)], [(1403, .box 34 (bxc (GTariff.cs a0t))), (1404, .box 38 (bxc (GCalendar.cs a1c))), (1405, .box 24 (bxc (GSession.cs a2s))), (1407, .box 66 [.mv 1408]), (1408, .mp (mpL mk_map_loophole_stretch_int mv_map_loophole_stretch_int j23_2))]⟩ krf ?_
        refine sim_ret ?_
        refine iq_ret .id [1403, 1404, 1405, 1407, 1408] [] (I j23_1) krf krf ?_
        refine kh [11] krf (lates_cons (late_move krf) (lates_nil)) krf ?_
        refine h_op [11] krf krf (lates_cons (late_move krf) (lates_nil)) ?_
        refine h_op [] krf krf (lates_nil) ?_
        refine h_end ?_
        refine sq_nk ⟨[3, 6, 11, 13, 14, 74], [6, 403, 404, 405, 407, 408], [], []⟩ ⟨[(3, I a3most), (6, .ptr 6 0), (11, I r6.1), (13, .fn (.func 29) [] [.ptr 407 0, .ptr 403 0, .ptr 404 0, .ptr 405 0]), (14, I l19_1), (74, B (ltI (wi (j20_1 + j23_1)) r6.1))], [(6, .box 24 (bxc (GSession.cs a2s))), (403, .box 34 (bxc (GTariff.cs a0t))), (404, .box 38 (bxc (GCalendar.cs a1c))), (405, .box 24 (bxc (GSession.cs a2s))), (407, .box 66 [.mv 408]), (408, .mp (mpL mk_map_loophole_stretch_int mv_map_loophole_stretch_int j23_2))]⟩ krf ?_
        refine sim_cond (ltI (wi (j20_1 + j23_1)) r6.1) krf ?_ ?_
        ·refine sim_run Try.fm ⟨[8, 9, 10], [76], [], []⟩ ⟨[(8, .tsl 1 (List.map ci [l19_1]) 76), (9, B true), (10, I 0)], [(76, .arr 3 1 (List.map ci [l19_1]).length)]⟩ krf ?_
         refine sim_ret ?_
         refine bq_r ?_
         refine sq_r ?_
         refine kq_r ?_
         refine bq_r ?_
         refine kq_r ?_
         exact rq_ret (.agg [.sl 1, .id, .id]) krf krf krf
        ·refine sim_skip ?_
         refine bq_n ?_
         refine sq_nk ⟨[3, 6, 11, 13, 14], [6, 403, 404, 405, 407, 408], [], []⟩ ⟨[(3, I a3most), (6, .ptr 6 0), (11, I r6.1), (13, .fn (.func 29) [] [.ptr 407 0, .ptr 403 0, .ptr 404 0, .ptr 405 0]), (14, I l19_1)], [(6, .box 24 (bxc (GSession.cs a2s))), (403, .box 34 (bxc (GTariff.cs a0t))), (404, .box 38 (bxc (GCalendar.cs a1c))), (405, .box 24 (bxc (GSession.cs a2s))), (407, .box 66 [.mv 408]), (408, .mp (mpL mk_map_loophole_stretch_int mv_map_loophole_stretch_int j23_2))]⟩ krf ?_
         refine sim_last Try.fm krf ?_
         exact kq_n (wi (l19_1 + 1), j23_2) ⟨[3, 6, 11, 13, 14], [6, 403, 404, 405, 407, 408], [], []⟩ krf
     ·refine sim_exit ?_
      refine sq_x ?_
      refine kq_x ?_
      refine bq_hit ?_
      exact kq_n (k := fun j7 => g_loophole_Find_j7 n a0t a1c a2s a3most r6 j7) l19_2 ⟨[3, 6, 11, 13], [6, 403, 404, 405, 407, 408], [], []⟩ krf
def g_loophole_Split (n : Nat) (a0s : GSession) (a1minute : Int) : Option (GSession × GSession × Int) :=
 ((g_bill_Valid n a0s).bind fun r2 =>
 cond (!r2)
  (some true)
  (cond (leI a1minute a0s.From)
   (some true)
   (some (leI a0s.To a1minute)))).bind fun j1 =>
 cond j1
  (some ((⟨0, 0, 0, []⟩ : GSession), (⟨0, 0, 0, []⟩ : GSession), 1))
  ((g_loophole_part n a0s a0s.From a1minute).bind fun r5 =>
  (g_loophole_part n a0s a1minute a0s.To).bind fun r6 =>
  some (r5, r6, 0))
theorem g_loophole_Split_ok (n : Nat) (a0s : GSession) (a1minute : Int) : ∀ r, g_loophole_Split n a0s a1minute = some r → PCall Try.prog 11 [ag (GSession.cs a0s), I a1minute] (.ret (.tup [ag (GSession.cs r.1), ag (GSession.cs r.2.1), I r.2.2])) := by
 refine pcall_sim (X := fun r : GSession × GSession × Int => AEnd.ret (.tup [ag (GSession.cs r.1), ag (GSession.cs r.2.1), I r.2.2])) Try.func11 rfl Try.ntmps11 rfl ?_
 unfold g_loophole_Split
 refine sim_run Try.fm ⟨[1, 2, 4, 5], [2, 4, 5], [], []⟩ ⟨[(1, I a1minute), (2, .ptr 2 0), (4, .ptr 4 0), (5, .ptr 5 0)], [(2, .box 24 (bxc (GSession.cs a0s))), (4, .box 24 [I 0, I 0, I 0, .p (.val (.slice none 0 0))]), (5, .box 24 [I 0, I 0, I 0, .p (.val (.slice none 0 0))])]⟩ krf ?_
 refine sim_seq ?_
 refine sim_bind (fun j1 => ⟨[(1, I a1minute), (2, .ptr 2 0), (4, .ptr 4 0), (5, .ptr 5 0), (21, B j1)], [(2, .box 24 (bxc (GSession.cs a0s))), (4, .box 24 [I 0, I 0, I 0, .p (.val (.slice none 0 0))]), (5, .box 24 [I 0, I 0, I 0, .p (.val (.slice none 0 0))])]⟩ : Bool → St) ?_ ?_
 ·refine sim_reg ?_
  refine xs_run 1 krf ?_
  refine xs_call [] krf (g_bill_Valid_ok n a0s) krf krf (fun _ => by kernel_rfl) (fun r2 => ?_)
  refine xs_run 2 krf ?_
  refine xs_split (!r2) (fun h3 => ?_) (fun h3 => ?_)
  ·refine xs_no (want_ft krf h3) krf ?_
   refine xs_run 10 krf ?_
   refine xs_end ?_
   exact nq_n true ⟨[1, 2, 4, 5, 21], [2, 4, 5], [], []⟩ krf
  ·refine xs_one (want_ff krf h3) krf ?_
   refine xs_run 5 krf ?_
   refine xs_split (leI a1minute a0s.From) (fun h4 => ?_) (fun h4 => ?_)
   ·refine xs_no (want_ft krf h4) krf ?_
    refine xs_run 4 krf ?_
    refine xs_end ?_
    exact nq_n true ⟨[1, 2, 4, 5, 21], [2, 4, 5], [], []⟩ krf
   ·refine xs_one (want_ff krf h4) krf ?_
    refine xs_run 4 krf ?_
    refine xs_end ?_
    exact nq_n (leI a0s.To a1minute) ⟨[1, 2, 4, 5, 21], [2, 4, 5], [], []⟩ krf
 ·rintro j1
  refine sim_cond j1 krf ?_ ?_
  ·refine sim_run Try.fm ⟨[4, 5, 6], [4, 5], [], []⟩ ⟨[(4, .ptr 4 0), (5, .ptr 5 0), (6, I 1)], [(4, .box 24 [I 0, I 0, I 0, .p (.val (.slice none 0 0))]), (5, .box 24 [I 0, I 0, I 0, .p (.val (.slice none 0 0))])]⟩ krf ?_
   refine sim_ret ?_
   refine sq_r ?_
   exact rq_ret (.agg [.agg [.id, .id, .id, .sl 2], .agg [.id, .id, .id, .sl 2], .id]) krf krf krf
  ·refine sim_skip ?_
   refine sq_nk ⟨[1, 2, 4, 5], [2, 4, 5], [], []⟩ ⟨[(1, I a1minute), (2, .ptr 2 0), (4, .ptr 4 0), (5, .ptr 5 0)], [(2, .box 24 (bxc (GSession.cs a0s))), (4, .box 24 [I 0, I 0, I 0, .p (.val (.slice none 0 0))]), (5, .box 24 [I 0, I 0, I 0, .p (.val (.slice none 0 0))])]⟩ krf ?_
   refine sim_seq ?_
   refine sim_drw Try.fm rfl ?_
   refine xs_run 4 krf ?_
   refine xs_call [] krf (g_loophole_part_ok n a0s a0s.From a1minute) krf krf (fun _ => by kernel_rfl) (fun r5 => ?_)
   refine xs_run 4 krf ?_
   refine xs_call [] krf (g_loophole_part_ok n a0s a1minute a0s.To) krf krf (fun _ => by kernel_rfl) (fun r6 => ?_)
   refine xs_run 3 krf ?_
   refine xs_endD krf ?_
   refine sq_nk ⟨[4, 5, 6], [4, 5], [], []⟩ ⟨[(4, .ptr 4 0), (5, .ptr 5 0), (6, I 0)], [(4, .box 24 (bxc (GSession.cs r5))), (5, .box 24 (bxc (GSession.cs r6)))]⟩ krf ?_
   refine sim_ret ?_
   exact rq_ret (.id) krf krf krf
def g_ref34_Ints_l1 (a0a : List Int) (a1b : List Int) (recl1 : Int → Option Bool) (l1 : Int) : Option Bool :=
 cond (ltI l1 (lenI (List.map ci a0a)))
  ((getI a0a l1).bind fun x2 =>
  (getI a1b l1).bind fun x3 =>
  cond (!eqI x2 x3)
   (some false)
   (recl1 (wi (l1 + 1))))
  (some true)
def g_ref34_Ints (n : Nat) (a0a : List Int) (a1b : List Int) : Option Bool :=
 cond (!eqI (lenI (List.map ci a0a)) (lenI (List.map ci a1b)))
  (some false)
  (loopN (fun recl1 l1 => g_ref34_Ints_l1 a0a a1b recl1 l1) n 0)
theorem g_ref34_Ints_ok (n : Nat) (a0a : List Int) (a1b : List Int) : ∀ r, g_ref34_Ints n a0a a1b = some r → PCall Try.prog 20 [.p (.sl 1 (List.map ci a0a)), .p (.sl 1 (List.map ci a1b))] (.ret (B r)) := by
 refine pcall_sim (X := fun r : Bool => AEnd.ret (B r)) Try.func20 rfl Try.ntmps20 rfl ?_
 unfold g_ref34_Ints
 refine sim_run Try.fm ⟨[0, 1], [], [], []⟩ ⟨[(0, .p (.sl 1 (List.map ci a0a))), (1, .p (.sl 1 (List.map ci a1b)))], []⟩ krf ?_
 refine sim_seq ?_
 refine sim_run Try.fm ⟨[0, 1, 10], [], [], []⟩ ⟨[(0, .p (.sl 1 (List.map ci a0a))), (1, .p (.sl 1 (List.map ci a1b))), (10, B (!eqI (lenI (List.map ci a0a)) (lenI (List.map ci a1b))))], []⟩ krf ?_
 refine sim_cond (!eqI (lenI (List.map ci a0a)) (lenI (List.map ci a1b))) krf ?_ ?_
 ·refine sim_run Try.fm ⟨[4], [], [], []⟩ ⟨[(4, B false)], []⟩ krf ?_
  refine sim_ret ?_
  refine sq_r ?_
  exact rq_ret (.id) krf krf krf
 ·refine sim_skip ?_
  refine sq_nk ⟨[0, 1], [], [], []⟩ ⟨[(0, .p (.sl 1 (List.map ci a0a))), (1, .p (.sl 1 (List.map ci a1b)))], []⟩ krf ?_
  refine sim_seq ?_
  refine sim_run Try.fm ⟨[0, 1, 5], [], [], []⟩ ⟨[(0, .p (.sl 1 (List.map ci a0a))), (1, .p (.sl 1 (List.map ci a1b))), (5, I 0)], []⟩ krf ?_
  refine sim_block ?_
  refine sim_loop (fun l1 => ⟨[(0, .p (.sl 1 (List.map ci a0a))), (1, .p (.sl 1 (List.map ci a1b))), (5, I l1)], []⟩ : Int → St) (weak_shr (K := ⟨[0, 1, 5], [], [], []⟩) krf) ?_
  rintro recl1 l1
  show SimE (g_ref34_Ints_l1 a0a a1b recl1 l1) _ _ _ _ _ _
  unfold g_ref34_Ints_l1
  refine sim_seq ?_
  refine sim_run Try.fm ⟨[0, 1, 5, 14], [], [], []⟩ ⟨[(0, .p (.sl 1 (List.map ci a0a))), (1, .p (.sl 1 (List.map ci a1b))), (5, I l1), (14, B (ltI l1 (lenI (List.map ci a0a))))], []⟩ krf ?_
  refine sim_cond (ltI l1 (lenI (List.map ci a0a))) krf ?_ ?_
  ·refine sim_skip ?_
   refine sq_nk ⟨[0, 1, 5], [], [], []⟩ ⟨[(0, .p (.sl 1 (List.map ci a0a))), (1, .p (.sl 1 (List.map ci a1b))), (5, I l1)], []⟩ krf ?_
   refine sim_seq ?_
   refine sim_block ?_
   refine sim_seq ?_
   refine sim_drw Try.fm rfl ?_
   refine xs_run 2 krf ?_
   refine xs_get krf krf (aop_idx (e := 3) (S := 1) (enc := ci) (l := a0a) (k := .i64) (n := l1) (sv := .p (.sl 1 (List.map ci a0a))) rfl krf krf krf krf krf) (fun x2 => ?_)
   refine xs_run 3 krf ?_
   refine xs_get krf krf (aop_idx (e := 3) (S := 1) (enc := ci) (l := a1b) (k := .i64) (n := l1) (sv := .p (.sl 1 (List.map ci a1b))) rfl krf krf krf krf krf) (fun x3 => ?_)
   refine xs_run 2 krf ?_
   refine xs_endD krf ?_
   refine sq_nk ⟨[0, 1, 5, 25], [], [], []⟩ ⟨[(0, .p (.sl 1 (List.map ci a0a))), (1, .p (.sl 1 (List.map ci a1b))), (5, I l1), (25, B (!eqI x2 x3))], []⟩ krf ?_
   refine sim_cond (!eqI x2 x3) krf ?_ ?_
   ·refine sim_run Try.fm ⟨[4], [], [], []⟩ ⟨[(4, B false)], []⟩ krf ?_
    refine sim_ret ?_
    refine bq_r ?_
    refine sq_r ?_
    refine kq_r ?_
    refine bq_r ?_
    refine sq_r ?_
    exact rq_ret (.id) krf krf krf
   ·refine sim_skip ?_
    refine bq_n ?_
    refine sq_nk ⟨[0, 1, 5], [], [], []⟩ ⟨[(0, .p (.sl 1 (List.map ci a0a))), (1, .p (.sl 1 (List.map ci a1b))), (5, I l1)], []⟩ krf ?_
    refine sim_last Try.fm krf ?_
    exact kq_n (wi (l1 + 1)) ⟨[0, 1, 5], [], [], []⟩ krf
  ·refine sim_exit ?_
   refine sq_x ?_
   refine kq_x ?_
   refine bq_hit ?_
   refine sq_nk ⟨[], [], [], []⟩ ⟨[], []⟩ krf ?_
   refine sim_run Try.fm ⟨[4], [], [], []⟩ ⟨[(4, B true)], []⟩ krf ?_
   refine sim_ret ?_
   exact rq_ret (.id) krf krf krf
def g_ref34_Same_l5 (a0a : GSession) (a1b : GSession) (recl5 : Int → Option Bool) (l5 : Int) : Option Bool :=
 cond (ltI l5 (lenI (List.map GSlice.cs a0a.Slices)))
  ((getI a0a.Slices l5).bind fun x6 =>
  (getI a1b.Slices l5).bind fun x7 =>
  cond (!opq ((eqI x6.Minute x7.Minute) && ((eqI x6.Energy x7.Energy) && true)))
   (some false)
   (recl5 (wi (l5 + 1))))
  (some true)
def g_ref34_Same (n : Nat) (a0a : GSession) (a1b : GSession) : Option Bool :=
 (cond (!eqI a0a.From a1b.From)
  (some true)
  (cond (!eqI a0a.To a1b.To)
   (some true)
   (cond (!eqI a0a.End a1b.End)
    (some true)
    (some (!eqI (lenI (List.map GSlice.cs a0a.Slices)) (lenI (List.map GSlice.cs a1b.Slices))))))).bind fun j1 =>
 cond j1
  (some false)
  (loopN (fun recl5 l5 => g_ref34_Same_l5 a0a a1b recl5 l5) n 0)
theorem g_ref34_Same_ok (n : Nat) (a0a : GSession) (a1b : GSession) : ∀ r, g_ref34_Same n a0a a1b = some r → PCall Try.prog 13 [ag (GSession.cs a0a), ag (GSession.cs a1b)] (.ret (B r)) := by
 refine pcall_sim (X := fun r : Bool => AEnd.ret (B r)) Try.func13 rfl Try.ntmps13 rfl ?_
 unfold g_ref34_Same
 refine sim_run Try.fm ⟨[2, 3], [2, 3], [], []⟩ ⟨[(2, .ptr 2 0), (3, .ptr 3 0)], [(2, .box 24 (bxc (GSession.cs a0a))), (3, .box 24 (bxc (GSession.cs a1b)))]⟩ krf ?_
 refine sim_seq ?_
 refine sim_bind (fun j1 => ⟨[(2, .ptr 2 0), (3, .ptr 3 0), (33, B j1)], [(2, .box 24 (bxc (GSession.cs a0a))), (3, .box 24 (bxc (GSession.cs a1b)))]⟩ : Bool → St) ?_ ?_
 ·refine sim_reg ?_
  refine xs_run 6 krf ?_
  refine xs_split (!eqI a0a.From a1b.From) (fun h2 => ?_) (fun h2 => ?_)
  ·refine xs_no (want_ft krf h2) krf ?_
   refine xs_run 21 krf ?_
   refine xs_end ?_
   exact nq_n true ⟨[2, 3, 33], [2, 3], [], []⟩ krf
  ·refine xs_one (want_ff krf h2) krf ?_
   refine xs_run 6 krf ?_
   refine xs_split (!eqI a0a.To a1b.To) (fun h3 => ?_) (fun h3 => ?_)
   ·refine xs_no (want_ft krf h3) krf ?_
    refine xs_run 14 krf ?_
    refine xs_end ?_
    exact nq_n true ⟨[2, 3, 33], [2, 3], [], []⟩ krf
   ·refine xs_one (want_ff krf h3) krf ?_
    refine xs_run 6 krf ?_
    refine xs_split (!eqI a0a.End a1b.End) (fun h4 => ?_) (fun h4 => ?_)
    ·refine xs_no (want_ft krf h4) krf ?_
     refine xs_run 7 krf ?_
     refine xs_end ?_
     exact nq_n true ⟨[2, 3, 33], [2, 3], [], []⟩ krf
    ·refine xs_one (want_ff krf h4) krf ?_
     refine xs_run 7 krf ?_
     refine xs_end ?_
     exact nq_n (!eqI (lenI (List.map GSlice.cs a0a.Slices)) (lenI (List.map GSlice.cs a1b.Slices))) ⟨[2, 3, 33], [2, 3], [], []⟩ krf
 ·rintro j1
  refine sim_cond j1 krf ?_ ?_
  ·refine sim_run Try.fm ⟨[4], [], [], []⟩ ⟨[(4, B false)], []⟩ krf ?_
   refine sim_ret ?_
   refine sq_r ?_
   exact rq_ret (.id) krf krf krf
  ·refine sim_skip ?_
   refine sq_nk ⟨[2, 3], [2, 3], [], []⟩ ⟨[(2, .ptr 2 0), (3, .ptr 3 0)], [(2, .box 24 (bxc (GSession.cs a0a))), (3, .box 24 (bxc (GSession.cs a1b)))]⟩ krf ?_
   refine sim_seq ?_
   refine sim_run Try.fm ⟨[2, 3, 5], [2, 3], [], []⟩ ⟨[(2, .ptr 2 0), (3, .ptr 3 0), (5, I 0)], [(2, .box 24 (bxc (GSession.cs a0a))), (3, .box 24 (bxc (GSession.cs a1b)))]⟩ krf ?_
   refine sim_block ?_
   refine sim_loop (fun l5 => ⟨[(2, .ptr 2 0), (3, .ptr 3 0), (5, I l5)], [(2, .box 24 (bxc (GSession.cs a0a))), (3, .box 24 (bxc (GSession.cs a1b)))]⟩ : Int → St) (weak_shr (K := ⟨[2, 3, 5], [2, 3], [], []⟩) krf) ?_
   rintro recl5 l5
   show SimE (g_ref34_Same_l5 a0a a1b recl5 l5) _ _ _ _ _ _
   unfold g_ref34_Same_l5
   refine sim_seq ?_
   refine sim_run Try.fm ⟨[2, 3, 5, 38], [2, 3], [], []⟩ ⟨[(2, .ptr 2 0), (3, .ptr 3 0), (5, I l5), (38, B (ltI l5 (lenI (List.map GSlice.cs a0a.Slices))))], [(2, .box 24 (bxc (GSession.cs a0a))), (3, .box 24 (bxc (GSession.cs a1b)))]⟩ krf ?_
   refine sim_cond (ltI l5 (lenI (List.map GSlice.cs a0a.Slices))) krf ?_ ?_
   ·refine sim_skip ?_
    refine sq_nk ⟨[2, 3, 5], [2, 3], [], []⟩ ⟨[(2, .ptr 2 0), (3, .ptr 3 0), (5, I l5)], [(2, .box 24 (bxc (GSession.cs a0a))), (3, .box 24 (bxc (GSession.cs a1b)))]⟩ krf ?_
    refine sim_seq ?_
    refine sim_block ?_
    refine sim_seq ?_
    refine sim_drw Try.fm rfl ?_
    refine xs_run 3 krf ?_
    refine xs_get krf krf (aop_idx (e := 54) (S := 2) (enc := GSlice.cs) (l := a0a.Slices) (k := .i64) (n := l5) (sv := .p (.sl 2 (List.map GSlice.cs a0a.Slices))) rfl krf krf krf krf krf) (fun x6 => ?_)
    refine xs_run 4 krf ?_
    refine xs_get krf krf (aop_idx (e := 54) (S := 2) (enc := GSlice.cs) (l := a1b.Slices) (k := .i64) (n := l5) (sv := .p (.sl 2 (List.map GSlice.cs a1b.Slices))) rfl krf krf krf krf krf) (fun x7 => ?_)
    refine xs_run 1 krf ?_
    refine xs_u krf krf (aop_neq (xs := [I x6.Minute, I x6.Energy]) (ys := [I x7.Minute, I x7.Energy]) (vx := [.int .i64 x6.Minute, .int .i64 x6.Energy]) (vy := [.int .i64 x7.Minute, .int .i64 x7.Energy]) (b := (eqI x6.Minute x7.Minute) && ((eqI x6.Energy x7.Energy) && true)) rfl krf krf krf krf krf krf) ?_
    refine xs_endD krf ?_
    refine sq_nk ⟨[2, 3, 5, 51], [2, 3], [], []⟩ ⟨[(2, .ptr 2 0), (3, .ptr 3 0), (5, I l5), (51, B (!opq ((eqI x6.Minute x7.Minute) && ((eqI x6.Energy x7.Energy) && true))))], [(2, .box 24 (bxc (GSession.cs a0a))), (3, .box 24 (bxc (GSession.cs a1b)))]⟩ krf ?_
    refine sim_cond (!opq ((eqI x6.Minute x7.Minute) && ((eqI x6.Energy x7.Energy) && true))) krf ?_ ?_
    ·refine sim_run Try.fm ⟨[4], [], [], []⟩ ⟨[(4, B false)], []⟩ krf ?_
     refine sim_ret ?_
     refine bq_r ?_
     refine sq_r ?_
     refine kq_r ?_
     refine bq_r ?_
     refine sq_r ?_
     exact rq_ret (.id) krf krf krf
    ·refine sim_skip ?_
     refine bq_n ?_
     refine sq_nk ⟨[2, 3, 5], [2, 3], [], []⟩ ⟨[(2, .ptr 2 0), (3, .ptr 3 0), (5, I l5)], [(2, .box 24 (bxc (GSession.cs a0a))), (3, .box 24 (bxc (GSession.cs a1b)))]⟩ krf ?_
     refine sim_last Try.fm krf ?_
     exact kq_n (wi (l5 + 1)) ⟨[2, 3, 5], [2, 3], [], []⟩ krf
   ·refine sim_exit ?_
    refine sq_x ?_
    refine kq_x ?_
    refine bq_hit ?_
    refine sq_nk ⟨[], [], [], []⟩ ⟨[], []⟩ krf ?_
    refine sim_run Try.fm ⟨[4], [], [], []⟩ ⟨[(4, B true)], []⟩ krf ?_
    refine sim_ret ?_
    exact rq_ret (.id) krf krf krf
def g_law34_head (n : Nat) : Option Bool :=
 (g_law34_always n 3 100 1 10).bind fun r1 =>
 (g_law34_always n 3 100 1 0).bind fun r2 =>
 (g_loophole_Price n (⟨[116], [r1]⟩ : GTariff) (⟨0, [], []⟩ : GCalendar) (⟨0, 25, 20, [(⟨3, 50⟩ : GSlice), (⟨12, 70⟩ : GSlice)]⟩ : GSession) []).bind fun r3 =>
 (g_loophole_Price n (⟨[116], [r1]⟩ : GTariff) (⟨0, [], []⟩ : GCalendar) (⟨0, 25, 20, [(⟨3, 50⟩ : GSlice), (⟨12, 70⟩ : GSlice)]⟩ : GSession) [10]).bind fun r4 =>
 (g_loophole_Find n (⟨[116], [r1]⟩ : GTariff) (⟨0, [], []⟩ : GCalendar) (⟨0, 25, 20, [(⟨3, 50⟩ : GSlice), (⟨12, 70⟩ : GSlice)]⟩ : GSession) 1).bind fun r5 =>
 (g_loophole_Find n (⟨[116], [r2]⟩ : GTariff) (⟨0, [], []⟩ : GCalendar) (⟨0, 25, 20, [(⟨3, 50⟩ : GSlice), (⟨12, 70⟩ : GSlice)]⟩ : GSession) 2).bind fun r6 =>
 (g_loophole_Split n (⟨0, 25, 20, [(⟨3, 50⟩ : GSlice), (⟨12, 70⟩ : GSlice)]⟩ : GSession) 12).bind fun r7 =>
 (g_loophole_Price n (⟨[116], [r1]⟩ : GTariff) (⟨0, [], []⟩ : GCalendar) (⟨0, 25, 20, [(⟨3, 50⟩ : GSlice), (⟨12, 70⟩ : GSlice)]⟩ : GSession) [25]).bind fun r8 =>
 (g_loophole_Find n (⟨[116], [r1]⟩ : GTariff) (⟨0, [], []⟩ : GCalendar) (⟨0, 25, 20, [(⟨3, 50⟩ : GSlice), (⟨12, 70⟩ : GSlice)]⟩ : GSession) 3).bind fun r9 =>
 (cond (eqI r3.2 0)
  (cond (eqI r4.2 0)
   (cond (eqI r5.2.2 0)
    (cond (eqI r6.2.2 0)
     (cond (eqI r7.2.2 0)
      (cond (eqI r8.2 1)
       (cond (eqI r9.2.2 1)
        (cond (eqI r3.1 1500)
         (cond (eqI r4.1 500)
          (cond r5.2.1
           ((g_ref34_Ints n r5.1 [1]).bind fun r21 =>
           cond r21
            (cond (!r6.2.1)
             (cond (eqI (lenI (List.map ci r6.1)) 0)
              (cond (sliceB 0 1 (List.length [(⟨3, 50⟩ : GSlice), (⟨12, 70⟩ : GSlice)])) (
               (g_ref34_Same n r7.1 (⟨0, 12, 12, List.drop (Int.toNat 0) (List.take (Int.toNat 1) [(⟨3, 50⟩ : GSlice), (⟨12, 70⟩ : GSlice)])⟩ : GSession)).bind fun r25 =>
               cond r25
                (cond (sliceB 1 (lenI (List.map GSlice.cs [(⟨3, 50⟩ : GSlice), (⟨12, 70⟩ : GSlice)])) (List.length [(⟨3, 50⟩ : GSlice), (⟨12, 70⟩ : GSlice)])) (
                 (g_ref34_Same n r7.2.1 (⟨12, 25, 20, List.drop (Int.toNat 1) (List.take (Int.toNat (lenI (List.map GSlice.cs [(⟨3, 50⟩ : GSlice), (⟨12, 70⟩ : GSlice)]))) [(⟨3, 50⟩ : GSlice), (⟨12, 70⟩ : GSlice)])⟩ : GSession)).bind fun r27 =>
                 some r27) none)
                (some false)) none)
              (some false))
             (some false))
            (some false))
           (some false))
          (some false))
         (some false))
        (some false))
       (some false))
      (some false))
     (some false))
    (some false))
   (some false))
  (some false)).bind fun j10 =>
 some j10
theorem g_law34_head_ok (n : Nat) : ∀ r, g_law34_head n = some r → PCall Try.prog 10 [] (.ret (B r)) := by
 refine pcall_sim (X := fun r : Bool => AEnd.ret (B r)) Try.func10 rfl Try.ntmps10 rfl ?_
 unfold g_law34_head
 refine sim_run Try.fm ⟨[], [], [], []⟩ ⟨[], []⟩ krf ?_
 refine sim_seq ?_
 refine sim_reg ?_
 refine xs_call [] krf (g_law34_always_ok n 3 100 1 10) krf krf (fun _ => by kernel_rfl) (fun r1 => ?_)
 refine xs_run 4 krf ?_
 refine xs_end ?_
 refine sq_nk ⟨[1], [1, 24], [], []⟩ ⟨[(1, .ptr 1 0)], [(1, .box 34 [S [116], .tsl 7 (List.map GArticle.cs [r1]) 24]), (24, .arr 47 7 (List.map GArticle.cs [r1]).length)]⟩ krf ?_
 refine sim_seq ?_
 refine sim_reg ?_
 refine xs_call [] krf (g_law34_always_ok n 3 100 1 0) krf krf (fun _ => by kernel_rfl) (fun r2 => ?_)
 refine xs_run 4 krf ?_
 refine xs_end ?_
 refine sq_nk ⟨[1, 2], [1, 2, 24, 27], [], []⟩ ⟨[(1, .ptr 1 0), (2, .ptr 2 0)], [(1, .box 34 [S [116], .tsl 7 (List.map GArticle.cs [r1]) 24]), (2, .box 34 [S [116], .tsl 7 (List.map GArticle.cs [r2]) 27]), (24, .arr 47 7 (List.map GArticle.cs [r1]).length), (27, .arr 47 7 (List.map GArticle.cs [r2]).length)]⟩ krf ?_
 refine sim_run Try.fm ⟨[1, 2, 3], [1, 2, 3, 24, 27, 31], [], []⟩ ⟨[(1, .ptr 1 0), (2, .ptr 2 0), (3, .ptr 3 0)], [(1, .box 34 [S [116], .tsl 7 (List.map GArticle.cs [r1]) 24]), (2, .box 34 [S [116], .tsl 7 (List.map GArticle.cs [r2]) 27]), (3, .box 24 [I 0, I 25, I 20, .tsl 2 (List.map GSlice.cs [(⟨3, 50⟩ : GSlice), (⟨12, 70⟩ : GSlice)]) 31]), (24, .arr 47 7 (List.map GArticle.cs [r1]).length), (27, .arr 47 7 (List.map GArticle.cs [r2]).length), (31, .arr 54 2 (List.map GSlice.cs [(⟨3, 50⟩ : GSlice), (⟨12, 70⟩ : GSlice)]).length)]⟩ krf ?_
 refine sim_run Try.fm ⟨[1, 2, 3, 4], [1, 2, 3, 4, 24, 27, 31], [], []⟩ ⟨[(1, .ptr 1 0), (2, .ptr 2 0), (3, .ptr 3 0), (4, .ptr 4 0)], [(1, .box 34 [S [116], .tsl 7 (List.map GArticle.cs [r1]) 24]), (2, .box 34 [S [116], .tsl 7 (List.map GArticle.cs [r2]) 27]), (3, .box 24 [I 0, I 25, I 20, .tsl 2 (List.map GSlice.cs [(⟨3, 50⟩ : GSlice), (⟨12, 70⟩ : GSlice)]) 31]), (4, .box 38 [I 0, .p (.val (.slice none 0 0)), .p (.val (.slice none 0 0))]), (24, .arr 47 7 (List.map GArticle.cs [r1]).length), (27, .arr 47 7 (List.map GArticle.cs [r2]).length), (31, .arr 54 2 (List.map GSlice.cs [(⟨3, 50⟩ : GSlice), (⟨12, 70⟩ : GSlice)]).length)]⟩ krf ?_
 refine sim_seq ?_
 refine sim_reg ?_
 refine xs_run 3 krf ?_
 refine xs_call [.agg [.id, .sl 7], .agg [.id, .sl 2, .sl 1], .agg [.id, .id, .id, .sl 2], .sl 1] krf (g_loophole_Price_ok n (⟨[116], [r1]⟩ : GTariff) (⟨0, [], []⟩ : GCalendar) (⟨0, 25, 20, [(⟨3, 50⟩ : GSlice), (⟨12, 70⟩ : GSlice)]⟩ : GSession) []) krf krf (fun _ => by kernel_rfl) (fun r3 => ?_)
 refine xs_run 5 krf ?_
 refine xs_end ?_
 refine sq_nk ⟨[1, 2, 3, 4, 5, 6], [1, 2, 3, 4, 24, 27, 31], [], []⟩ ⟨[(1, .ptr 1 0), (2, .ptr 2 0), (3, .ptr 3 0), (4, .ptr 4 0), (5, I r3.1), (6, I r3.2)], [(1, .box 34 [S [116], .tsl 7 (List.map GArticle.cs [r1]) 24]), (2, .box 34 [S [116], .tsl 7 (List.map GArticle.cs [r2]) 27]), (3, .box 24 [I 0, I 25, I 20, .tsl 2 (List.map GSlice.cs [(⟨3, 50⟩ : GSlice), (⟨12, 70⟩ : GSlice)]) 31]), (4, .box 38 [I 0, .p (.val (.slice none 0 0)), .p (.val (.slice none 0 0))]), (24, .arr 47 7 (List.map GArticle.cs [r1]).length), (27, .arr 47 7 (List.map GArticle.cs [r2]).length), (31, .arr 54 2 (List.map GSlice.cs [(⟨3, 50⟩ : GSlice), (⟨12, 70⟩ : GSlice)]).length)]⟩ krf ?_
 refine sim_seq ?_
 refine sim_reg ?_
 refine xs_run 4 krf ?_
 refine xs_call [.agg [.id, .sl 7], .agg [.id, .sl 2, .sl 1], .agg [.id, .id, .id, .sl 2], .sl 1] krf (g_loophole_Price_ok n (⟨[116], [r1]⟩ : GTariff) (⟨0, [], []⟩ : GCalendar) (⟨0, 25, 20, [(⟨3, 50⟩ : GSlice), (⟨12, 70⟩ : GSlice)]⟩ : GSession) [10]) krf krf (fun _ => by kernel_rfl) (fun r4 => ?_)
 refine xs_run 5 krf ?_
 refine xs_end ?_
 refine sq_nk ⟨[1, 2, 3, 4, 5, 6, 7, 8], [1, 2, 3, 4, 24, 27, 31], [], []⟩ ⟨[(1, .ptr 1 0), (2, .ptr 2 0), (3, .ptr 3 0), (4, .ptr 4 0), (5, I r3.1), (6, I r3.2), (7, I r4.1), (8, I r4.2)], [(1, .box 34 [S [116], .tsl 7 (List.map GArticle.cs [r1]) 24]), (2, .box 34 [S [116], .tsl 7 (List.map GArticle.cs [r2]) 27]), (3, .box 24 [I 0, I 25, I 20, .tsl 2 (List.map GSlice.cs [(⟨3, 50⟩ : GSlice), (⟨12, 70⟩ : GSlice)]) 31]), (4, .box 38 [I 0, .p (.val (.slice none 0 0)), .p (.val (.slice none 0 0))]), (24, .arr 47 7 (List.map GArticle.cs [r1]).length), (27, .arr 47 7 (List.map GArticle.cs [r2]).length), (31, .arr 54 2 (List.map GSlice.cs [(⟨3, 50⟩ : GSlice), (⟨12, 70⟩ : GSlice)]).length)]⟩ krf ?_
 refine sim_seq ?_
 refine sim_reg ?_
 refine xs_run 3 krf ?_
 refine xs_call [.agg [.id, .sl 7], .agg [.id, .sl 2, .sl 1], .agg [.id, .id, .id, .sl 2], .id] krf (g_loophole_Find_ok n (⟨[116], [r1]⟩ : GTariff) (⟨0, [], []⟩ : GCalendar) (⟨0, 25, 20, [(⟨3, 50⟩ : GSlice), (⟨12, 70⟩ : GSlice)]⟩ : GSession) 1) krf krf (fun _ => by kernel_rfl) (fun r5 => ?_)
 refine xs_run 7 krf ?_
 refine xs_end ?_
 refine sq_nk ⟨[1, 2, 3, 4, 5, 6, 7, 8, 9, 10, 11], [1, 2, 3, 4, 24, 27, 31], [], []⟩ ⟨[(1, .ptr 1 0), (2, .ptr 2 0), (3, .ptr 3 0), (4, .ptr 4 0), (5, I r3.1), (6, I r3.2), (7, I r4.1), (8, I r4.2), (9, .p (.sl 1 (List.map ci r5.1))), (10, B r5.2.1), (11, I r5.2.2)], [(1, .box 34 [S [116], .tsl 7 (List.map GArticle.cs [r1]) 24]), (2, .box 34 [S [116], .tsl 7 (List.map GArticle.cs [r2]) 27]), (3, .box 24 [I 0, I 25, I 20, .tsl 2 (List.map GSlice.cs [(⟨3, 50⟩ : GSlice), (⟨12, 70⟩ : GSlice)]) 31]), (4, .box 38 [I 0, .p (.val (.slice none 0 0)), .p (.val (.slice none 0 0))]), (24, .arr 47 7 (List.map GArticle.cs [r1]).length), (27, .arr 47 7 (List.map GArticle.cs [r2]).length), (31, .arr 54 2 (List.map GSlice.cs [(⟨3, 50⟩ : GSlice), (⟨12, 70⟩ : GSlice)]).length)]⟩ krf ?_
 refine sim_seq ?_
 refine sim_reg ?_
 refine xs_run 3 krf ?_
 refine xs_call [.agg [.id, .sl 7], .agg [.id, .sl 2, .sl 1], .agg [.id, .id, .id, .sl 2], .id] krf (g_loophole_Find_ok n (⟨[116], [r2]⟩ : GTariff) (⟨0, [], []⟩ : GCalendar) (⟨0, 25, 20, [(⟨3, 50⟩ : GSlice), (⟨12, 70⟩ : GSlice)]⟩ : GSession) 2) krf krf (fun _ => by kernel_rfl) (fun r6 => ?_)
 refine xs_run 7 krf ?_
 refine xs_end ?_
 refine sq_nk ⟨[1, 3, 4, 5, 6, 7, 8, 9, 10, 11, 12, 13, 14], [1, 3, 4, 24, 31], [], []⟩ ⟨[(1, .ptr 1 0), (3, .ptr 3 0), (4, .ptr 4 0), (5, I r3.1), (6, I r3.2), (7, I r4.1), (8, I r4.2), (9, .p (.sl 1 (List.map ci r5.1))), (10, B r5.2.1), (11, I r5.2.2), (12, .p (.sl 1 (List.map ci r6.1))), (13, B r6.2.1), (14, I r6.2.2)], [(1, .box 34 [S [116], .tsl 7 (List.map GArticle.cs [r1]) 24]), (3, .box 24 [I 0, I 25, I 20, .tsl 2 (List.map GSlice.cs [(⟨3, 50⟩ : GSlice), (⟨12, 70⟩ : GSlice)]) 31]), (4, .box 38 [I 0, .p (.val (.slice none 0 0)), .p (.val (.slice none 0 0))]), (24, .arr 47 7 (List.map GArticle.cs [r1]).length), (31, .arr 54 2 (List.map GSlice.cs [(⟨3, 50⟩ : GSlice), (⟨12, 70⟩ : GSlice)]).length)]⟩ krf ?_
 refine sim_seq ?_
 refine sim_reg ?_
 refine xs_run 1 krf ?_
 refine xs_call [.agg [.id, .id, .id, .sl 2], .id] krf (g_loophole_Split_ok n (⟨0, 25, 20, [(⟨3, 50⟩ : GSlice), (⟨12, 70⟩ : GSlice)]⟩ : GSession) 12) krf krf (fun _ => by kernel_rfl) (fun r7 => ?_)
 refine xs_run 9 krf ?_
 refine xs_end ?_
 refine sq_nk ⟨[1, 3, 4, 5, 6, 7, 8, 9, 10, 11, 12, 13, 14, 15, 16, 17], [1, 3, 4, 15, 16, 24, 31], [], []⟩ ⟨[(1, .ptr 1 0), (3, .ptr 3 0), (4, .ptr 4 0), (5, I r3.1), (6, I r3.2), (7, I r4.1), (8, I r4.2), (9, .p (.sl 1 (List.map ci r5.1))), (10, B r5.2.1), (11, I r5.2.2), (12, .p (.sl 1 (List.map ci r6.1))), (13, B r6.2.1), (14, I r6.2.2), (15, .ptr 15 0), (16, .ptr 16 0), (17, I r7.2.2)], [(1, .box 34 [S [116], .tsl 7 (List.map GArticle.cs [r1]) 24]), (3, .box 24 [I 0, I 25, I 20, .tsl 2 (List.map GSlice.cs [(⟨3, 50⟩ : GSlice), (⟨12, 70⟩ : GSlice)]) 31]), (4, .box 38 [I 0, .p (.val (.slice none 0 0)), .p (.val (.slice none 0 0))]), (15, .box 24 (bxc (GSession.cs r7.1))), (16, .box 24 (bxc (GSession.cs r7.2.1))), (24, .arr 47 7 (List.map GArticle.cs [r1]).length), (31, .arr 54 2 (List.map GSlice.cs [(⟨3, 50⟩ : GSlice), (⟨12, 70⟩ : GSlice)]).length)]⟩ krf ?_
 refine sim_seq ?_
 refine sim_reg ?_
 refine xs_run 4 krf ?_
 refine xs_call [.agg [.id, .sl 7], .agg [.id, .sl 2, .sl 1], .agg [.id, .id, .id, .sl 2], .sl 1] krf (g_loophole_Price_ok n (⟨[116], [r1]⟩ : GTariff) (⟨0, [], []⟩ : GCalendar) (⟨0, 25, 20, [(⟨3, 50⟩ : GSlice), (⟨12, 70⟩ : GSlice)]⟩ : GSession) [25]) krf krf (fun _ => by kernel_rfl) (fun r8 => ?_)
 refine xs_run 5 krf ?_
 refine xs_end ?_
 refine sq_nk ⟨[1, 3, 4, 5, 6, 7, 8, 9, 10, 11, 12, 13, 14, 15, 16, 17, 19], [1, 3, 4, 15, 16, 24, 31], [], []⟩ ⟨[(1, .ptr 1 0), (3, .ptr 3 0), (4, .ptr 4 0), (5, I r3.1), (6, I r3.2), (7, I r4.1), (8, I r4.2), (9, .p (.sl 1 (List.map ci r5.1))), (10, B r5.2.1), (11, I r5.2.2), (12, .p (.sl 1 (List.map ci r6.1))), (13, B r6.2.1), (14, I r6.2.2), (15, .ptr 15 0), (16, .ptr 16 0), (17, I r7.2.2), (19, I r8.2)], [(1, .box 34 [S [116], .tsl 7 (List.map GArticle.cs [r1]) 24]), (3, .box 24 [I 0, I 25, I 20, .tsl 2 (List.map GSlice.cs [(⟨3, 50⟩ : GSlice), (⟨12, 70⟩ : GSlice)]) 31]), (4, .box 38 [I 0, .p (.val (.slice none 0 0)), .p (.val (.slice none 0 0))]), (15, .box 24 (bxc (GSession.cs r7.1))), (16, .box 24 (bxc (GSession.cs r7.2.1))), (24, .arr 47 7 (List.map GArticle.cs [r1]).length), (31, .arr 54 2 (List.map GSlice.cs [(⟨3, 50⟩ : GSlice), (⟨12, 70⟩ : GSlice)]).length)]⟩ krf ?_
 refine sim_seq ?_
 refine sim_reg ?_
 refine xs_run 3 krf ?_
 refine xs_call [.agg [.id, .sl 7], .agg [.id, .sl 2, .sl 1], .agg [.id, .id, .id, .sl 2], .id] krf (g_loophole_Find_ok n (⟨[116], [r1]⟩ : GTariff) (⟨0, [], []⟩ : GCalendar) (⟨0, 25, 20, [(⟨3, 50⟩ : GSlice), (⟨12, 70⟩ : GSlice)]⟩ : GSession) 3) krf krf (fun _ => by kernel_rfl) (fun r9 => ?_)
 refine xs_run 7 krf ?_
 refine xs_end ?_
 refine sq_nk ⟨[3, 5, 6, 7, 8, 9, 10, 11, 12, 13, 14, 15, 16, 17, 19, 22], [3, 15, 16, 31], [], []⟩ ⟨[(3, .ptr 3 0), (5, I r3.1), (6, I r3.2), (7, I r4.1), (8, I r4.2), (9, .p (.sl 1 (List.map ci r5.1))), (10, B r5.2.1), (11, I r5.2.2), (12, .p (.sl 1 (List.map ci r6.1))), (13, B r6.2.1), (14, I r6.2.2), (15, .ptr 15 0), (16, .ptr 16 0), (17, I r7.2.2), (19, I r8.2), (22, I r9.2.2)], [(3, .box 24 [I 0, I 25, I 20, .tsl 2 (List.map GSlice.cs [(⟨3, 50⟩ : GSlice), (⟨12, 70⟩ : GSlice)]) 31]), (15, .box 24 (bxc (GSession.cs r7.1))), (16, .box 24 (bxc (GSession.cs r7.2.1))), (31, .arr 54 2 (List.map GSlice.cs [(⟨3, 50⟩ : GSlice), (⟨12, 70⟩ : GSlice)]).length)]⟩ krf ?_
 refine sim_bind (fun j10 => ⟨[(0, B j10)], []⟩ : Bool → St) ?_ ?_
 ·refine sim_drw Try.fm rfl ?_
  refine xs_run 3 krf ?_
  refine xs_split (eqI r3.2 0) (fun h11 => ?_) (fun h11 => ?_)
  ·refine xs_one (want_tt krf h11) krf ?_
   refine xs_run 3 krf ?_
   refine xs_split (eqI r4.2 0) (fun h12 => ?_) (fun h12 => ?_)
   ·refine xs_one (want_tt krf h12) krf ?_
    refine xs_run 3 krf ?_
    refine xs_split (eqI r5.2.2 0) (fun h13 => ?_) (fun h13 => ?_)
    ·refine xs_one (want_tt krf h13) krf ?_
     refine xs_run 3 krf ?_
     refine xs_split (eqI r6.2.2 0) (fun h14 => ?_) (fun h14 => ?_)
     ·refine xs_one (want_tt krf h14) krf ?_
      refine xs_run 3 krf ?_
      refine xs_split (eqI r7.2.2 0) (fun h15 => ?_) (fun h15 => ?_)
      ·refine xs_one (want_tt krf h15) krf ?_
       refine xs_run 3 krf ?_
       refine xs_split (eqI r8.2 1) (fun h16 => ?_) (fun h16 => ?_)
       ·refine xs_one (want_tt krf h16) krf ?_
        refine xs_run 3 krf ?_
        refine xs_split (eqI r9.2.2 1) (fun h17 => ?_) (fun h17 => ?_)
        ·refine xs_one (want_tt krf h17) krf ?_
         refine xs_run 3 krf ?_
         refine xs_split (eqI r3.1 1500) (fun h18 => ?_) (fun h18 => ?_)
         ·refine xs_one (want_tt krf h18) krf ?_
          refine xs_run 3 krf ?_
          refine xs_split (eqI r4.1 500) (fun h19 => ?_) (fun h19 => ?_)
          ·refine xs_one (want_tt krf h19) krf ?_
           refine xs_run 2 krf ?_
           refine xs_split r5.2.1 (fun h20 => ?_) (fun h20 => ?_)
           ·refine xs_one (want_tt krf h20) krf ?_
            refine xs_run 1 krf ?_
            refine xs_call [.id, .sl 1] krf (g_ref34_Ints_ok n r5.1 [1]) krf krf (fun _ => by kernel_rfl) (fun r21 => ?_)
            refine xs_run 2 krf ?_
            refine xs_split r21 (fun h22 => ?_) (fun h22 => ?_)
            ·refine xs_one (want_tt krf h22) krf ?_
             refine xs_run 3 krf ?_
             refine xs_split (!r6.2.1) (fun h23 => ?_) (fun h23 => ?_)
             ·refine xs_one (want_tt krf h23) krf ?_
              refine xs_run 4 krf ?_
              refine xs_split (eqI (lenI (List.map ci r6.1)) 0) (fun h24 => ?_) (fun h24 => ?_)
              ·refine xs_one (want_tt krf h24) krf ?_
               refine xs_run 2 krf ?_
               refine xs_if krf krf (aop_slice (e := 54) (S := 2) (enc := GSlice.cs) (l := [(⟨3, 50⟩ : GSlice), (⟨12, 70⟩ : GSlice)]) (sv := .tsl 2 (List.map GSlice.cs [(⟨3, 50⟩ : GSlice), (⟨12, 70⟩ : GSlice)]) 31) (a := 0) (b := 1) rfl krf krf krf krf krf krf) ?_
               refine xs_run 1 krf ?_
               refine xs_call [] krf (g_ref34_Same_ok n r7.1 (⟨0, 12, 12, List.drop (Int.toNat 0) (List.take (Int.toNat 1) [(⟨3, 50⟩ : GSlice), (⟨12, 70⟩ : GSlice)])⟩ : GSession)) krf krf (fun _ => by kernel_rfl) (fun r25 => ?_)
               refine xs_run 2 krf ?_
               refine xs_split r25 (fun h26 => ?_) (fun h26 => ?_)
               ·refine xs_one (want_tt krf h26) krf ?_
                refine xs_run 2 krf ?_
                refine xs_if krf krf (aop_slice (e := 54) (S := 2) (enc := GSlice.cs) (l := [(⟨3, 50⟩ : GSlice), (⟨12, 70⟩ : GSlice)]) (sv := .tsl 2 (List.map GSlice.cs [(⟨3, 50⟩ : GSlice), (⟨12, 70⟩ : GSlice)]) 31) (a := 1) (b := lenI (List.map GSlice.cs [(⟨3, 50⟩ : GSlice), (⟨12, 70⟩ : GSlice)])) rfl krf krf krf krf krf krf) ?_
                refine xs_run 1 krf ?_
                refine xs_call [] krf (g_ref34_Same_ok n r7.2.1 (⟨12, 25, 20, List.drop (Int.toNat 1) (List.take (Int.toNat (lenI (List.map GSlice.cs [(⟨3, 50⟩ : GSlice), (⟨12, 70⟩ : GSlice)]))) [(⟨3, 50⟩ : GSlice), (⟨12, 70⟩ : GSlice)])⟩ : GSession)) krf krf (fun _ => by kernel_rfl) (fun r27 => ?_)
                refine xs_run 2 krf ?_
                refine xs_endD krf ?_
                exact nq_n r27 ⟨[0], [], [], []⟩ krf
               ·refine xs_no (want_tf krf h26) krf ?_
                refine xs_run 7 krf ?_
                refine xs_endD krf ?_
                exact nq_n false ⟨[0], [], [], []⟩ krf
              ·refine xs_no (want_tf krf h24) krf ?_
               refine xs_run 15 krf ?_
               refine xs_endD krf ?_
               exact nq_n false ⟨[0], [], [], []⟩ krf
             ·refine xs_no (want_tf krf h23) krf ?_
              refine xs_run 20 krf ?_
              refine xs_endD krf ?_
              exact nq_n false ⟨[0], [], [], []⟩ krf
            ·refine xs_no (want_tf krf h22) krf ?_
             refine xs_run 24 krf ?_
             refine xs_endD krf ?_
             exact nq_n false ⟨[0], [], [], []⟩ krf
           ·refine xs_no (want_tf krf h20) krf ?_
            refine xs_run 29 krf ?_
            refine xs_endD krf ?_
            exact nq_n false ⟨[0], [], [], []⟩ krf
          ·refine xs_no (want_tf krf h19) krf ?_
           refine xs_run 32 krf ?_
           refine xs_endD krf ?_
           exact nq_n false ⟨[0], [], [], []⟩ krf
         ·refine xs_no (want_tf krf h18) krf ?_
          refine xs_run 36 krf ?_
          refine xs_endD krf ?_
          exact nq_n false ⟨[0], [], [], []⟩ krf
        ·refine xs_no (want_tf krf h17) krf ?_
         refine xs_run 40 krf ?_
         refine xs_endD krf ?_
         exact nq_n false ⟨[0], [], [], []⟩ krf
       ·refine xs_no (want_tf krf h16) krf ?_
        refine xs_run 44 krf ?_
        refine xs_endD krf ?_
        exact nq_n false ⟨[0], [], [], []⟩ krf
      ·refine xs_no (want_tf krf h15) krf ?_
       refine xs_run 48 krf ?_
       refine xs_endD krf ?_
       exact nq_n false ⟨[0], [], [], []⟩ krf
     ·refine xs_no (want_tf krf h14) krf ?_
      refine xs_run 52 krf ?_
      refine xs_endD krf ?_
      exact nq_n false ⟨[0], [], [], []⟩ krf
    ·refine xs_no (want_tf krf h13) krf ?_
     refine xs_run 56 krf ?_
     refine xs_endD krf ?_
     exact nq_n false ⟨[0], [], [], []⟩ krf
   ·refine xs_no (want_tf krf h12) krf ?_
    refine xs_run 60 krf ?_
    refine xs_endD krf ?_
    exact nq_n false ⟨[0], [], [], []⟩ krf
  ·refine xs_no (want_tf krf h11) krf ?_
   refine xs_run 64 krf ?_
   refine xs_endD krf ?_
   exact nq_n false ⟨[0], [], [], []⟩ krf
 ·rintro j10
  refine sim_ret ?_
  exact rq_ret (.id) krf krf krf
def g_ref26_Few (n : Nat) (a0c : GCalendar) : Option Bool :=
 cond (leI (lenI (List.map GChange.cs a0c.Changes)) 30)
  (some (leI (lenI (List.map ci a0c.Holidays)) 60))
  (some false)
theorem g_ref26_Few_ok (n : Nat) (a0c : GCalendar) : ∀ r, g_ref26_Few n a0c = some r → PCall Try.prog 22 [ag (GCalendar.cs a0c)] (.ret (B r)) := by
 refine pcall_sim (X := fun r : Bool => AEnd.ret (B r)) Try.func22 rfl Try.ntmps22 rfl ?_
 unfold g_ref26_Few
 refine sim_run Try.fm ⟨[1], [1], [], []⟩ ⟨[(1, .ptr 1 0)], [(1, .box 38 (bxc (GCalendar.cs a0c)))]⟩ krf ?_
 refine sim_seq ?_
 refine sim_reg ?_
 refine xs_run 5 krf ?_
 refine xs_split (leI (lenI (List.map GChange.cs a0c.Changes)) 30) (fun h1 => ?_) (fun h1 => ?_)
 ·refine xs_one (want_tt krf h1) krf ?_
  refine xs_run 5 krf ?_
  refine xs_end ?_
  refine sq_nk ⟨[2], [], [], []⟩ ⟨[(2, B (leI (lenI (List.map ci a0c.Holidays)) 60))], []⟩ krf ?_
  refine sim_ret ?_
  exact rq_ret (.id) krf krf krf
 ·refine xs_no (want_tf krf h1) krf ?_
  refine xs_run 5 krf ?_
  refine xs_end ?_
  refine sq_nk ⟨[2], [], [], []⟩ ⟨[(2, B false)], []⟩ krf ?_
  refine sim_ret ?_
  exact rq_ret (.id) krf krf krf
def g_ref33_Few (n : Nat) (a0t : GTariff) (a1c : GCalendar) (a2s : GSession) : Option Bool :=
 (g_ref26_Few n a1c).bind fun r1 =>
 cond r1
  (cond (leI (lenI a0t.Name) 50)
   (cond (leI (lenI (List.map GArticle.cs a0t.Articles)) 20)
    (some (leI (lenI (List.map GSlice.cs a2s.Slices)) 60))
    (some false))
   (some false))
  (some false)
theorem g_ref33_Few_ok (n : Nat) (a0t : GTariff) (a1c : GCalendar) (a2s : GSession) : ∀ r, g_ref33_Few n a0t a1c a2s = some r → PCall Try.prog 14 [ag (GTariff.cs a0t), ag (GCalendar.cs a1c), ag (GSession.cs a2s)] (.ret (B r)) := by
 refine pcall_sim (X := fun r : Bool => AEnd.ret (B r)) Try.func14 rfl Try.ntmps14 rfl ?_
 unfold g_ref33_Few
 refine sim_run Try.fm ⟨[3, 4, 5], [3, 4, 5], [], []⟩ ⟨[(3, .ptr 3 0), (4, .ptr 4 0), (5, .ptr 5 0)], [(3, .box 34 (bxc (GTariff.cs a0t))), (4, .box 38 (bxc (GCalendar.cs a1c))), (5, .box 24 (bxc (GSession.cs a2s)))]⟩ krf ?_
 refine sim_seq ?_
 refine sim_reg ?_
 refine xs_run 1 krf ?_
 refine xs_call [] krf (g_ref26_Few_ok n a1c) krf krf (fun _ => by kernel_rfl) (fun r1 => ?_)
 refine xs_run 1 krf ?_
 refine xs_end ?_
 refine sq_nk ⟨[3, 5, 7], [3, 5], [], []⟩ ⟨[(3, .ptr 3 0), (5, .ptr 5 0), (7, B r1)], [(3, .box 34 (bxc (GTariff.cs a0t))), (5, .box 24 (bxc (GSession.cs a2s)))]⟩ krf ?_
 refine sim_seq ?_
 refine sim_reg ?_
 refine xs_run 2 krf ?_
 refine xs_split r1 (fun h2 => ?_) (fun h2 => ?_)
 ·refine xs_one (want_tt krf h2) krf ?_
  refine xs_run 5 krf ?_
  refine xs_split (leI (lenI a0t.Name) 50) (fun h3 => ?_) (fun h3 => ?_)
  ·refine xs_one (want_tt krf h3) krf ?_
   refine xs_run 5 krf ?_
   refine xs_split (leI (lenI (List.map GArticle.cs a0t.Articles)) 20) (fun h4 => ?_) (fun h4 => ?_)
   ·refine xs_one (want_tt krf h4) krf ?_
    refine xs_run 5 krf ?_
    refine xs_end ?_
    refine sq_nk ⟨[6], [], [], []⟩ ⟨[(6, B (leI (lenI (List.map GSlice.cs a2s.Slices)) 60))], []⟩ krf ?_
    refine sim_ret ?_
    exact rq_ret (.id) krf krf krf
   ·refine xs_no (want_tf krf h4) krf ?_
    refine xs_run 5 krf ?_
    refine xs_end ?_
    refine sq_nk ⟨[6], [], [], []⟩ ⟨[(6, B false)], []⟩ krf ?_
    refine sim_ret ?_
    exact rq_ret (.id) krf krf krf
  ·refine xs_no (want_tf krf h3) krf ?_
   refine xs_run 11 krf ?_
   refine xs_end ?_
   refine sq_nk ⟨[6], [], [], []⟩ ⟨[(6, B false)], []⟩ krf ?_
   refine sim_ret ?_
   exact rq_ret (.id) krf krf krf
 ·refine xs_no (want_tf krf h2) krf ?_
  refine xs_run 17 krf ?_
  refine xs_end ?_
  refine sq_nk ⟨[6], [], [], []⟩ ⟨[(6, B false)], []⟩ krf ?_
  refine sim_ret ?_
  exact rq_ret (.id) krf krf krf
def g_ref33_Valid_l8 (a0s : GSession) (recl8 : Int → Option Bool) (l8 : Int) : Option Bool :=
 cond (ltI l8 (lenI (List.map GSlice.cs a0s.Slices)))
  ((getI a0s.Slices l8).bind fun x9 =>
  (cond (ltI x9.Minute a0s.From)
   (some true)
   (cond (leI a0s.End x9.Minute)
    (some true)
    (cond (ltI x9.Energy 0)
     (some true)
     (cond (ltI 10000 x9.Energy)
      (some true)
      (cond (ltI 0 l8)
       ((getI a0s.Slices (wi (l8 - 1))).bind fun x16 =>
       some (leI x9.Minute x16.Minute))
       (some false)))))).bind fun j10 =>
  cond j10
   (some false)
   (recl8 (wi (l8 + 1))))
  (some true)
def g_ref33_Valid (n : Nat) (a0s : GSession) : Option Bool :=
 (cond (ltI a0s.From 0)
  (some true)
  (cond (leI a0s.To a0s.From)
   (some true)
   (cond (ltI 52560000 a0s.To)
    (some true)
    (cond (ltI 2880 (wi (a0s.To - a0s.From)))
     (some true)
     (cond (ltI a0s.End a0s.From)
      (some true)
      (cond (ltI a0s.To a0s.End)
       (some true)
       (some (ltI 48 (lenI (List.map GSlice.cs a0s.Slices)))))))))).bind fun j1 =>
 cond j1
  (some false)
  (loopN (fun recl8 l8 => g_ref33_Valid_l8 a0s recl8 l8) n 0)
theorem g_ref33_Valid_ok (n : Nat) (a0s : GSession) : ∀ r, g_ref33_Valid n a0s = some r → PCall Try.prog 19 [ag (GSession.cs a0s)] (.ret (B r)) := by
 refine pcall_sim (X := fun r : Bool => AEnd.ret (B r)) Try.func19 rfl Try.ntmps19 rfl ?_
 unfold g_ref33_Valid
 refine sim_run Try.fm ⟨[1], [1], [], []⟩ ⟨[(1, .ptr 1 0)], [(1, .box 24 (bxc (GSession.cs a0s)))]⟩ krf ?_
 refine sim_seq ?_
 refine sim_bind (fun j1 => ⟨[(1, .ptr 1 0), (47, B j1)], [(1, .box 24 (bxc (GSession.cs a0s)))]⟩ : Bool → St) ?_ ?_
 ·refine sim_reg ?_
  refine xs_run 4 krf ?_
  refine xs_split (ltI a0s.From 0) (fun h2 => ?_) (fun h2 => ?_)
  ·refine xs_no (want_ft krf h2) krf ?_
   refine xs_run 38 krf ?_
   refine xs_end ?_
   exact nq_n true ⟨[1, 47], [1], [], []⟩ krf
  ·refine xs_one (want_ff krf h2) krf ?_
   refine xs_run 6 krf ?_
   refine xs_split (leI a0s.To a0s.From) (fun h3 => ?_) (fun h3 => ?_)
   ·refine xs_no (want_ft krf h3) krf ?_
    refine xs_run 31 krf ?_
    refine xs_end ?_
    exact nq_n true ⟨[1, 47], [1], [], []⟩ krf
   ·refine xs_one (want_ff krf h3) krf ?_
    refine xs_run 4 krf ?_
    refine xs_split (ltI 52560000 a0s.To) (fun h4 => ?_) (fun h4 => ?_)
    ·refine xs_no (want_ft krf h4) krf ?_
     refine xs_run 26 krf ?_
     refine xs_end ?_
     exact nq_n true ⟨[1, 47], [1], [], []⟩ krf
    ·refine xs_one (want_ff krf h4) krf ?_
     refine xs_run 7 krf ?_
     refine xs_split (ltI 2880 (wi (a0s.To - a0s.From))) (fun h5 => ?_) (fun h5 => ?_)
     ·refine xs_no (want_ft krf h5) krf ?_
      refine xs_run 18 krf ?_
      refine xs_end ?_
      exact nq_n true ⟨[1, 47], [1], [], []⟩ krf
     ·refine xs_one (want_ff krf h5) krf ?_
      refine xs_run 6 krf ?_
      refine xs_split (ltI a0s.End a0s.From) (fun h6 => ?_) (fun h6 => ?_)
      ·refine xs_no (want_ft krf h6) krf ?_
       refine xs_run 11 krf ?_
       refine xs_end ?_
       exact nq_n true ⟨[1, 47], [1], [], []⟩ krf
      ·refine xs_one (want_ff krf h6) krf ?_
       refine xs_run 6 krf ?_
       refine xs_split (ltI a0s.To a0s.End) (fun h7 => ?_) (fun h7 => ?_)
       ·refine xs_no (want_ft krf h7) krf ?_
        refine xs_run 4 krf ?_
        refine xs_end ?_
        exact nq_n true ⟨[1, 47], [1], [], []⟩ krf
       ·refine xs_one (want_ff krf h7) krf ?_
        refine xs_run 4 krf ?_
        refine xs_end ?_
        exact nq_n (ltI 48 (lenI (List.map GSlice.cs a0s.Slices))) ⟨[1, 47], [1], [], []⟩ krf
 ·rintro j1
  refine sim_cond j1 krf ?_ ?_
  ·refine sim_run Try.fm ⟨[2], [], [], []⟩ ⟨[(2, B false)], []⟩ krf ?_
   refine sim_ret ?_
   refine sq_r ?_
   exact rq_ret (.id) krf krf krf
  ·refine sim_skip ?_
   refine sq_nk ⟨[1], [1], [], []⟩ ⟨[(1, .ptr 1 0)], [(1, .box 24 (bxc (GSession.cs a0s)))]⟩ krf ?_
   refine sim_seq ?_
   refine sim_run Try.fm ⟨[1, 3], [1], [], []⟩ ⟨[(1, .ptr 1 0), (3, I 0)], [(1, .box 24 (bxc (GSession.cs a0s)))]⟩ krf ?_
   refine sim_block ?_
   refine sim_loop (fun l8 => ⟨[(1, .ptr 1 0), (3, I l8)], [(1, .box 24 (bxc (GSession.cs a0s)))]⟩ : Int → St) (weak_shr (K := ⟨[1, 3], [1], [], []⟩) krf) ?_
   rintro recl8 l8
   show SimE (g_ref33_Valid_l8 a0s recl8 l8) _ _ _ _ _ _
   unfold g_ref33_Valid_l8
   refine sim_seq ?_
   refine sim_run Try.fm ⟨[1, 3, 52], [1], [], []⟩ ⟨[(1, .ptr 1 0), (3, I l8), (52, B (ltI l8 (lenI (List.map GSlice.cs a0s.Slices))))], [(1, .box 24 (bxc (GSession.cs a0s)))]⟩ krf ?_
   refine sim_cond (ltI l8 (lenI (List.map GSlice.cs a0s.Slices))) krf ?_ ?_
   ·refine sim_skip ?_
    refine sq_nk ⟨[1, 3], [1], [], []⟩ ⟨[(1, .ptr 1 0), (3, I l8)], [(1, .box 24 (bxc (GSession.cs a0s)))]⟩ krf ?_
    refine sim_seq ?_
    refine sim_block ?_
    refine sim_seq ?_
    refine sim_reg ?_
    refine xs_run 3 krf ?_
    refine xs_get krf krf (aop_idx (e := 54) (S := 2) (enc := GSlice.cs) (l := a0s.Slices) (k := .i64) (n := l8) (sv := .p (.sl 2 (List.map GSlice.cs a0s.Slices))) rfl krf krf krf krf krf) (fun x9 => ?_)
    refine xs_run 3 krf ?_
    refine xs_end ?_
    refine sq_nk ⟨[1, 3, 4], [1, 4], [], []⟩ ⟨[(1, .ptr 1 0), (3, I l8), (4, .ptr 4 0)], [(1, .box 24 (bxc (GSession.cs a0s))), (4, .box 54 (bxc (GSlice.cs x9)))]⟩ krf ?_
    refine sim_bind (fun j10 => ⟨[(1, .ptr 1 0), (3, I l8), (97, B j10)], [(1, .box 24 (bxc (GSession.cs a0s)))]⟩ : Bool → St) ?_ ?_
    ·refine sim_drw Try.fm rfl ?_
     refine xs_run 6 krf ?_
     refine xs_split (ltI x9.Minute a0s.From) (fun h11 => ?_) (fun h11 => ?_)
     ·refine xs_no (want_ft krf h11) krf ?_
      refine xs_run 31 krf ?_
      refine xs_endD krf ?_
      exact nq_n true ⟨[1, 3, 97], [1], [], []⟩ krf
     ·refine xs_one (want_ff krf h11) krf ?_
      refine xs_run 6 krf ?_
      refine xs_split (leI a0s.End x9.Minute) (fun h12 => ?_) (fun h12 => ?_)
      ·refine xs_no (want_ft krf h12) krf ?_
       refine xs_run 24 krf ?_
       refine xs_endD krf ?_
       exact nq_n true ⟨[1, 3, 97], [1], [], []⟩ krf
      ·refine xs_one (want_ff krf h12) krf ?_
       refine xs_run 4 krf ?_
       refine xs_split (ltI x9.Energy 0) (fun h13 => ?_) (fun h13 => ?_)
       ·refine xs_no (want_ft krf h13) krf ?_
        refine xs_run 19 krf ?_
        refine xs_endD krf ?_
        exact nq_n true ⟨[1, 3, 97], [1], [], []⟩ krf
       ·refine xs_one (want_ff krf h13) krf ?_
        refine xs_run 4 krf ?_
        refine xs_split (ltI 10000 x9.Energy) (fun h14 => ?_) (fun h14 => ?_)
        ·refine xs_no (want_ft krf h14) krf ?_
         refine xs_run 14 krf ?_
         refine xs_endD krf ?_
         exact nq_n true ⟨[1, 3, 97], [1], [], []⟩ krf
        ·refine xs_one (want_ff krf h14) krf ?_
         refine xs_run 2 krf ?_
         refine xs_split (ltI 0 l8) (fun h15 => ?_) (fun h15 => ?_)
         ·refine xs_one (want_tt krf h15) krf ?_
          refine xs_run 5 krf ?_
          refine xs_get krf krf (aop_idx (e := 54) (S := 2) (enc := GSlice.cs) (l := a0s.Slices) (k := .i64) (n := wi (l8 - 1)) (sv := .p (.sl 2 (List.map GSlice.cs a0s.Slices))) rfl krf krf krf krf krf) (fun x16 => ?_)
          refine xs_run 5 krf ?_
          refine xs_endD krf ?_
          exact nq_n (leI x9.Minute x16.Minute) ⟨[1, 3, 97], [1], [], []⟩ krf
         ·refine xs_no (want_tf krf h15) krf ?_
          refine xs_run 11 krf ?_
          refine xs_endD krf ?_
          exact nq_n false ⟨[1, 3, 97], [1], [], []⟩ krf
    ·rintro j10
     refine sim_cond j10 krf ?_ ?_
     ·refine sim_run Try.fm ⟨[2], [], [], []⟩ ⟨[(2, B false)], []⟩ krf ?_
      refine sim_ret ?_
      refine bq_r ?_
      refine sq_r ?_
      refine kq_r ?_
      refine bq_r ?_
      refine sq_r ?_
      exact rq_ret (.id) krf krf krf
     ·refine sim_skip ?_
      refine bq_n ?_
      refine sq_nk ⟨[1, 3], [1], [], []⟩ ⟨[(1, .ptr 1 0), (3, I l8)], [(1, .box 24 (bxc (GSession.cs a0s)))]⟩ krf ?_
      refine sim_last Try.fm krf ?_
      exact kq_n (wi (l8 + 1)) ⟨[1, 3], [1], [], []⟩ krf
   ·refine sim_exit ?_
    refine sq_x ?_
    refine kq_x ?_
    refine bq_hit ?_
    refine sq_nk ⟨[], [], [], []⟩ ⟨[], []⟩ krf ?_
    refine sim_run Try.fm ⟨[2], [], [], []⟩ ⟨[(2, B true)], []⟩ krf ?_
    refine sim_ret ?_
    exact rq_ret (.id) krf krf krf
def g_law34_LoopholeFree (n : Nat) (a0c : GCalendar) (a1s : GSession) (a2price : Int) (a3free : Int) : Option Bool :=
 (g_law34_head n).bind fun r1 =>
 (g_law34_always n 3 (wi (1 + (wi a2price))) 1 (wi (1 + (Int.tmod (wi a3free) 60)))).bind fun r2 =>
 ((g_ref33_Few n (⟨[116], [r2]⟩ : GTariff) a0c a1s).bind fun r4 =>
 cond (!r4)
  (some true)
  ((g_ref33_Valid n a1s).bind fun r6 =>
  cond (!r6)
   (some true)
   (some (ltI 60 (wi (a1s.To - a1s.From)))))).bind fun j3 =>
 cond j3
  (some r1)
  ((g_loophole_Find n (⟨[116], [r2]⟩ : GTariff) a0c a1s 1).bind fun r8 =>
  cond (!eqI r8.2.2 0)
   ((cond r1
    (some (eqI r8.2.2 1))
    (some false)).bind fun j9 =>
   some j9)
   (cond r1
    (cond (opq (r8.2.1 == (ltI (wi (1 + (Int.tmod (wi a3free) 60))) (wi (a1s.To - a1s.From)))))
     (cond (!r8.2.1)
      (some true)
      ((g_ref34_Ints n r8.1 [wi (a1s.From + 1)]).bind fun r14 =>
      some r14))
     (some false))
    (some false)))
theorem g_law34_LoopholeFree_ok (n : Nat) (a0c : GCalendar) (a1s : GSession) (a2price : Int) (a3free : Int) : ∀ r, g_law34_LoopholeFree n a0c a1s a2price a3free = some r → PCall Try.prog 7 [ag (GCalendar.cs a0c), ag (GSession.cs a1s), .p (.val (.int .u16 a2price)), .p (.val (.int .u16 a3free))] (.ret (B r)) := by
 refine pcall_sim (X := fun r : Bool => AEnd.ret (B r)) Try.func7 rfl Try.ntmps7 rfl ?_
 unfold g_law34_LoopholeFree
 refine sim_run Try.fm ⟨[2, 3, 4, 5], [4, 5], [], []⟩ ⟨[(2, .p (.val (.int .u16 a2price))), (3, .p (.val (.int .u16 a3free))), (4, .ptr 4 0), (5, .ptr 5 0)], [(4, .box 38 (bxc (GCalendar.cs a0c))), (5, .box 24 (bxc (GSession.cs a1s)))]⟩ krf ?_
 refine sim_seq ?_
 refine sim_reg ?_
 refine xs_call [] krf (g_law34_head_ok n) krf krf (fun _ => by kernel_rfl) (fun r1 => ?_)
 refine xs_run 1 krf ?_
 refine xs_end ?_
 refine sq_nk ⟨[2, 3, 4, 5, 9], [4, 5], [], []⟩ ⟨[(2, .p (.val (.int .u16 a2price))), (3, .p (.val (.int .u16 a3free))), (4, .ptr 4 0), (5, .ptr 5 0), (9, B r1)], [(4, .box 38 (bxc (GCalendar.cs a0c))), (5, .box 24 (bxc (GSession.cs a1s)))]⟩ krf ?_
 refine sim_seq ?_
 refine sim_reg ?_
 refine xs_run 7 krf ?_
 refine xs_call [] krf (g_law34_always_ok n 3 (wi (1 + (wi a2price))) 1 (wi (1 + (Int.tmod (wi a3free) 60)))) krf krf (fun _ => by kernel_rfl) (fun r2 => ?_)
 refine xs_run 4 krf ?_
 refine xs_end ?_
 refine sq_nk ⟨[3, 4, 5, 9, 10], [4, 5, 10, 24], [], []⟩ ⟨[(3, .p (.val (.int .u16 a3free))), (4, .ptr 4 0), (5, .ptr 5 0), (9, B r1), (10, .ptr 10 0)], [(4, .box 38 (bxc (GCalendar.cs a0c))), (5, .box 24 (bxc (GSession.cs a1s))), (10, .box 34 [S [116], .tsl 7 (List.map GArticle.cs [r2]) 24]), (24, .arr 47 7 (List.map GArticle.cs [r2]).length)]⟩ krf ?_
 refine sim_seq ?_
 refine sim_bind (fun j3 => ⟨[(3, .p (.val (.int .u16 a3free))), (4, .ptr 4 0), (5, .ptr 5 0), (9, B r1), (10, .ptr 10 0), (43, B j3)], [(4, .box 38 (bxc (GCalendar.cs a0c))), (5, .box 24 (bxc (GSession.cs a1s))), (10, .box 34 [S [116], .tsl 7 (List.map GArticle.cs [r2]) 24]), (24, .arr 47 7 (List.map GArticle.cs [r2]).length)]⟩ : Bool → St) ?_ ?_
 ·refine sim_reg ?_
  refine xs_run 3 krf ?_
  refine xs_call [.agg [.id, .sl 7], .id, .id] krf (g_ref33_Few_ok n (⟨[116], [r2]⟩ : GTariff) a0c a1s) krf krf (fun _ => by kernel_rfl) (fun r4 => ?_)
  refine xs_run 2 krf ?_
  refine xs_split (!r4) (fun h5 => ?_) (fun h5 => ?_)
  ·refine xs_no (want_ft krf h5) krf ?_
   refine xs_run 11 krf ?_
   refine xs_end ?_
   exact nq_n true ⟨[3, 4, 5, 9, 10, 43], [4, 5, 10, 24], [], []⟩ krf
  ·refine xs_one (want_ff krf h5) krf ?_
   refine xs_call [] krf (g_ref33_Valid_ok n a1s) krf krf (fun _ => by kernel_rfl) (fun r6 => ?_)
   refine xs_run 3 krf ?_
   refine xs_split (!r6) (fun h7 => ?_) (fun h7 => ?_)
   ·refine xs_no (want_ft krf h7) krf ?_
    refine xs_run 6 krf ?_
    refine xs_end ?_
    exact nq_n true ⟨[3, 4, 5, 9, 10, 43], [4, 5, 10, 24], [], []⟩ krf
   ·refine xs_one (want_ff krf h7) krf ?_
    refine xs_run 6 krf ?_
    refine xs_end ?_
    exact nq_n (ltI 60 (wi (a1s.To - a1s.From))) ⟨[3, 4, 5, 9, 10, 43], [4, 5, 10, 24], [], []⟩ krf
 ·rintro j3
  refine sim_cond j3 krf ?_ ?_
  ·refine sim_run Try.fm ⟨[8], [], [], []⟩ ⟨[(8, B r1)], []⟩ krf ?_
   refine sim_ret ?_
   refine sq_r ?_
   exact rq_ret (.id) krf krf krf
  ·refine sim_skip ?_
   refine sq_nk ⟨[3, 4, 5, 9, 10], [4, 5, 10, 24], [], []⟩ ⟨[(3, .p (.val (.int .u16 a3free))), (4, .ptr 4 0), (5, .ptr 5 0), (9, B r1), (10, .ptr 10 0)], [(4, .box 38 (bxc (GCalendar.cs a0c))), (5, .box 24 (bxc (GSession.cs a1s))), (10, .box 34 [S [116], .tsl 7 (List.map GArticle.cs [r2]) 24]), (24, .arr 47 7 (List.map GArticle.cs [r2]).length)]⟩ krf ?_
   refine sim_seq ?_
   refine sim_reg ?_
   refine xs_run 3 krf ?_
   refine xs_call [.agg [.id, .sl 7], .id, .id, .id] krf (g_loophole_Find_ok n (⟨[116], [r2]⟩ : GTariff) a0c a1s 1) krf krf (fun _ => by kernel_rfl) (fun r8 => ?_)
   refine xs_run 7 krf ?_
   refine xs_end ?_
   refine sq_nk ⟨[3, 5, 9, 11, 12, 13], [5], [], []⟩ ⟨[(3, .p (.val (.int .u16 a3free))), (5, .ptr 5 0), (9, B r1), (11, .p (.sl 1 (List.map ci r8.1))), (12, B r8.2.1), (13, I r8.2.2)], [(5, .box 24 (bxc (GSession.cs a1s)))]⟩ krf ?_
   refine sim_seq ?_
   refine sim_run Try.fm ⟨[3, 5, 9, 11, 12, 13, 54], [5], [], []⟩ ⟨[(3, .p (.val (.int .u16 a3free))), (5, .ptr 5 0), (9, B r1), (11, .p (.sl 1 (List.map ci r8.1))), (12, B r8.2.1), (13, I r8.2.2), (54, B (!eqI r8.2.2 0))], [(5, .box 24 (bxc (GSession.cs a1s)))]⟩ krf ?_
   refine sim_cond (!eqI r8.2.2 0) krf ?_ ?_
   ·refine sim_bind (fun j9 => ⟨[(8, B j9)], []⟩ : Bool → St) ?_ ?_
    ·refine sim_reg ?_
     refine xs_run 2 krf ?_
     refine xs_split r1 (fun h10 => ?_) (fun h10 => ?_)
     ·refine xs_one (want_tt krf h10) krf ?_
      refine xs_run 3 krf ?_
      refine xs_end ?_
      exact nq_n (eqI r8.2.2 1) ⟨[8], [], [], []⟩ krf
     ·refine xs_no (want_tf krf h10) krf ?_
      refine xs_run 3 krf ?_
      refine xs_end ?_
      exact nq_n false ⟨[8], [], [], []⟩ krf
    ·rintro j9
     refine sim_ret ?_
     refine sq_r ?_
     exact rq_ret (.id) krf krf krf
   ·refine sim_skip ?_
    refine sq_nk ⟨[3, 5, 9, 11, 12], [5], [], []⟩ ⟨[(3, .p (.val (.int .u16 a3free))), (5, .ptr 5 0), (9, B r1), (11, .p (.sl 1 (List.map ci r8.1))), (12, B r8.2.1)], [(5, .box 24 (bxc (GSession.cs a1s)))]⟩ krf ?_
    refine sim_run Try.fm ⟨[5, 9, 11, 12, 14], [5], [], []⟩ ⟨[(5, .ptr 5 0), (9, B r1), (11, .p (.sl 1 (List.map ci r8.1))), (12, B r8.2.1), (14, B (ltI (wi (1 + (Int.tmod (wi a3free) 60))) (wi (a1s.To - a1s.From))))], [(5, .box 24 (bxc (GSession.cs a1s)))]⟩ krf ?_
    refine sim_seq ?_
    refine sim_reg ?_
    refine xs_run 2 krf ?_
    refine xs_split r1 (fun h11 => ?_) (fun h11 => ?_)
    ·refine xs_one (want_tt krf h11) krf ?_
     refine xs_run 4 krf ?_
     refine xs_split (opq (r8.2.1 == (ltI (wi (1 + (Int.tmod (wi a3free) 60))) (wi (a1s.To - a1s.From))))) (fun h12 => ?_) (fun h12 => ?_)
     ·refine xs_one (want_tt krf h12) krf ?_
      refine xs_run 2 krf ?_
      refine xs_split (!r8.2.1) (fun h13 => ?_) (fun h13 => ?_)
      ·refine xs_no (want_ft krf h13) krf ?_
       refine xs_run 8 krf ?_
       refine xs_end ?_
       refine sq_nk ⟨[8], [], [], []⟩ ⟨[(8, B true)], []⟩ krf ?_
       refine sim_ret ?_
       exact rq_ret (.id) krf krf krf
      ·refine xs_one (want_ff krf h13) krf ?_
       refine xs_run 4 krf ?_
       refine xs_call [.id, .sl 1] krf (g_ref34_Ints_ok n r8.1 [wi (a1s.From + 1)]) krf krf (fun _ => by kernel_rfl) (fun r14 => ?_)
       refine xs_run 3 krf ?_
       refine xs_end ?_
       refine sq_nk ⟨[8], [], [], []⟩ ⟨[(8, B r14)], []⟩ krf ?_
       refine sim_ret ?_
       exact rq_ret (.id) krf krf krf
     ·refine xs_no (want_tf krf h12) krf ?_
      refine xs_run 11 krf ?_
      refine xs_end ?_
      refine sq_nk ⟨[8], [], [], []⟩ ⟨[(8, B false)], []⟩ krf ?_
      refine sim_ret ?_
      exact rq_ret (.id) krf krf krf
    ·refine xs_no (want_tf krf h11) krf ?_
     refine xs_run 16 krf ?_
     refine xs_end ?_
     refine sq_nk ⟨[8], [], [], []⟩ ⟨[(8, B false)], []⟩ krf ?_
     refine sim_ret ?_
     exact rq_ret (.id) krf krf krf
end Go.Proofs
namespace Go.Proofs
open Go Go.Abs
set_option maxRecDepth 100000
set_option linter.unusedVariables false
structure GQuoteQuoted where
 Tariff : GTariff
 calendar : GCalendar
 from_ : Int
 to_ : Int
deriving DecidableEq
def GQuoteQuoted.cs (x : GQuoteQuoted) : List PV := [VS x.Tariff.Name, .sl 7 (List.map GArticle.cs x.Tariff.Articles), VI x.calendar.Offset, .sl 2 (List.map GChange.cs x.calendar.Changes), .sl 1 (List.map ci x.calendar.Holidays), VI x.from_, VI x.to_]
def g_ref02_Kinds (n : Nat) : Option (List (List UInt8)) :=
 some [[102, 101, 101, 100, 101, 114], [99, 97, 98, 108, 101], [111, 119, 110, 101, 114], [99, 111, 110, 116, 114, 97, 99, 116], [99, 104, 97, 114, 103, 101, 114], [98, 97, 121], [116, 97, 114, 105, 102, 102]]
def g_ref02_Attrs (n : Nat) : Option (List (List UInt8)) :=
 some [[108, 105, 109, 105, 116], [110, 101, 117, 116, 114, 97, 108], [102, 117, 115, 101], [116, 104, 101, 114, 109, 97, 108], [102, 114, 111, 109], [97, 116], [112, 104, 97, 115, 101, 115], [97, 109, 112, 115], [102, 97, 108, 108, 98, 97, 99, 107], [111, 119, 110, 101, 114], [99, 97, 114, 100], [114, 97, 110, 107], [99, 104, 97, 114, 103, 101, 114]]
def g_ref02_Articles (n : Nat) : Option (List (List UInt8)) :=
 some [[115, 116, 97, 114, 116], [101, 110, 101, 114, 103, 121], [116, 105, 109, 101], [105, 100, 108, 101], [99, 97, 112], [116, 97, 120]]
def g_ref02_Words (n : Nat) : Option (List (List UInt8)) :=
 some [[111, 110], [119, 111, 114, 107], [115, 97, 116, 117, 114, 100, 97, 121], [115, 117, 110, 100, 97, 121], [98, 101, 116, 119, 101, 101, 110], [112, 101, 114], [102, 114, 101, 101]]
def g_ref32_Article (n : Nat) (a0a : GArticle) : Option Bool :=
 (cond (ltI a0a.Price 0)
  (some true)
  (cond (ltI 1000000 a0a.Price)
   (some true)
   (cond (ltI a0a.From 0)
    (some true)
    (cond (ltI 1439 a0a.From)
     (some true)
     (cond (leI a0a.To a0a.From)
      (some true)
      (cond (ltI 1440 a0a.To)
       (some true)
       (cond (ltI a0a.Days 1)
        (some true)
        (some (ltI 7 a0a.Days))))))))).bind fun j1 =>
 cond j1
  (some false)
  ((cond (eqI a0a.Kind 3)
   (some true)
   (some (eqI a0a.Kind 4))).bind fun j9 =>
  cond j9
   ((cond (leI 1 a0a.Unit)
    (cond (leI a0a.Unit 1440)
     (cond (leI 0 a0a.Free)
      (some (leI a0a.Free 1440))
      (some false))
     (some false))
    (some false)).bind fun j11 =>
   some j11)
   ((cond (!eqI a0a.Unit 0)
    (some true)
    (some (!eqI a0a.Free 0))).bind fun j15 =>
   cond j15
    (some false)
    ((cond (eqI a0a.From 0)
     (cond (eqI a0a.To 1440)
      (some (eqI a0a.Days 7))
      (some false))
     (some false)).bind fun j17 =>
    cond (eqI a0a.Kind 6)
     ((cond j17
      (some (leI a0a.Price 10000))
      (some false)).bind fun j20 =>
     some j20)
     (cond (eqI a0a.Kind 5)
      (some j17)
      (cond (eqI a0a.Kind 1)
       (some true)
       (some (eqI a0a.Kind 2)))))))
def g_ref26_offset (n : Nat) (a0n : Int) : Option Bool :=
 cond (leI (-1440) a0n)
  (some (leI a0n 1440))
  (some false)
def g_ref26_Valid_l6 (a0c : GCalendar) (recl6 : Int → Option Bool) (l6 : Int) : Option Bool :=
 cond (ltI l6 (lenI (List.map ci a0c.Holidays)))
  ((getI a0c.Holidays l6).bind fun x7 =>
  (cond (ltI x7 0)
   (some true)
   (cond (ltI 36500 x7)
    (some true)
    (cond (ltI 0 l6)
     ((getI a0c.Holidays (wi (l6 - 1))).bind fun x12 =>
     some (leI x7 x12))
     (some false)))).bind fun j8 =>
  cond j8
   (some false)
   (recl6 (wi (l6 + 1))))
  (some true)
def g_ref26_Valid_j5 (n : Nat) (a0c : GCalendar) : Option Bool :=
 loopN (fun recl6 l6 => g_ref26_Valid_l6 a0c recl6 l6) n 0
def g_ref26_Valid_l13 (n : Nat) (a0c : GCalendar) (recl13 : Int → Option Bool) (l13 : Int) : Option Bool :=
 cond (ltI l13 (lenI (List.map GChange.cs a0c.Changes)))
  ((getI a0c.Changes l13).bind fun x14 =>
  ((g_ref26_offset n x14.Offset).bind fun r16 =>
  cond (!r16)
   (some true)
   (cond (ltI x14.At 0)
    (some true)
    (cond (ltI 52560000 x14.At)
     (some true)
     (cond (ltI 0 l13)
      ((getI a0c.Changes (wi (l13 - 1))).bind fun x21 =>
      some (leI x14.At x21.At))
      (some false))))).bind fun j15 =>
  cond j15
   (some false)
   (recl13 (wi (l13 + 1))))
  (g_ref26_Valid_j5 n a0c)
def g_ref26_Valid (n : Nat) (a0c : GCalendar) : Option Bool :=
 ((g_ref26_offset n a0c.Offset).bind fun r2 =>
 cond (!r2)
  (some true)
  (cond (ltI 16 (lenI (List.map GChange.cs a0c.Changes)))
   (some true)
   (some (ltI 32 (lenI (List.map ci a0c.Holidays)))))).bind fun j1 =>
 cond j1
  (some false)
  (loopN (fun recl13 l13 => g_ref26_Valid_l13 n a0c recl13 l13) n 0)
def g_ref31_amount (n : Nat) (a0n : Int) : Option Bool :=
 cond (leI 0 a0n)
  (some (leI a0n 1000000000))
  (some false)
def g_ref31_checked (n : Nat) (a0n : Int) : Option (Int × Int) :=
 (g_ref31_amount n a0n).bind fun r1 =>
 cond (!r1)
  (some (0, 3))
  (some (a0n, 0))
def g_ref31_Started (n : Nat) (a0price : Int) (a1quantity : Int) (a2unit : Int) : Option (Int × Int) :=
 ((g_ref31_amount n a0price).bind fun r2 =>
 cond (!r2)
  (some true)
  ((g_ref31_amount n a1quantity).bind fun r4 =>
  cond (!r4)
   (some true)
   (cond (ltI a2unit 1)
    (some true)
    (some (ltI 1000000000 a2unit))))).bind fun j1 =>
 cond j1
  (some (0, 1))
  (cond (!eqI a2unit 0) (
   (g_ref31_checked n (wi (a0price * (wi (Int.tdiv (wi ((wi (a1quantity + a2unit)) - 1)) a2unit))))).bind fun r7 =>
   some (r7.1, r7.2)) none)
def g_ref31_divided (n : Nat) (a0n : Int) (a1d : Int) : Option Int :=
 cond (!eqI (wi (2 * a1d)) 0) (
  some (wi (Int.tdiv (wi ((wi (2 * a0n)) + a1d)) (wi (2 * a1d))))) none
def g_ref31_Times (n : Nat) (a0price : Int) (a1quantity : Int) (a2per : Int) : Option (Int × Int) :=
 ((g_ref31_amount n a0price).bind fun r2 =>
 cond (!r2)
  (some true)
  ((g_ref31_amount n a1quantity).bind fun r4 =>
  cond (!r4)
   (some true)
   (cond (ltI a2per 1)
    (some true)
    (some (ltI 1000000000 a2per))))).bind fun j1 =>
 cond j1
  (some (0, 1))
  ((g_ref31_divided n (wi (a0price * a1quantity)) a2per).bind fun r7 =>
  (g_ref31_checked n r7).bind fun r8 =>
  some (r8.1, r8.2))
def g_ref31_Tax (n : Nat) (a0n : Int) (a1rate : Int) : Option (Int × Int) :=
 ((g_ref31_amount n a0n).bind fun r2 =>
 cond (!r2)
  (some true)
  (cond (ltI a1rate 0)
   (some true)
   (some (ltI 100000 a1rate)))).bind fun j1 =>
 cond j1
  (some (0, 1))
  ((g_ref31_divided n (wi (a0n * a1rate)) 10000).bind fun r5 =>
  (g_ref31_checked n r5).bind fun r6 =>
  some (r6.1, r6.2))
structure GReading where
 Serial : Int
 Number : Int
 Minute : Int
 Register : Int
 Link : Int
deriving DecidableEq
def GReading.cs (x : GReading) : List PV := [VI x.Serial, VI x.Number, VI x.Minute, VI x.Register, VU x.Link]
structure GClaim where
 Tariff : GTariff
 Calendar : GCalendar
 Readings : List GReading
 Seed : Int
 Session : GSession
 Bill : GBill
deriving DecidableEq
def GClaim.cs (x : GClaim) : List PV := [VS x.Tariff.Name, .sl 7 (List.map GArticle.cs x.Tariff.Articles), VI x.Calendar.Offset, .sl 2 (List.map GChange.cs x.Calendar.Changes), .sl 1 (List.map ci x.Calendar.Holidays), .sl 5 (List.map GReading.cs x.Readings), VU x.Seed, VI x.Session.From, VI x.Session.To, VI x.Session.End, .sl 2 (List.map GSlice.cs x.Session.Slices), .sl 2 (List.map GLine.cs x.Bill.Lines), VI x.Bill.Net, VI x.Bill.Tax, VI x.Bill.Total]
structure GAE where
 Claim : GClaim
 follows : GSession
 bill : GBill
 rate : Int
deriving DecidableEq
def GAE.cs (x : GAE) : List PV := [VS x.Claim.Tariff.Name, .sl 7 (List.map GArticle.cs x.Claim.Tariff.Articles), VI x.Claim.Calendar.Offset, .sl 2 (List.map GChange.cs x.Claim.Calendar.Changes), .sl 1 (List.map ci x.Claim.Calendar.Holidays), .sl 5 (List.map GReading.cs x.Claim.Readings), VU x.Claim.Seed, VI x.Claim.Session.From, VI x.Claim.Session.To, VI x.Claim.Session.End, .sl 2 (List.map GSlice.cs x.Claim.Session.Slices), .sl 2 (List.map GLine.cs x.Claim.Bill.Lines), VI x.Claim.Bill.Net, VI x.Claim.Bill.Tax, VI x.Claim.Bill.Total, VI x.follows.From, VI x.follows.To, VI x.follows.End, .sl 2 (List.map GSlice.cs x.follows.Slices), .sl 2 (List.map GLine.cs x.bill.Lines), VI x.bill.Net, VI x.bill.Tax, VI x.bill.Total, VI x.rate]
def g_a_inside (n : Nat) (a0n : Int) (a1least : Int) (a2greatest : Int) : Option Bool :=
 cond (leI a1least a0n)
  (some (leI a0n a2greatest))
  (some false)
def g_a_isKey (n : Nat) (a0word : List UInt8) : Option Bool :=
 (cond (eqS a0word [102, 101, 101, 100, 101, 114])
  (some (eqS a0word [102, 101, 101, 100, 101, 114]))
  (cond (eqS a0word [99, 97, 98, 108, 101])
   (some (eqS a0word [99, 97, 98, 108, 101]))
   (cond (eqS a0word [111, 119, 110, 101, 114])
    (some (eqS a0word [111, 119, 110, 101, 114]))
    (cond (eqS a0word [99, 111, 110, 116, 114, 97, 99, 116])
     (some (eqS a0word [99, 111, 110, 116, 114, 97, 99, 116]))
     (cond (eqS a0word [99, 104, 97, 114, 103, 101, 114])
      (some (eqS a0word [99, 104, 97, 114, 103, 101, 114]))
      (cond (eqS a0word [98, 97, 121])
       (some (eqS a0word [98, 97, 121]))
       (some (eqS a0word [116, 97, 114, 105, 102, 102])))))))).bind fun j1 =>
 cond j1
  (some true)
  ((cond (eqS a0word [108, 105, 109, 105, 116])
   (some (eqS a0word [108, 105, 109, 105, 116]))
   (cond (eqS a0word [110, 101, 117, 116, 114, 97, 108])
    (some (eqS a0word [110, 101, 117, 116, 114, 97, 108]))
    (cond (eqS a0word [102, 117, 115, 101])
     (some (eqS a0word [102, 117, 115, 101]))
     (cond (eqS a0word [116, 104, 101, 114, 109, 97, 108])
      (some (eqS a0word [116, 104, 101, 114, 109, 97, 108]))
      (cond (eqS a0word [102, 114, 111, 109])
       (some (eqS a0word [102, 114, 111, 109]))
       (cond (eqS a0word [97, 116])
        (some (eqS a0word [97, 116]))
        (cond (eqS a0word [112, 104, 97, 115, 101, 115])
         (some (eqS a0word [112, 104, 97, 115, 101, 115]))
         (cond (eqS a0word [97, 109, 112, 115])
          (some (eqS a0word [97, 109, 112, 115]))
          (cond (eqS a0word [102, 97, 108, 108, 98, 97, 99, 107])
           (some (eqS a0word [102, 97, 108, 108, 98, 97, 99, 107]))
           (cond (eqS a0word [99, 97, 114, 100])
            (some (eqS a0word [99, 97, 114, 100]))
            (some (eqS a0word [114, 97, 110, 107])))))))))))).bind fun j2 =>
  cond j2
   (some true)
   ((cond (eqS a0word [115, 116, 97, 114, 116])
    (some (eqS a0word [115, 116, 97, 114, 116]))
    (cond (eqS a0word [101, 110, 101, 114, 103, 121])
     (some (eqS a0word [101, 110, 101, 114, 103, 121]))
     (cond (eqS a0word [116, 105, 109, 101])
      (some (eqS a0word [116, 105, 109, 101]))
      (cond (eqS a0word [105, 100, 108, 101])
       (some (eqS a0word [105, 100, 108, 101]))
       (cond (eqS a0word [99, 97, 112])
        (some (eqS a0word [99, 97, 112]))
        (some (eqS a0word [116, 97, 120]))))))).bind fun j3 =>
   cond j3
    (some true)
    ((cond (eqS a0word [111, 110])
     (some (eqS a0word [111, 110]))
     (cond (eqS a0word [119, 111, 114, 107])
      (some (eqS a0word [119, 111, 114, 107]))
      (cond (eqS a0word [115, 97, 116, 117, 114, 100, 97, 121])
       (some (eqS a0word [115, 97, 116, 117, 114, 100, 97, 121]))
       (cond (eqS a0word [115, 117, 110, 100, 97, 121])
        (some (eqS a0word [115, 117, 110, 100, 97, 121]))
        (cond (eqS a0word [98, 101, 116, 119, 101, 101, 110])
         (some (eqS a0word [98, 101, 116, 119, 101, 101, 110]))
         (cond (eqS a0word [112, 101, 114])
          (some (eqS a0word [112, 101, 114]))
          (some (eqS a0word [102, 114, 101, 101])))))))).bind fun j4 =>
    cond j4
     (some true)
     (some false))))
def g_a_validArticle (n : Nat) (a0a : GArticle) : Option Bool :=
 ((g_a_inside n a0a.Kind 1 6).bind fun r2 =>
 cond (!r2)
  (some true)
  ((g_a_inside n a0a.Days 1 7).bind fun r4 =>
  some (!r4))).bind fun j1 =>
 cond j1
  (some false)
  (((g_a_inside n a0a.From 0 1439).bind fun r6 =>
  cond (!r6)
   (some true)
   (cond (leI a0a.To a0a.From)
    (some true)
    (some (ltI 1440 a0a.To)))).bind fun j5 =>
  cond j5
   (some false)
   ((cond (eqI a0a.From 0)
    (cond (eqI a0a.To 1440)
     (some (eqI a0a.Days 7))
     (some false))
    (some false)).bind fun j9 =>
   (cond (eqI a0a.Unit 0)
    (some (eqI a0a.Free 0))
    (some false)).bind fun j12 =>
   (g_a_inside n a0a.Price 0 1000000).bind fun r14 =>
   (cond (eqI a0a.Kind 3)
    (some (eqI a0a.Kind 3))
    (some (eqI a0a.Kind 4))).bind fun j15 =>
   cond j15
    ((cond r14
     ((g_a_inside n a0a.Unit 1 1440).bind fun r18 =>
     cond r18
      ((g_a_inside n a0a.Free 0 1440).bind fun r20 =>
      some r20)
      (some false))
     (some false)).bind fun j16 =>
    some j16)
    (cond (eqI a0a.Kind 5)
     ((cond r14
      (cond j12
       (some j9)
       (some false))
      (some false)).bind fun j21 =>
     some j21)
     (cond (eqI a0a.Kind 6)
      (((g_a_inside n a0a.Price 0 10000).bind fun r25 =>
      cond r25
       (cond j12
        (some j9)
        (some false))
       (some false)).bind fun j24 =>
      some j24)
      (cond r14
       (some j12)
       (some false))))))
def g_ref26_Offset_l1 (a0c : GCalendar) (a1minute : Int) (recl1 : (Int × Int) → Option Int) (l1_1 : Int) (l1_2 : Int) : Option Int :=
 cond (ltI l1_2 (lenI (List.map GChange.cs a0c.Changes)))
  ((getI a0c.Changes l1_2).bind fun x2 =>
  cond (leI x2.At a1minute)
   ((getI a0c.Changes l1_2).bind fun x3 =>
   recl1 (x3.Offset, wi (l1_2 + 1)))
   (recl1 (l1_1, wi (l1_2 + 1))))
  (some l1_1)
def g_ref26_Offset (n : Nat) (a0c : GCalendar) (a1minute : Int) : Option Int :=
 loopN (fun recl1 (l1_1, l1_2) => g_ref26_Offset_l1 a0c a1minute recl1 l1_1 l1_2) n (a0c.Offset, 0)
def g_ref26_Local (n : Nat) (a0c : GCalendar) (a1minute : Int) : Option (Int × Int × Int) :=
 ((g_ref26_Valid n a0c).bind fun r2 =>
 cond (!r2)
  (some true)
  (cond (ltI a1minute 0)
   (some true)
   (some (ltI 52560000 a1minute)))).bind fun j1 =>
 cond j1
  (some (0, 0, 1))
  ((g_ref26_Offset n a0c a1minute).bind fun r5 =>
  cond (ltI (wi (a1minute + r5)) 0)
   (some ((-1), wi ((wi (a1minute + r5)) - (-1440)), 0))
   (some (wi (Int.tdiv (wi (a1minute + r5)) 1440), wi ((wi (a1minute + r5)) - (wi (1440 * (wi (Int.tdiv (wi (a1minute + r5)) 1440))))), 0)))
def g_ref26_Type_j5 (a1day : Int) : Option (Int × Int) :=
 cond (eqI (Int.tmod (wi (a1day + 7)) 7) 6)
  (some (2, 0))
  (cond (eqI (Int.tmod (wi (a1day + 7)) 7) 5)
   (some (1, 0))
   (some (0, 0)))
def g_ref26_Type_l6 (a0c : GCalendar) (a1day : Int) (recl6 : Int → Option (Int × Int)) (l6 : Int) : Option (Int × Int) :=
 cond (ltI l6 (lenI (List.map ci a0c.Holidays)))
  ((getI a0c.Holidays l6).bind fun x7 =>
  cond (eqI x7 a1day)
   (some (2, 0))
   (recl6 (wi (l6 + 1))))
  (g_ref26_Type_j5 a1day)
def g_ref26_Type (n : Nat) (a0c : GCalendar) (a1day : Int) : Option (Int × Int) :=
 ((g_ref26_Valid n a0c).bind fun r2 =>
 cond (!r2)
  (some true)
  (cond (ltI a1day (-1))
   (some true)
   (some (ltI 36501 a1day)))).bind fun j1 =>
 cond j1
  (some (0, 1))
  (loopN (fun recl6 l6 => g_ref26_Type_l6 a0c a1day recl6 l6) n 0)
def g_ref32_Applies (n : Nat) (a0a : GArticle) (a1c : GCalendar) (a2minute : Int) : Option Bool :=
 (g_ref32_Article n a0a).bind fun r1 =>
 cond (!r1)
  (some false)
  ((g_ref26_Local n a1c a2minute).bind fun r2 =>
  cond (!eqI r2.2.2 0)
   (some false)
   ((g_ref26_Type n a1c r2.1).bind fun r3 =>
   (cond (eqI r3.1 1)
    (some (eqI (Int.tmod (wi (Int.tdiv a0a.Days 2)) 2) 1))
    (some (eqI (Int.tmod a0a.Days 2) 1))).bind fun j4 =>
   (cond (eqI r3.1 2)
    (some (eqI (Int.tmod (wi (Int.tdiv a0a.Days 4)) 2) 1))
    (some j4)).bind fun j5 =>
   cond j5
    (cond (leI a0a.From r2.2.1)
     (some (ltI r2.2.1 a0a.To))
     (some false))
    (some false)))
def g_ref33_Minutes_l1 (n : Nat) (a0a : GArticle) (a1c : GCalendar) (a3to : Int) (recl1 : (Int × Int) → Option Int) (l1_1 : Int) (l1_2 : Int) : Option Int :=
 cond (ltI l1_2 a3to)
  ((g_ref32_Applies n a0a a1c l1_2).bind fun r2 =>
  cond r2
   (recl1 (wi (l1_1 + 1), wi (l1_2 + 1)))
   (recl1 (l1_1, wi (l1_2 + 1))))
  (some l1_1)
def g_ref33_Minutes (n : Nat) (a0a : GArticle) (a1c : GCalendar) (a2from : Int) (a3to : Int) : Option Int :=
 loopN (fun recl1 (l1_1, l1_2) => g_ref33_Minutes_l1 n a0a a1c a3to recl1 l1_1 l1_2) n (0, a2from)
def g_ref33_Energy_l1 (n : Nat) (a0a : GArticle) (a1c : GCalendar) (a2s : GSession) (recl1 : (Int × Int) → Option Int) (l1_1 : Int) (l1_2 : Int) : Option Int :=
 cond (ltI l1_2 (lenI (List.map GSlice.cs a2s.Slices)))
  ((getI a2s.Slices l1_2).bind fun x2 =>
  (g_ref32_Applies n a0a a1c x2.Minute).bind fun r3 =>
  cond r3
   ((getI a2s.Slices l1_2).bind fun x4 =>
   recl1 (wi (l1_1 + x4.Energy), wi (l1_2 + 1)))
   (recl1 (l1_1, wi (l1_2 + 1))))
  (some l1_1)
def g_ref33_Energy (n : Nat) (a0a : GArticle) (a1c : GCalendar) (a2s : GSession) : Option Int :=
 loopN (fun recl1 (l1_1, l1_2) => g_ref33_Energy_l1 n a0a a1c a2s recl1 l1_1 l1_2) n (0, 0)
def g_ref33_Line (n : Nat) (a0a : GArticle) (a1c : GCalendar) (a2s : GSession) : Option (Int × Int) :=
 (g_ref32_Article n a0a).bind fun r1 =>
 (g_ref26_Valid n a1c).bind fun r2 =>
 (g_ref33_Valid n a2s).bind fun r3 =>
 (cond (!r1)
  (some true)
  (cond (!r2)
   (some true)
   (some (!r3)))).bind fun j4 =>
 cond j4
  (some (0, 1))
  (cond (eqI a0a.Kind 1)
   ((g_ref33_Minutes n a0a a1c a2s.From (wi (a2s.From + 1))).bind fun r7 =>
   some (wi (a0a.Price * r7), 0))
   (cond (eqI a0a.Kind 2)
    ((g_ref33_Energy n a0a a1c a2s).bind fun r8 =>
    (g_ref31_Times n a0a.Price r8 1000).bind fun r9 =>
    some (r9.1, r9.2))
    (cond (eqI a0a.Kind 3)
     ((g_ref33_Minutes n a0a a1c a2s.From a2s.To).bind fun r10 =>
     (g_ref31_Started n a0a.Price (maxI 0 (wi (r10 - a0a.Free))) a0a.Unit).bind fun r11 =>
     some (r11.1, r11.2))
     (cond (eqI a0a.Kind 4)
      ((g_ref33_Minutes n a0a a1c a2s.End a2s.To).bind fun r12 =>
      (g_ref31_Started n a0a.Price (maxI 0 (wi (r12 - a0a.Free))) a0a.Unit).bind fun r13 =>
      some (r13.1, r13.2))
      (some (0, 0))))))
end Go.Proofs
namespace Go.Proofs
open Go Go.Abs Go.ChangeShapes Go.WideShapes Go.ChangeAt Go.RowKit Go.Proofs.Ytfkhnaogcahcoaa
set_option maxRecDepth 100000
set_option linter.unusedVariables false
structure GChange.wf (x : GChange) : Prop where
 At : i64b x.At
 Offset : i64b x.Offset
theorem sh_GChange {d : Nat} {cs : List PV} (h : Sh Try.prog (d + 2) 80 cs) : ∃ r : GChange, cs = GChange.cs r ∧ GChange.wf r := by
 have h := sh_struct Try.underlying80 h
 obtain ⟨_, _, rfl, h0, _, _, rfl, h1, rfl⟩ := h
 obtain ⟨x0, rfl, w0⟩ := sh_i64 Try.underlying3 h0
 obtain ⟨x1, rfl, w1⟩ := sh_i64 Try.underlying3 h1
 exact ⟨⟨x0, x1⟩, rfl, ⟨w0, w1⟩⟩
structure GCalendar.wf (x : GCalendar) : Prop where
 Offset : i64b x.Offset
 Changes : (listb GChange.wf) x.Changes
 Holidays : (listb i64b) x.Holidays
theorem sh_GCalendar {d : Nat} {cs : List PV} (h : Sh Try.prog (d + 4) 38 cs) : ∃ r : GCalendar, cs = GCalendar.cs r ∧ GCalendar.wf r := by
 have h := sh_struct Try.underlying38 h
 obtain ⟨_, _, rfl, h0, _, _, rfl, h1, _, _, rfl, h2, rfl⟩ := h
 obtain ⟨x0, rfl, w0⟩ := sh_i64 Try.underlying3 h0
 obtain ⟨x1, rfl, w1⟩ := sh_list (S := 2) (f := GChange.cs) (W := GChange.wf) Try.underlying35 krf (fun c h => sh_GChange h) h1
 obtain ⟨x2, rfl, w2⟩ := sh_list (S := 1) (f := ci) (W := i64b) Try.underlying36 krf (fun c h => sh_i64 Try.underlying3 h) h2
 exact ⟨⟨x0, x1, x2⟩, rfl, ⟨w0, w1, w2⟩⟩
structure GSlice.wf (x : GSlice) : Prop where
 Minute : i64b x.Minute
 Energy : i64b x.Energy
theorem sh_GSlice {d : Nat} {cs : List PV} (h : Sh Try.prog (d + 2) 54 cs) : ∃ r : GSlice, cs = GSlice.cs r ∧ GSlice.wf r := by
 have h := sh_struct Try.underlying54 h
 obtain ⟨_, _, rfl, h0, _, _, rfl, h1, rfl⟩ := h
 obtain ⟨x0, rfl, w0⟩ := sh_i64 Try.underlying3 h0
 obtain ⟨x1, rfl, w1⟩ := sh_i64 Try.underlying3 h1
 exact ⟨⟨x0, x1⟩, rfl, ⟨w0, w1⟩⟩
structure GSession.wf (x : GSession) : Prop where
 From : i64b x.From
 To : i64b x.To
 End : i64b x.End
 Slices : (listb GSlice.wf) x.Slices
theorem sh_GSession {d : Nat} {cs : List PV} (h : Sh Try.prog (d + 4) 24 cs) : ∃ r : GSession, cs = GSession.cs r ∧ GSession.wf r := by
 have h := sh_struct Try.underlying24 h
 obtain ⟨_, _, rfl, h0, _, _, rfl, h1, _, _, rfl, h2, _, _, rfl, h3, rfl⟩ := h
 obtain ⟨x0, rfl, w0⟩ := sh_i64 Try.underlying3 h0
 obtain ⟨x1, rfl, w1⟩ := sh_i64 Try.underlying3 h1
 obtain ⟨x2, rfl, w2⟩ := sh_i64 Try.underlying3 h2
 obtain ⟨x3, rfl, w3⟩ := sh_list (S := 2) (f := GSlice.cs) (W := GSlice.wf) Try.underlying22 krf (fun c h => sh_GSlice h) h3
 exact ⟨⟨x0, x1, x2, x3⟩, rfl, ⟨w0, w1, w2, w3⟩⟩
def LoopholeFreePlain : Prop := ∀ (a0 : GCalendar) (a1 : GSession) (a2 : Int) (a3 : Int), GCalendar.wf a0 → GSession.wf a1 → u16b a2 → u16b a3 → ∃ n, g_law34_LoopholeFree n a0 a1 a2 a3 = some true
theorem loopholeFree_call (h : LoopholeFreePlain) : ∀ xs, ArgsSh Try.prog 9 Try.f7.params.toList xs → PCall Try.prog 7 xs (.ret (.p (.val (.bool true)))) := by
 intro xs ha
 rw [Try.params7] at ha
 obtain ⟨_, _, rfl, h0, _, _, rfl, h1, _, _, rfl, h2, _, _, rfl, h3, rfl⟩ := ha
 obtain ⟨a0, rfl, w0⟩ := sh_GCalendar h0
 obtain ⟨a1, rfl, w1⟩ := sh_GSession h1
 obtain ⟨a2, rfl, w2⟩ := sh_u16 Try.underlying49 h2
 obtain ⟨a3, rfl, w3⟩ := sh_u16 Try.underlying49 h3
 obtain ⟨n, hn⟩ := h a0 a1 a2 a3 w0 w1 w2 w3
 simp only [avOf_struct Try.underlying38, avOf_struct Try.underlying24, avOf_int Try.underlying49]
 exact g_law34_LoopholeFree_ok n a0 a1 a2 a3 true hn
set_option maxRecDepth 100000 in
theorem loopholeFree_lifted (h : LoopholeFreePlain) (os : Os) (started : os.Started) (H : Type) (enc : TypeId × Value → H) :
  ReturnsInHanded {} Try.checked os 7 .any (Rows.loopholeFreeSpec.pre6 enc Try.prog Try.f7 Rows.loopholeFreeRow.domain false) (Rows.loopholeFreeSpec.post enc Try.prog Try.f7 false true false false) := by
 refine returnsInHanded_of_change (C := Try.checked) krf started krf Try.func7
  (ChangeSpec.witness6 (enc := enc) (C := Try.checked) false ⟨#[], #[.agg #[.int .i64 0, .slice none 0 0, .slice none 0 0], .agg #[.int .i64 0, .int .i64 0, .int .i64 0, .slice none 0 0], .int .u16 0, .int .u16 0], []⟩ 8 krf krf krf krf) ?_
 intro W base args ds gs before hval hW _ _
 exact law_contract (P := Try.prog) (f := 7) (fn := Try.f7) (s := Rows.loopholeFreeSpec) (tb := 4) (d := 9) krf krf krf krf Try.underlying4 rfl
  (fun ds hd => by
   have hd : ds.length = 4 := by rw [hd, show Try.f7.params.size = 4 from by kernel_rfl]
   match ds, hd with
   | [d0, d1, d2, d3], _ => rfl)
  (loopholeFree_call h) hval hW
theorem loopholeFree_said (h : LoopholeFreePlain) : Rows.LoopholeFreeSaid :=
 OpenClaim.holds_of_wide 7 Try.f7 rfl rfl rfl rfl rfl rfl rfl ⟨rfl, rfl, rfl, rfl, rfl⟩ rfl rfl rfl rfl rfl krf Try.func7 krf
  (of_decide_eq_true krf) (by unfold Func.isWrapper; first | (rw [if_pos (by decide +kernel)]; kernel_rfl) | (rw [if_neg (by decide +kernel)]; exact ⟨rfl, rfl⟩))
  (fun os started H enc _ => loopholeFree_lifted h os started H enc)
end Go.Proofs
namespace Go.Proofs
open Go Go.Abs
set_option maxRecDepth 100000
set_option linter.unusedVariables false
def Does {α : Type} (m : Option α) (Q : α → Prop) : Prop := ∃ r, m = some r ∧ Q r
section
variable {α β V R E : Type}
theorem does_some {x : α} {Q : α → Prop} (h : Q x) : Does (some x) Q := ⟨x, rfl, h⟩
theorem does_cond {b : Bool} {x y : Option α} {Q : α → Prop} (h1 : b = true → Does x Q) (h2 : b = false → Does y Q) : Does (cond b x y) Q := by
 cases b
 ·exact h2 rfl
 ·exact h1 rfl
theorem does_loop {B : (V → Option R) → V → Option R} {Q : V → R → Prop} (μ : V → Nat) (Inv : V → Prop)
  (hB : ∀ rec v, Inv v → (∀ v', Inv v' → μ v' < μ v → Does (rec v') (Q v')) → Does (B rec v) (Q v)) : ∀ {n : Nat} {v : V}, Inv v → μ v < n → Does (loopN B n v) (Q v)
 | 0, _, _, h => absurd h (Nat.not_lt_zero _)
 | n + 1, v, hv, h => hB _ v hv (fun v' h1 h2 => does_loop μ Inv hB h1 (by omega))
end
theorem getI_nat {α : Type} {l : List α} {i : Nat} : getI l (i : Int) = l[i]? := by
 unfold getI; rw [if_neg (by omega)]; simp
theorem wi_id {x : Int} (h1 : -9223372036854775808 ≤ x) (h2 : x ≤ 9223372036854775807) : wi x = x := by
 simp [wi, IntKind.wrap, IntKind.signed, IntKind.bits]; omega
theorem a_inside (n : Nat) (x a b : Int) : g_a_inside n x a b = some (decide (a ≤ x ∧ x ≤ b)) := by
 unfold g_a_inside leI
 by_cases h : a ≤ x <;> simp [h]
def needE (b : Bool) (p : Int) : Except Int Unit := if b then .ok () else .error p
def folB (a r : GReading) : Bool := if r.Serial = a.Serial then decide (a.Minute ≤ r.Minute ∧ a.Register ≤ r.Register) else decide (r.Minute = a.Minute)
def mixB (s x k : Int) : Int := wu ((bXor .u64 s (bAnd .u64 (shrI .u64 (wu x) k) 255)) * 1099511628211)
def mixW (s x : Int) : Int := [56, 48, 40, 32, 24, 16, 8, 0].foldl (fun s k => mixB s x k) s
def linkF (s : Int) (r : GReading) : Int := [r.Serial, r.Number, r.Minute, r.Register].foldl mixW s
theorem exc_need {R : Type} {k : Unit → Option R} {e : Int → Option R} {b : Bool} {p : Int} : exc k e (needE b p) = cond b (k ()) (e p) := by cases b <;> rfl
def prevLink (seed : Int) (l : List GReading) (i : Nat) : Int := if i = 0 then seed else ((l[i - 1]?).map (·.Link)).getD 0
def chainAt (seed : Int) (l : List GReading) (i : Nat) : Prop := ∀ r ∈ l[i]?, (1 ≤ r.Serial ∧ r.Serial ≤ 1000000) ∧ r.Number = i + 1 ∧ (0 ≤ r.Minute ∧ r.Minute ≤ 52560000) ∧ (0 ≤ r.Register ∧ r.Register ≤ 1000000000) ∧
 (i ≠ 0 → ∀ a ∈ l[i - 1]?, folB a r = true) ∧ r.Link = linkF (prevLink seed l i) r
def chainOk (seed : Int) (l : List GReading) : Prop := (1 ≤ l.length ∧ l.length ≤ 64) ∧ ∀ i, i < l.length → chainAt seed l i
end Go.Proofs
namespace Go.Proofs
open Go Go.Abs
set_option maxRecDepth 100000
set_option linter.unusedVariables false
theorem eqI_d (x y : Int) : eqI x y = decide (x = y) := by unfold eqI; by_cases h : x = y <;> simp [h]
theorem cond_some {α : Type} {b : Bool} {x y : α} : cond b (some x) (some y) = some (cond b x y) := by cases b <;> rfl
def keyB (w : List UInt8) : Bool := (g_a_isKey 0 w).getD false
def artB (a : GArticle) : Bool := (g_a_validArticle 0 a).getD false
def chrB (x : UInt8) : Bool := decide ((97 ≤ b2i x ∧ b2i x ≤ 122) ∨ (48 ≤ b2i x ∧ b2i x ≤ 57) ∨ b2i x = 95)
def nameB (s : List UInt8) : Bool := decide (1 ≤ s.length ∧ s.length ≤ 12) && decide (∀ x ∈ s.head?, 97 ≤ b2i x ∧ b2i x ≤ 122) && !keyB s && s.all chrB
theorem loop_list {α R : Type} {l : List α} {B : (Int → Option R) → Int → Option R} {F : List α → R} (hlen : l.length ≤ 4611686018427387904)
  (hend : ∀ rec, B rec (l.length : Int) = some (F []))
  (hstep : ∀ (rec : Int → Option R) (i : Nat) (x : α) (r : List α), l.drop i = x :: r → l[i]? = some x → i < l.length → wi ((i : Int) + 1) = ((i + 1 : Nat) : Int) → (rec ((i + 1 : Nat) : Int) = some (F r)) → B rec (i : Int) = some (F (x :: r))) :
  ∀ {n : Nat} (i : Nat), i ≤ l.length → l.length - i < n → loopN B n (i : Int) = some (F (l.drop i))
 | 0, _, _, h => absurd h (Nat.not_lt_zero _)
 | n + 1, i, hi, h => by
  unfold loopN
  by_cases he : i = l.length
  ·subst he; rw [hend]; simp
  ·have hlt : i < l.length := by omega
   have hd : l.drop i = l[i] :: l.drop (i + 1) := by rw [List.drop_eq_getElem_cons hlt]
   rw [hd]
   exact hstep _ i _ _ hd (by simp [hlt]) hlt (by rw [wi_id] <;> omega) (loop_list hlen hend hstep (i + 1) (by omega) (by omega))
theorem chr_lem (c : Int) : (bif decide (97 ≤ c) then bif decide (c ≤ 122) then false else bif decide (48 ≤ c) then bif decide (c ≤ 57) then false else !(c == 95) else !(c == 95)
  else bif decide (48 ≤ c) then bif decide (c ≤ 57) then false else !(c == 95) else !(c == 95)) = !decide ((97 ≤ c ∧ c ≤ 122) ∨ (48 ≤ c ∧ c ≤ 57) ∨ c = 95) := by
 by_cases h1 : 97 ≤ c <;> by_cases h2 : c ≤ 122 <;> by_cases h3 : 48 ≤ c <;> by_cases h4 : c ≤ 57 <;> by_cases h5 : c = 95 <;> simp [h1, h2, h3, h4, h5] <;> omega
theorem loop_acc {α R A : Type} {l : List α} {B : (A × Int → Option R) → A × Int → Option R} {F : A → List α → R} (hlen : l.length ≤ 4611686018427387904)
  (hend : ∀ rec a, B rec (a, (l.length : Int)) = some (F a []))
  (hstep : ∀ (rec : A × Int → Option R) (a : A) (i : Nat) (x : α) (r : List α), l.drop i = x :: r → l[i]? = some x → i < l.length → wi ((i : Int) + 1) = ((i + 1 : Nat) : Int) → (∀ a, rec (a, ((i + 1 : Nat) : Int)) = some (F a r)) → B rec (a, (i : Int)) = some (F a (x :: r))) :
  ∀ {n : Nat} (i : Nat) (a : A), i ≤ l.length → l.length - i < n → loopN B n (a, (i : Int)) = some (F a (l.drop i))
 | 0, _, _, _, h => absurd h (Nat.not_lt_zero _)
 | n + 1, i, a, hi, h => by
  unfold loopN
  by_cases he : i = l.length
  ·subst he; rw [hend]; simp
  ·have hlt : i < l.length := by omega
   have hd : l.drop i = l[i] :: l.drop (i + 1) := by rw [List.drop_eq_getElem_cons hlt]
   rw [hd]
   exact hstep _ a i _ _ hd (by simp [hlt]) hlt (by rw [wi_id] <;> omega) (fun a => loop_acc hlen hend hstep (i + 1) a (by omega) (by omega))
def holB : Int → List Int → Bool
 | _, [] => true
 | a, x :: r => decide (a < x ∧ x ≤ 36500) && holB x r
def chgB : Int → List GChange → Bool
 | _, [] => true
 | a, x :: r => decide (a < x.At ∧ x.At ≤ 52560000 ∧ -1440 ≤ x.Offset ∧ x.Offset ≤ 1440) && chgB x.At r
def calB (c : GCalendar) : Bool := decide (-1440 ≤ c.Offset ∧ c.Offset ≤ 1440) && decide (c.Changes.length ≤ 16) && decide (c.Holidays.length ≤ 32) && chgB (-1) c.Changes && holB (-1) c.Holidays
theorem loop_gen {α R A V : Type} {l : List α} (S : A → Int → V) {B : (V → Option R) → V → Option R} {F : A → List α → R} (Inv : Nat → A → Prop) (hlen : l.length ≤ 4611686018427387904)
  (hend : ∀ rec a, Inv l.length a → B rec (S a (l.length : Int)) = some (F a []))
  (hstep : ∀ (rec : V → Option R) (a : A) (i : Nat) (x : α) (r : List α), Inv i a → l.drop i = x :: r → l[i]? = some x → i < l.length → wi ((i : Int) + 1) = ((i + 1 : Nat) : Int) → (∀ a, Inv (i + 1) a → rec (S a ((i + 1 : Nat) : Int)) = some (F a r)) → B rec (S a (i : Int)) = some (F a (x :: r))) :
  ∀ {n : Nat} (i : Nat) (a : A), Inv i a → i ≤ l.length → l.length - i < n → loopN B n (S a (i : Int)) = some (F a (l.drop i))
 | 0, _, _, _, _, h => absurd h (Nat.not_lt_zero _)
 | n + 1, i, a, ha, hi, h => by
  unfold loopN
  by_cases he : i = l.length
  ·subst he; rw [hend _ _ ha]; simp
  ·have hlt : i < l.length := by omega
   have hd : l.drop i = l[i] :: l.drop (i + 1) := by rw [List.drop_eq_getElem_cons hlt]
   rw [hd]
   exact hstep _ a i _ _ ha hd (by simp [hlt]) hlt (by rw [wi_id] <;> omega) (fun a ha => loop_gen S Inv hlen hend hstep (i + 1) a ha (by omega) (by omega))
def tarB : Int → List GArticle → Bool
 | k, [] => decide (k ≤ 1)
 | k, a :: r => artB a && tarB (if a.Kind = 6 then k + 1 else k) r
def rateF : Int → List GArticle → Int
 | z, [] => z
 | z, a :: r => rateF (if a.Kind = 6 then a.Price else z) r
def tariffB (t : GTariff) : Bool := nameB t.Name && decide (t.Articles.length ≤ 12) && tarB 0 t.Articles
end Go.Proofs
namespace Go.Proofs
open Go Go.Abs
set_option maxRecDepth 100000
set_option linter.unusedVariables false
def offF (m : Int) : Int → List GChange → Int
 | o, [] => o
 | o, x :: r => offF m (if x.At ≤ m then x.Offset else o) r
def wkF (d : Int) : Int := if Int.tmod (wi (d + 7)) 7 = 5 then 1 else if Int.tmod (wi (d + 7)) 7 = 6 then 2 else 0
def typF (d : Int) : List Int → Int
 | [] => wkF d
 | x :: r => if x = d then 2 else typF d r
theorem typF_range (d : Int) : ∀ l, 0 ≤ typF d l ∧ typF d l ≤ 2
 | [] => by
  unfold typF wkF
  split
  ·omega
  ·split <;> omega
 | x :: r => by
  have := typF_range d r
  unfold typF; split <;> omega
def appB (c : GCalendar) (a : GArticle) (m : Int) : Bool :=
 let w := wi (wi (m + offF m c.Offset c.Changes) + 1440)
 decide (a.From ≤ Int.tmod w 1440) && decide (Int.tmod w 1440 < a.To) && !decide (bAnd .i64 a.Days (shlI .i64 1 (typF (wi (wi (Int.tdiv w 1440) - 1)) c.Holidays)) = 0)
def cntF (c : GCalendar) (a : GArticle) : Nat → Int → Int → Int
 | 0, _, z => z
 | k + 1, m, z => cntF c a k (m + 1) (if appB c a m then wi (z + 1) else z)
def staF (c : GCalendar) (a : GArticle) (f t : Int) : Int :=
 wi (a.Price * wi (Int.tdiv (wi (wi (maxI 0 (cntF c a (t - f).toNat f (wi (0 - a.Free))) + a.Unit) - 1)) a.Unit))
def eneF (c : GCalendar) (a : GArticle) : Int → List GSlice → Int
 | z, [] => z
 | z, x :: r => eneF c a (if appB c a x.Minute then wi (z + x.Energy) else z) r
def cosF (c : GCalendar) (s : GSession) (a : GArticle) : Int :=
 if a.Kind = 1 then (if appB c a s.From then a.Price else 0)
 else if a.Kind = 2 then wi (Int.tdiv (wi (wi (wi (2 * a.Price) * eneF c a 0 s.Slices) + 1000)) 2000)
 else if a.Kind = 3 then staF c a s.From s.To
 else if a.Kind = 4 then staF c a s.End s.To
 else 0
end Go.Proofs
namespace Go.Proofs
open Go Go.Abs
set_option maxRecDepth 100000
set_option linter.unusedVariables false
def linF (c : GCalendar) (s : GSession) : Nat → List GArticle → List GLine
 | _, [] => []
 | i, a :: r => if a.Kind = 5 ∨ a.Kind = 6 then linF c s (i + 1) r else ⟨i, cosF c s a⟩ :: linF c s (i + 1) r
def linB (l : List GLine) : Bool := l.all (fun x => decide (x.Amount ≤ 1000000000))
def sumF : Int → List GLine → Int
 | z, [] => z
 | z, x :: r => sumF (wi (z + x.Amount)) r
def capF : Int → List GArticle → Int
 | z, [] => z
 | z, a :: r => capF (if a.Kind = 5 then minI z a.Price else z) r
def taxF (net rate : Int) : Int := wi (Int.tdiv (wi (wi (wi (2 * net) * rate) + 10000)) 20000)
def netF (t : GTariff) (z : Int) (l : List GLine) : Int := capF (sumF z l) t.Articles
def bilF (t : GTariff) (rate z : Int) (l : List GLine) : GBill := ⟨l, netF t z l, taxF (netF t z l) rate, wi (netF t z l + taxF (netF t z l) rate)⟩
def bilB (b : GBill) : Bool := decide (b.Net ≤ 1000000000) && decide (b.Total ≤ 1000000000)
end Go.Proofs
namespace Go.Proofs
open Go Go.Abs
set_option maxRecDepth 100000
set_option linter.unusedVariables false
theorem tarB_all : ∀ {l : List GArticle} {k : Int}, tarB k l = true → ∀ a ∈ l, artB a = true
 | [], _, _, a, ha => by cases ha
 | x :: r, k, h, a, ha => by
  simp only [tarB, Bool.and_eq_true] at h
  rcases List.mem_cons.1 ha with rfl | ha
  ·exact h.1
  ·exact tarB_all h.2 a ha
end Go.Proofs
namespace Go.Proofs
open Go Go.Abs
set_option maxRecDepth 100000
set_option linter.unusedVariables false
def keyL : List (List UInt8) := ((g_ref02_Kinds 0).getD []) ++ (((g_ref02_Attrs 0).getD []) ++ (((g_ref02_Articles 0).getD []) ++ ((g_ref02_Words 0).getD [])))
theorem cse (b c : Bool) : (bif b then b else c) = (b || c) := by cases b <;> rfl
theorem cst (b c : Bool) : (bif b then true else c) = (b || c) := by cases b <;> rfl
def keyA : List (List UInt8) := [[102, 101, 101, 100, 101, 114], [99, 97, 98, 108, 101], [111, 119, 110, 101, 114], [99, 111, 110, 116, 114, 97, 99, 116], [99, 104, 97, 114, 103, 101, 114], [98, 97, 121], [116, 97, 114, 105, 102, 102], [108, 105, 109, 105, 116], [110, 101, 117, 116, 114, 97, 108], [102, 117, 115, 101], [116, 104, 101, 114, 109, 97, 108], [102, 114, 111, 109], [97, 116], [112, 104, 97, 115, 101, 115], [97, 109, 112, 115], [102, 97, 108, 108, 98, 97, 99, 107], [99, 97, 114, 100], [114, 97, 110, 107], [115, 116, 97, 114, 116], [101, 110, 101, 114, 103, 121], [116, 105, 109, 101], [105, 100, 108, 101], [99, 97, 112], [116, 97, 120], [111, 110], [119, 111, 114, 107], [115, 97, 116, 117, 114, 100, 97, 121], [115, 117, 110, 100, 97, 121], [98, 101, 116, 119, 101, 101, 110], [112, 101, 114], [102, 114, 101, 101]]
theorem keyB_any (s : List UInt8) : keyB s = keyA.contains s := by
 unfold keyB g_a_isKey keyA
 simp only [cond_some, Option.bind_some, Option.getD_some, cse, cst, eqS, List.contains_cons, List.contains_nil, Bool.or_assoc, Bool.or_false]
theorem keyB_mem (s : List UInt8) : keyB s = keyL.contains s := by
 rw [keyB_any, Bool.eq_iff_iff, List.contains_iff_mem, List.contains_iff_mem]
 have h1 : ∀ x ∈ keyA, x ∈ keyL := by decide
 have h2 : ∀ x ∈ keyL, x ∈ keyA := by decide
 exact ⟨h1 s, h2 s⟩
theorem r_article (n : Nat) (a : GArticle) : g_ref32_Article n a = some (artB a) := by
 unfold g_ref32_Article artB g_a_validArticle
 simp only [a_inside, cond_some, Option.bind_some, Option.getD_some, eqI_d, ltI, leI]
 rw [Option.some.injEq, Bool.eq_iff_iff]
 obtain ⟨k, d, f, t, p, u, v⟩ := a
 simp only [Bool.cond_eq_ite]
 by_cases k1 : k = 1
 ·subst k1; simp; omega
 by_cases k2 : k = 2
 ·subst k2; simp; omega
 by_cases k3 : k = 3
 ·subst k3; simp; omega
 by_cases k4 : k = 4
 ·subst k4; simp; omega
 by_cases k5 : k = 5
 ·subst k5; simp; omega
 by_cases k6 : k = 6
 ·subst k6; simp; omega
 simp [k1, k2, k3, k4, k5, k6]
 omega
theorem r_off (n : Nat) (x : Int) : g_ref26_offset n x = some (decide (-1440 ≤ x ∧ x ≤ 1440)) := by
 unfold g_ref26_offset
 by_cases h : -1440 ≤ x <;> simp [leI, h]
theorem r_cal5 (n : Nat) (c : GCalendar) (hn : 1000 ≤ n) (hl : c.Holidays.length ≤ 900) : g_ref26_Valid_j5 n c = some (holB (-1) c.Holidays) := by
 unfold g_ref26_Valid_j5
 have := loop_gen (l := c.Holidays) (fun (_ : Int) i => i) (B := fun recl6 l6 => g_ref26_Valid_l6 c recl6 l6) (F := holB) (fun i a => -1 ≤ a ∧ (i = 0 → a = -1) ∧ (i ≠ 0 → c.Holidays[i - 1]? = some a)) (by omega) ?_ ?_ (n := n) 0 (-1) (by simp) (by omega) (by omega)
 ·exact this
 ·intro rec a ha
  simp only [g_ref26_Valid_l6, lenI, List.length_map, ltI]
  rw [decide_eq_false (by omega), cond_false]
  rfl
 ·intro rec a i x r ha hd hx hi hw hr
  simp only [g_ref26_Valid_l6, lenI, List.length_map, ltI, leI, getI_nat, hx, Option.bind_some, hw]
  rw [decide_eq_true (by omega), cond_true, holB]
  by_cases c1 : x < 0
  ·rw [decide_eq_true c1]
   simp only [cond_true, Option.bind_some]
   rw [decide_eq_false (show ¬ (a < x ∧ x ≤ 36500) by omega)]; rfl
  rw [decide_eq_false c1, cond_false]
  by_cases c2 : 36500 < x
  ·rw [decide_eq_true c2]
   simp only [cond_true, Option.bind_some]
   rw [decide_eq_false (show ¬ (a < x ∧ x ≤ 36500) by omega)]; rfl
  rw [decide_eq_false c2, cond_false]
  have hrr := hr x ⟨by omega, by omega, fun _ => by simpa using hx⟩
  by_cases c3 : i = 0
  ·rw [decide_eq_false (show ¬ (0 : Int) < i by omega)]
   simp only [cond_false, Option.bind_some]
   rw [hrr, decide_eq_true (show a < x ∧ x ≤ 36500 by have := ha.2.1 c3; omega)]; rfl
  ·rw [decide_eq_true (show (0 : Int) < i by omega), cond_true, show wi ((i : Int) - 1) = ((i - 1 : Nat) : Int) from by rw [wi_id] <;> omega, getI_nat, ha.2.2 c3]
   simp only [Option.bind_some]
   by_cases c4 : x ≤ a
   ·rw [decide_eq_true c4, cond_true, decide_eq_false (show ¬ (a < x ∧ x ≤ 36500) by omega)]; rfl
   ·rw [decide_eq_false c4, cond_false, hrr, decide_eq_true (show a < x ∧ x ≤ 36500 by omega)]; rfl
theorem r_cal (n : Nat) (c : GCalendar) (hn : 1000 ≤ n) (h1 : c.Changes.length ≤ 900) (h2 : c.Holidays.length ≤ 900) : g_ref26_Valid n c = some (calB c) := by
 have key : loopN (fun recl13 l13 => g_ref26_Valid_l13 n c recl13 l13) n 0 = some (chgB (-1) c.Changes && holB (-1) c.Holidays) := by
  have := loop_gen (l := c.Changes) (fun (_ : Int) i => i) (B := fun recl13 l13 => g_ref26_Valid_l13 n c recl13 l13) (F := fun a r => chgB a r && holB (-1) c.Holidays) (fun i a => -1 ≤ a ∧ (i = 0 → a = -1) ∧ (i ≠ 0 → ∃ x, c.Changes[i - 1]? = some x ∧ x.At = a)) (by omega) ?_ ?_ (n := n) 0 (-1) (by simp) (by omega) (by omega)
  ·exact this
  ·intro rec a ha
   simp only [g_ref26_Valid_l13, lenI, List.length_map, ltI]
   rw [decide_eq_false (by omega), cond_false, r_cal5 n c hn h2]
   rfl
  ·intro rec a i x r ha hd hx hi hw hr
   simp only [g_ref26_Valid_l13, lenI, List.length_map, ltI, leI, getI_nat, hx, Option.bind_some, hw, r_off]
   rw [decide_eq_true (by omega), cond_true, chgB]
   by_cases c0 : -1440 ≤ x.Offset ∧ x.Offset ≤ 1440
   rotate_left
   ·rw [decide_eq_false c0]
    simp only [Bool.not_false, cond_true, Option.bind_some]
    rw [decide_eq_false (show ¬ (a < x.At ∧ x.At ≤ 52560000 ∧ -1440 ≤ x.Offset ∧ x.Offset ≤ 1440) by omega)]; rfl
   rw [decide_eq_true c0, Bool.not_true, cond_false]
   by_cases c1 : x.At < 0
   ·rw [decide_eq_true c1]
    simp only [cond_true, Option.bind_some]
    rw [decide_eq_false (show ¬ (a < x.At ∧ x.At ≤ 52560000 ∧ -1440 ≤ x.Offset ∧ x.Offset ≤ 1440) by omega)]; rfl
   rw [decide_eq_false c1, cond_false]
   by_cases c2 : 52560000 < x.At
   ·rw [decide_eq_true c2]
    simp only [cond_true, Option.bind_some]
    rw [decide_eq_false (show ¬ (a < x.At ∧ x.At ≤ 52560000 ∧ -1440 ≤ x.Offset ∧ x.Offset ≤ 1440) by omega)]; rfl
   rw [decide_eq_false c2, cond_false]
   have hrr := hr x.At ⟨by omega, by omega, fun _ => ⟨x, by simpa using hx, rfl⟩⟩
   by_cases c3 : i = 0
   ·rw [decide_eq_false (show ¬ (0 : Int) < i by omega)]
    simp only [cond_false, Option.bind_some]
    rw [hrr, decide_eq_true (show a < x.At ∧ x.At ≤ 52560000 ∧ -1440 ≤ x.Offset ∧ x.Offset ≤ 1440 by have := ha.2.1 c3; omega)]; rfl
   ·obtain ⟨y, hy, hya⟩ := ha.2.2 c3
    rw [decide_eq_true (show (0 : Int) < i by omega), cond_true, show wi ((i : Int) - 1) = ((i - 1 : Nat) : Int) from by rw [wi_id] <;> omega, getI_nat, hy]
    simp only [Option.bind_some, hya]
    by_cases c4 : x.At ≤ a
    ·rw [decide_eq_true c4, cond_true, decide_eq_false (show ¬ (a < x.At ∧ x.At ≤ 52560000 ∧ -1440 ≤ x.Offset ∧ x.Offset ≤ 1440) by omega)]; rfl
    ·rw [decide_eq_false c4, cond_false, hrr, decide_eq_true (show a < x.At ∧ x.At ≤ 52560000 ∧ -1440 ≤ x.Offset ∧ x.Offset ≤ 1440 by omega)]; rfl
 unfold g_ref26_Valid calB
 rw [key]
 simp only [r_off, Option.bind_some, cond_some, lenI, List.length_map, ltI]
 by_cases c0 : -1440 ≤ c.Offset ∧ c.Offset ≤ 1440
 rotate_left
 ·rw [decide_eq_false c0]; rfl
 rw [decide_eq_true c0]
 by_cases c1 : c.Changes.length ≤ 16
 rotate_left
 ·rw [decide_eq_true (show (16 : Int) < c.Changes.length by omega), decide_eq_false c1]; rfl
 rw [decide_eq_false (show ¬ (16 : Int) < c.Changes.length by omega), decide_eq_true c1]
 by_cases c2 : c.Holidays.length ≤ 32
 rotate_left
 ·rw [decide_eq_true (show (32 : Int) < c.Holidays.length by omega), decide_eq_false c2]; rfl
 rw [decide_eq_false (show ¬ (32 : Int) < c.Holidays.length by omega), decide_eq_true c2]
 rfl
end Go.Proofs
namespace Go.Proofs
open Go Go.Abs
set_option maxRecDepth 100000
set_option linter.unusedVariables false
structure Art (a : GArticle) : Prop where
 days : 1 ≤ a.Days ∧ a.Days ≤ 7
 from_ : 0 ≤ a.From ∧ a.From ≤ 1439
 to_ : a.From < a.To ∧ a.To ≤ 1440
 price : 0 ≤ a.Price ∧ a.Price ≤ 1000000
 kind : 1 ≤ a.Kind ∧ a.Kind ≤ 6
 unit : a.Kind = 3 ∨ a.Kind = 4 → 1 ≤ a.Unit ∧ a.Unit ≤ 1440 ∧ 0 ≤ a.Free ∧ a.Free ≤ 1440
 rate : a.Kind = 6 → a.Price ≤ 10000
theorem artB_art {a : GArticle} (h : artB a = true) : Art a := by
 unfold artB g_a_validArticle at h
 simp only [a_inside, cond_some, Option.bind_some, Option.getD_some, eqI_d, ltI, leI] at h
 obtain ⟨k, d, f, t, p, u, v⟩ := a
 simp only [Bool.cond_eq_ite] at h
 by_cases k1 : k = 1
 ·subst k1; simp at h; constructor <;> simp <;> omega
 by_cases k2 : k = 2
 ·subst k2; simp at h; constructor <;> simp <;> omega
 by_cases k3 : k = 3
 ·subst k3; simp at h; constructor <;> simp <;> omega
 by_cases k4 : k = 4
 ·subst k4; simp at h; constructor <;> simp <;> omega
 by_cases k5 : k = 5
 ·subst k5; simp at h; constructor <;> simp <;> omega
 by_cases k6 : k = 6
 ·subst k6; simp at h; constructor <;> simp <;> omega
 exfalso
 simp [k3, k4, k5, k6] at h
 omega
theorem offF_range (m : Int) : ∀ (l : List GChange) (p o : Int), chgB p l = true → (-1440 ≤ o ∧ o ≤ 1440) → -1440 ≤ offF m o l ∧ offF m o l ≤ 1440
 | [], _, o, _, h => h
 | x :: r, p, o, hc, h => by
  simp only [chgB, Bool.and_eq_true, decide_eq_true_eq] at hc
  unfold offF
  refine offF_range m r x.At _ hc.2 ?_
  split
  ·exact ⟨hc.1.2.2.1, hc.1.2.2.2⟩
  ·exact h
theorem cal_off {c : GCalendar} (m : Int) (h : calB c = true) : -1440 ≤ offF m c.Offset c.Changes ∧ offF m c.Offset c.Changes ≤ 1440 := by
 simp only [calB, Bool.and_eq_true, decide_eq_true_eq] at h
 exact offF_range m _ _ _ h.1.2 h.1.1.1.1
theorem r_offset (n : Nat) (c : GCalendar) (m : Int) (hn : 1000 ≤ n) (hl : c.Changes.length ≤ 900) : g_ref26_Offset n c m = some (offF m c.Offset c.Changes) := by
 unfold g_ref26_Offset
 have := loop_acc (l := c.Changes) (B := fun recl1 (v : Int × Int) => g_ref26_Offset_l1 c m recl1 v.1 v.2) (F := offF m) (by omega) ?_ ?_ (n := n) 0 c.Offset (by omega) (by omega)
 ·exact this
 ·intro rec a; simp [g_ref26_Offset_l1, ltI, lenI, offF]
 ·intro rec a i x r hd hx hi hw hr
  simp only [g_ref26_Offset_l1, lenI, List.length_map, getI_nat, hx, Option.bind_some, hw, hr, ltI, leI, offF]
  rw [decide_eq_true (by omega), cond_true]
  by_cases h : x.At ≤ m <;> simp [h]
theorem r_type (n : Nat) (c : GCalendar) (d : Int) (hn : 1000 ≤ n) (h1 : c.Changes.length ≤ 900) (h2 : c.Holidays.length ≤ 900) (hc : calB c = true) (hd : -1 ≤ d ∧ d ≤ 36501) : g_ref26_Type n c d = some (typF d c.Holidays, 0) := by
 unfold g_ref26_Type
 rw [r_cal n c hn h1 h2, hc]
 simp only [Option.bind_some, Bool.not_true, cond_false, ltI]
 rw [decide_eq_false (show ¬ d < -1 by omega), cond_false, Option.bind_some, decide_eq_false (show ¬ 36501 < d by omega), cond_false]
 have := loop_list (l := c.Holidays) (B := fun recl6 l6 => g_ref26_Type_l6 c d recl6 l6) (F := fun r => (typF d r, (0 : Int))) (by omega) ?_ ?_ (n := n) 0 (by omega) (by omega)
 ·exact this
 ·intro rec
  simp only [g_ref26_Type_l6, g_ref26_Type_j5, lenI, List.length_map, ltI, eqI_d, typF, wkF]
  rw [decide_eq_false (by omega), cond_false]
  by_cases k1 : Int.tmod (wi (d + 7)) 7 = 5
  ·simp [k1]
  ·by_cases k2 : Int.tmod (wi (d + 7)) 7 = 6 <;> simp [k1, k2]
 ·intro rec i x r hd hx hi hw hr
  simp only [g_ref26_Type_l6, lenI, List.length_map, getI_nat, hx, Option.bind_some, hw, hr, ltI, eqI_d, typF]
  rw [decide_eq_true (by omega), cond_true]
  by_cases h : x = d <;> simp [h]
theorem days_lem (d t : Int) (hd : 1 ≤ d ∧ d ≤ 7) (ht : 0 ≤ t ∧ t ≤ 2) :
  (bif decide (t = 2) then decide (Int.tmod (wi (Int.tdiv d 4)) 2 = 1) else bif decide (t = 1) then decide (Int.tmod (wi (Int.tdiv d 2)) 2 = 1) else decide (Int.tmod d 2 = 1)) = !decide (bAnd .i64 d (shlI .i64 1 t) = 0) := by
 have hd' : d = 1 ∨ d = 2 ∨ d = 3 ∨ d = 4 ∨ d = 5 ∨ d = 6 ∨ d = 7 := by omega
 have ht' : t = 0 ∨ t = 1 ∨ t = 2 := by omega
 rcases hd' with rfl | rfl | rfl | rfl | rfl | rfl | rfl <;> rcases ht' with rfl | rfl | rfl <;> decide
theorem r_applies (n : Nat) (c : GCalendar) (a : GArticle) (m : Int) (hn : 1000 ≤ n) (h1 : c.Changes.length ≤ 900) (h2 : c.Holidays.length ≤ 900) (hc : calB c = true) (ha : artB a = true) (hm : 0 ≤ m ∧ m ≤ 52560000) :
  g_ref32_Applies n a c m = some (appB c a m) := by
 have ho := cal_off m hc
 have hA := artB_art ha
 have hloc : g_ref26_Local n c m = some ((m + offF m c.Offset c.Changes + 1440) / 1440 - 1, (m + offF m c.Offset c.Changes + 1440) % 1440, 0) := by
  unfold g_ref26_Local
  rw [r_cal n c hn h1 h2, hc]
  simp only [Option.bind_some, Bool.not_true, cond_false, ltI]
  rw [decide_eq_false (show ¬ m < 0 by omega), cond_false, Option.bind_some, decide_eq_false (show ¬ 52560000 < m by omega), cond_false, r_offset n c m hn h1, Option.bind_some]
  generalize offF m c.Offset c.Changes = o at ho
  rw [wi_id (x := m + o) (by omega) (by omega)]
  by_cases hneg : m + o < 0
  ·rw [decide_eq_true hneg, cond_true, wi_id (x := m + o - -1440) (by omega) (by omega)]
   congr 2
   ·omega
   ·congr 1
    omega
  ·rw [decide_eq_false hneg, cond_false, Int.tdiv_eq_ediv_of_nonneg (by omega)]
   rw [wi_id (x := (m + o) / 1440) (by omega) (by omega), wi_id (x := 1440 * ((m + o) / 1440)) (by omega) (by omega), wi_id (by omega) (by omega)]
   congr 2
   ·omega
   ·congr 1
    omega
 unfold g_ref32_Applies appB
 rw [r_article, ha, hloc]
 simp only [Option.bind_some, Bool.not_true, cond_false, eqI_d, decide_true]
 generalize offF m c.Offset c.Changes = o at ho
 rw [wi_id (x := m + o) (by omega) (by omega), wi_id (x := m + o + 1440) (by omega) (by omega)]
 rw [Int.tdiv_eq_ediv_of_nonneg (a := m + o + 1440) (by omega), Int.tmod_eq_emod_of_nonneg (a := m + o + 1440) (by omega)]
 rw [wi_id (x := (m + o + 1440) / 1440) (by omega) (by omega), wi_id (x := (m + o + 1440) / 1440 - 1) (by omega) (by omega)]
 rw [r_type n c _ hn h1 h2 hc (by omega)]
 simp only [Option.bind_some, cond_some, leI, ltI]
 rw [days_lem _ _ hA.days (typF_range _ _)]
 generalize decide (bAnd .i64 a.Days (shlI .i64 1 (typF ((m + o + 1440) / 1440 - 1) c.Holidays)) = 0) = b
 generalize decide (a.From ≤ (m + o + 1440) % 1440) = b1
 generalize decide ((m + o + 1440) % 1440 < a.To) = b2
 cases b <;> cases b1 <;> cases b2 <;> rfl
def cN (c : GCalendar) (a : GArticle) : Nat → Int → Int
 | 0, _ => 0
 | k + 1, m => (if appB c a m then 1 else 0) + cN c a k (m + 1)
theorem cN_range (c : GCalendar) (a : GArticle) : ∀ (k : Nat) (m : Int), 0 ≤ cN c a k m ∧ cN c a k m ≤ k
 | 0, _ => by simp [cN]
 | k + 1, m => by
  have := cN_range c a k (m + 1)
  unfold cN
  split <;> omega
theorem cntF_cN (c : GCalendar) (a : GArticle) : ∀ (k : Nat) (m z : Int), k ≤ 1000000 → -1000000 ≤ z ∧ z ≤ 2000000 - k → cntF c a k m z = z + cN c a k m
 | 0, m, z, _, _ => by simp [cntF, cN]
 | k + 1, m, z, hk, hz => by
  unfold cntF cN
  split
  ·rw [wi_id (by omega) (by omega), cntF_cN c a k (m + 1) (z + 1) (by omega) (by omega)]
   omega
  ·rw [cntF_cN c a k (m + 1) z (by omega) (by omega)]
   omega
theorem r_minutes (n : Nat) (c : GCalendar) (a : GArticle) (f t : Int) (hn : 10000 ≤ n) (h1 : c.Changes.length ≤ 900) (h2 : c.Holidays.length ≤ 900) (hc : calB c = true) (ha : artB a = true) (hf : 0 ≤ f) (ht : t ≤ 52560000) (hk : t - f ≤ 2880) :
  g_ref33_Minutes n a c f t = some (cN c a (t - f).toNat f) := by
 unfold g_ref33_Minutes
 have key : ∀ (k j : Nat) (z m : Int), (t - m).toNat = k → k < j → 0 ≤ m → k ≤ 2880 → 0 ≤ z ∧ z ≤ 3000 - k →
   loopN (fun recl1 (v : Int × Int) => g_ref33_Minutes_l1 n a c t recl1 v.1 v.2) j (z, m) = some (z + cN c a k m) := by
  intro k
  induction k with
  | zero =>
   intro j z m h3 h4 h5 h6 h7
   obtain ⟨j, rfl⟩ : ∃ j', j = j' + 1 := ⟨j - 1, by omega⟩
   unfold loopN
   simp only [g_ref33_Minutes_l1, ltI]
   rw [decide_eq_false (by omega), cond_false]
   simp [cN]
  | succ k ih =>
   intro j z m h3 h4 h5 h6 h7
   obtain ⟨j, rfl⟩ : ∃ j', j = j' + 1 := ⟨j - 1, by omega⟩
   have i0 := ih j z (m + 1) (by omega) (by omega) (by omega) (by omega) (by omega)
   have i1 := ih j (z + 1) (m + 1) (by omega) (by omega) (by omega) (by omega) (by omega)
   unfold loopN
   generalize loopN (fun recl1 (v : Int × Int) => g_ref33_Minutes_l1 n a c t recl1 v.1 v.2) j = L at i0 i1 ⊢
   show g_ref33_Minutes_l1 n a c t L z m = _
   unfold g_ref33_Minutes_l1
   simp only [ltI]
   rw [decide_eq_true (by omega), cond_true, r_applies n c a m (by omega) h1 h2 hc ha (by omega), Option.bind_some, wi_id (x := m + 1) (by omega) (by omega), wi_id (x := z + 1) (by omega) (by omega)]
   unfold cN
   cases appB c a m
   ·rw [cond_false, i0]
    simp
   ·rw [cond_true, i1]
    simp
    omega
 have := key (t - f).toNat n 0 f rfl (by omega) hf (by omega) (by omega)
 rw [Int.zero_add] at this
 exact this
def slB (f e : Int) : Int → List GSlice → Bool
 | _, [] => true
 | p, x :: r => decide (f ≤ x.Minute ∧ x.Minute < e ∧ 0 ≤ x.Energy ∧ x.Energy ≤ 10000 ∧ p < x.Minute) && slB f e x.Minute r
def valB (s : GSession) : Bool := decide (0 ≤ s.From ∧ s.From < s.To ∧ s.To ≤ 52560000 ∧ s.To - s.From ≤ 2880 ∧ s.From ≤ s.End ∧ s.End ≤ s.To ∧ s.Slices.length ≤ 48) && slB s.From s.End (s.From - 1) s.Slices
theorem r_session_valid (n : Nat) (s : GSession) (hn : 1000 ≤ n) (hl : s.Slices.length ≤ 900) (hb : i64b s.From) : g_ref33_Valid n s = some (valB s) := by
 unfold i64b at hb
 unfold g_ref33_Valid valB
 simp only [ltI, leI, lenI, List.length_map]
 have key : loopN (fun recl8 l8 => g_ref33_Valid_l8 s recl8 l8) n 0 = some (slB s.From s.End (s.From - 1) s.Slices) := by
  have := loop_gen (l := s.Slices) (fun (_ : Int) i => i) (B := fun recl8 l8 => g_ref33_Valid_l8 s recl8 l8) (F := slB s.From s.End) (fun i a => s.From - 1 ≤ a ∧ (i = 0 → a = s.From - 1) ∧ (i ≠ 0 → ∃ x, s.Slices[i - 1]? = some x ∧ x.Minute = a)) (by omega) ?_ ?_ (n := n) 0 (s.From - 1) (by simp) (by omega) (by omega)
  ·exact this
  ·intro rec a ha
   simp only [g_ref33_Valid_l8, lenI, List.length_map, ltI]
   rw [decide_eq_false (by omega), cond_false]
   rfl
  ·intro rec a i x r ha hd hx hi hw hr
   simp only [g_ref33_Valid_l8, lenI, List.length_map, ltI, leI, getI_nat, hx, Option.bind_some, hw]
   rw [decide_eq_true (by omega), cond_true, slB]
   by_cases c1 : x.Minute < s.From
   ·rw [decide_eq_true c1, cond_true, Option.bind_some, cond_true, decide_eq_false (by omega)]; rfl
   rw [decide_eq_false c1, cond_false]
   by_cases c2 : s.End ≤ x.Minute
   ·rw [decide_eq_true c2, cond_true, Option.bind_some, cond_true, decide_eq_false (by omega)]; rfl
   rw [decide_eq_false c2, cond_false]
   by_cases c3 : x.Energy < 0
   ·rw [decide_eq_true c3, cond_true, Option.bind_some, cond_true, decide_eq_false (by omega)]; rfl
   rw [decide_eq_false c3, cond_false]
   by_cases c4 : 10000 < x.Energy
   ·rw [decide_eq_true c4, cond_true, Option.bind_some, cond_true, decide_eq_false (by omega)]; rfl
   rw [decide_eq_false c4, cond_false]
   have hrr := hr x.Minute ⟨by omega, by omega, fun _ => ⟨x, by simpa using hx, rfl⟩⟩
   by_cases c5 : i = 0
   ·rw [decide_eq_false (show ¬ (0 : Int) < i by omega), cond_false, Option.bind_some, cond_false, hrr, decide_eq_true (show s.From ≤ x.Minute ∧ x.Minute < s.End ∧ 0 ≤ x.Energy ∧ x.Energy ≤ 10000 ∧ a < x.Minute by have := ha.2.1 c5; omega)]; rfl
   ·obtain ⟨y, hy, hya⟩ := ha.2.2 c5
    rw [decide_eq_true (show (0 : Int) < i by omega), cond_true, show wi ((i : Int) - 1) = ((i - 1 : Nat) : Int) from by rw [wi_id] <;> omega, getI_nat, hy]
    simp only [Option.bind_some, hya]
    by_cases c6 : x.Minute ≤ a
    ·rw [decide_eq_true c6, cond_true, decide_eq_false (show ¬ (s.From ≤ x.Minute ∧ x.Minute < s.End ∧ 0 ≤ x.Energy ∧ x.Energy ≤ 10000 ∧ a < x.Minute) by omega)]; rfl
    ·rw [decide_eq_false c6, cond_false, hrr, decide_eq_true (show s.From ≤ x.Minute ∧ x.Minute < s.End ∧ 0 ≤ x.Energy ∧ x.Energy ≤ 10000 ∧ a < x.Minute by omega)]; rfl
 rw [key]
 by_cases c1 : s.From < 0
 ·rw [decide_eq_true c1, cond_true, Option.bind_some, cond_true, decide_eq_false (by omega)]; rfl
 rw [decide_eq_false c1, cond_false]
 by_cases c2 : s.To ≤ s.From
 ·rw [decide_eq_true c2, cond_true, Option.bind_some, cond_true, decide_eq_false (by omega)]; rfl
 rw [decide_eq_false c2, cond_false]
 by_cases c3 : 52560000 < s.To
 ·rw [decide_eq_true c3, cond_true, Option.bind_some, cond_true, decide_eq_false (by omega)]; rfl
 rw [decide_eq_false c3, cond_false, wi_id (x := s.To - s.From) (by omega) (by omega)]
 by_cases c4 : 2880 < s.To - s.From
 ·rw [decide_eq_true c4, cond_true, Option.bind_some, cond_true, decide_eq_false (by omega)]; rfl
 rw [decide_eq_false c4, cond_false]
 by_cases c5 : s.End < s.From
 ·rw [decide_eq_true c5, cond_true, Option.bind_some, cond_true, decide_eq_false (by omega)]; rfl
 rw [decide_eq_false c5, cond_false]
 by_cases c6 : s.To < s.End
 ·rw [decide_eq_true c6, cond_true, Option.bind_some, cond_true, decide_eq_false (by omega)]; rfl
 rw [decide_eq_false c6, cond_false, Option.bind_some]
 by_cases c7 : s.Slices.length ≤ 48
 ·rw [decide_eq_false (show ¬ (48 : Int) < s.Slices.length by omega), cond_false, decide_eq_true (show 0 ≤ s.From ∧ s.From < s.To ∧ s.To ≤ 52560000 ∧ s.To - s.From ≤ 2880 ∧ s.From ≤ s.End ∧ s.End ≤ s.To ∧ s.Slices.length ≤ 48 by omega)]; rfl
 ·rw [decide_eq_true (show (48 : Int) < s.Slices.length by omega), cond_true, decide_eq_false (show ¬ (0 ≤ s.From ∧ s.From < s.To ∧ s.To ≤ 52560000 ∧ s.To - s.From ≤ 2880 ∧ s.From ≤ s.End ∧ s.End ≤ s.To ∧ s.Slices.length ≤ 48) by omega)]; rfl
end Go.Proofs
namespace Go.Proofs
open Go Go.Abs
set_option maxRecDepth 100000
set_option linter.unusedVariables false
theorem slB_mem {f e : Int} : ∀ {l : List GSlice} {p : Int}, slB f e p l = true → ∀ x ∈ l, f ≤ x.Minute ∧ x.Minute < e ∧ 0 ≤ x.Energy ∧ x.Energy ≤ 10000
 | [], _, _, x, hx => by cases hx
 | y :: r, p, h, x, hx => by
  simp only [slB, Bool.and_eq_true, decide_eq_true_eq] at h
  rcases List.mem_cons.1 hx with rfl | hx
  ·omega
  ·exact slB_mem h.2 x hx
theorem eneF_range (c : GCalendar) (a : GArticle) : ∀ (l : List GSlice) (z : Int), (∀ x ∈ l, 0 ≤ x.Energy ∧ x.Energy ≤ 10000) → 0 ≤ z → z + 10000 * l.length ≤ 10000000 → 0 ≤ eneF c a z l ∧ eneF c a z l ≤ z + 10000 * l.length
 | [], z, _, h0, h1 => by
  show 0 ≤ z ∧ z ≤ z + 10000 * ((0 : Nat) : Int)
  omega
 | x :: r, z, h, h0, h1 => by
  have hx := h x List.mem_cons_self
  simp only [List.length_cons] at h1 ⊢
  unfold eneF
  split
  ·rw [wi_id (by omega) (by omega)]
   have := eneF_range c a r (z + x.Energy) (fun y hy => h y (List.mem_cons_of_mem _ hy)) (by omega) (by omega)
   omega
  ·have := eneF_range c a r z (fun y hy => h y (List.mem_cons_of_mem _ hy)) (by omega) (by omega)
   omega
theorem r_energy (n : Nat) (c : GCalendar) (a : GArticle) (s : GSession) (hn : 1000 ≤ n) (h1 : c.Changes.length ≤ 900) (h2 : c.Holidays.length ≤ 900) (hc : calB c = true) (ha : artB a = true) (hl : s.Slices.length ≤ 900) (hs : ∀ x ∈ s.Slices, 0 ≤ x.Minute ∧ x.Minute ≤ 52560000) :
  g_ref33_Energy n a c s = some (eneF c a 0 s.Slices) := by
 unfold g_ref33_Energy
 have := loop_acc (l := s.Slices) (B := fun recl1 (v : Int × Int) => g_ref33_Energy_l1 n a c s recl1 v.1 v.2) (F := eneF c a) (by omega) ?_ ?_ (n := n) 0 0 (by omega) (by omega)
 ·exact this
 ·intro rec z
  have h : ltI ((s.Slices.length : Nat) : Int) (lenI (List.map GSlice.cs s.Slices)) = false := by simp [ltI, lenI]
  show g_ref33_Energy_l1 n a c s rec z ((s.Slices.length : Nat) : Int) = some z
  unfold g_ref33_Energy_l1
  rw [h, cond_false]
 ·intro rec z i x r hd hx hi hw hr
  have h3 : ltI (i : Int) (lenI (List.map GSlice.cs s.Slices)) = true := by
   simp only [ltI, lenI, List.length_map]
   rw [decide_eq_true (by omega)]
  show g_ref33_Energy_l1 n a c s rec z (i : Int) = some (eneF c a z (x :: r))
  unfold g_ref33_Energy_l1 eneF
  rw [h3, cond_true, getI_nat, hx, Option.bind_some, r_applies n c a x.Minute hn h1 h2 hc ha (hs x (List.mem_of_getElem? hx)), Option.bind_some, Option.bind_some, hw, hr, hr]
  cases appB c a x.Minute
  ·rfl
  ·rfl
theorem r_amount (n : Nat) (x : Int) : g_ref31_amount n x = some (decide (0 ≤ x ∧ x ≤ 1000000000)) := by
 unfold g_ref31_amount
 by_cases h : 0 ≤ x <;> simp [leI, h]
theorem r_checked (n : Nat) (x : Int) (h : 0 ≤ x) : g_ref31_checked n x = some (if x ≤ 1000000000 then (x, 0) else (0, 3)) := by
 unfold g_ref31_checked
 rw [r_amount, Option.bind_some]
 by_cases h1 : x ≤ 1000000000
 ·rw [decide_eq_true ⟨h, h1⟩, if_pos h1]; rfl
 ·rw [decide_eq_false (fun h => h1 h.2), if_neg h1]; rfl
theorem mul_bound {x y X Y : Int} (hx : 0 ≤ x ∧ x ≤ X) (hy : 0 ≤ y ∧ y ≤ Y) : 0 ≤ x * y ∧ x * y ≤ X * Y :=
 ⟨Int.mul_nonneg hx.1 hy.1, Int.mul_le_mul hx.2 hy.2 hy.1 (Int.le_trans hx.1 hx.2)⟩
theorem r_times (n : Nat) (p q : Int) (hp : 0 ≤ p ∧ p ≤ 1000000) (hq : 0 ≤ q ∧ q ≤ 480000) :
  g_ref31_Times n p q 1000 = some (if wi (Int.tdiv (wi (wi (wi (2 * p) * q) + 1000)) 2000) ≤ 1000000000 then (wi (Int.tdiv (wi (wi (wi (2 * p) * q) + 1000)) 2000), 0) else (0, 3)) ∧ 0 ≤ wi (Int.tdiv (wi (wi (wi (2 * p) * q) + 1000)) 2000) := by
 have hb := mul_bound hp hq
 have e1 : wi (p * q) = p * q := wi_id (by omega) (by omega)
 have e2 : wi (2 * p) = 2 * p := wi_id (by omega) (by omega)
 have e3 : 2 * p * q = 2 * (p * q) := Int.mul_assoc ..
 have e4 : wi (2 * (p * q)) = 2 * (p * q) := wi_id (by omega) (by omega)
 have e5 : wi (2 * (p * q) + 1000) = 2 * (p * q) + 1000 := wi_id (by omega) (by omega)
 have e6 : Int.tdiv (2 * (p * q) + 1000) 2000 = (2 * (p * q) + 1000) / 2000 := Int.tdiv_eq_ediv_of_nonneg (by omega)
 have e7 : wi ((2 * (p * q) + 1000) / 2000) = (2 * (p * q) + 1000) / 2000 := wi_id (by omega) (by omega)
 rw [e2, e3, e4, e5, e6, e7]
 refine ⟨?_, by omega⟩
 unfold g_ref31_Times g_ref31_divided
 simp only [r_amount, Option.bind_some]
 rw [decide_eq_true (show 0 ≤ p ∧ p ≤ 1000000000 by omega), decide_eq_true (show 0 ≤ q ∧ q ≤ 1000000000 by omega)]
 simp only [Bool.not_true, cond_false, Option.bind_some, show ltI 1000 1 = false from rfl, show ltI 1000000000 1000 = false from rfl]
 rw [show wi (2 * 1000) = 2000 from rfl, show (!eqI 2000 0) = true from rfl, cond_true, Option.bind_some, e1, e4, e5, e6, e7, r_checked n _ (by omega), Option.bind_some]
theorem r_started (n : Nat) (p q u : Int) (hp : 0 ≤ p ∧ p ≤ 1000000) (hq : 0 ≤ q ∧ q ≤ 3000) (hu : 1 ≤ u ∧ u ≤ 1440) :
  g_ref31_Started n p q u = some (if wi (p * wi (Int.tdiv (wi (wi (q + u) - 1)) u)) ≤ 1000000000 then (wi (p * wi (Int.tdiv (wi (wi (q + u) - 1)) u)), 0) else (0, 3)) ∧ 0 ≤ wi (p * wi (Int.tdiv (wi (wi (q + u) - 1)) u)) := by
 have e1 : wi (q + u) = q + u := wi_id (by omega) (by omega)
 have e2 : wi (q + u - 1) = q + u - 1 := wi_id (by omega) (by omega)
 have e3 : Int.tdiv (q + u - 1) u = (q + u - 1) / u := Int.tdiv_eq_ediv_of_nonneg (by omega)
 have hd : 0 ≤ (q + u - 1) / u ∧ (q + u - 1) / u ≤ 5000 := by
  constructor
  ·exact Int.ediv_nonneg (by omega) (by omega)
  ·have := Int.ediv_le_self (a := q + u - 1) u (by omega)
   omega
 have e4 : wi ((q + u - 1) / u) = (q + u - 1) / u := wi_id (by omega) (by omega)
 have hb := mul_bound hp hd
 have e5 : wi (p * ((q + u - 1) / u)) = p * ((q + u - 1) / u) := wi_id (by omega) (by omega)
 rw [e1, e2, e3, e4, e5]
 refine ⟨?_, hb.1⟩
 unfold g_ref31_Started
 simp only [r_amount, Option.bind_some]
 rw [decide_eq_true (show 0 ≤ p ∧ p ≤ 1000000000 by omega), decide_eq_true (show 0 ≤ q ∧ q ≤ 1000000000 by omega)]
 simp only [Bool.not_true, cond_false, ltI, eqI_d]
 rw [decide_eq_false (show ¬ u < 1 by omega), cond_false, Option.bind_some, decide_eq_false (show ¬ 1000000000 < u by omega), cond_false, decide_eq_false (show ¬ u = 0 by omega), Bool.not_false, cond_true, e1, e2, e3, e4, e5, r_checked n _ hb.1, Option.bind_some]
theorem r_sta (n : Nat) (c : GCalendar) (a : GArticle) (f t : Int) (hn : 10000 ≤ n) (h1 : c.Changes.length ≤ 900) (h2 : c.Holidays.length ≤ 900) (hc : calB c = true) (ha : artB a = true) (hk34 : a.Kind = 3 ∨ a.Kind = 4) (hf : 0 ≤ f) (ht : t ≤ 52560000) (hk : t - f ≤ 2880) :
  ((g_ref33_Minutes n a c f t).bind fun r => (g_ref31_Started n a.Price (maxI 0 (wi (r - a.Free))) a.Unit).bind fun r => some (r.1, r.2)) = some (if staF c a f t ≤ 1000000000 then (staF c a f t, 0) else (0, 3)) ∧ 0 ≤ staF c a f t := by
 have hA := artB_art ha
 have hU := hA.unit hk34
 have hcn := cN_range c a (t - f).toNat f
 have eq : maxI 0 (wi (cN c a (t - f).toNat f - a.Free)) = maxI 0 (cntF c a (t - f).toNat f (wi (0 - a.Free))) := by
  rw [wi_id (x := 0 - a.Free) (by omega) (by omega), cntF_cN c a _ _ _ (by omega) (by omega), wi_id (by omega) (by omega)]
  congr 1
  omega
 have hq : 0 ≤ maxI 0 (wi (cN c a (t - f).toNat f - a.Free)) ∧ maxI 0 (wi (cN c a (t - f).toNat f - a.Free)) ≤ 3000 := by
  rw [wi_id (by omega) (by omega)]
  unfold maxI
  split <;> omega
 have hs := r_started n a.Price _ a.Unit hA.price hq ⟨hU.1, hU.2.1⟩
 rw [eq] at hs
 unfold staF
 refine ⟨?_, hs.2⟩
 rw [r_minutes n c a f t hn h1 h2 hc ha hf ht hk, Option.bind_some, eq, hs.1, Option.bind_some]
theorem r_line (n : Nat) (c : GCalendar) (a : GArticle) (s : GSession) (hn : 10000 ≤ n) (h1 : c.Changes.length ≤ 900) (h2 : c.Holidays.length ≤ 900) (hc : calB c = true) (ha : artB a = true) (hv : valB s = true) :
  g_ref33_Line n a c s = some (if cosF c s a ≤ 1000000000 then (cosF c s a, 0) else (0, 3)) ∧ 0 ≤ cosF c s a := by
 have hA := artB_art ha
 have hv' := hv
 simp only [valB, Bool.and_eq_true, decide_eq_true_eq] at hv'
 obtain ⟨hr, hs⟩ := hv'
 unfold g_ref33_Line cosF
 rw [r_article, r_cal n c (by omega) h1 h2, r_session_valid n s (by omega) (by omega) (by unfold i64b; omega), ha, hc, hv]
 simp only [Option.bind_some, Bool.not_true, cond_false, eqI_d]
 by_cases k1 : a.Kind = 1
 ·rw [decide_eq_true k1, cond_true, if_pos k1, wi_id (x := s.From + 1) (by omega) (by omega), r_minutes n c a s.From (s.From + 1) hn h1 h2 hc ha hr.1 (by omega) (by omega), Option.bind_some]
  rw [show (s.From + 1 - s.From).toNat = 1 from by omega]
  unfold cN cN
  have := hA.price
  cases appB c a s.From
  ·refine ⟨?_, by simp⟩
   simp
   rfl
  ·rw [if_pos rfl, if_pos rfl, if_pos (by omega), show (1 : Int) + 0 = 1 from rfl, Int.mul_one, wi_id (by omega) (by omega)]
   exact ⟨rfl, this.1⟩
 rw [decide_eq_false k1, cond_false, if_neg k1]
 by_cases k2 : a.Kind = 2
 ·rw [decide_eq_true k2, cond_true, if_pos k2]
  have hm := slB_mem hs
  rw [r_energy n c a s (by omega) h1 h2 hc ha (by omega) (fun x hx => by have := hm x hx; omega), Option.bind_some]
  have he := eneF_range c a s.Slices 0 (fun x hx => by have := hm x hx; omega) (by omega) (by omega)
  have ht := r_times n a.Price (eneF c a 0 s.Slices) hA.price (by omega)
  refine ⟨?_, ht.2⟩
  rw [ht.1, Option.bind_some]
 rw [decide_eq_false k2, cond_false, if_neg k2]
 by_cases k3 : a.Kind = 3
 ·rw [decide_eq_true k3, cond_true, if_pos k3]
  exact r_sta n c a s.From s.To hn h1 h2 hc ha (Or.inl k3) hr.1 (by omega) (by omega)
 rw [decide_eq_false k3, cond_false, if_neg k3]
 by_cases k4 : a.Kind = 4
 ·rw [decide_eq_true k4, cond_true, if_pos k4]
  exact r_sta n c a s.End s.To hn h1 h2 hc ha (Or.inr k4) (by omega) (by omega) (by omega)
 rw [decide_eq_false k4, cond_false, if_neg k4]
 exact ⟨rfl, by omega⟩
end Go.Proofs
namespace Go.Proofs
open Go Go.Abs
set_option maxRecDepth 100000
set_option linter.unusedVariables false
theorem drop_idx {α : Type} {l : List α} {i : Nat} {x : α} {r : List α} (h : l.drop i = x :: r) (hi : i < l.length) : l.length - (r.length + 1) = i ∧ l.length - r.length = i + 1 := by
 have := congrArg List.length h
 simp only [List.length_drop, List.length_cons] at this
 omega
theorem linB_cons (x : GLine) (r : List GLine) : linB (x :: r) = (decide (x.Amount ≤ 1000000000) && linB r) := by
 unfold linB
 rw [List.all_cons]
def capR : Int → List GArticle → Int
 | k, [] => k
 | k, a :: r => capR (if a.Kind = 5 then (if k < 0 ∨ a.Price < k then a.Price else k) else k) r
def capV (k z : Int) : Int := if 0 ≤ k ∧ k < z then k else z
theorem capF_R : ∀ (l : List GArticle) (k z : Int), (∀ a ∈ l, 0 ≤ a.Price) → capF (capV k z) l = capV (capR k l) z
 | [], k, z, _ => rfl
 | a :: r, k, z, h => by
  have ha := h a List.mem_cons_self
  unfold capF capR
  by_cases h5 : a.Kind = 5
  ·rw [if_pos h5, if_pos h5, ← capF_R r _ z (fun x hx => h x (List.mem_cons_of_mem _ hx))]
   congr 1
   unfold capV minI
   by_cases c1 : 0 ≤ k ∧ k < z
   ·rw [if_pos c1]
    by_cases c2 : k < 0 ∨ a.Price < k
    ·rw [if_pos c2]
     split <;> first | omega | (split <;> omega)
    ·rw [if_neg c2]
     split <;> first | omega | (split <;> omega)
   ·rw [if_neg c1]
    by_cases c2 : k < 0 ∨ a.Price < k
    ·rw [if_pos c2]
     split <;> first | omega | (split <;> omega)
    ·rw [if_neg c2]
     split <;> first | omega | (split <;> omega)
  ·rw [if_neg h5, if_neg h5]
   exact capF_R r k z (fun x hx => h x (List.mem_cons_of_mem _ hx))
theorem rateF_range : ∀ (l : List GArticle) (z : Int), (∀ a ∈ l, 0 ≤ a.Price ∧ (a.Kind = 6 → a.Price ≤ 10000)) → (0 ≤ z ∧ z ≤ 10000) → 0 ≤ rateF z l ∧ rateF z l ≤ 10000
 | [], z, _, hz => hz
 | a :: r, z, h, hz => by
  have ha := h a List.mem_cons_self
  unfold rateF
  refine rateF_range r _ (fun x hx => h x (List.mem_cons_of_mem _ hx)) ?_
  split
  ·rename_i h6
   exact ⟨ha.1, ha.2 h6⟩
  ·exact hz
theorem r_tax (n : Nat) (net rate : Int) (hn : 0 ≤ net ∧ net ≤ 1000000000) (hr : 0 ≤ rate ∧ rate ≤ 10000) : g_ref31_Tax n net rate = some (taxF net rate, 0) ∧ 0 ≤ taxF net rate ∧ taxF net rate ≤ net + 1 := by
 have hb := mul_bound hn hr
 have hb2 : net * rate ≤ net * 10000 := Int.mul_le_mul_of_nonneg_left hr.2 hn.1
 have e1 : wi (net * rate) = net * rate := wi_id (by omega) (by omega)
 have e2 : wi (2 * net) = 2 * net := wi_id (by omega) (by omega)
 have e3 : 2 * net * rate = 2 * (net * rate) := Int.mul_assoc ..
 have e4 : wi (2 * (net * rate)) = 2 * (net * rate) := wi_id (by omega) (by omega)
 have e5 : wi (2 * (net * rate) + 10000) = 2 * (net * rate) + 10000 := wi_id (by omega) (by omega)
 have e6 : Int.tdiv (2 * (net * rate) + 10000) 20000 = (2 * (net * rate) + 10000) / 20000 := Int.tdiv_eq_ediv_of_nonneg (by omega)
 have e7 : wi ((2 * (net * rate) + 10000) / 20000) = (2 * (net * rate) + 10000) / 20000 := wi_id (by omega) (by omega)
 unfold taxF
 rw [e2, e3, e4, e5, e6, e7]
 refine ⟨?_, by omega, by omega⟩
 unfold g_ref31_Tax g_ref31_divided
 simp only [r_amount, Option.bind_some, ltI]
 rw [decide_eq_true (show 0 ≤ net ∧ net ≤ 1000000000 by omega), Bool.not_true, cond_false, decide_eq_false (show ¬ rate < 0 by omega), cond_false, Option.bind_some, decide_eq_false (show ¬ 100000 < rate by omega), cond_false]
 rw [show wi (2 * 10000) = 20000 from rfl, show (!eqI 20000 0) = true from rfl, cond_true, Option.bind_some, e1, e4, e5, e6, e7, r_checked n _ (by omega), Option.bind_some, if_pos (by omega)]
def zeroBill : GBill := ⟨[], 0, 0, 0⟩
end Go.Proofs
namespace Go.Proofs
open Go Go.Abs
set_option maxRecDepth 100000
set_option linter.unusedVariables false
theorem b_goodWord (n : Nat) (s : List UInt8) (hn : 1000 ≤ n) : g_parser_goodWord n s = some (decide (1 ≤ s.length ∧ s.length ≤ 12) && decide (∀ x ∈ s.head?, 97 ≤ b2i x ∧ b2i x ≤ 122) && s.all chrB) := by
 unfold g_parser_goodWord
 simp only [lenI, ltI]
 cases s with
 | nil => simp
 | cons x r =>
  rw [decide_eq_false (show ¬ (((x :: r).length : Nat) : Int) < 1 by simp only [List.length_cons]; omega), cond_false]
  by_cases hl : (x :: r).length ≤ 12
  rotate_left
  ·rw [decide_eq_true (show (12 : Int) < (((x :: r).length : Nat) : Int) by omega), decide_eq_false (show ¬ (1 ≤ (x :: r).length ∧ (x :: r).length ≤ 12) by omega)]; rfl
  rw [decide_eq_false (show ¬ (12 : Int) < (((x :: r).length : Nat) : Int) by omega), cond_false, decide_eq_true (show 1 ≤ (x :: r).length ∧ (x :: r).length ≤ 12 by simp only [List.length_cons] at hl ⊢; omega)]
  rw [show getI (x :: r) 0 = some x from rfl]
  have hloop : loopN (fun recl7 l7 => g_parser_goodWord_l7 (x :: r) recl7 l7) n 1 = some (r.all chrB) := by
   have := loop_list (l := x :: r) (B := fun recl7 l7 => g_parser_goodWord_l7 (x :: r) recl7 l7) (F := fun r => r.all chrB) (by omega) ?_ ?_ (n := n) 1 (by simp) (by omega)
   ·simpa using this
   ·intro rec; simp [g_parser_goodWord_l7, ltI, lenI]
   ·intro rec i y q hd hx hi hw hr
    unfold g_parser_goodWord_l7
    simp only [lenI, getI_nat, hx, Option.bind_some, hw, hr, ltI, leI, eqI, cond_some]
    rw [decide_eq_true (by omega), cond_true, List.all_cons]
    rw [chr_lem, chrB]
    cases decide ((97 ≤ b2i y ∧ b2i y ≤ 122) ∨ (48 ≤ b2i y ∧ b2i y ≤ 57) ∨ b2i y = 95) <;> simp
  rw [hloop]
  simp only [Option.bind_some, cond_some, List.head?_cons, Option.mem_def, Option.some.injEq, forall_eq', Bool.true_and, List.all_cons]
  by_cases h1 : b2i x < 97
  ·rw [decide_eq_true h1, decide_eq_false (show ¬ (97 ≤ b2i x ∧ b2i x ≤ 122) by omega)]; rfl
  ·rw [decide_eq_false h1, cond_false]
   by_cases h2 : 122 < b2i x
   ·rw [decide_eq_true h2, decide_eq_false (show ¬ (97 ≤ b2i x ∧ b2i x ≤ 122) by omega)]; rfl
   ·have h3 : 97 ≤ b2i x ∧ b2i x ≤ 122 := by omega
    have h4 : chrB x = true := by unfold chrB; rw [decide_eq_true]; exact Or.inl h3
    rw [decide_eq_false h2, decide_eq_true h3, h4]; rfl
theorem cnz (b : Bool) (k r : Int) (hk : k ≠ 0) : (!eqI (bif b then k else r) 0) = (b || !eqI r 0) := by
 cases b
 ·rfl
 ·simp [eqI, hk]
theorem b_isKey (n : Nat) (s : List UInt8) : g_parser_isKey n s = some (keyB s) := by
 unfold g_parser_isKey g_parser_kindOf g_parser_isAttr g_parser_isArticle g_parser_isWord
 rw [keyB_mem]
 simp only [cond_some, Option.bind_some, cse, cst, keyL, g_ref02_Kinds, g_ref02_Attrs, g_ref02_Articles, g_ref02_Words, Option.getD_some, List.cons_append, List.nil_append, List.contains_cons, List.contains_nil, Bool.or_false, eqS]
 rw [cnz _ 1 _ (by decide), cnz _ 2 _ (by decide), cnz _ 3 _ (by decide), cnz _ 4 _ (by decide), cnz _ 5 _ (by decide), cnz _ 6 _ (by decide), cnz _ 7 _ (by decide), show (!eqI 0 0) = false from rfl]
 simp only [Bool.or_assoc, Bool.or_false]
theorem b_goodName (n : Nat) (s : List UInt8) (hn : 1000 ≤ n) : g_parser_goodName n s = some (nameB s) := by
 unfold g_parser_goodName nameB
 rw [b_goodWord n s hn, Option.bind_some, b_isKey, Option.bind_some, cond_some]
 generalize decide (1 ≤ s.length ∧ s.length ≤ 12) = a
 generalize decide (∀ x ∈ s.head?, 97 ≤ b2i x ∧ b2i x ≤ 122) = b
 generalize s.all chrB = c
 generalize keyB s = d
 cases a <;> cases b <;> cases c <;> cases d <;> rfl
theorem of_cs' (k : Int) (s : List UInt8) (m t : Int) (l : List (List PV)) : GNode.of (GNode.cs ⟨k, s, m, t, l⟩) = some ⟨k, s, m, t, l⟩ := by
 unfold GNode.cs GNode.of
 simp only [map_idc, byt_mkS, if_true]
theorem b_parser (n : Nat) (s : List UInt8) (hn : 1000 ≤ n) : g_parser_Valid n (⟨1, [], 0, 0, [GNode.cs (⟨2, s, 3, 0, []⟩ : GNode)]⟩ : GNode) = some (nameB s) := by
 obtain ⟨m, rfl⟩ : ∃ m, n = m + 2 := ⟨n - 2, by omega⟩
 have hitem : g_parser_validItem (m + 2) (⟨2, s, 3, 0, []⟩ : GNode) 1498 = some (nameB s, 1498) := by
  unfold g_parser_validItem
  rw [b_goodName (m + 2) s hn]
  simp only [show (!eqI 2 2) = false from rfl, show ltI 3 1 = false from rfl, show ltI 7 3 = false from rfl, cond_false, Option.bind_some]
  cases nameB s
  ·rfl
  ·unfold loopN; rfl
 unfold g_parser_Valid
 have e1 : ((bif !eqI 1 1 then some true else bif !eqS [] [] then some true else bif !eqI 0 0 then some true else some (ltI (wi (1499 - lenI (List.map idc [GNode.cs (⟨2, s, 3, 0, []⟩ : GNode)]))) 0))) = some false := rfl
 have e2 : wi (1499 - lenI (List.map idc [GNode.cs (⟨2, s, 3, 0, []⟩ : GNode)])) = 1498 := rfl
 simp only
 rw [e1, Option.bind_some, cond_false, e2]
 unfold loopN
 simp only [g_parser_Valid_l5]
 rw [show ltI 0 (lenI (List.map idc [GNode.cs (⟨2, s, 3, 0, []⟩ : GNode)])) = true from rfl, cond_true, show getI [GNode.cs (⟨2, s, 3, 0, []⟩ : GNode)] 0 = some (GNode.cs (⟨2, s, 3, 0, []⟩ : GNode)) from rfl, Option.bind_some, of_cs', Option.bind_some, hitem, Option.bind_some]
 cases nameB s
 ·rfl
 ·unfold loopN; rfl
theorem b_inside (n : Nat) (x a b : Int) : g_tariff_inside n x a b = some (decide (a ≤ x ∧ x ≤ b)) := by
 unfold g_tariff_inside leI
 by_cases h : a ≤ x <;> simp [h]
theorem b_article (n : Nat) (a : GArticle) : g_tariff_validArticle n a = some (artB a) := by
 have bad : ¬ Art a → some false = some (artB a) := by
  intro h
  cases hb : artB a
  ·rfl
  ·exact absurd (artB_art hb) h
 unfold g_tariff_validArticle g_tariff_isWhole g_tariff_isTime
 simp only [b_inside, Option.bind_some]
 by_cases c2 : 1 ≤ a.Kind ∧ a.Kind ≤ 6
 rotate_left
 ·rw [decide_eq_false c2]; exact bad (fun h => c2 h.kind)
 rw [decide_eq_true c2]
 by_cases c4 : 0 ≤ a.From ∧ a.From ≤ 1439
 rotate_left
 ·rw [decide_eq_false c4]; exact bad (fun h => c4 h.from_)
 rw [decide_eq_true c4, wi_id (x := a.From + 1) (by omega) (by omega)]
 by_cases c6 : a.From + 1 ≤ a.To ∧ a.To ≤ 1440
 rotate_left
 ·rw [decide_eq_false c6]; exact bad (fun h => by have := h.to_; omega)
 rw [decide_eq_true c6]
 by_cases c8 : 1 ≤ a.Days ∧ a.Days ≤ 7
 rotate_left
 ·rw [decide_eq_false c8]; exact bad (fun h => c8 h.days)
 rw [decide_eq_true c8]
 unfold artB g_a_validArticle
 simp only [a_inside, cond_some, Option.bind_some, Option.getD_some, eqI_d, Bool.not_true, cond_false]
 rw [Option.some.injEq, Bool.eq_iff_iff]
 obtain ⟨k, d, f, t, p, u, v⟩ := a
 simp only at c2 c4 c6 c8
 simp only [Bool.cond_eq_ite]
 have hk : k = 1 ∨ k = 2 ∨ k = 3 ∨ k = 4 ∨ k = 5 ∨ k = 6 := by omega
 rcases hk with rfl | rfl | rfl | rfl | rfl | rfl <;> simp [leI, ltI] <;> omega
end Go.Proofs
