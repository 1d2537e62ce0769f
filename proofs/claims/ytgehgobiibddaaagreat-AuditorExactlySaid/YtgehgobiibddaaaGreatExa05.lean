/-
  A part of the proof of a statement of the seat YtgehgobiibddaaaGreat.
-/
import Derived.Test.YtgehgobiibddaaaGreatExa04
namespace Go.Proofs
open Go Go.Abs
set_option maxRecDepth 100000
set_option linter.unusedVariables false
theorem g_bill_sum_ok (n : Nat) (a0t : GTariff) (a1c : GCalendar) (a2s : GSession) : ∀ r, g_bill_sum n a0t a1c a2s = some r → PCall Tryz.prog 30 [ag (GTariff.cs a0t), ag (GCalendar.cs a1c), ag (GSession.cs a2s)] (excE (fun r : GBill => (ag (GBill.cs r) : AV)) (fun e : Int => (.ifc 103 (.agg [I e]) : AV)) r) := by
 refine pcall_sim (X := excE (fun r : GBill => (ag (GBill.cs r) : AV)) (fun e : Int => (.ifc 103 (.agg [I e]) : AV))) Tryz.func30 rfl Tryz.ntmps30 rfl ?_
 unfold g_bill_sum
 refine sim_run Tryz.fm ⟨[3, 4, 5, 6], [3, 4, 5, 6], [], []⟩ ⟨[(3, .ptr 3 0), (4, .ptr 4 0), (5, .ptr 5 0), (6, .ptr 6 0)], [(3, .box 24 (bxc (GTariff.cs a0t))), (4, .box 28 (bxc (GCalendar.cs a1c))), (5, .box 35 (bxc (GSession.cs a2s))), (6, .box 39 [.p (.val (.slice none 0 0)), I 0, I 0, I 0])]⟩ krf ?_
 refine sim_run Tryz.fm ⟨[3, 4, 5, 6, 7], [3, 4, 5, 6, 7], [], []⟩ ⟨[(3, .ptr 3 0), (4, .ptr 4 0), (5, .ptr 5 0), (6, .ptr 6 0), (7, .ptr 7 0)], [(3, .box 24 (bxc (GTariff.cs a0t))), (4, .box 28 (bxc (GCalendar.cs a1c))), (5, .box 35 (bxc (GSession.cs a2s))), (6, .box 39 [.p (.val (.slice none 0 0)), I 0, I 0, I 0]), (7, .box 39 [.p (.val (.slice none 0 0)), I 0, I 0, I 0])]⟩ krf ?_
 refine sim_run Tryz.fm ⟨[3, 4, 5, 6, 7, 8, 9], [3, 4, 5, 6, 7], [], []⟩ ⟨[(3, .ptr 3 0), (4, .ptr 4 0), (5, .ptr 5 0), (6, .ptr 6 0), (7, .ptr 7 0), (8, I 0), (9, I (-1))], [(3, .box 24 (bxc (GTariff.cs a0t))), (4, .box 28 (bxc (GCalendar.cs a1c))), (5, .box 35 (bxc (GSession.cs a2s))), (6, .box 39 [.p (.val (.slice none 0 0)), I 0, I 0, I 0]), (7, .box 39 [.p (.val (.slice none 0 0)), I 0, I 0, I 0])]⟩ krf ?_
 refine sim_cps (fun (j1_1, j1_2, j1_3, j1_4) => ⟨[(6, .ptr 6 0), (7, .ptr 7 0), (8, I j1_1), (9, I j1_2)], [(6, .box 39 [.p (.val (.slice none 0 0)), I 0, I 0, I 0]), (7, .box 39 [osl 2 GLine.cs j1_3 38, I j1_4, I 0, I 0])] ++ oarr 69 2 GLine.cs j1_3 38⟩ : (Int × Int × (OL GLine) × Int) → St) (fun (j1_1, j1_2, j1_3, j1_4) => g_bill_sum_j1 n j1_1 j1_2 j1_3 j1_4) ?_ ?_
 ·rintro ⟨j1_1, j1_2, j1_3, j1_4⟩
  show SimE (g_bill_sum_j1 n j1_1 j1_2 j1_3 j1_4) _ _ _ _ _ _
  unfold g_bill_sum_j1
  rcases j1_3 with _ | ow_j1_3
  ·refine sim_bind (fun j2 => ⟨[(6, .ptr 6 0), (7, .ptr 7 0), (8, I j1_1)], [(6, .box 39 [.p (.val (.slice none 0 0)), I 0, I 0, I 0]), (7, .box 39 [.p (.val (.slice none 0 0)), I j2, I 0, I 0])]⟩ : Int → St) ?_ ?_
   ·refine sim_run Tryz.fm ⟨[6, 7, 8, 9, 63], [6, 7], [], []⟩ ⟨[(6, .ptr 6 0), (7, .ptr 7 0), (8, I j1_1), (9, I j1_2), (63, B (leI 0 j1_2))], [(6, .box 39 [.p (.val (.slice none 0 0)), I 0, I 0, I 0]), (7, .box 39 [.p (.val (.slice none 0 0)), I j1_4, I 0, I 0])]⟩ krf ?_
    refine sim_cond (leI 0 j1_2) krf ?_ ?_
    ·refine sim_last Tryz.fm krf ?_
     exact nq_n (minI j1_4 j1_2) ⟨[6, 7, 8], [6, 7], [], []⟩ krf
    ·refine sim_skip ?_
     exact nq_n j1_4 ⟨[6, 7, 8], [6, 7], [], []⟩ krf
   ·rintro j2
    refine sim_seq ?_
    refine sim_reg ?_
    refine xs_run 3 krf ?_
    refine xs_call [] krf (g_money_Tax_ok n j2 j1_1) krf krf (fun _ => by kernel_rfl) (fun r3 => ?_)
    refine xs_run 2 krf ?_
    refine xs_exc [] krf (g_bill_must_ok n r3.1 r3.2) krf krf (fun _ => by kernel_rfl) (fun _ => by kernel_rfl) (fun r4 => ?_) (fun e5 => ?_)
    ·refine xs_run 2 krf ?_
     refine xs_end ?_
     refine sq_nk ⟨[6, 7], [6, 7], [], []⟩ ⟨[(6, .ptr 6 0), (7, .ptr 7 0)], [(6, .box 39 [.p (.val (.slice none 0 0)), I 0, I 0, I 0]), (7, .box 39 [.p (.val (.slice none 0 0)), I j2, I r4, I 0])]⟩ krf ?_
     refine sim_run Tryz.fm ⟨[6, 7], [6, 7], [], []⟩ ⟨[(6, .ptr 6 0), (7, .ptr 7 0)], [(6, .box 39 [.p (.val (.slice none 0 0)), I 0, I 0, I 0]), (7, .box 39 [.p (.val (.slice none 0 0)), I j2, I r4, I (wi (j2 + r4))])]⟩ krf ?_
     refine sim_seq ?_
     refine sim_run Tryz.fm ⟨[6, 7, 85], [6, 7], [], []⟩ ⟨[(6, .ptr 6 0), (7, .ptr 7 0), (85, B (ltI 1000000000 (wi (j2 + r4))))], [(6, .box 39 [.p (.val (.slice none 0 0)), I 0, I 0, I 0]), (7, .box 39 [.p (.val (.slice none 0 0)), I j2, I r4, I (wi (j2 + r4))])]⟩ krf ?_
     refine sim_cond (ltI 1000000000 (wi (j2 + r4))) krf ?_ ?_
     ·refine sim_reg ?_
      refine xs_run 2 krf ?_
      refine xs_panic 103 (.agg [I 3]) krf rfl krf ?_
      refine sq_p ?_
      exact rq_p krf krf
     ·refine sim_skip ?_
      refine sq_nk ⟨[6, 7], [6, 7], [], []⟩ ⟨[(6, .ptr 6 0), (7, .ptr 7 0)], [(6, .box 39 [.p (.val (.slice none 0 0)), I 0, I 0, I 0]), (7, .box 39 [.p (.val (.slice none 0 0)), I j2, I r4, I (wi (j2 + r4))])]⟩ krf ?_
      refine sim_run Tryz.fm ⟨[6], [6], [], []⟩ ⟨[(6, .ptr 6 0)], [(6, .box 39 [.p (.val (.slice none 0 0)), I j2, I r4, I (wi (j2 + r4))])]⟩ krf ?_
      refine sim_ret ?_
      exact rq_ret (.agg [.sl 2, .id, .id, .id]) krf krf krf
    ·refine sq_p ?_
     exact rq_p krf krf
  ·refine sim_bind (fun j2 => ⟨[(6, .ptr 6 0), (7, .ptr 7 0), (8, I j1_1)], [(6, .box 39 [.p (.val (.slice none 0 0)), I 0, I 0, I 0]), (7, .box 39 [.tsl 2 (List.map GLine.cs (OL.own ow_j1_3).toL) 38, I j2, I 0, I 0]), (38, .arr 69 2 (List.map GLine.cs (OL.own ow_j1_3).toL).length)]⟩ : Int → St) ?_ ?_
   ·refine sim_run Tryz.fm ⟨[6, 7, 8, 9, 63], [6, 7, 38], [], []⟩ ⟨[(6, .ptr 6 0), (7, .ptr 7 0), (8, I j1_1), (9, I j1_2), (63, B (leI 0 j1_2))], [(6, .box 39 [.p (.val (.slice none 0 0)), I 0, I 0, I 0]), (7, .box 39 [.tsl 2 (List.map GLine.cs (OL.own ow_j1_3).toL) 38, I j1_4, I 0, I 0]), (38, .arr 69 2 (List.map GLine.cs (OL.own ow_j1_3).toL).length)]⟩ krf ?_
    refine sim_cond (leI 0 j1_2) krf ?_ ?_
    ·refine sim_last Tryz.fm krf ?_
     exact nq_n (minI j1_4 j1_2) ⟨[6, 7, 8], [6, 7, 38], [], []⟩ krf
    ·refine sim_skip ?_
     exact nq_n j1_4 ⟨[6, 7, 8], [6, 7, 38], [], []⟩ krf
   ·rintro j2
    refine sim_seq ?_
    refine sim_reg ?_
    refine xs_run 3 krf ?_
    refine xs_call [] krf (g_money_Tax_ok n j2 j1_1) krf krf (fun _ => by kernel_rfl) (fun r3 => ?_)
    refine xs_run 2 krf ?_
    refine xs_exc [] krf (g_bill_must_ok n r3.1 r3.2) krf krf (fun _ => by kernel_rfl) (fun _ => by kernel_rfl) (fun r4 => ?_) (fun e5 => ?_)
    ·refine xs_run 2 krf ?_
     refine xs_end ?_
     refine sq_nk ⟨[6, 7], [6, 7, 38], [], []⟩ ⟨[(6, .ptr 6 0), (7, .ptr 7 0)], [(6, .box 39 [.p (.val (.slice none 0 0)), I 0, I 0, I 0]), (7, .box 39 [.tsl 2 (List.map GLine.cs (OL.own ow_j1_3).toL) 38, I j2, I r4, I 0]), (38, .arr 69 2 (List.map GLine.cs (OL.own ow_j1_3).toL).length)]⟩ krf ?_
     refine sim_run Tryz.fm ⟨[6, 7], [6, 7, 38], [], []⟩ ⟨[(6, .ptr 6 0), (7, .ptr 7 0)], [(6, .box 39 [.p (.val (.slice none 0 0)), I 0, I 0, I 0]), (7, .box 39 [.tsl 2 (List.map GLine.cs (OL.own ow_j1_3).toL) 38, I j2, I r4, I (wi (j2 + r4))]), (38, .arr 69 2 (List.map GLine.cs (OL.own ow_j1_3).toL).length)]⟩ krf ?_
     refine sim_seq ?_
     refine sim_run Tryz.fm ⟨[6, 7, 85], [6, 7, 38], [], []⟩ ⟨[(6, .ptr 6 0), (7, .ptr 7 0), (85, B (ltI 1000000000 (wi (j2 + r4))))], [(6, .box 39 [.p (.val (.slice none 0 0)), I 0, I 0, I 0]), (7, .box 39 [.tsl 2 (List.map GLine.cs (OL.own ow_j1_3).toL) 38, I j2, I r4, I (wi (j2 + r4))]), (38, .arr 69 2 (List.map GLine.cs (OL.own ow_j1_3).toL).length)]⟩ krf ?_
     refine sim_cond (ltI 1000000000 (wi (j2 + r4))) krf ?_ ?_
     ·refine sim_reg ?_
      refine xs_run 2 krf ?_
      refine xs_panic 103 (.agg [I 3]) krf rfl krf ?_
      refine sq_p ?_
      exact rq_p krf krf
     ·refine sim_skip ?_
      refine sq_nk ⟨[6, 7], [6, 7, 38], [], []⟩ ⟨[(6, .ptr 6 0), (7, .ptr 7 0)], [(6, .box 39 [.p (.val (.slice none 0 0)), I 0, I 0, I 0]), (7, .box 39 [.tsl 2 (List.map GLine.cs (OL.own ow_j1_3).toL) 38, I j2, I r4, I (wi (j2 + r4))]), (38, .arr 69 2 (List.map GLine.cs (OL.own ow_j1_3).toL).length)]⟩ krf ?_
      refine sim_run Tryz.fm ⟨[6], [6, 38], [], []⟩ ⟨[(6, .ptr 6 0)], [(6, .box 39 [.tsl 2 (List.map GLine.cs (OL.own ow_j1_3).toL) 38, I j2, I r4, I (wi (j2 + r4))]), (38, .arr 69 2 (List.map GLine.cs (OL.own ow_j1_3).toL).length)]⟩ krf ?_
      refine sim_ret ?_
      exact rq_ret (.agg [.sl 2, .id, .id, .id]) krf krf krf
    ·refine sq_p ?_
     exact rq_p krf krf
 ·refine sim_run Tryz.fm ⟨[4, 5, 6, 7, 8, 9, 15, 16, 17], [4, 5, 6, 7], [], []⟩ ⟨[(4, .ptr 4 0), (5, .ptr 5 0), (6, .ptr 6 0), (7, .ptr 7 0), (8, I 0), (9, I (-1)), (15, .p (.sl 7 (List.map GArticle.cs a0t.Articles))), (16, I (lenI (List.map GArticle.cs a0t.Articles))), (17, I 0)], [(4, .box 28 (bxc (GCalendar.cs a1c))), (5, .box 35 (bxc (GSession.cs a2s))), (6, .box 39 [.p (.val (.slice none 0 0)), I 0, I 0, I 0]), (7, .box 39 [.p (.val (.slice none 0 0)), I 0, I 0, I 0])]⟩ krf ?_
  refine sim_block ?_
  refine sim_loop (fun (l6_1, l6_2, l6_3, l6_4, l6_5) => ⟨[(4, .ptr 4 0), (5, .ptr 5 0), (6, .ptr 6 0), (7, .ptr 7 0), (8, I l6_1), (9, I l6_2), (15, .p (.sl 7 (List.map GArticle.cs a0t.Articles))), (16, I (lenI (List.map GArticle.cs a0t.Articles))), (17, I l6_3)], [(4, .box 28 (bxc (GCalendar.cs a1c))), (5, .box 35 (bxc (GSession.cs a2s))), (6, .box 39 [.p (.val (.slice none 0 0)), I 0, I 0, I 0]), (7, .box 39 [osl 2 GLine.cs l6_4 38, I l6_5, I 0, I 0])] ++ oarr 69 2 GLine.cs l6_4 38⟩ : (Int × Int × Int × (OL GLine) × Int) → St) (weak_shr (K := ⟨[4, 5, 6, 7, 8, 9, 15, 16, 17], [4, 5, 6, 7], [], []⟩) krf) ?_
  rintro recl6 ⟨l6_1, l6_2, l6_3, l6_4, l6_5⟩
  show SimE (g_bill_sum_l6 n a0t a1c a2s recl6 l6_1 l6_2 l6_3 l6_4 l6_5) _ _ _ _ _ _
  unfold g_bill_sum_l6
  rcases l6_4 with _ | ow_l6_4
  ·refine sim_run Tryz.fm ⟨[4, 5, 6, 7, 8, 9, 15, 16, 17, 18], [4, 5, 6, 7], [], []⟩ ⟨[(4, .ptr 4 0), (5, .ptr 5 0), (6, .ptr 6 0), (7, .ptr 7 0), (8, I l6_1), (9, I l6_2), (15, .p (.sl 7 (List.map GArticle.cs a0t.Articles))), (16, I (lenI (List.map GArticle.cs a0t.Articles))), (17, I l6_3), (18, B (ltI l6_3 (lenI (List.map GArticle.cs a0t.Articles))))], [(4, .box 28 (bxc (GCalendar.cs a1c))), (5, .box 35 (bxc (GSession.cs a2s))), (6, .box 39 [.p (.val (.slice none 0 0)), I 0, I 0, I 0]), (7, .box 39 [.p (.val (.slice none 0 0)), I l6_5, I 0, I 0])]⟩ krf ?_
   refine sim_seq ?_
   refine sim_cond (ltI l6_3 (lenI (List.map GArticle.cs a0t.Articles))) krf ?_ ?_
   ·refine sim_skip ?_
    refine sq_nk ⟨[4, 5, 6, 7, 8, 9, 15, 16, 17], [4, 5, 6, 7], [], []⟩ ⟨[(4, .ptr 4 0), (5, .ptr 5 0), (6, .ptr 6 0), (7, .ptr 7 0), (8, I l6_1), (9, I l6_2), (15, .p (.sl 7 (List.map GArticle.cs a0t.Articles))), (16, I (lenI (List.map GArticle.cs a0t.Articles))), (17, I l6_3)], [(4, .box 28 (bxc (GCalendar.cs a1c))), (5, .box 35 (bxc (GSession.cs a2s))), (6, .box 39 [.p (.val (.slice none 0 0)), I 0, I 0, I 0]), (7, .box 39 [.p (.val (.slice none 0 0)), I l6_5, I 0, I 0])]⟩ krf ?_
    refine sim_seq ?_
    refine sim_block ?_
    refine sim_seq ?_
    refine sim_reg ?_
    refine xs_run 1 krf ?_
    refine xs_get krf krf (aop_idx (e := 73) (S := 7) (enc := GArticle.cs) (l := a0t.Articles) (k := .i64) (n := l6_3) (sv := .p (.sl 7 (List.map GArticle.cs a0t.Articles))) rfl krf krf krf krf krf) (fun x7 => ?_)
    refine xs_run 4 krf ?_
    refine xs_end ?_
    refine sq_nk ⟨[4, 5, 6, 7, 8, 9, 10, 11, 15, 16, 17], [4, 5, 6, 7, 11], [], []⟩ ⟨[(4, .ptr 4 0), (5, .ptr 5 0), (6, .ptr 6 0), (7, .ptr 7 0), (8, I l6_1), (9, I l6_2), (10, I l6_3), (11, .ptr 11 0), (15, .p (.sl 7 (List.map GArticle.cs a0t.Articles))), (16, I (lenI (List.map GArticle.cs a0t.Articles))), (17, I l6_3)], [(4, .box 28 (bxc (GCalendar.cs a1c))), (5, .box 35 (bxc (GSession.cs a2s))), (6, .box 39 [.p (.val (.slice none 0 0)), I 0, I 0, I 0]), (7, .box 39 [.p (.val (.slice none 0 0)), I l6_5, I 0, I 0]), (11, .box 73 (bxc (GArticle.cs x7)))]⟩ krf ?_
    refine sim_run Tryz.fm ⟨[4, 5, 6, 7, 8, 9, 10, 11, 15, 16, 17, 23], [4, 5, 6, 7, 11], [], []⟩ ⟨[(4, .ptr 4 0), (5, .ptr 5 0), (6, .ptr 6 0), (7, .ptr 7 0), (8, I l6_1), (9, I l6_2), (10, I l6_3), (11, .ptr 11 0), (15, .p (.sl 7 (List.map GArticle.cs a0t.Articles))), (16, I (lenI (List.map GArticle.cs a0t.Articles))), (17, I l6_3), (23, I x7.Kind)], [(4, .box 28 (bxc (GCalendar.cs a1c))), (5, .box 35 (bxc (GSession.cs a2s))), (6, .box 39 [.p (.val (.slice none 0 0)), I 0, I 0, I 0]), (7, .box 39 [.p (.val (.slice none 0 0)), I l6_5, I 0, I 0]), (11, .box 73 (bxc (GArticle.cs x7)))]⟩ krf ?_
    refine sim_block ?_
    refine sim_run Tryz.fm ⟨[4, 5, 6, 7, 8, 9, 10, 11, 15, 16, 17, 23, 45], [4, 5, 6, 7, 11], [], []⟩ ⟨[(4, .ptr 4 0), (5, .ptr 5 0), (6, .ptr 6 0), (7, .ptr 7 0), (8, I l6_1), (9, I l6_2), (10, I l6_3), (11, .ptr 11 0), (15, .p (.sl 7 (List.map GArticle.cs a0t.Articles))), (16, I (lenI (List.map GArticle.cs a0t.Articles))), (17, I l6_3), (23, I x7.Kind), (45, B (eqI x7.Kind 5))], [(4, .box 28 (bxc (GCalendar.cs a1c))), (5, .box 35 (bxc (GSession.cs a2s))), (6, .box 39 [.p (.val (.slice none 0 0)), I 0, I 0, I 0]), (7, .box 39 [.p (.val (.slice none 0 0)), I l6_5, I 0, I 0]), (11, .box 73 (bxc (GArticle.cs x7)))]⟩ krf ?_
    refine sim_cond (eqI x7.Kind 5) krf ?_ ?_
    ·refine sim_bind (fun j8 => ⟨[(4, .ptr 4 0), (5, .ptr 5 0), (6, .ptr 6 0), (7, .ptr 7 0), (8, I l6_1), (9, I l6_2), (11, .ptr 11 0), (15, .p (.sl 7 (List.map GArticle.cs a0t.Articles))), (16, I (lenI (List.map GArticle.cs a0t.Articles))), (17, I l6_3), (54, B j8)], [(4, .box 28 (bxc (GCalendar.cs a1c))), (5, .box 35 (bxc (GSession.cs a2s))), (6, .box 39 [.p (.val (.slice none 0 0)), I 0, I 0, I 0]), (7, .box 39 [.p (.val (.slice none 0 0)), I l6_5, I 0, I 0]), (11, .box 73 (bxc (GArticle.cs x7)))]⟩ : Bool → St) ?_ ?_
     ·refine sim_reg ?_
      refine xs_run 3 krf ?_
      refine xs_split (ltI l6_2 0) (fun h9 => ?_) (fun h9 => ?_)
      ·refine xs_no (want_ft krf h9) krf ?_
       refine xs_run 4 krf ?_
       refine xs_end ?_
       exact nq_n true ⟨[4, 5, 6, 7, 8, 9, 11, 15, 16, 17, 54], [4, 5, 6, 7, 11], [], []⟩ krf
      ·refine xs_one (want_ff krf h9) krf ?_
       refine xs_run 4 krf ?_
       refine xs_end ?_
       exact nq_n (ltI x7.Price l6_2) ⟨[4, 5, 6, 7, 8, 9, 11, 15, 16, 17, 54], [4, 5, 6, 7, 11], [], []⟩ krf
     ·rintro j8
      refine sim_cond j8 krf ?_ ?_
      ·refine sim_last Tryz.fm krf ?_
       refine bq_n ?_
       refine bq_n ?_
       refine sq_nk ⟨[4, 5, 6, 7, 8, 9, 15, 16, 17], [4, 5, 6, 7], [], []⟩ ⟨[(4, .ptr 4 0), (5, .ptr 5 0), (6, .ptr 6 0), (7, .ptr 7 0), (8, I l6_1), (9, I x7.Price), (15, .p (.sl 7 (List.map GArticle.cs a0t.Articles))), (16, I (lenI (List.map GArticle.cs a0t.Articles))), (17, I l6_3)], [(4, .box 28 (bxc (GCalendar.cs a1c))), (5, .box 35 (bxc (GSession.cs a2s))), (6, .box 39 [.p (.val (.slice none 0 0)), I 0, I 0, I 0]), (7, .box 39 [.p (.val (.slice none 0 0)), I l6_5, I 0, I 0])]⟩ krf ?_
       refine sim_last Tryz.fm krf ?_
       exact kq_n (l6_1, x7.Price, wi (l6_3 + 1), OL.nil, l6_5) ⟨[4, 5, 6, 7, 8, 9, 15, 16, 17], [4, 5, 6, 7], [], []⟩ krf
      ·refine sim_skip ?_
       refine bq_n ?_
       refine bq_n ?_
       refine sq_nk ⟨[4, 5, 6, 7, 8, 9, 15, 16, 17], [4, 5, 6, 7], [], []⟩ ⟨[(4, .ptr 4 0), (5, .ptr 5 0), (6, .ptr 6 0), (7, .ptr 7 0), (8, I l6_1), (9, I l6_2), (15, .p (.sl 7 (List.map GArticle.cs a0t.Articles))), (16, I (lenI (List.map GArticle.cs a0t.Articles))), (17, I l6_3)], [(4, .box 28 (bxc (GCalendar.cs a1c))), (5, .box 35 (bxc (GSession.cs a2s))), (6, .box 39 [.p (.val (.slice none 0 0)), I 0, I 0, I 0]), (7, .box 39 [.p (.val (.slice none 0 0)), I l6_5, I 0, I 0])]⟩ krf ?_
       refine sim_last Tryz.fm krf ?_
       exact kq_n (l6_1, l6_2, wi (l6_3 + 1), OL.nil, l6_5) ⟨[4, 5, 6, 7, 8, 9, 15, 16, 17], [4, 5, 6, 7], [], []⟩ krf
    ·refine sim_run Tryz.fm ⟨[4, 5, 6, 7, 8, 9, 10, 11, 15, 16, 17, 57], [4, 5, 6, 7, 11], [], []⟩ ⟨[(4, .ptr 4 0), (5, .ptr 5 0), (6, .ptr 6 0), (7, .ptr 7 0), (8, I l6_1), (9, I l6_2), (10, I l6_3), (11, .ptr 11 0), (15, .p (.sl 7 (List.map GArticle.cs a0t.Articles))), (16, I (lenI (List.map GArticle.cs a0t.Articles))), (17, I l6_3), (57, B (eqI x7.Kind 6))], [(4, .box 28 (bxc (GCalendar.cs a1c))), (5, .box 35 (bxc (GSession.cs a2s))), (6, .box 39 [.p (.val (.slice none 0 0)), I 0, I 0, I 0]), (7, .box 39 [.p (.val (.slice none 0 0)), I l6_5, I 0, I 0]), (11, .box 73 (bxc (GArticle.cs x7)))]⟩ krf ?_
     refine sim_cond (eqI x7.Kind 6) krf ?_ ?_
     ·refine sim_last Tryz.fm krf ?_
      refine bq_n ?_
      refine bq_n ?_
      refine sq_nk ⟨[4, 5, 6, 7, 8, 9, 15, 16, 17], [4, 5, 6, 7], [], []⟩ ⟨[(4, .ptr 4 0), (5, .ptr 5 0), (6, .ptr 6 0), (7, .ptr 7 0), (8, I x7.Price), (9, I l6_2), (15, .p (.sl 7 (List.map GArticle.cs a0t.Articles))), (16, I (lenI (List.map GArticle.cs a0t.Articles))), (17, I l6_3)], [(4, .box 28 (bxc (GCalendar.cs a1c))), (5, .box 35 (bxc (GSession.cs a2s))), (6, .box 39 [.p (.val (.slice none 0 0)), I 0, I 0, I 0]), (7, .box 39 [.p (.val (.slice none 0 0)), I l6_5, I 0, I 0])]⟩ krf ?_
      refine sim_last Tryz.fm krf ?_
      exact kq_n (x7.Price, l6_2, wi (l6_3 + 1), OL.nil, l6_5) ⟨[4, 5, 6, 7, 8, 9, 15, 16, 17], [4, 5, 6, 7], [], []⟩ krf
     ·refine sim_run Tryz.fm ⟨[4, 5, 6, 7, 8, 9, 10, 12, 15, 16, 17], [4, 5, 6, 7, 28], [], []⟩ ⟨[(4, .ptr 4 0), (5, .ptr 5 0), (6, .ptr 6 0), (7, .ptr 7 0), (8, I l6_1), (9, I l6_2), (10, I l6_3), (12, .ptr 28 0), (15, .p (.sl 7 (List.map GArticle.cs a0t.Articles))), (16, I (lenI (List.map GArticle.cs a0t.Articles))), (17, I l6_3)], [(4, .box 28 (bxc (GCalendar.cs a1c))), (5, .box 35 (bxc (GSession.cs a2s))), (6, .box 39 [.p (.val (.slice none 0 0)), I 0, I 0, I 0]), (7, .box 39 [.p (.val (.slice none 0 0)), I l6_5, I 0, I 0]), (28, .box 118 (bxc (GBB.cs ⟨x7, a1c, a2s⟩)))]⟩ krf ?_
      refine sim_cps (fun j10 => ⟨[(4, .ptr 4 0), (5, .ptr 5 0), (6, .ptr 6 0), (7, .ptr 7 0), (8, I l6_1), (9, I l6_2), (10, I l6_3), (13, I j10), (15, .p (.sl 7 (List.map GArticle.cs a0t.Articles))), (16, I (lenI (List.map GArticle.cs a0t.Articles))), (17, I l6_3)], [(4, .box 28 (bxc (GCalendar.cs a1c))), (5, .box 35 (bxc (GSession.cs a2s))), (6, .box 39 [.p (.val (.slice none 0 0)), I 0, I 0, I 0]), (7, .box 39 [.p (.val (.slice none 0 0)), I l6_5, I 0, I 0])]⟩ : Int → St) (fun j10 => g_bill_sum_j10 l6_1 l6_2 l6_3 OL.nil l6_5 recl6 j10) ?_ ?_
      ·rintro j10
       show SimE (g_bill_sum_j10 l6_1 l6_2 l6_3 OL.nil l6_5 recl6 j10) _ _ _ _ _ _
       unfold g_bill_sum_j10
       refine sim_seq ?_
       refine sim_reg ?_
       refine xs_run 6 krf ?_
       refine xs_if krf krf (aop_app0 (e := 69) (S := 2) (by_ := 16) (enc := GLine.cs) (d := 38) (l2 := [(⟨l6_3, j10⟩ : GLine)]) (xv := .tsl 2 (List.map GLine.cs [(⟨l6_3, j10⟩ : GLine)]) 37) rfl rfl krf krf rfl krf krf krf rfl krf) ?_
       refine xs_run 2 krf ?_
       refine xs_end ?_
       refine sq_nk ⟨[4, 5, 6, 7, 8, 9, 13, 15, 16, 17], [4, 5, 6, 7, 38], [], []⟩ ⟨[(4, .ptr 4 0), (5, .ptr 5 0), (6, .ptr 6 0), (7, .ptr 7 0), (8, I l6_1), (9, I l6_2), (13, I j10), (15, .p (.sl 7 (List.map GArticle.cs a0t.Articles))), (16, I (lenI (List.map GArticle.cs a0t.Articles))), (17, I l6_3)], [(4, .box 28 (bxc (GCalendar.cs a1c))), (5, .box 35 (bxc (GSession.cs a2s))), (6, .box 39 [.p (.val (.slice none 0 0)), I 0, I 0, I 0]), (7, .box 39 [.tsl 2 (List.map GLine.cs (OL.nil.toL ++ [(⟨l6_3, j10⟩ : GLine)])) 38, I l6_5, I 0, I 0]), (38, .arr 69 2 (List.map GLine.cs (OL.nil.toL ++ [(⟨l6_3, j10⟩ : GLine)])).length)]⟩ krf ?_
       refine sim_last Tryz.fm krf ?_
       refine bq_n ?_
       refine bq_n ?_
       refine sq_nk ⟨[4, 5, 6, 7, 8, 9, 15, 16, 17], [4, 5, 6, 7, 38], [], []⟩ ⟨[(4, .ptr 4 0), (5, .ptr 5 0), (6, .ptr 6 0), (7, .ptr 7 0), (8, I l6_1), (9, I l6_2), (15, .p (.sl 7 (List.map GArticle.cs a0t.Articles))), (16, I (lenI (List.map GArticle.cs a0t.Articles))), (17, I l6_3)], [(4, .box 28 (bxc (GCalendar.cs a1c))), (5, .box 35 (bxc (GSession.cs a2s))), (6, .box 39 [.p (.val (.slice none 0 0)), I 0, I 0, I 0]), (7, .box 39 [.tsl 2 (List.map GLine.cs (OL.nil.toL ++ [(⟨l6_3, j10⟩ : GLine)])) 38, I (wi (l6_5 + j10)), I 0, I 0]), (38, .arr 69 2 (List.map GLine.cs (OL.nil.toL ++ [(⟨l6_3, j10⟩ : GLine)])).length)]⟩ krf ?_
       refine sim_last Tryz.fm krf ?_
       exact kq_n (l6_1, l6_2, wi (l6_3 + 1), OL.own (OL.nil.toL ++ [(⟨l6_3, j10⟩ : GLine)]), wi (l6_5 + j10)) ⟨[4, 5, 6, 7, 8, 9, 15, 16, 17], [4, 5, 6, 7, 38], [], []⟩ krf
      ·refine sim_reg ?_
       refine xs_run 1 krf ?_
       refine xs_inline [(1028, .box 118 (bxc (GBB.cs ⟨x7, a1c, a2s⟩)))] [.ptr 1028 0] [(1028, 28)] [] [] krf Tryz.func61 rfl Tryz.ntmps61 rfl krf krf krf ?_
       refine sim_run Tryz.fm ⟨[0], [1028], [], []⟩ ⟨[(0, .ptr 1028 0)], [(1028, .box 118 (bxc (GBB.cs ⟨x7, a1c, a2s⟩)))]⟩ krf ?_
       refine sim_seq ?_
       refine sim_run Tryz.fm ⟨[0, 6, 7], [1028], [], []⟩ ⟨[(0, .ptr 1028 0), (6, .ptr 1028 0), (7, I x7.Kind)], [(1028, .box 118 (bxc (GBB.cs ⟨x7, a1c, a2s⟩)))]⟩ krf ?_
       refine sim_block ?_
       refine sim_run Tryz.fm ⟨[0, 6, 7, 8], [1028], [], []⟩ ⟨[(0, .ptr 1028 0), (6, .ptr 1028 0), (7, I x7.Kind), (8, B (eqI x7.Kind 1))], [(1028, .box 118 (bxc (GBB.cs ⟨x7, a1c, a2s⟩)))]⟩ krf ?_
       refine sim_cond (eqI x7.Kind 1) krf ?_ ?_
       ·refine sim_run Tryz.fm ⟨[2], [1028], [], []⟩ ⟨[(2, .fn (.func 82) [.ptr 1028 0] [])], [(1028, .box 118 (bxc (GBB.cs ⟨x7, a1c, a2s⟩)))]⟩ krf ?_
        refine sim_ret ?_
        refine bq_r ?_
        refine sq_r ?_
        refine iq_ret .id [1028] [] (.fn (.func 82) [.ptr 1028 0] []) krf krf ?_
        refine kr0 ?_
        refine xs_inline [(1028, .box 118 (bxc (GBB.cs ⟨x7, a1c, a2s⟩)))] [.ptr 1028 0] [(1028, 28)] [] [] krf Tryz.func82 rfl Tryz.ntmps82 rfl krf krf krf ?_
        refine sim_run Tryz.fm ⟨[0], [1028], [], []⟩ ⟨[(0, .ptr 1028 0)], [(1028, .box 118 (bxc (GBB.cs ⟨x7, a1c, a2s⟩)))]⟩ krf ?_
        refine sim_seq ?_
        refine sim_seq ?_
        refine sim_reg ?_
        refine xs_run 6 krf ?_
        refine xs_ro [.ro [], .cv (.id)] krf (g_bb_applies_ok n (⟨x7, a1c, a2s⟩ : GBB) a2s.From) krf krf (fun _ => by kernel_rfl) (fun r11 => ?_)
        refine xs_end ?_
        refine sq_nk ⟨[0, 6, 7, 9], [1028], [], []⟩ ⟨[(0, .ptr 1028 0), (6, .ptr 1028 10), (7, .ptr 1028 10), (9, B r11)], [(1028, .box 118 (bxc (GBB.cs ⟨x7, a1c, a2s⟩)))]⟩ krf ?_
        refine sim_cond r11 krf ?_ ?_
        ·refine sim_run Tryz.fm ⟨[2], [1028], [], []⟩ ⟨[(2, I x7.Price)], [(1028, .box 118 (bxc (GBB.cs ⟨x7, a1c, a2s⟩)))]⟩ krf ?_
         refine sim_ret ?_
         refine sq_r ?_
         refine iq_ret .id [1028] [] (I x7.Price) krf krf ?_
         refine kr0 ?_
         refine xs_run 1 krf ?_
         refine xs_end ?_
         exact kq_n (k := fun j10 => g_bill_sum_j10 l6_1 l6_2 l6_3 OL.nil l6_5 recl6 j10) x7.Price ⟨[4, 5, 6, 7, 8, 9, 10, 13, 15, 16, 17], [4, 5, 6, 7], [], []⟩ krf
        ·refine sim_skip ?_
         refine sq_nk ⟨[6, 7], [1028], [], []⟩ ⟨[(6, .ptr 1028 10), (7, .ptr 1028 10)], [(1028, .box 118 (bxc (GBB.cs ⟨x7, a1c, a2s⟩)))]⟩ krf ?_
         refine sim_run Tryz.fm ⟨[2], [1028], [], []⟩ ⟨[(2, I 0)], [(1028, .box 118 (bxc (GBB.cs ⟨x7, a1c, a2s⟩)))]⟩ krf ?_
         refine sim_ret ?_
         refine iq_ret .id [1028] [] (I 0) krf krf ?_
         refine kr0 ?_
         refine xs_run 1 krf ?_
         refine xs_end ?_
         exact kq_n (k := fun j10 => g_bill_sum_j10 l6_1 l6_2 l6_3 OL.nil l6_5 recl6 j10) 0 ⟨[4, 5, 6, 7, 8, 9, 10, 13, 15, 16, 17], [4, 5, 6, 7], [], []⟩ krf
       ·refine sim_run Tryz.fm ⟨[0, 6, 7, 12], [1028], [], []⟩ ⟨[(0, .ptr 1028 0), (6, .ptr 1028 0), (7, I x7.Kind), (12, B (eqI x7.Kind 2))], [(1028, .box 118 (bxc (GBB.cs ⟨x7, a1c, a2s⟩)))]⟩ krf ?_
        refine sim_cond (eqI x7.Kind 2) krf ?_ ?_
        ·refine sim_run Tryz.fm ⟨[2], [1028], [], []⟩ ⟨[(2, .fn (.func 83) [.ptr 1028 0] [])], [(1028, .box 118 (bxc (GBB.cs ⟨x7, a1c, a2s⟩)))]⟩ krf ?_
         refine sim_ret ?_
         refine bq_r ?_
         refine sq_r ?_
         refine iq_ret .id [1028] [] (.fn (.func 83) [.ptr 1028 0] []) krf krf ?_
         refine kr0 ?_
         refine xs_inline [(1028, .box 118 (bxc (GBB.cs ⟨x7, a1c, a2s⟩)))] [.ptr 1028 0] [(1028, 28)] [] [] krf Tryz.func83 rfl Tryz.ntmps83 rfl krf krf krf ?_
         refine sim_run Tryz.fm ⟨[0], [1028], [], []⟩ ⟨[(0, .ptr 1028 0)], [(1028, .box 118 (bxc (GBB.cs ⟨x7, a1c, a2s⟩)))]⟩ krf ?_
         refine sim_run Tryz.fm ⟨[0, 3], [1028], [], []⟩ ⟨[(0, .ptr 1028 0), (3, I 0)], [(1028, .box 118 (bxc (GBB.cs ⟨x7, a1c, a2s⟩)))]⟩ krf ?_
         refine sim_bind (fun j12 => ⟨[(0, .ptr 1028 0), (3, I j12), (6, .ptr 1028 0), (7, .ptr 1028 0)], [(1028, .box 118 (bxc (GBB.cs ⟨x7, a1c, a2s⟩)))]⟩ : Int → St) ?_ ?_
         ·refine sim_run Tryz.fm ⟨[0, 3, 6, 7, 10, 11, 12], [1028], [], []⟩ ⟨[(0, .ptr 1028 0), (3, I 0), (6, .ptr 1028 0), (7, .ptr 1028 0), (10, .p (.sl 2 (List.map GSlice.cs a2s.Slices))), (11, I (lenI (List.map GSlice.cs a2s.Slices))), (12, I 0)], [(1028, .box 118 (bxc (GBB.cs ⟨x7, a1c, a2s⟩)))]⟩ krf ?_
          refine sim_block ?_
          refine sim_loop (fun (l13_1, l13_2) => ⟨[(0, .ptr 1028 0), (3, I l13_1), (6, .ptr 1028 0), (7, .ptr 1028 0), (10, .p (.sl 2 (List.map GSlice.cs a2s.Slices))), (11, I (lenI (List.map GSlice.cs a2s.Slices))), (12, I l13_2)], [(1028, .box 118 (bxc (GBB.cs ⟨x7, a1c, a2s⟩)))]⟩ : (Int × Int) → St) (weak_shr (K := ⟨[0, 3, 6, 7, 10, 11, 12], [1028], [], []⟩) krf) ?_
          rintro recl13 ⟨l13_1, l13_2⟩
          show SimE (g_bill_sum_l13 n a1c a2s x7 recl13 l13_1 l13_2) _ _ _ _ _ _
          unfold g_bill_sum_l13
          refine sim_run Tryz.fm ⟨[0, 3, 6, 7, 10, 11, 12, 13], [1028], [], []⟩ ⟨[(0, .ptr 1028 0), (3, I l13_1), (6, .ptr 1028 0), (7, .ptr 1028 0), (10, .p (.sl 2 (List.map GSlice.cs a2s.Slices))), (11, I (lenI (List.map GSlice.cs a2s.Slices))), (12, I l13_2), (13, B (ltI l13_2 (lenI (List.map GSlice.cs a2s.Slices))))], [(1028, .box 118 (bxc (GBB.cs ⟨x7, a1c, a2s⟩)))]⟩ krf ?_
          refine sim_seq ?_
          refine sim_cond (ltI l13_2 (lenI (List.map GSlice.cs a2s.Slices))) krf ?_ ?_
          ·refine sim_skip ?_
           refine sq_nk ⟨[0, 3, 6, 7, 10, 11, 12], [1028], [], []⟩ ⟨[(0, .ptr 1028 0), (3, I l13_1), (6, .ptr 1028 0), (7, .ptr 1028 0), (10, .p (.sl 2 (List.map GSlice.cs a2s.Slices))), (11, I (lenI (List.map GSlice.cs a2s.Slices))), (12, I l13_2)], [(1028, .box 118 (bxc (GBB.cs ⟨x7, a1c, a2s⟩)))]⟩ krf ?_
           refine sim_seq ?_
           refine sim_block ?_
           refine sim_seq ?_
           refine sim_reg ?_
           refine xs_get krf krf (aop_idx (e := 62) (S := 2) (enc := GSlice.cs) (l := a2s.Slices) (k := .i64) (n := l13_2) (sv := .p (.sl 2 (List.map GSlice.cs a2s.Slices))) rfl krf krf krf krf krf) (fun x14 => ?_)
           refine xs_run 3 krf ?_
           refine xs_end ?_
           refine sq_nk ⟨[0, 3, 5, 6, 7, 10, 11, 12], [5, 1028], [], []⟩ ⟨[(0, .ptr 1028 0), (3, I l13_1), (5, .ptr 5 0), (6, .ptr 1028 0), (7, .ptr 1028 0), (10, .p (.sl 2 (List.map GSlice.cs a2s.Slices))), (11, I (lenI (List.map GSlice.cs a2s.Slices))), (12, I l13_2)], [(5, .box 62 (bxc (GSlice.cs x14))), (1028, .box 118 (bxc (GBB.cs ⟨x7, a1c, a2s⟩)))]⟩ krf ?_
           refine sim_seq ?_
           refine sim_reg ?_
           refine xs_run 3 krf ?_
           refine xs_ro [.ro [], .cv (.id)] krf (g_bb_applies_ok n (⟨x7, a1c, a2s⟩ : GBB) x14.Minute) krf krf (fun _ => by kernel_rfl) (fun r15 => ?_)
           refine xs_end ?_
           refine sq_nk ⟨[0, 3, 5, 6, 7, 10, 11, 12, 19], [5, 1028], [], []⟩ ⟨[(0, .ptr 1028 0), (3, I l13_1), (5, .ptr 5 0), (6, .ptr 1028 0), (7, .ptr 1028 0), (10, .p (.sl 2 (List.map GSlice.cs a2s.Slices))), (11, I (lenI (List.map GSlice.cs a2s.Slices))), (12, I l13_2), (19, B r15)], [(5, .box 62 (bxc (GSlice.cs x14))), (1028, .box 118 (bxc (GBB.cs ⟨x7, a1c, a2s⟩)))]⟩ krf ?_
           refine sim_cond r15 krf ?_ ?_
           ·refine sim_last Tryz.fm krf ?_
            refine bq_n ?_
            refine sq_nk ⟨[0, 3, 6, 7, 10, 11, 12], [1028], [], []⟩ ⟨[(0, .ptr 1028 0), (3, I (wi (l13_1 + x14.Energy))), (6, .ptr 1028 0), (7, .ptr 1028 0), (10, .p (.sl 2 (List.map GSlice.cs a2s.Slices))), (11, I (lenI (List.map GSlice.cs a2s.Slices))), (12, I l13_2)], [(1028, .box 118 (bxc (GBB.cs ⟨x7, a1c, a2s⟩)))]⟩ krf ?_
            refine sim_last Tryz.fm krf ?_
            exact kq_n (wi (l13_1 + x14.Energy), wi (l13_2 + 1)) ⟨[0, 3, 6, 7, 10, 11, 12], [1028], [], []⟩ krf
           ·refine sim_skip ?_
            refine bq_n ?_
            refine sq_nk ⟨[0, 3, 6, 7, 10, 11, 12], [1028], [], []⟩ ⟨[(0, .ptr 1028 0), (3, I l13_1), (6, .ptr 1028 0), (7, .ptr 1028 0), (10, .p (.sl 2 (List.map GSlice.cs a2s.Slices))), (11, I (lenI (List.map GSlice.cs a2s.Slices))), (12, I l13_2)], [(1028, .box 118 (bxc (GBB.cs ⟨x7, a1c, a2s⟩)))]⟩ krf ?_
            refine sim_last Tryz.fm krf ?_
            exact kq_n (l13_1, wi (l13_2 + 1)) ⟨[0, 3, 6, 7, 10, 11, 12], [1028], [], []⟩ krf
          ·refine sim_exit ?_
           refine sq_x ?_
           refine kq_x ?_
           refine bq_hit ?_
           exact nq_n l13_1 ⟨[0, 3, 6, 7], [1028], [], []⟩ krf
         ·rintro j12
          refine sim_seq ?_
          refine sim_reg ?_
          refine xs_run 6 krf ?_
          refine xs_call [] krf (g_money_Times_ok n x7.Price j12 1000) krf krf (fun _ => by kernel_rfl) (fun r16 => ?_)
          refine xs_run 2 krf ?_
          refine xs_exc [] krf (g_bill_must_ok n r16.1 r16.2) krf krf (fun _ => by kernel_rfl) (fun _ => by kernel_rfl) (fun r17 => ?_) (fun e18 => ?_)
          ·refine xs_run 1 krf ?_
           refine xs_end ?_
           refine sq_nk ⟨[2], [1028], [], []⟩ ⟨[(2, I r17)], [(1028, .box 118 (bxc (GBB.cs ⟨x7, a1c, a2s⟩)))]⟩ krf ?_
           refine sim_ret ?_
           refine iq_ret .id [1028] [] (I r17) krf krf ?_
           refine kr0 ?_
           refine xs_run 1 krf ?_
           refine xs_end ?_
           exact kq_n (k := fun j10 => g_bill_sum_j10 l6_1 l6_2 l6_3 OL.nil l6_5 recl6 j10) r17 ⟨[4, 5, 6, 7, 8, 9, 10, 13, 15, 16, 17], [4, 5, 6, 7], [], []⟩ krf
          ·refine sq_p ?_
           refine iq_p [1028] [] krf ?_
           refine kq_p ?_
           refine bq_p ?_
           refine bq_p ?_
           refine sq_p ?_
           refine kq_p ?_
           refine bq_p ?_
           refine kq_p ?_
           exact rq_p krf krf
        ·refine sim_run Tryz.fm ⟨[0, 6, 7, 16], [1028], [], []⟩ ⟨[(0, .ptr 1028 0), (6, .ptr 1028 0), (7, I x7.Kind), (16, B (eqI x7.Kind 3))], [(1028, .box 118 (bxc (GBB.cs ⟨x7, a1c, a2s⟩)))]⟩ krf ?_
         refine sim_cond (eqI x7.Kind 3) krf ?_ ?_
         ·refine sim_run Tryz.fm ⟨[2], [1028], [], []⟩ ⟨[(2, .fn (.func 84) [.ptr 1028 0] [])], [(1028, .box 118 (bxc (GBB.cs ⟨x7, a1c, a2s⟩)))]⟩ krf ?_
          refine sim_ret ?_
          refine bq_r ?_
          refine sq_r ?_
          refine iq_ret .id [1028] [] (.fn (.func 84) [.ptr 1028 0] []) krf krf ?_
          refine kr0 ?_
          refine xs_inline [(1028, .box 118 (bxc (GBB.cs ⟨x7, a1c, a2s⟩)))] [.ptr 1028 0] [(1028, 28)] [] [] krf Tryz.func84 rfl Tryz.ntmps84 rfl krf krf krf ?_
          refine sim_run Tryz.fm ⟨[0], [1028], [], []⟩ ⟨[(0, .ptr 1028 0)], [(1028, .box 118 (bxc (GBB.cs ⟨x7, a1c, a2s⟩)))]⟩ krf ?_
          refine sim_seq ?_
          refine sim_drw Tryz.fm rfl ?_
          refine xs_run 11 krf ?_
          refine xs_seqL rfl krf krf ?_
          refine xs_roE [.ro [], .cv (.id), .cv (.id)] krf (g_bb_stretch_ok n (⟨x7, a1c, a2s⟩ : GBB) a2s.From a2s.To) krf krf (fun _ => by kernel_rfl) (fun _ => by kernel_rfl) (fun r19 => ?_) (fun e20 => ?_)
          ·refine xs_run 1 krf ?_
           refine xs_end ?_
           refine sq_nk ⟨[2], [1028], [], []⟩ ⟨[(2, I r19)], [(1028, .box 118 (bxc (GBB.cs ⟨x7, a1c, a2s⟩)))]⟩ krf ?_
           refine sim_ret ?_
           refine iq_ret .id [1028] [] (I r19) krf krf ?_
           refine kr0 ?_
           refine xs_run 1 krf ?_
           refine xs_end ?_
           exact kq_n (k := fun j10 => g_bill_sum_j10 l6_1 l6_2 l6_3 OL.nil l6_5 recl6 j10) r19 ⟨[4, 5, 6, 7, 8, 9, 10, 13, 15, 16, 17], [4, 5, 6, 7], [], []⟩ krf
          ·refine sq_p ?_
           refine iq_p [1028] [] krf ?_
           refine kq_p ?_
           refine bq_p ?_
           refine bq_p ?_
           refine sq_p ?_
           refine kq_p ?_
           refine bq_p ?_
           refine kq_p ?_
           exact rq_p krf krf
         ·refine sim_run Tryz.fm ⟨[0, 6, 7, 20], [1028], [], []⟩ ⟨[(0, .ptr 1028 0), (6, .ptr 1028 0), (7, I x7.Kind), (20, B (eqI x7.Kind 4))], [(1028, .box 118 (bxc (GBB.cs ⟨x7, a1c, a2s⟩)))]⟩ krf ?_
          refine sim_cond (eqI x7.Kind 4) krf ?_ ?_
          ·refine sim_run Tryz.fm ⟨[2], [1028], [], []⟩ ⟨[(2, .fn (.func 85) [.ptr 1028 0] [])], [(1028, .box 118 (bxc (GBB.cs ⟨x7, a1c, a2s⟩)))]⟩ krf ?_
           refine sim_ret ?_
           refine bq_r ?_
           refine sq_r ?_
           refine iq_ret .id [1028] [] (.fn (.func 85) [.ptr 1028 0] []) krf krf ?_
           refine kr0 ?_
           refine xs_inline [(1028, .box 118 (bxc (GBB.cs ⟨x7, a1c, a2s⟩)))] [.ptr 1028 0] [(1028, 28)] [] [] krf Tryz.func85 rfl Tryz.ntmps85 rfl krf krf krf ?_
           refine sim_run Tryz.fm ⟨[0], [1028], [], []⟩ ⟨[(0, .ptr 1028 0)], [(1028, .box 118 (bxc (GBB.cs ⟨x7, a1c, a2s⟩)))]⟩ krf ?_
           refine sim_seq ?_
           refine sim_drw Tryz.fm rfl ?_
           refine xs_run 11 krf ?_
           refine xs_seqL rfl krf krf ?_
           refine xs_roE [.ro [], .cv (.id), .cv (.id)] krf (g_bb_stretch_ok n (⟨x7, a1c, a2s⟩ : GBB) a2s.End a2s.To) krf krf (fun _ => by kernel_rfl) (fun _ => by kernel_rfl) (fun r21 => ?_) (fun e22 => ?_)
           ·refine xs_run 1 krf ?_
            refine xs_end ?_
            refine sq_nk ⟨[2], [1028], [], []⟩ ⟨[(2, I r21)], [(1028, .box 118 (bxc (GBB.cs ⟨x7, a1c, a2s⟩)))]⟩ krf ?_
            refine sim_ret ?_
            refine iq_ret .id [1028] [] (I r21) krf krf ?_
            refine kr0 ?_
            refine xs_run 1 krf ?_
            refine xs_end ?_
            exact kq_n (k := fun j10 => g_bill_sum_j10 l6_1 l6_2 l6_3 OL.nil l6_5 recl6 j10) r21 ⟨[4, 5, 6, 7, 8, 9, 10, 13, 15, 16, 17], [4, 5, 6, 7], [], []⟩ krf
           ·refine sq_p ?_
            refine iq_p [1028] [] krf ?_
            refine kq_p ?_
            refine bq_p ?_
            refine bq_p ?_
            refine sq_p ?_
            refine kq_p ?_
            refine bq_p ?_
            refine kq_p ?_
            exact rq_p krf krf
          ·refine sim_skip ?_
           refine bq_n ?_
           refine sq_nk ⟨[0, 6, 7], [1028], [], []⟩ ⟨[(0, .ptr 1028 0), (6, .ptr 1028 0), (7, I x7.Kind)], [(1028, .box 118 (bxc (GBB.cs ⟨x7, a1c, a2s⟩)))]⟩ krf ?_
           refine sim_run Tryz.fm ⟨[2], [1028], [], []⟩ ⟨[(2, .fn (.func 86) [.ptr 1028 0] [])], [(1028, .box 118 (bxc (GBB.cs ⟨x7, a1c, a2s⟩)))]⟩ krf ?_
           refine sim_ret ?_
           refine iq_ret .id [1028] [] (.fn (.func 86) [.ptr 1028 0] []) krf krf ?_
           refine kr0 ?_
           refine xs_inline [(1028, .box 118 (bxc (GBB.cs ⟨x7, a1c, a2s⟩)))] [.ptr 1028 0] [(1028, 28)] [] [] krf Tryz.func86 rfl Tryz.ntmps86 rfl krf krf krf ?_
           refine sim_run Tryz.fm ⟨[], [1028], [], []⟩ ⟨[], [(1028, .box 118 (bxc (GBB.cs ⟨x7, a1c, a2s⟩)))]⟩ krf ?_
           refine sim_run Tryz.fm ⟨[2], [1028], [], []⟩ ⟨[(2, I 0)], [(1028, .box 118 (bxc (GBB.cs ⟨x7, a1c, a2s⟩)))]⟩ krf ?_
           refine sim_ret ?_
           refine iq_ret .id [1028] [] (I 0) krf krf ?_
           refine kr0 ?_
           refine xs_run 1 krf ?_
           refine xs_end ?_
           exact kq_n (k := fun j10 => g_bill_sum_j10 l6_1 l6_2 l6_3 OL.nil l6_5 recl6 j10) 0 ⟨[4, 5, 6, 7, 8, 9, 10, 13, 15, 16, 17], [4, 5, 6, 7], [], []⟩ krf
   ·refine sim_exit ?_
    refine sq_x ?_
    refine kq_x ?_
    refine bq_hit ?_
    exact kq_n (k := fun (j1_1, j1_2, j1_3, j1_4) => g_bill_sum_j1 n j1_1 j1_2 j1_3 j1_4) (l6_1, l6_2, OL.nil, l6_5) ⟨[6, 7, 8, 9], [6, 7], [], []⟩ krf
  ·refine sim_run Tryz.fm ⟨[4, 5, 6, 7, 8, 9, 15, 16, 17, 18], [4, 5, 6, 7, 38], [], []⟩ ⟨[(4, .ptr 4 0), (5, .ptr 5 0), (6, .ptr 6 0), (7, .ptr 7 0), (8, I l6_1), (9, I l6_2), (15, .p (.sl 7 (List.map GArticle.cs a0t.Articles))), (16, I (lenI (List.map GArticle.cs a0t.Articles))), (17, I l6_3), (18, B (ltI l6_3 (lenI (List.map GArticle.cs a0t.Articles))))], [(4, .box 28 (bxc (GCalendar.cs a1c))), (5, .box 35 (bxc (GSession.cs a2s))), (6, .box 39 [.p (.val (.slice none 0 0)), I 0, I 0, I 0]), (7, .box 39 [.tsl 2 (List.map GLine.cs (OL.own ow_l6_4).toL) 38, I l6_5, I 0, I 0]), (38, .arr 69 2 (List.map GLine.cs (OL.own ow_l6_4).toL).length)]⟩ krf ?_
   refine sim_seq ?_
   refine sim_cond (ltI l6_3 (lenI (List.map GArticle.cs a0t.Articles))) krf ?_ ?_
   ·refine sim_skip ?_
    refine sq_nk ⟨[4, 5, 6, 7, 8, 9, 15, 16, 17], [4, 5, 6, 7, 38], [], []⟩ ⟨[(4, .ptr 4 0), (5, .ptr 5 0), (6, .ptr 6 0), (7, .ptr 7 0), (8, I l6_1), (9, I l6_2), (15, .p (.sl 7 (List.map GArticle.cs a0t.Articles))), (16, I (lenI (List.map GArticle.cs a0t.Articles))), (17, I l6_3)], [(4, .box 28 (bxc (GCalendar.cs a1c))), (5, .box 35 (bxc (GSession.cs a2s))), (6, .box 39 [.p (.val (.slice none 0 0)), I 0, I 0, I 0]), (7, .box 39 [.tsl 2 (List.map GLine.cs (OL.own ow_l6_4).toL) 38, I l6_5, I 0, I 0]), (38, .arr 69 2 (List.map GLine.cs (OL.own ow_l6_4).toL).length)]⟩ krf ?_
    refine sim_seq ?_
    refine sim_block ?_
    refine sim_seq ?_
    refine sim_reg ?_
    refine xs_run 1 krf ?_
    refine xs_get krf krf (aop_idx (e := 73) (S := 7) (enc := GArticle.cs) (l := a0t.Articles) (k := .i64) (n := l6_3) (sv := .p (.sl 7 (List.map GArticle.cs a0t.Articles))) rfl krf krf krf krf krf) (fun x7 => ?_)
    refine xs_run 4 krf ?_
    refine xs_end ?_
    refine sq_nk ⟨[4, 5, 6, 7, 8, 9, 10, 11, 15, 16, 17], [4, 5, 6, 7, 11, 38], [], []⟩ ⟨[(4, .ptr 4 0), (5, .ptr 5 0), (6, .ptr 6 0), (7, .ptr 7 0), (8, I l6_1), (9, I l6_2), (10, I l6_3), (11, .ptr 11 0), (15, .p (.sl 7 (List.map GArticle.cs a0t.Articles))), (16, I (lenI (List.map GArticle.cs a0t.Articles))), (17, I l6_3)], [(4, .box 28 (bxc (GCalendar.cs a1c))), (5, .box 35 (bxc (GSession.cs a2s))), (6, .box 39 [.p (.val (.slice none 0 0)), I 0, I 0, I 0]), (7, .box 39 [.tsl 2 (List.map GLine.cs (OL.own ow_l6_4).toL) 38, I l6_5, I 0, I 0]), (11, .box 73 (bxc (GArticle.cs x7))), (38, .arr 69 2 (List.map GLine.cs (OL.own ow_l6_4).toL).length)]⟩ krf ?_
    refine sim_run Tryz.fm ⟨[4, 5, 6, 7, 8, 9, 10, 11, 15, 16, 17, 23], [4, 5, 6, 7, 11, 38], [], []⟩ ⟨[(4, .ptr 4 0), (5, .ptr 5 0), (6, .ptr 6 0), (7, .ptr 7 0), (8, I l6_1), (9, I l6_2), (10, I l6_3), (11, .ptr 11 0), (15, .p (.sl 7 (List.map GArticle.cs a0t.Articles))), (16, I (lenI (List.map GArticle.cs a0t.Articles))), (17, I l6_3), (23, I x7.Kind)], [(4, .box 28 (bxc (GCalendar.cs a1c))), (5, .box 35 (bxc (GSession.cs a2s))), (6, .box 39 [.p (.val (.slice none 0 0)), I 0, I 0, I 0]), (7, .box 39 [.tsl 2 (List.map GLine.cs (OL.own ow_l6_4).toL) 38, I l6_5, I 0, I 0]), (11, .box 73 (bxc (GArticle.cs x7))), (38, .arr 69 2 (List.map GLine.cs (OL.own ow_l6_4).toL).length)]⟩ krf ?_
    refine sim_block ?_
    refine sim_run Tryz.fm ⟨[4, 5, 6, 7, 8, 9, 10, 11, 15, 16, 17, 23, 45], [4, 5, 6, 7, 11, 38], [], []⟩ ⟨[(4, .ptr 4 0), (5, .ptr 5 0), (6, .ptr 6 0), (7, .ptr 7 0), (8, I l6_1), (9, I l6_2), (10, I l6_3), (11, .ptr 11 0), (15, .p (.sl 7 (List.map GArticle.cs a0t.Articles))), (16, I (lenI (List.map GArticle.cs a0t.Articles))), (17, I l6_3), (23, I x7.Kind), (45, B (eqI x7.Kind 5))], [(4, .box 28 (bxc (GCalendar.cs a1c))), (5, .box 35 (bxc (GSession.cs a2s))), (6, .box 39 [.p (.val (.slice none 0 0)), I 0, I 0, I 0]), (7, .box 39 [.tsl 2 (List.map GLine.cs (OL.own ow_l6_4).toL) 38, I l6_5, I 0, I 0]), (11, .box 73 (bxc (GArticle.cs x7))), (38, .arr 69 2 (List.map GLine.cs (OL.own ow_l6_4).toL).length)]⟩ krf ?_
    refine sim_cond (eqI x7.Kind 5) krf ?_ ?_
    ·refine sim_bind (fun j8 => ⟨[(4, .ptr 4 0), (5, .ptr 5 0), (6, .ptr 6 0), (7, .ptr 7 0), (8, I l6_1), (9, I l6_2), (11, .ptr 11 0), (15, .p (.sl 7 (List.map GArticle.cs a0t.Articles))), (16, I (lenI (List.map GArticle.cs a0t.Articles))), (17, I l6_3), (54, B j8)], [(4, .box 28 (bxc (GCalendar.cs a1c))), (5, .box 35 (bxc (GSession.cs a2s))), (6, .box 39 [.p (.val (.slice none 0 0)), I 0, I 0, I 0]), (7, .box 39 [.tsl 2 (List.map GLine.cs (OL.own ow_l6_4).toL) 38, I l6_5, I 0, I 0]), (11, .box 73 (bxc (GArticle.cs x7))), (38, .arr 69 2 (List.map GLine.cs (OL.own ow_l6_4).toL).length)]⟩ : Bool → St) ?_ ?_
     ·refine sim_reg ?_
      refine xs_run 3 krf ?_
      refine xs_split (ltI l6_2 0) (fun h9 => ?_) (fun h9 => ?_)
      ·refine xs_no (want_ft krf h9) krf ?_
       refine xs_run 4 krf ?_
       refine xs_end ?_
       exact nq_n true ⟨[4, 5, 6, 7, 8, 9, 11, 15, 16, 17, 54], [4, 5, 6, 7, 11, 38], [], []⟩ krf
      ·refine xs_one (want_ff krf h9) krf ?_
       refine xs_run 4 krf ?_
       refine xs_end ?_
       exact nq_n (ltI x7.Price l6_2) ⟨[4, 5, 6, 7, 8, 9, 11, 15, 16, 17, 54], [4, 5, 6, 7, 11, 38], [], []⟩ krf
     ·rintro j8
      refine sim_cond j8 krf ?_ ?_
      ·refine sim_last Tryz.fm krf ?_
       refine bq_n ?_
       refine bq_n ?_
       refine sq_nk ⟨[4, 5, 6, 7, 8, 9, 15, 16, 17], [4, 5, 6, 7, 38], [], []⟩ ⟨[(4, .ptr 4 0), (5, .ptr 5 0), (6, .ptr 6 0), (7, .ptr 7 0), (8, I l6_1), (9, I x7.Price), (15, .p (.sl 7 (List.map GArticle.cs a0t.Articles))), (16, I (lenI (List.map GArticle.cs a0t.Articles))), (17, I l6_3)], [(4, .box 28 (bxc (GCalendar.cs a1c))), (5, .box 35 (bxc (GSession.cs a2s))), (6, .box 39 [.p (.val (.slice none 0 0)), I 0, I 0, I 0]), (7, .box 39 [.tsl 2 (List.map GLine.cs (OL.own ow_l6_4).toL) 38, I l6_5, I 0, I 0]), (38, .arr 69 2 (List.map GLine.cs (OL.own ow_l6_4).toL).length)]⟩ krf ?_
       refine sim_last Tryz.fm krf ?_
       exact kq_n (l6_1, x7.Price, wi (l6_3 + 1), (OL.own ow_l6_4), l6_5) ⟨[4, 5, 6, 7, 8, 9, 15, 16, 17], [4, 5, 6, 7, 38], [], []⟩ krf
      ·refine sim_skip ?_
       refine bq_n ?_
       refine bq_n ?_
       refine sq_nk ⟨[4, 5, 6, 7, 8, 9, 15, 16, 17], [4, 5, 6, 7, 38], [], []⟩ ⟨[(4, .ptr 4 0), (5, .ptr 5 0), (6, .ptr 6 0), (7, .ptr 7 0), (8, I l6_1), (9, I l6_2), (15, .p (.sl 7 (List.map GArticle.cs a0t.Articles))), (16, I (lenI (List.map GArticle.cs a0t.Articles))), (17, I l6_3)], [(4, .box 28 (bxc (GCalendar.cs a1c))), (5, .box 35 (bxc (GSession.cs a2s))), (6, .box 39 [.p (.val (.slice none 0 0)), I 0, I 0, I 0]), (7, .box 39 [.tsl 2 (List.map GLine.cs (OL.own ow_l6_4).toL) 38, I l6_5, I 0, I 0]), (38, .arr 69 2 (List.map GLine.cs (OL.own ow_l6_4).toL).length)]⟩ krf ?_
       refine sim_last Tryz.fm krf ?_
       exact kq_n (l6_1, l6_2, wi (l6_3 + 1), (OL.own ow_l6_4), l6_5) ⟨[4, 5, 6, 7, 8, 9, 15, 16, 17], [4, 5, 6, 7, 38], [], []⟩ krf
    ·refine sim_run Tryz.fm ⟨[4, 5, 6, 7, 8, 9, 10, 11, 15, 16, 17, 57], [4, 5, 6, 7, 11, 38], [], []⟩ ⟨[(4, .ptr 4 0), (5, .ptr 5 0), (6, .ptr 6 0), (7, .ptr 7 0), (8, I l6_1), (9, I l6_2), (10, I l6_3), (11, .ptr 11 0), (15, .p (.sl 7 (List.map GArticle.cs a0t.Articles))), (16, I (lenI (List.map GArticle.cs a0t.Articles))), (17, I l6_3), (57, B (eqI x7.Kind 6))], [(4, .box 28 (bxc (GCalendar.cs a1c))), (5, .box 35 (bxc (GSession.cs a2s))), (6, .box 39 [.p (.val (.slice none 0 0)), I 0, I 0, I 0]), (7, .box 39 [.tsl 2 (List.map GLine.cs (OL.own ow_l6_4).toL) 38, I l6_5, I 0, I 0]), (11, .box 73 (bxc (GArticle.cs x7))), (38, .arr 69 2 (List.map GLine.cs (OL.own ow_l6_4).toL).length)]⟩ krf ?_
     refine sim_cond (eqI x7.Kind 6) krf ?_ ?_
     ·refine sim_last Tryz.fm krf ?_
      refine bq_n ?_
      refine bq_n ?_
      refine sq_nk ⟨[4, 5, 6, 7, 8, 9, 15, 16, 17], [4, 5, 6, 7, 38], [], []⟩ ⟨[(4, .ptr 4 0), (5, .ptr 5 0), (6, .ptr 6 0), (7, .ptr 7 0), (8, I x7.Price), (9, I l6_2), (15, .p (.sl 7 (List.map GArticle.cs a0t.Articles))), (16, I (lenI (List.map GArticle.cs a0t.Articles))), (17, I l6_3)], [(4, .box 28 (bxc (GCalendar.cs a1c))), (5, .box 35 (bxc (GSession.cs a2s))), (6, .box 39 [.p (.val (.slice none 0 0)), I 0, I 0, I 0]), (7, .box 39 [.tsl 2 (List.map GLine.cs (OL.own ow_l6_4).toL) 38, I l6_5, I 0, I 0]), (38, .arr 69 2 (List.map GLine.cs (OL.own ow_l6_4).toL).length)]⟩ krf ?_
      refine sim_last Tryz.fm krf ?_
      exact kq_n (x7.Price, l6_2, wi (l6_3 + 1), (OL.own ow_l6_4), l6_5) ⟨[4, 5, 6, 7, 8, 9, 15, 16, 17], [4, 5, 6, 7, 38], [], []⟩ krf
     ·refine sim_run Tryz.fm ⟨[4, 5, 6, 7, 8, 9, 10, 12, 15, 16, 17], [4, 5, 6, 7, 28, 38], [], []⟩ ⟨[(4, .ptr 4 0), (5, .ptr 5 0), (6, .ptr 6 0), (7, .ptr 7 0), (8, I l6_1), (9, I l6_2), (10, I l6_3), (12, .ptr 28 0), (15, .p (.sl 7 (List.map GArticle.cs a0t.Articles))), (16, I (lenI (List.map GArticle.cs a0t.Articles))), (17, I l6_3)], [(4, .box 28 (bxc (GCalendar.cs a1c))), (5, .box 35 (bxc (GSession.cs a2s))), (6, .box 39 [.p (.val (.slice none 0 0)), I 0, I 0, I 0]), (7, .box 39 [.tsl 2 (List.map GLine.cs (OL.own ow_l6_4).toL) 38, I l6_5, I 0, I 0]), (28, .box 118 (bxc (GBB.cs ⟨x7, a1c, a2s⟩))), (38, .arr 69 2 (List.map GLine.cs (OL.own ow_l6_4).toL).length)]⟩ krf ?_
      refine sim_cps (fun j10 => ⟨[(4, .ptr 4 0), (5, .ptr 5 0), (6, .ptr 6 0), (7, .ptr 7 0), (8, I l6_1), (9, I l6_2), (10, I l6_3), (13, I j10), (15, .p (.sl 7 (List.map GArticle.cs a0t.Articles))), (16, I (lenI (List.map GArticle.cs a0t.Articles))), (17, I l6_3)], [(4, .box 28 (bxc (GCalendar.cs a1c))), (5, .box 35 (bxc (GSession.cs a2s))), (6, .box 39 [.p (.val (.slice none 0 0)), I 0, I 0, I 0]), (7, .box 39 [.tsl 2 (List.map GLine.cs (OL.own ow_l6_4).toL) 38, I l6_5, I 0, I 0]), (38, .arr 69 2 (List.map GLine.cs (OL.own ow_l6_4).toL).length)]⟩ : Int → St) (fun j10 => g_bill_sum_j10 l6_1 l6_2 l6_3 (OL.own ow_l6_4) l6_5 recl6 j10) ?_ ?_
      ·rintro j10
       show SimE (g_bill_sum_j10 l6_1 l6_2 l6_3 (OL.own ow_l6_4) l6_5 recl6 j10) _ _ _ _ _ _
       unfold g_bill_sum_j10
       refine sim_seq ?_
       refine sim_reg ?_
       refine xs_run 6 krf ?_
       refine xs_if krf krf (aop_app (e := 69) (S := 2) (by_ := 16) (enc := GLine.cs) (tk := 38) (l := (OL.own ow_l6_4).toL) (l2 := [(⟨l6_3, j10⟩ : GLine)]) (xv := .tsl 2 (List.map GLine.cs [(⟨l6_3, j10⟩ : GLine)]) 37) rfl krf krf rfl krf krf krf rfl krf) ?_
       refine xs_run 2 krf ?_
       refine xs_end ?_
       refine sq_nk ⟨[4, 5, 6, 7, 8, 9, 13, 15, 16, 17], [4, 5, 6, 7, 38], [], []⟩ ⟨[(4, .ptr 4 0), (5, .ptr 5 0), (6, .ptr 6 0), (7, .ptr 7 0), (8, I l6_1), (9, I l6_2), (13, I j10), (15, .p (.sl 7 (List.map GArticle.cs a0t.Articles))), (16, I (lenI (List.map GArticle.cs a0t.Articles))), (17, I l6_3)], [(4, .box 28 (bxc (GCalendar.cs a1c))), (5, .box 35 (bxc (GSession.cs a2s))), (6, .box 39 [.p (.val (.slice none 0 0)), I 0, I 0, I 0]), (7, .box 39 [.tsl 2 (List.map GLine.cs ((OL.own ow_l6_4).toL ++ [(⟨l6_3, j10⟩ : GLine)])) 38, I l6_5, I 0, I 0]), (38, .arr 69 2 (List.map GLine.cs ((OL.own ow_l6_4).toL ++ [(⟨l6_3, j10⟩ : GLine)])).length)]⟩ krf ?_
       refine sim_last Tryz.fm krf ?_
       refine bq_n ?_
       refine bq_n ?_
       refine sq_nk ⟨[4, 5, 6, 7, 8, 9, 15, 16, 17], [4, 5, 6, 7, 38], [], []⟩ ⟨[(4, .ptr 4 0), (5, .ptr 5 0), (6, .ptr 6 0), (7, .ptr 7 0), (8, I l6_1), (9, I l6_2), (15, .p (.sl 7 (List.map GArticle.cs a0t.Articles))), (16, I (lenI (List.map GArticle.cs a0t.Articles))), (17, I l6_3)], [(4, .box 28 (bxc (GCalendar.cs a1c))), (5, .box 35 (bxc (GSession.cs a2s))), (6, .box 39 [.p (.val (.slice none 0 0)), I 0, I 0, I 0]), (7, .box 39 [.tsl 2 (List.map GLine.cs ((OL.own ow_l6_4).toL ++ [(⟨l6_3, j10⟩ : GLine)])) 38, I (wi (l6_5 + j10)), I 0, I 0]), (38, .arr 69 2 (List.map GLine.cs ((OL.own ow_l6_4).toL ++ [(⟨l6_3, j10⟩ : GLine)])).length)]⟩ krf ?_
       refine sim_last Tryz.fm krf ?_
       exact kq_n (l6_1, l6_2, wi (l6_3 + 1), OL.own ((OL.own ow_l6_4).toL ++ [(⟨l6_3, j10⟩ : GLine)]), wi (l6_5 + j10)) ⟨[4, 5, 6, 7, 8, 9, 15, 16, 17], [4, 5, 6, 7, 38], [], []⟩ krf
      ·refine sim_reg ?_
       refine xs_run 1 krf ?_
       refine xs_inline [(1028, .box 118 (bxc (GBB.cs ⟨x7, a1c, a2s⟩)))] [.ptr 1028 0] [(1028, 28)] [] [] krf Tryz.func61 rfl Tryz.ntmps61 rfl krf krf krf ?_
       refine sim_run Tryz.fm ⟨[0], [1028], [], []⟩ ⟨[(0, .ptr 1028 0)], [(1028, .box 118 (bxc (GBB.cs ⟨x7, a1c, a2s⟩)))]⟩ krf ?_
       refine sim_seq ?_
       refine sim_run Tryz.fm ⟨[0, 6, 7], [1028], [], []⟩ ⟨[(0, .ptr 1028 0), (6, .ptr 1028 0), (7, I x7.Kind)], [(1028, .box 118 (bxc (GBB.cs ⟨x7, a1c, a2s⟩)))]⟩ krf ?_
       refine sim_block ?_
       refine sim_run Tryz.fm ⟨[0, 6, 7, 8], [1028], [], []⟩ ⟨[(0, .ptr 1028 0), (6, .ptr 1028 0), (7, I x7.Kind), (8, B (eqI x7.Kind 1))], [(1028, .box 118 (bxc (GBB.cs ⟨x7, a1c, a2s⟩)))]⟩ krf ?_
       refine sim_cond (eqI x7.Kind 1) krf ?_ ?_
       ·refine sim_run Tryz.fm ⟨[2], [1028], [], []⟩ ⟨[(2, .fn (.func 82) [.ptr 1028 0] [])], [(1028, .box 118 (bxc (GBB.cs ⟨x7, a1c, a2s⟩)))]⟩ krf ?_
        refine sim_ret ?_
        refine bq_r ?_
        refine sq_r ?_
        refine iq_ret .id [1028] [] (.fn (.func 82) [.ptr 1028 0] []) krf krf ?_
        refine kr0 ?_
        refine xs_inline [(1028, .box 118 (bxc (GBB.cs ⟨x7, a1c, a2s⟩)))] [.ptr 1028 0] [(1028, 28)] [] [] krf Tryz.func82 rfl Tryz.ntmps82 rfl krf krf krf ?_
        refine sim_run Tryz.fm ⟨[0], [1028], [], []⟩ ⟨[(0, .ptr 1028 0)], [(1028, .box 118 (bxc (GBB.cs ⟨x7, a1c, a2s⟩)))]⟩ krf ?_
        refine sim_seq ?_
        refine sim_seq ?_
        refine sim_reg ?_
        refine xs_run 6 krf ?_
        refine xs_ro [.ro [], .cv (.id)] krf (g_bb_applies_ok n (⟨x7, a1c, a2s⟩ : GBB) a2s.From) krf krf (fun _ => by kernel_rfl) (fun r11 => ?_)
        refine xs_end ?_
        refine sq_nk ⟨[0, 6, 7, 9], [1028], [], []⟩ ⟨[(0, .ptr 1028 0), (6, .ptr 1028 10), (7, .ptr 1028 10), (9, B r11)], [(1028, .box 118 (bxc (GBB.cs ⟨x7, a1c, a2s⟩)))]⟩ krf ?_
        refine sim_cond r11 krf ?_ ?_
        ·refine sim_run Tryz.fm ⟨[2], [1028], [], []⟩ ⟨[(2, I x7.Price)], [(1028, .box 118 (bxc (GBB.cs ⟨x7, a1c, a2s⟩)))]⟩ krf ?_
         refine sim_ret ?_
         refine sq_r ?_
         refine iq_ret .id [1028] [] (I x7.Price) krf krf ?_
         refine kr0 ?_
         refine xs_run 1 krf ?_
         refine xs_end ?_
         exact kq_n (k := fun j10 => g_bill_sum_j10 l6_1 l6_2 l6_3 (OL.own ow_l6_4) l6_5 recl6 j10) x7.Price ⟨[4, 5, 6, 7, 8, 9, 10, 13, 15, 16, 17], [4, 5, 6, 7, 38], [], []⟩ krf
        ·refine sim_skip ?_
         refine sq_nk ⟨[6, 7], [1028], [], []⟩ ⟨[(6, .ptr 1028 10), (7, .ptr 1028 10)], [(1028, .box 118 (bxc (GBB.cs ⟨x7, a1c, a2s⟩)))]⟩ krf ?_
         refine sim_run Tryz.fm ⟨[2], [1028], [], []⟩ ⟨[(2, I 0)], [(1028, .box 118 (bxc (GBB.cs ⟨x7, a1c, a2s⟩)))]⟩ krf ?_
         refine sim_ret ?_
         refine iq_ret .id [1028] [] (I 0) krf krf ?_
         refine kr0 ?_
         refine xs_run 1 krf ?_
         refine xs_end ?_
         exact kq_n (k := fun j10 => g_bill_sum_j10 l6_1 l6_2 l6_3 (OL.own ow_l6_4) l6_5 recl6 j10) 0 ⟨[4, 5, 6, 7, 8, 9, 10, 13, 15, 16, 17], [4, 5, 6, 7, 38], [], []⟩ krf
       ·refine sim_run Tryz.fm ⟨[0, 6, 7, 12], [1028], [], []⟩ ⟨[(0, .ptr 1028 0), (6, .ptr 1028 0), (7, I x7.Kind), (12, B (eqI x7.Kind 2))], [(1028, .box 118 (bxc (GBB.cs ⟨x7, a1c, a2s⟩)))]⟩ krf ?_
        refine sim_cond (eqI x7.Kind 2) krf ?_ ?_
        ·refine sim_run Tryz.fm ⟨[2], [1028], [], []⟩ ⟨[(2, .fn (.func 83) [.ptr 1028 0] [])], [(1028, .box 118 (bxc (GBB.cs ⟨x7, a1c, a2s⟩)))]⟩ krf ?_
         refine sim_ret ?_
         refine bq_r ?_
         refine sq_r ?_
         refine iq_ret .id [1028] [] (.fn (.func 83) [.ptr 1028 0] []) krf krf ?_
         refine kr0 ?_
         refine xs_inline [(1028, .box 118 (bxc (GBB.cs ⟨x7, a1c, a2s⟩)))] [.ptr 1028 0] [(1028, 28)] [] [] krf Tryz.func83 rfl Tryz.ntmps83 rfl krf krf krf ?_
         refine sim_run Tryz.fm ⟨[0], [1028], [], []⟩ ⟨[(0, .ptr 1028 0)], [(1028, .box 118 (bxc (GBB.cs ⟨x7, a1c, a2s⟩)))]⟩ krf ?_
         refine sim_run Tryz.fm ⟨[0, 3], [1028], [], []⟩ ⟨[(0, .ptr 1028 0), (3, I 0)], [(1028, .box 118 (bxc (GBB.cs ⟨x7, a1c, a2s⟩)))]⟩ krf ?_
         refine sim_bind (fun j12 => ⟨[(0, .ptr 1028 0), (3, I j12), (6, .ptr 1028 0), (7, .ptr 1028 0)], [(1028, .box 118 (bxc (GBB.cs ⟨x7, a1c, a2s⟩)))]⟩ : Int → St) ?_ ?_
         ·refine sim_run Tryz.fm ⟨[0, 3, 6, 7, 10, 11, 12], [1028], [], []⟩ ⟨[(0, .ptr 1028 0), (3, I 0), (6, .ptr 1028 0), (7, .ptr 1028 0), (10, .p (.sl 2 (List.map GSlice.cs a2s.Slices))), (11, I (lenI (List.map GSlice.cs a2s.Slices))), (12, I 0)], [(1028, .box 118 (bxc (GBB.cs ⟨x7, a1c, a2s⟩)))]⟩ krf ?_
          refine sim_block ?_
          refine sim_loop (fun (l13_1, l13_2) => ⟨[(0, .ptr 1028 0), (3, I l13_1), (6, .ptr 1028 0), (7, .ptr 1028 0), (10, .p (.sl 2 (List.map GSlice.cs a2s.Slices))), (11, I (lenI (List.map GSlice.cs a2s.Slices))), (12, I l13_2)], [(1028, .box 118 (bxc (GBB.cs ⟨x7, a1c, a2s⟩)))]⟩ : (Int × Int) → St) (weak_shr (K := ⟨[0, 3, 6, 7, 10, 11, 12], [1028], [], []⟩) krf) ?_
          rintro recl13 ⟨l13_1, l13_2⟩
          show SimE (g_bill_sum_l13 n a1c a2s x7 recl13 l13_1 l13_2) _ _ _ _ _ _
          unfold g_bill_sum_l13
          refine sim_run Tryz.fm ⟨[0, 3, 6, 7, 10, 11, 12, 13], [1028], [], []⟩ ⟨[(0, .ptr 1028 0), (3, I l13_1), (6, .ptr 1028 0), (7, .ptr 1028 0), (10, .p (.sl 2 (List.map GSlice.cs a2s.Slices))), (11, I (lenI (List.map GSlice.cs a2s.Slices))), (12, I l13_2), (13, B (ltI l13_2 (lenI (List.map GSlice.cs a2s.Slices))))], [(1028, .box 118 (bxc (GBB.cs ⟨x7, a1c, a2s⟩)))]⟩ krf ?_
          refine sim_seq ?_
          refine sim_cond (ltI l13_2 (lenI (List.map GSlice.cs a2s.Slices))) krf ?_ ?_
          ·refine sim_skip ?_
           refine sq_nk ⟨[0, 3, 6, 7, 10, 11, 12], [1028], [], []⟩ ⟨[(0, .ptr 1028 0), (3, I l13_1), (6, .ptr 1028 0), (7, .ptr 1028 0), (10, .p (.sl 2 (List.map GSlice.cs a2s.Slices))), (11, I (lenI (List.map GSlice.cs a2s.Slices))), (12, I l13_2)], [(1028, .box 118 (bxc (GBB.cs ⟨x7, a1c, a2s⟩)))]⟩ krf ?_
           refine sim_seq ?_
           refine sim_block ?_
           refine sim_seq ?_
           refine sim_reg ?_
           refine xs_get krf krf (aop_idx (e := 62) (S := 2) (enc := GSlice.cs) (l := a2s.Slices) (k := .i64) (n := l13_2) (sv := .p (.sl 2 (List.map GSlice.cs a2s.Slices))) rfl krf krf krf krf krf) (fun x14 => ?_)
           refine xs_run 3 krf ?_
           refine xs_end ?_
           refine sq_nk ⟨[0, 3, 5, 6, 7, 10, 11, 12], [5, 1028], [], []⟩ ⟨[(0, .ptr 1028 0), (3, I l13_1), (5, .ptr 5 0), (6, .ptr 1028 0), (7, .ptr 1028 0), (10, .p (.sl 2 (List.map GSlice.cs a2s.Slices))), (11, I (lenI (List.map GSlice.cs a2s.Slices))), (12, I l13_2)], [(5, .box 62 (bxc (GSlice.cs x14))), (1028, .box 118 (bxc (GBB.cs ⟨x7, a1c, a2s⟩)))]⟩ krf ?_
           refine sim_seq ?_
           refine sim_reg ?_
           refine xs_run 3 krf ?_
           refine xs_ro [.ro [], .cv (.id)] krf (g_bb_applies_ok n (⟨x7, a1c, a2s⟩ : GBB) x14.Minute) krf krf (fun _ => by kernel_rfl) (fun r15 => ?_)
           refine xs_end ?_
           refine sq_nk ⟨[0, 3, 5, 6, 7, 10, 11, 12, 19], [5, 1028], [], []⟩ ⟨[(0, .ptr 1028 0), (3, I l13_1), (5, .ptr 5 0), (6, .ptr 1028 0), (7, .ptr 1028 0), (10, .p (.sl 2 (List.map GSlice.cs a2s.Slices))), (11, I (lenI (List.map GSlice.cs a2s.Slices))), (12, I l13_2), (19, B r15)], [(5, .box 62 (bxc (GSlice.cs x14))), (1028, .box 118 (bxc (GBB.cs ⟨x7, a1c, a2s⟩)))]⟩ krf ?_
           refine sim_cond r15 krf ?_ ?_
           ·refine sim_last Tryz.fm krf ?_
            refine bq_n ?_
            refine sq_nk ⟨[0, 3, 6, 7, 10, 11, 12], [1028], [], []⟩ ⟨[(0, .ptr 1028 0), (3, I (wi (l13_1 + x14.Energy))), (6, .ptr 1028 0), (7, .ptr 1028 0), (10, .p (.sl 2 (List.map GSlice.cs a2s.Slices))), (11, I (lenI (List.map GSlice.cs a2s.Slices))), (12, I l13_2)], [(1028, .box 118 (bxc (GBB.cs ⟨x7, a1c, a2s⟩)))]⟩ krf ?_
            refine sim_last Tryz.fm krf ?_
            exact kq_n (wi (l13_1 + x14.Energy), wi (l13_2 + 1)) ⟨[0, 3, 6, 7, 10, 11, 12], [1028], [], []⟩ krf
           ·refine sim_skip ?_
            refine bq_n ?_
            refine sq_nk ⟨[0, 3, 6, 7, 10, 11, 12], [1028], [], []⟩ ⟨[(0, .ptr 1028 0), (3, I l13_1), (6, .ptr 1028 0), (7, .ptr 1028 0), (10, .p (.sl 2 (List.map GSlice.cs a2s.Slices))), (11, I (lenI (List.map GSlice.cs a2s.Slices))), (12, I l13_2)], [(1028, .box 118 (bxc (GBB.cs ⟨x7, a1c, a2s⟩)))]⟩ krf ?_
            refine sim_last Tryz.fm krf ?_
            exact kq_n (l13_1, wi (l13_2 + 1)) ⟨[0, 3, 6, 7, 10, 11, 12], [1028], [], []⟩ krf
          ·refine sim_exit ?_
           refine sq_x ?_
           refine kq_x ?_
           refine bq_hit ?_
           exact nq_n l13_1 ⟨[0, 3, 6, 7], [1028], [], []⟩ krf
         ·rintro j12
          refine sim_seq ?_
          refine sim_reg ?_
          refine xs_run 6 krf ?_
          refine xs_call [] krf (g_money_Times_ok n x7.Price j12 1000) krf krf (fun _ => by kernel_rfl) (fun r16 => ?_)
          refine xs_run 2 krf ?_
          refine xs_exc [] krf (g_bill_must_ok n r16.1 r16.2) krf krf (fun _ => by kernel_rfl) (fun _ => by kernel_rfl) (fun r17 => ?_) (fun e18 => ?_)
          ·refine xs_run 1 krf ?_
           refine xs_end ?_
           refine sq_nk ⟨[2], [1028], [], []⟩ ⟨[(2, I r17)], [(1028, .box 118 (bxc (GBB.cs ⟨x7, a1c, a2s⟩)))]⟩ krf ?_
           refine sim_ret ?_
           refine iq_ret .id [1028] [] (I r17) krf krf ?_
           refine kr0 ?_
           refine xs_run 1 krf ?_
           refine xs_end ?_
           exact kq_n (k := fun j10 => g_bill_sum_j10 l6_1 l6_2 l6_3 (OL.own ow_l6_4) l6_5 recl6 j10) r17 ⟨[4, 5, 6, 7, 8, 9, 10, 13, 15, 16, 17], [4, 5, 6, 7, 38], [], []⟩ krf
          ·refine sq_p ?_
           refine iq_p [1028] [] krf ?_
           refine kq_p ?_
           refine bq_p ?_
           refine bq_p ?_
           refine sq_p ?_
           refine kq_p ?_
           refine bq_p ?_
           refine kq_p ?_
           exact rq_p krf krf
        ·refine sim_run Tryz.fm ⟨[0, 6, 7, 16], [1028], [], []⟩ ⟨[(0, .ptr 1028 0), (6, .ptr 1028 0), (7, I x7.Kind), (16, B (eqI x7.Kind 3))], [(1028, .box 118 (bxc (GBB.cs ⟨x7, a1c, a2s⟩)))]⟩ krf ?_
         refine sim_cond (eqI x7.Kind 3) krf ?_ ?_
         ·refine sim_run Tryz.fm ⟨[2], [1028], [], []⟩ ⟨[(2, .fn (.func 84) [.ptr 1028 0] [])], [(1028, .box 118 (bxc (GBB.cs ⟨x7, a1c, a2s⟩)))]⟩ krf ?_
          refine sim_ret ?_
          refine bq_r ?_
          refine sq_r ?_
          refine iq_ret .id [1028] [] (.fn (.func 84) [.ptr 1028 0] []) krf krf ?_
          refine kr0 ?_
          refine xs_inline [(1028, .box 118 (bxc (GBB.cs ⟨x7, a1c, a2s⟩)))] [.ptr 1028 0] [(1028, 28)] [] [] krf Tryz.func84 rfl Tryz.ntmps84 rfl krf krf krf ?_
          refine sim_run Tryz.fm ⟨[0], [1028], [], []⟩ ⟨[(0, .ptr 1028 0)], [(1028, .box 118 (bxc (GBB.cs ⟨x7, a1c, a2s⟩)))]⟩ krf ?_
          refine sim_seq ?_
          refine sim_drw Tryz.fm rfl ?_
          refine xs_run 11 krf ?_
          refine xs_seqL rfl krf krf ?_
          refine xs_roE [.ro [], .cv (.id), .cv (.id)] krf (g_bb_stretch_ok n (⟨x7, a1c, a2s⟩ : GBB) a2s.From a2s.To) krf krf (fun _ => by kernel_rfl) (fun _ => by kernel_rfl) (fun r19 => ?_) (fun e20 => ?_)
          ·refine xs_run 1 krf ?_
           refine xs_end ?_
           refine sq_nk ⟨[2], [1028], [], []⟩ ⟨[(2, I r19)], [(1028, .box 118 (bxc (GBB.cs ⟨x7, a1c, a2s⟩)))]⟩ krf ?_
           refine sim_ret ?_
           refine iq_ret .id [1028] [] (I r19) krf krf ?_
           refine kr0 ?_
           refine xs_run 1 krf ?_
           refine xs_end ?_
           exact kq_n (k := fun j10 => g_bill_sum_j10 l6_1 l6_2 l6_3 (OL.own ow_l6_4) l6_5 recl6 j10) r19 ⟨[4, 5, 6, 7, 8, 9, 10, 13, 15, 16, 17], [4, 5, 6, 7, 38], [], []⟩ krf
          ·refine sq_p ?_
           refine iq_p [1028] [] krf ?_
           refine kq_p ?_
           refine bq_p ?_
           refine bq_p ?_
           refine sq_p ?_
           refine kq_p ?_
           refine bq_p ?_
           refine kq_p ?_
           exact rq_p krf krf
         ·refine sim_run Tryz.fm ⟨[0, 6, 7, 20], [1028], [], []⟩ ⟨[(0, .ptr 1028 0), (6, .ptr 1028 0), (7, I x7.Kind), (20, B (eqI x7.Kind 4))], [(1028, .box 118 (bxc (GBB.cs ⟨x7, a1c, a2s⟩)))]⟩ krf ?_
          refine sim_cond (eqI x7.Kind 4) krf ?_ ?_
          ·refine sim_run Tryz.fm ⟨[2], [1028], [], []⟩ ⟨[(2, .fn (.func 85) [.ptr 1028 0] [])], [(1028, .box 118 (bxc (GBB.cs ⟨x7, a1c, a2s⟩)))]⟩ krf ?_
           refine sim_ret ?_
           refine bq_r ?_
           refine sq_r ?_
           refine iq_ret .id [1028] [] (.fn (.func 85) [.ptr 1028 0] []) krf krf ?_
           refine kr0 ?_
           refine xs_inline [(1028, .box 118 (bxc (GBB.cs ⟨x7, a1c, a2s⟩)))] [.ptr 1028 0] [(1028, 28)] [] [] krf Tryz.func85 rfl Tryz.ntmps85 rfl krf krf krf ?_
           refine sim_run Tryz.fm ⟨[0], [1028], [], []⟩ ⟨[(0, .ptr 1028 0)], [(1028, .box 118 (bxc (GBB.cs ⟨x7, a1c, a2s⟩)))]⟩ krf ?_
           refine sim_seq ?_
           refine sim_drw Tryz.fm rfl ?_
           refine xs_run 11 krf ?_
           refine xs_seqL rfl krf krf ?_
           refine xs_roE [.ro [], .cv (.id), .cv (.id)] krf (g_bb_stretch_ok n (⟨x7, a1c, a2s⟩ : GBB) a2s.End a2s.To) krf krf (fun _ => by kernel_rfl) (fun _ => by kernel_rfl) (fun r21 => ?_) (fun e22 => ?_)
           ·refine xs_run 1 krf ?_
            refine xs_end ?_
            refine sq_nk ⟨[2], [1028], [], []⟩ ⟨[(2, I r21)], [(1028, .box 118 (bxc (GBB.cs ⟨x7, a1c, a2s⟩)))]⟩ krf ?_
            refine sim_ret ?_
            refine iq_ret .id [1028] [] (I r21) krf krf ?_
            refine kr0 ?_
            refine xs_run 1 krf ?_
            refine xs_end ?_
            exact kq_n (k := fun j10 => g_bill_sum_j10 l6_1 l6_2 l6_3 (OL.own ow_l6_4) l6_5 recl6 j10) r21 ⟨[4, 5, 6, 7, 8, 9, 10, 13, 15, 16, 17], [4, 5, 6, 7, 38], [], []⟩ krf
           ·refine sq_p ?_
            refine iq_p [1028] [] krf ?_
            refine kq_p ?_
            refine bq_p ?_
            refine bq_p ?_
            refine sq_p ?_
            refine kq_p ?_
            refine bq_p ?_
            refine kq_p ?_
            exact rq_p krf krf
          ·refine sim_skip ?_
           refine bq_n ?_
           refine sq_nk ⟨[0, 6, 7], [1028], [], []⟩ ⟨[(0, .ptr 1028 0), (6, .ptr 1028 0), (7, I x7.Kind)], [(1028, .box 118 (bxc (GBB.cs ⟨x7, a1c, a2s⟩)))]⟩ krf ?_
           refine sim_run Tryz.fm ⟨[2], [1028], [], []⟩ ⟨[(2, .fn (.func 86) [.ptr 1028 0] [])], [(1028, .box 118 (bxc (GBB.cs ⟨x7, a1c, a2s⟩)))]⟩ krf ?_
           refine sim_ret ?_
           refine iq_ret .id [1028] [] (.fn (.func 86) [.ptr 1028 0] []) krf krf ?_
           refine kr0 ?_
           refine xs_inline [(1028, .box 118 (bxc (GBB.cs ⟨x7, a1c, a2s⟩)))] [.ptr 1028 0] [(1028, 28)] [] [] krf Tryz.func86 rfl Tryz.ntmps86 rfl krf krf krf ?_
           refine sim_run Tryz.fm ⟨[], [1028], [], []⟩ ⟨[], [(1028, .box 118 (bxc (GBB.cs ⟨x7, a1c, a2s⟩)))]⟩ krf ?_
           refine sim_run Tryz.fm ⟨[2], [1028], [], []⟩ ⟨[(2, I 0)], [(1028, .box 118 (bxc (GBB.cs ⟨x7, a1c, a2s⟩)))]⟩ krf ?_
           refine sim_ret ?_
           refine iq_ret .id [1028] [] (I 0) krf krf ?_
           refine kr0 ?_
           refine xs_run 1 krf ?_
           refine xs_end ?_
           exact kq_n (k := fun j10 => g_bill_sum_j10 l6_1 l6_2 l6_3 (OL.own ow_l6_4) l6_5 recl6 j10) 0 ⟨[4, 5, 6, 7, 8, 9, 10, 13, 15, 16, 17], [4, 5, 6, 7, 38], [], []⟩ krf
   ·refine sim_exit ?_
    refine sq_x ?_
    refine kq_x ?_
    refine bq_hit ?_
    exact kq_n (k := fun (j1_1, j1_2, j1_3, j1_4) => g_bill_sum_j1 n j1_1 j1_2 j1_3 j1_4) (l6_1, l6_2, (OL.own ow_l6_4), l6_5) ⟨[6, 7, 8, 9], [6, 7, 38], [], []⟩ krf
def g_bill_caught_2 (n : Nat) (a0x_0 : Int) (a1err : Int) : Option Int :=
 some a0x_0
theorem g_bill_caught_2_ok (n : Nat) (a0x_0 : Int) (a1err : Int) : ∀ r, g_bill_caught_2 n a0x_0 a1err = some r → ACall Tryz.prog 26 [.ifc 103 (.agg [I a0x_0]), .ptr 1001 0] (Go.Abs.look [(1001, .box 44 [I a1err])]) (heapR (fun r : Int => ((.ret (.tup []), [(1001, .box 44 [I r])]) : AEnd × List (Nat × Blk))) r) := by
 refine acall_sim (X := fun r : Int => ((.ret (.tup []), [(1001, .box 44 [I r])]) : AEnd × List (Nat × Blk))) [(1001, .box 44 [I a1err])] Tryz.func26 rfl Tryz.ntmps26 rfl ?_
 unfold g_bill_caught_2
 refine sim_seq ?_
 refine sim_run Tryz.fm ⟨[0, 1, 6, 7], [1001], [], []⟩ ⟨[(0, .ifc 103 (.agg [I a0x_0])), (1, .ptr 1001 0), (6, .ifc 103 (.agg [I a0x_0])), (7, B false)], [(1001, .box 44 [I a1err])]⟩ krf ?_
 refine sim_condF krf ?_
 refine sim_skip ?_
 refine sq_nk ⟨[0, 1, 6, 7], [1001], [], []⟩ ⟨[(0, .ifc 103 (.agg [I a0x_0])), (1, .ptr 1001 0), (6, .ifc 103 (.agg [I a0x_0])), (7, B false)], [(1001, .box 44 [I a1err])]⟩ krf ?_
 refine sim_run Tryz.fm ⟨[0, 1, 4, 5, 6, 7], [4, 1001], [], []⟩ ⟨[(0, .ifc 103 (.agg [I a0x_0])), (1, .ptr 1001 0), (4, .ptr 4 0), (5, B true), (6, .ifc 103 (.agg [I a0x_0])), (7, B false)], [(4, .box 103 [I a0x_0]), (1001, .box 44 [I a1err])]⟩ krf ?_
 refine sim_seq ?_
 refine sim_run Tryz.fm ⟨[0, 1, 4, 6, 7, 14], [4, 1001], [], []⟩ ⟨[(0, .ifc 103 (.agg [I a0x_0])), (1, .ptr 1001 0), (4, .ptr 4 0), (6, .ifc 103 (.agg [I a0x_0])), (7, B false), (14, B false)], [(4, .box 103 [I a0x_0]), (1001, .box 44 [I a1err])]⟩ krf ?_
 refine sim_condF krf ?_
 refine sim_skip ?_
 refine sq_nk ⟨[1, 4, 6, 7], [4, 1001], [], []⟩ ⟨[(1, .ptr 1001 0), (4, .ptr 4 0), (6, .ifc 103 (.agg [I a0x_0])), (7, B false)], [(4, .box 103 [I a0x_0]), (1001, .box 44 [I a1err])]⟩ krf ?_
 refine sim_last Tryz.fm krf ?_
 exact hq_n (.id) [1001] [] krf krf krf krf
def g_bill_Bill (n : Nat) (a0t : GTariff) (a1c : GCalendar) (a2s : GSession) : Option (GBill × Int) :=
 ((g_tariff_Valid n a0t).bind fun r2 =>
 cond (!r2)
  (some true)
  ((g_days_Valid n a1c).bind fun r4 =>
  cond (!r4)
   (some true)
   ((g_bill_Valid n a2s).bind fun r6 =>
   some (!r6)))).bind fun j1 =>
 cond j1
  ((g_bill_caught n 1).bind fun r7 =>
  some ((⟨[], 0, 0, 0⟩ : GBill), r7))
  ((g_bill_sum n a0t a1c a2s).bind (exc (fun r8 =>
   (g_bill_caught n 0).bind fun r10 =>
   some (r8, r10)) fun e9 => (g_bill_caught_2 n e9 0).bind fun r11 =>
  some ((⟨[], 0, 0, 0⟩ : GBill), r11)))
theorem g_bill_Bill_okH (n : Nat) (a0t : GTariff) (a1c : GCalendar) (a2s : GSession) : ∀ r, g_bill_Bill n a0t a1c a2s = some r → ACall Tryz.prog 15 [ag (GTariff.cs a0t), ag (GCalendar.cs a1c), ag (GSession.cs a2s)] (Go.Abs.look []) (heapR (fun r : GBill × Int => ((.ret (.tup [ag (GBill.cs r.1), I r.2]), []) : AEnd × List (Nat × Blk))) r) := by
 refine defer_sim (X := fun r : GBill × Int => ((.ret (.tup [ag (GBill.cs r.1), I r.2]), []) : AEnd × List (Nat × Blk))) [] (⟨Tryz.f25, _, _, _, 1, _, _, Tryz.func25, rfl, rfl, rfl, rfl, rfl, rfl, by decide, by decide, rfl, by kernel_rfl⟩ : Catcher Tryz.prog 25 26) (⟨_, _, _, _, _, 7, 8, _, rfl, rfl, rfl, rfl, rfl, rfl, rfl, by decide⟩ : Deferrer Tryz.f15 25) 7 Tryz.func15 Tryz.ntmps15 rfl krf rfl Tryz.fm rfl krf krf krf ?_
 unfold g_bill_Bill
 refine sim_keep ⟨[3, 4, 5, 6, 7], [3, 4, 5, 6, 2000], [], []⟩ ⟨[(3, .ptr 3 0), (4, .ptr 4 0), (5, .ptr 5 0), (6, .ptr 6 0), (7, .ptr 2000 0)], [(3, .box 24 (bxc (GTariff.cs a0t))), (4, .box 28 (bxc (GCalendar.cs a1c))), (5, .box 35 (bxc (GSession.cs a2s))), (6, .box 39 [.p (.val (.slice none 0 0)), I 0, I 0, I 0]), (2000, .box 44 [I 0])]⟩ krf ?_
 refine sim_seq ?_
 refine sim_bind (fun j1 => ⟨[(3, .ptr 3 0), (4, .ptr 4 0), (5, .ptr 5 0), (6, .ptr 6 0), (7, .ptr 2000 0), (21, B j1)], [(3, .box 24 (bxc (GTariff.cs a0t))), (4, .box 28 (bxc (GCalendar.cs a1c))), (5, .box 35 (bxc (GSession.cs a2s))), (6, .box 39 [.p (.val (.slice none 0 0)), I 0, I 0, I 0]), (2000, .box 44 [I 0])]⟩ : Bool → St) ?_ ?_
 ·refine sim_reg ?_
  refine xs_run 1 krf ?_
  refine xs_call [] krf (g_tariff_Valid_ok n a0t) krf krf (fun _ => by kernel_rfl) (fun r2 => ?_)
  refine xs_run 2 krf ?_
  refine xs_split (!r2) (fun h3 => ?_) (fun h3 => ?_)
  ·refine xs_no (want_ft krf h3) krf ?_
   refine xs_run 8 krf ?_
   refine xs_end ?_
   exact nq_n true ⟨[3, 4, 5, 6, 7, 21], [3, 4, 5, 6, 2000], [], []⟩ krf
  ·refine xs_one (want_ff krf h3) krf ?_
   refine xs_call [] krf (g_days_Valid_ok n a1c) krf krf (fun _ => by kernel_rfl) (fun r4 => ?_)
   refine xs_run 3 krf ?_
   refine xs_split (!r4) (fun h5 => ?_) (fun h5 => ?_)
   ·refine xs_no (want_ft krf h5) krf ?_
    refine xs_run 3 krf ?_
    refine xs_end ?_
    exact nq_n true ⟨[3, 4, 5, 6, 7, 21], [3, 4, 5, 6, 2000], [], []⟩ krf
   ·refine xs_one (want_ff krf h5) krf ?_
    refine xs_call [] krf (g_bill_Valid_ok n a2s) krf krf (fun _ => by kernel_rfl) (fun r6 => ?_)
    refine xs_run 2 krf ?_
    refine xs_end ?_
    exact nq_n (!r6) ⟨[3, 4, 5, 6, 7, 21], [3, 4, 5, 6, 2000], [], []⟩ krf
 ·rintro j1
  refine sim_cond j1 krf ?_ ?_
  ·refine sim_run Tryz.fm ⟨[6, 7], [6, 2000], [], []⟩ ⟨[(6, .ptr 6 0), (7, .ptr 2000 0)], [(6, .box 39 [.p (.val (.slice none 0 0)), I 0, I 0, I 0]), (2000, .box 44 [I 1])]⟩ krf ?_
   refine sim_ret ?_
   refine sq_r ?_
   refine dq_ret ?_
   refine sc_heap [(1001, 2000)] [] [] (g_bill_caught_ok n 1) krf krf krf (fun _ => by kernel_rfl) (fun _ => by kernel_rfl) (fun r7 => ?_)
   exact ke_end (.agg [.agg [.sl 2, .id, .id, .id], .id]) [] [] krf krf krf krf
  ·refine sim_skip ?_
   refine sq_nk ⟨[3, 4, 5, 6, 7], [3, 4, 5, 6, 2000], [], []⟩ ⟨[(3, .ptr 3 0), (4, .ptr 4 0), (5, .ptr 5 0), (6, .ptr 6 0), (7, .ptr 2000 0)], [(3, .box 24 (bxc (GTariff.cs a0t))), (4, .box 28 (bxc (GCalendar.cs a1c))), (5, .box 35 (bxc (GSession.cs a2s))), (6, .box 39 [.p (.val (.slice none 0 0)), I 0, I 0, I 0]), (2000, .box 44 [I 0])]⟩ krf ?_
   refine sim_seq ?_
   refine sim_reg ?_
   refine xs_run 3 krf ?_
   refine xs_exc [] krf (g_bill_sum_ok n a0t a1c a2s) krf krf (fun _ => by kernel_rfl) (fun _ => by kernel_rfl) (fun r8 => ?_) (fun e9 => ?_)
   ·refine xs_run 2 krf ?_
    refine xs_end ?_
    refine sq_nk ⟨[6, 7], [6, 2000], [], []⟩ ⟨[(6, .ptr 6 0), (7, .ptr 2000 0)], [(6, .box 39 (bxc (GBill.cs r8))), (2000, .box 44 [I 0])]⟩ krf ?_
    refine sim_ret ?_
    refine dq_ret ?_
    refine sc_heap [(1001, 2000)] [] [] (g_bill_caught_ok n 0) krf krf krf (fun _ => by kernel_rfl) (fun _ => by kernel_rfl) (fun r10 => ?_)
    exact ke_end (.id) [] [] krf krf krf krf
   ·refine sq_p ?_
    refine dq_p ?_
    refine sc_heap [(1001, 2000)] [] [] (g_bill_caught_2_ok n e9 0) krf krf krf (fun _ => by kernel_rfl) (fun _ => by kernel_rfl) (fun r11 => ?_)
    exact ke_end (.agg [.agg [.sl 2, .id, .id, .id], .id]) [] [] krf krf krf krf
theorem g_bill_Bill_ok (n : Nat) (a0t : GTariff) (a1c : GCalendar) (a2s : GSession) : ∀ r, g_bill_Bill n a0t a1c a2s = some r → PCall Tryz.prog 15 [ag (GTariff.cs a0t), ag (GCalendar.cs a1c), ag (GSession.cs a2s)] (.ret (.tup [ag (GBill.cs r.1), I r.2])) := fun r h => pcall_of (g_bill_Bill_okH n a0t a1c a2s r h) rfl
def g_ref43_At_l1 (a0l : List GReading) (a1minute : Int) (recl1 : (Int × Int) → Option Int) (l1_1 : Int) (l1_2 : Int) : Option Int :=
 cond (ltI l1_2 (lenI (List.map GReading.cs a0l)))
  ((getI a0l l1_2).bind fun x2 =>
  cond (leI x2.Minute a1minute)
   (recl1 (wi (l1_2 + 1), wi (l1_2 + 1)))
   (recl1 (l1_1, wi (l1_2 + 1))))
  (some l1_1)
def g_ref43_At (n : Nat) (a0l : List GReading) (a1minute : Int) : Option Int :=
 loopN (fun recl1 (l1_1, l1_2) => g_ref43_At_l1 a0l a1minute recl1 l1_1 l1_2) n (0, 0)
theorem g_ref43_At_ok (n : Nat) (a0l : List GReading) (a1minute : Int) : ∀ r, g_ref43_At n a0l a1minute = some r → PCall Tryz.prog 34 [.p (.sl 5 (List.map GReading.cs a0l)), I a1minute] (.ret (I r)) := by
 refine pcall_sim (X := fun r : Int => AEnd.ret (I r)) Tryz.func34 rfl Tryz.ntmps34 rfl ?_
 unfold g_ref43_At
 refine sim_run Tryz.fm ⟨[0, 1], [], [], []⟩ ⟨[(0, .p (.sl 5 (List.map GReading.cs a0l))), (1, I a1minute)], []⟩ krf ?_
 refine sim_run Tryz.fm ⟨[0, 1, 5], [], [], []⟩ ⟨[(0, .p (.sl 5 (List.map GReading.cs a0l))), (1, I a1minute), (5, I 0)], []⟩ krf ?_
 refine sim_seq ?_
 refine sim_run Tryz.fm ⟨[0, 1, 5, 6], [], [], []⟩ ⟨[(0, .p (.sl 5 (List.map GReading.cs a0l))), (1, I a1minute), (5, I 0), (6, I 0)], []⟩ krf ?_
 refine sim_block ?_
 refine sim_loop (fun (l1_1, l1_2) => ⟨[(0, .p (.sl 5 (List.map GReading.cs a0l))), (1, I a1minute), (5, I l1_1), (6, I l1_2)], []⟩ : (Int × Int) → St) (weak_shr (K := ⟨[0, 1, 5, 6], [], [], []⟩) krf) ?_
 rintro recl1 ⟨l1_1, l1_2⟩
 show SimE (g_ref43_At_l1 a0l a1minute recl1 l1_1 l1_2) _ _ _ _ _ _
 unfold g_ref43_At_l1
 refine sim_seq ?_
 refine sim_run Tryz.fm ⟨[0, 1, 5, 6, 10], [], [], []⟩ ⟨[(0, .p (.sl 5 (List.map GReading.cs a0l))), (1, I a1minute), (5, I l1_1), (6, I l1_2), (10, B (ltI l1_2 (lenI (List.map GReading.cs a0l))))], []⟩ krf ?_
 refine sim_cond (ltI l1_2 (lenI (List.map GReading.cs a0l))) krf ?_ ?_
 ·refine sim_skip ?_
  refine sq_nk ⟨[0, 1, 5, 6], [], [], []⟩ ⟨[(0, .p (.sl 5 (List.map GReading.cs a0l))), (1, I a1minute), (5, I l1_1), (6, I l1_2)], []⟩ krf ?_
  refine sim_seq ?_
  refine sim_block ?_
  refine sim_seq ?_
  refine sim_reg ?_
  refine xs_run 2 krf ?_
  refine xs_get krf krf (aop_idx (e := 85) (S := 5) (enc := GReading.cs) (l := a0l) (k := .i64) (n := l1_2) (sv := .p (.sl 5 (List.map GReading.cs a0l))) rfl krf krf krf krf krf) (fun x2 => ?_)
  refine xs_run 4 krf ?_
  refine xs_end ?_
  refine sq_nk ⟨[0, 1, 5, 6, 19], [], [], []⟩ ⟨[(0, .p (.sl 5 (List.map GReading.cs a0l))), (1, I a1minute), (5, I l1_1), (6, I l1_2), (19, B (leI x2.Minute a1minute))], []⟩ krf ?_
  refine sim_cond (leI x2.Minute a1minute) krf ?_ ?_
  ·refine sim_last Tryz.fm krf ?_
   refine bq_n ?_
   refine sq_nk ⟨[0, 1, 5, 6], [], [], []⟩ ⟨[(0, .p (.sl 5 (List.map GReading.cs a0l))), (1, I a1minute), (5, I (wi (l1_2 + 1))), (6, I l1_2)], []⟩ krf ?_
   refine sim_last Tryz.fm krf ?_
   exact kq_n (wi (l1_2 + 1), wi (l1_2 + 1)) ⟨[0, 1, 5, 6], [], [], []⟩ krf
  ·refine sim_skip ?_
   refine bq_n ?_
   refine sq_nk ⟨[0, 1, 5, 6], [], [], []⟩ ⟨[(0, .p (.sl 5 (List.map GReading.cs a0l))), (1, I a1minute), (5, I l1_1), (6, I l1_2)], []⟩ krf ?_
   refine sim_last Tryz.fm krf ?_
   exact kq_n (l1_1, wi (l1_2 + 1)) ⟨[0, 1, 5, 6], [], [], []⟩ krf
 ·refine sim_exit ?_
  refine sq_x ?_
  refine kq_x ?_
  refine bq_hit ?_
  refine sq_nk ⟨[5], [], [], []⟩ ⟨[(5, I l1_1)], []⟩ krf ?_
  refine sim_run Tryz.fm ⟨[4], [], [], []⟩ ⟨[(4, I l1_1)], []⟩ krf ?_
  refine sim_ret ?_
  exact rq_ret (.id) krf krf krf
def g_chain_Energy_l3 (n : Nat) (a0l : List GReading) (recl3 : Int → Option Int) (l3 : Int) : Option Int :=
 cond (ltI l3 (lenI (List.map GReading.cs a0l)))
  ((getI a0l l3).bind fun x4 =>
  ((g_chain_valid n x4).bind fun r6 =>
  cond (!r6)
   (some true)
   (some (!eqI x4.Number (wi (l3 + 1))))).bind fun j5 =>
  cond j5
   (some l3)
   ((cond (ltI 0 l3)
    ((getI a0l (wi (l3 - 1))).bind fun x10 =>
    (g_chain_isOld n x10 x4).bind fun r11 =>
    cond r11
     (some true)
     ((getI a0l (wi (l3 - 1))).bind fun x13 =>
     (g_chain_isLater n x13 x4).bind fun r14 =>
     some r14))
    (some false)).bind fun j8 =>
   cond j8
    (some l3)
    (recl3 (wi (l3 + 1)))))
  (some l3)
def g_chain_Energy_l19 (a0l : List GReading) (a2last : Int) (recl19 : (Int × Int) → Option (Int × Int)) (l19_1 : Int) (l19_2 : Int) : Option (Int × Int) :=
 cond (ltI l19_1 a2last)
  ((getI a0l (wi (l19_1 - 1))).bind fun x20 =>
  (getI a0l l19_1).bind fun x21 =>
  cond (eqI x21.Serial x20.Serial)
   (recl19 (wi (l19_1 + 1), wi (l19_2 + (wi (x21.Register - x20.Register)))))
   (recl19 (wi (l19_1 + 1), l19_2)))
  (some (l19_2, 0))
def g_chain_Energy (n : Nat) (a0l : List GReading) (a1first : Int) (a2last : Int) : Option (Int × Int) :=
 (loopN (fun recl3 l3 => g_chain_Energy_l3 n a0l recl3 l3) n 0).bind fun j1 =>
 (cond (!eqI j1 (lenI (List.map GReading.cs a0l)))
  (some true)
  (cond (ltI a1first 1)
   (some true)
   (cond (ltI a2last a1first)
    (some true)
    (some (ltI (lenI (List.map GReading.cs a0l)) a2last))))).bind fun j15 =>
 cond j15
  (some (0, 1))
  (loopN (fun recl19 (l19_1, l19_2) => g_chain_Energy_l19 a0l a2last recl19 l19_1 l19_2) n (a1first, 0))
theorem g_chain_Energy_ok (n : Nat) (a0l : List GReading) (a1first : Int) (a2last : Int) : ∀ r, g_chain_Energy n a0l a1first a2last = some r → PCall Tryz.prog 33 [.p (.sl 5 (List.map GReading.cs a0l)), I a1first, I a2last] (.ret (.tup [I r.1, I r.2])) := by
 refine pcall_sim (X := fun r : Int × Int => AEnd.ret (.tup [I r.1, I r.2])) Tryz.func33 rfl Tryz.ntmps33 rfl ?_
 unfold g_chain_Energy
 refine sim_run Tryz.fm ⟨[0, 1, 2], [], [], []⟩ ⟨[(0, .p (.sl 5 (List.map GReading.cs a0l))), (1, I a1first), (2, I a2last)], []⟩ krf ?_
 refine sim_run Tryz.fm ⟨[0, 1, 2, 8], [8], [], []⟩ ⟨[(0, .p (.sl 5 (List.map GReading.cs a0l))), (1, I a1first), (2, I a2last), (8, .ptr 8 0)], [(8, .box 3 [I 0])]⟩ krf ?_
 refine sim_bind (fun j1 => ⟨[(0, .p (.sl 5 (List.map GReading.cs a0l))), (1, I a1first), (2, I a2last), (8, .ptr 8 0)], [(8, .box 3 [I j1])]⟩ : Int → St) ?_ ?_
 ·refine sim_seq ?_
  refine sim_reg ?_
  refine xs_run 1 krf ?_
  refine xs_inline [] [.p (.sl 5 (List.map GReading.cs a0l))] [(1, 401)] [] [] krf Tryz.func31 rfl Tryz.ntmps31 rfl krf krf krf ?_
  refine sim_run Tryz.fm ⟨[1], [1], [], []⟩ ⟨[(1, .ptr 1 0)], [(1, .box 36 [.p (.sl 5 (List.map GReading.cs a0l))])]⟩ krf ?_
  refine sim_run Tryz.fm ⟨[2], [1], [], []⟩ ⟨[(2, .fn (.func 64) [] [.ptr 1 0])], [(1, .box 36 [.p (.sl 5 (List.map GReading.cs a0l))])]⟩ krf ?_
  refine sim_ret ?_
  refine iq_ret .id [1] [] (.fn (.func 64) [] [.ptr 1 0]) krf krf ?_
  refine kr0 ?_
  refine xs_end ?_
  refine sq_nk ⟨[0, 1, 2, 8, 13], [8, 401], [], []⟩ ⟨[(0, .p (.sl 5 (List.map GReading.cs a0l))), (1, I a1first), (2, I a2last), (8, .ptr 8 0), (13, .fn (.func 64) [] [.ptr 401 0])], [(8, .box 3 [I 0]), (401, .box 36 [.p (.sl 5 (List.map GReading.cs a0l))])]⟩ krf ?_
  refine sim_block ?_
  refine sim_keep ⟨[0, 1, 2, 8, 13], [8, 401], [], []⟩ ⟨[(0, .p (.sl 5 (List.map GReading.cs a0l))), (1, I a1first), (2, I a2last), (8, .ptr 8 0), (13, .fn (.func 64) [] [.ptr 401 0])], [(8, .box 3 [I 0]), (401, .box 36 [.p (.sl 5 (List.map GReading.cs a0l))])]⟩ krf ?_
  refine sim_range 64 3000 [] [.ptr 401 0] krf krf (fun nf2 _ hnf2 => ?_)
  refine sc_inline (hc := [(1008, .box 3 [I 0]), (1401, .box 36 [.p (.sl 5 (List.map GReading.cs a0l))]), (4000, .lp [(0, .p (.sl 5 (List.map GReading.cs a0l))), (1, I a1first), (2, I a2last), (8, .ptr 1008 0), (13, .fn (.func 64) [] [.ptr 1401 0])] nf2 .ready none)]) (args' := [.yv 4000, .ptr 1401 0]) [(1008, 8), (1401, 401), (4000, 3000)] [] [] Tryz.func64 rfl Tryz.ntmps64 rfl krf krf krf ?_
  refine sim_scope ?_
  refine sim_seq ?_
  refine sim_label ?_
  refine sq_nk ⟨[0, 1], [1008, 1401, 4000], [], []⟩ ⟨[(0, .yv 4000), (1, .ptr 1401 0)], [(1008, .box 3 [I 0]), (1401, .box 36 [.p (.sl 5 (List.map GReading.cs a0l))]), (4000, .lp [(0, .p (.sl 5 (List.map GReading.cs a0l))), (1, I a1first), (2, I a2last), (8, .ptr 1008 0), (13, .fn (.func 64) [] [.ptr 1401 0])] nf2 .ready none)]⟩ krf ?_
  refine sim_run Tryz.fm ⟨[0, 1, 5, 6, 7], [1008, 1401, 4000], [], []⟩ ⟨[(0, .yv 4000), (1, .ptr 1401 0), (5, .p (.sl 5 (List.map GReading.cs a0l))), (6, I (lenI (List.map GReading.cs a0l))), (7, I 0)], [(1008, .box 3 [I 0]), (1401, .box 36 [.p (.sl 5 (List.map GReading.cs a0l))]), (4000, .lp [(0, .p (.sl 5 (List.map GReading.cs a0l))), (1, I a1first), (2, I a2last), (8, .ptr 1008 0), (13, .fn (.func 64) [] [.ptr 1401 0])] nf2 .ready none)]⟩ krf ?_
  refine sim_block ?_
  refine sim_loop (fun l3 => ⟨[(0, .yv 4000), (1, .ptr 1401 0), (5, .p (.sl 5 (List.map GReading.cs a0l))), (6, I (lenI (List.map GReading.cs a0l))), (7, I l3)], [(1008, .box 3 [I l3]), (1401, .box 36 [.p (.sl 5 (List.map GReading.cs a0l))]), (4000, .lp [(0, .p (.sl 5 (List.map GReading.cs a0l))), (1, I a1first), (2, I a2last), (8, .ptr 1008 0), (13, .fn (.func 64) [] [.ptr 1401 0])] nf2 .ready none)]⟩ : Int → St) (weak_shr (K := ⟨[0, 1, 5, 6, 7], [1008, 1401, 4000], [], []⟩) krf) ?_
  rintro recl3 l3
  show SimE (g_chain_Energy_l3 n a0l recl3 l3) _ _ _ _ _ _
  unfold g_chain_Energy_l3
  refine sim_run Tryz.fm ⟨[0, 1, 5, 6, 7, 8], [1008, 1401, 4000], [], []⟩ ⟨[(0, .yv 4000), (1, .ptr 1401 0), (5, .p (.sl 5 (List.map GReading.cs a0l))), (6, I (lenI (List.map GReading.cs a0l))), (7, I l3), (8, B (ltI l3 (lenI (List.map GReading.cs a0l))))], [(1008, .box 3 [I l3]), (1401, .box 36 [.p (.sl 5 (List.map GReading.cs a0l))]), (4000, .lp [(0, .p (.sl 5 (List.map GReading.cs a0l))), (1, I a1first), (2, I a2last), (8, .ptr 1008 0), (13, .fn (.func 64) [] [.ptr 1401 0])] nf2 .ready none)]⟩ krf ?_
  refine sim_seq ?_
  refine sim_cond (ltI l3 (lenI (List.map GReading.cs a0l))) krf ?_ ?_
  ·refine sim_skip ?_
   refine sq_nk ⟨[0, 1, 5, 6, 7], [1008, 1401, 4000], [], []⟩ ⟨[(0, .yv 4000), (1, .ptr 1401 0), (5, .p (.sl 5 (List.map GReading.cs a0l))), (6, I (lenI (List.map GReading.cs a0l))), (7, I l3)], [(1008, .box 3 [I l3]), (1401, .box 36 [.p (.sl 5 (List.map GReading.cs a0l))]), (4000, .lp [(0, .p (.sl 5 (List.map GReading.cs a0l))), (1, I a1first), (2, I a2last), (8, .ptr 1008 0), (13, .fn (.func 64) [] [.ptr 1401 0])] nf2 .ready none)]⟩ krf ?_
   refine sim_seq ?_
   refine sim_block ?_
   refine sim_seq ?_
   refine sim_reg ?_
   refine xs_run 1 krf ?_
   refine xs_get krf krf (aop_idx (e := 85) (S := 5) (enc := GReading.cs) (l := a0l) (k := .i64) (n := l3) (sv := .p (.sl 5 (List.map GReading.cs a0l))) rfl krf krf krf krf krf) (fun x4 => ?_)
   refine xs_run 4 krf ?_
   refine xs_end ?_
   refine sq_nk ⟨[0, 1, 3, 4, 5, 6, 7], [4, 1008, 1401, 4000], [], []⟩ ⟨[(0, .yv 4000), (1, .ptr 1401 0), (3, I l3), (4, .ptr 4 0), (5, .p (.sl 5 (List.map GReading.cs a0l))), (6, I (lenI (List.map GReading.cs a0l))), (7, I l3)], [(4, .box 85 (bxc (GReading.cs x4))), (1008, .box 3 [I l3]), (1401, .box 36 [.p (.sl 5 (List.map GReading.cs a0l))]), (4000, .lp [(0, .p (.sl 5 (List.map GReading.cs a0l))), (1, I a1first), (2, I a2last), (8, .ptr 1008 0), (13, .fn (.func 64) [] [.ptr 1401 0])] nf2 .ready none)]⟩ krf ?_
   refine sim_seq ?_
   refine sim_block ?_
   refine sim_bind (fun j5 => ⟨[(0, .yv 4000), (1, .ptr 1401 0), (3, I l3), (4, .ptr 4 0), (5, .p (.sl 5 (List.map GReading.cs a0l))), (6, I (lenI (List.map GReading.cs a0l))), (7, I l3), (12, B j5)], [(4, .box 85 (bxc (GReading.cs x4))), (1008, .box 3 [I l3]), (1401, .box 36 [.p (.sl 5 (List.map GReading.cs a0l))]), (4000, .lp [(0, .p (.sl 5 (List.map GReading.cs a0l))), (1, I a1first), (2, I a2last), (8, .ptr 1008 0), (13, .fn (.func 64) [] [.ptr 1401 0])] nf2 .ready none)]⟩ : Bool → St) ?_ ?_
   ·refine sim_reg ?_
    refine xs_run 1 krf ?_
    refine xs_call [] krf (g_chain_valid_ok n x4) krf krf (fun _ => by kernel_rfl) (fun r6 => ?_)
    refine xs_run 2 krf ?_
    refine xs_split (!r6) (fun h7 => ?_) (fun h7 => ?_)
    ·refine xs_no (want_ft krf h7) krf ?_
     refine xs_run 6 krf ?_
     refine xs_end ?_
     exact nq_n true ⟨[0, 1, 3, 4, 5, 6, 7, 12], [4, 1008, 1401, 4000], [], []⟩ krf
    ·refine xs_one (want_ff krf h7) krf ?_
     refine xs_run 6 krf ?_
     refine xs_end ?_
     exact nq_n (!eqI x4.Number (wi (l3 + 1))) ⟨[0, 1, 3, 4, 5, 6, 7, 12], [4, 1008, 1401, 4000], [], []⟩ krf
   ·rintro j5
    refine sim_cond j5 krf ?_ ?_
    ·refine sim_exit ?_
     refine bq_miss rfl ?_
     refine sq_x ?_
     refine bq_miss rfl ?_
     refine sq_x ?_
     refine kq_x ?_
     refine bq_hit ?_
     refine iq_n .id [1008, 1401, 4000] [] (.tup []) krf krf ?_
     refine kg_n .ready ⟨[0, 1, 2, 8], [8], [], []⟩ ⟨[(0, .p (.sl 5 (List.map GReading.cs a0l))), (1, I a1first), (2, I a2last), (8, .ptr 8 0)], [(8, .box 3 [I l3])]⟩ krf (by intro h; cases h) krf ?_
     refine bq_n ?_
     exact nq_n l3 ⟨[0, 1, 2, 8], [8], [], []⟩ krf
    ·refine sim_bind (fun j8 => ⟨[(0, .yv 4000), (1, .ptr 1401 0), (3, I l3), (4, .ptr 4 0), (5, .p (.sl 5 (List.map GReading.cs a0l))), (6, I (lenI (List.map GReading.cs a0l))), (7, I l3), (23, B j8)], [(4, .box 85 (bxc (GReading.cs x4))), (1008, .box 3 [I l3]), (1401, .box 36 [.p (.sl 5 (List.map GReading.cs a0l))]), (4000, .lp [(0, .p (.sl 5 (List.map GReading.cs a0l))), (1, I a1first), (2, I a2last), (8, .ptr 1008 0), (13, .fn (.func 64) [] [.ptr 1401 0])] nf2 .ready none)]⟩ : Bool → St) ?_ ?_
     ·refine sim_drw Tryz.fm rfl ?_
      refine xs_run 3 krf ?_
      refine xs_split (ltI 0 l3) (fun h9 => ?_) (fun h9 => ?_)
      ·refine xs_one (want_tt krf h9) krf ?_
       refine xs_run 2 krf ?_
       refine xs_get krf krf (aop_idx (e := 85) (S := 5) (enc := GReading.cs) (l := a0l) (k := .i64) (n := wi (l3 - 1)) (sv := .p (.sl 5 (List.map GReading.cs a0l))) rfl krf krf krf krf krf) (fun x10 => ?_)
       refine xs_run 2 krf ?_
       refine xs_call [] krf (g_chain_isOld_ok n x10 x4) krf krf (fun _ => by kernel_rfl) (fun r11 => ?_)
       refine xs_run 1 krf ?_
       refine xs_split r11 (fun h12 => ?_) (fun h12 => ?_)
       ·refine xs_no (want_ft krf h12) krf ?_
        refine xs_run 9 krf ?_
        refine xs_endD krf ?_
        exact nq_n true ⟨[0, 1, 3, 4, 5, 6, 7, 23], [4, 1008, 1401, 4000], [], []⟩ krf
       ·refine xs_one (want_ff krf h12) krf ?_
        refine xs_run 2 krf ?_
        refine xs_get krf krf (aop_idx (e := 85) (S := 5) (enc := GReading.cs) (l := a0l) (k := .i64) (n := wi (l3 - 1)) (sv := .p (.sl 5 (List.map GReading.cs a0l))) rfl krf krf krf krf krf) (fun x13 => ?_)
        refine xs_run 2 krf ?_
        refine xs_call [] krf (g_chain_isLater_ok n x13 x4) krf krf (fun _ => by kernel_rfl) (fun r14 => ?_)
        refine xs_run 3 krf ?_
        refine xs_endD krf ?_
        exact nq_n r14 ⟨[0, 1, 3, 4, 5, 6, 7, 23], [4, 1008, 1401, 4000], [], []⟩ krf
      ·refine xs_no (want_tf krf h9) krf ?_
       refine xs_run 17 krf ?_
       refine xs_endD krf ?_
       exact nq_n false ⟨[0, 1, 3, 4, 5, 6, 7, 23], [4, 1008, 1401, 4000], [], []⟩ krf
     ·rintro j8
      refine sim_cond j8 krf ?_ ?_
      ·refine sim_exit ?_
       refine bq_miss rfl ?_
       refine sq_x ?_
       refine bq_miss rfl ?_
       refine sq_x ?_
       refine kq_x ?_
       refine bq_hit ?_
       refine iq_n .id [1008, 1401, 4000] [] (.tup []) krf krf ?_
       refine kg_n .ready ⟨[0, 1, 2, 8], [8], [], []⟩ ⟨[(0, .p (.sl 5 (List.map GReading.cs a0l))), (1, I a1first), (2, I a2last), (8, .ptr 8 0)], [(8, .box 3 [I l3])]⟩ krf (by intro h; cases h) krf ?_
       refine bq_n ?_
       exact nq_n l3 ⟨[0, 1, 2, 8], [8], [], []⟩ krf
      ·refine sim_skip ?_
       refine bq_n ?_
       refine sq_nk ⟨[0, 1, 3, 4, 5, 6, 7], [4, 1008, 1401, 4000], [], []⟩ ⟨[(0, .yv 4000), (1, .ptr 1401 0), (3, I l3), (4, .ptr 4 0), (5, .p (.sl 5 (List.map GReading.cs a0l))), (6, I (lenI (List.map GReading.cs a0l))), (7, I l3)], [(4, .box 85 (bxc (GReading.cs x4))), (1008, .box 3 [I l3]), (1401, .box 36 [.p (.sl 5 (List.map GReading.cs a0l))]), (4000, .lp [(0, .p (.sl 5 (List.map GReading.cs a0l))), (1, I a1first), (2, I a2last), (8, .ptr 1008 0), (13, .fn (.func 64) [] [.ptr 1401 0])] nf2 .ready none)]⟩ krf ?_
       refine sim_seq ?_
       refine sim_reg ?_
       refine xs_run 3 krf ?_
       refine xs_yield [] [(1008, .box 3 [I l3]), (1401, .box 36 [.p (.sl 5 (List.map GReading.cs a0l))]), (4000, .lp [(0, .p (.sl 5 (List.map GReading.cs a0l))), (1, I a1first), (2, I a2last), (8, .ptr 1008 0), (13, .fn (.func 64) [] [.ptr 1401 0])] nf2 .ready none)] 4000 [(0, .p (.sl 5 (List.map GReading.cs a0l))), (1, I a1first), (2, I a2last), (8, .ptr 1008 0), (13, .fn (.func 64) [] [.ptr 1401 0])] [] [] [I l3, .agg [I x4.Serial, I x4.Number, I x4.Minute, I x4.Register, U x4.Link]] krf hnf2 krf krf krf krf krf (fun _ => ?_)
       refine sim_skip ?_
       refine as_n ⟨[8], [1008, 1401, 4000], [], []⟩ ⟨[(8, .ptr 1008 0)], [(1008, .box 3 [I l3]), (1401, .box 36 [.p (.sl 5 (List.map GReading.cs a0l))]), (4000, .lp [(0, .p (.sl 5 (List.map GReading.cs a0l))), (1, I a1first), (2, I a2last), (8, .ptr 1008 0), (13, .fn (.func 64) [] [.ptr 1401 0])] nf2 .busy none)]⟩ none krf krf ?_
       refine sim_block ?_
       refine sim_last Tryz.fm krf ?_
       refine bq_n ?_
       refine rn_n [1008, 1401, 4000] [] .busy none krf krf ?_
       refine kr0 ?_
       refine xs_run 1 krf ?_
       refine xs_end ?_
       refine sq_nk ⟨[0, 1, 5, 6, 7, 48], [1008, 1401, 4000], [], []⟩ ⟨[(0, .yv 4000), (1, .ptr 1401 0), (5, .p (.sl 5 (List.map GReading.cs a0l))), (6, I (lenI (List.map GReading.cs a0l))), (7, I l3), (48, B false)], [(1008, .box 3 [I (wi (l3 + 1))]), (1401, .box 36 [.p (.sl 5 (List.map GReading.cs a0l))]), (4000, .lp [(0, .p (.sl 5 (List.map GReading.cs a0l))), (1, I a1first), (2, I a2last), (8, .ptr 1008 0), (13, .fn (.func 64) [] [.ptr 1401 0])] nf2 .ready none)]⟩ krf ?_
       refine sim_condF krf ?_
       refine sim_skip ?_
       refine bq_n ?_
       refine sq_nk ⟨[0, 1, 5, 6, 7], [1008, 1401, 4000], [], []⟩ ⟨[(0, .yv 4000), (1, .ptr 1401 0), (5, .p (.sl 5 (List.map GReading.cs a0l))), (6, I (lenI (List.map GReading.cs a0l))), (7, I l3)], [(1008, .box 3 [I (wi (l3 + 1))]), (1401, .box 36 [.p (.sl 5 (List.map GReading.cs a0l))]), (4000, .lp [(0, .p (.sl 5 (List.map GReading.cs a0l))), (1, I a1first), (2, I a2last), (8, .ptr 1008 0), (13, .fn (.func 64) [] [.ptr 1401 0])] nf2 .ready none)]⟩ krf ?_
       refine sim_last Tryz.fm krf ?_
       exact kq_n (wi (l3 + 1)) ⟨[0, 1, 5, 6, 7], [1008, 1401, 4000], [], []⟩ krf
  ·refine sim_exit ?_
   refine sq_x ?_
   refine kq_x ?_
   refine bq_hit ?_
   refine iq_n .id [1008, 1401, 4000] [] (.tup []) krf krf ?_
   refine kg_n .ready ⟨[0, 1, 2, 8], [8], [], []⟩ ⟨[(0, .p (.sl 5 (List.map GReading.cs a0l))), (1, I a1first), (2, I a2last), (8, .ptr 8 0)], [(8, .box 3 [I l3])]⟩ krf (by intro h; cases h) krf ?_
   refine bq_n ?_
   exact nq_n l3 ⟨[0, 1, 2, 8], [8], [], []⟩ krf
 ·rintro j1
  refine sim_seq ?_
  refine sim_bind (fun j15 => ⟨[(0, .p (.sl 5 (List.map GReading.cs a0l))), (1, I a1first), (2, I a2last), (36, B j15)], []⟩ : Bool → St) ?_ ?_
  ·refine sim_reg ?_
   refine xs_run 5 krf ?_
   refine xs_split (!eqI j1 (lenI (List.map GReading.cs a0l))) (fun h16 => ?_) (fun h16 => ?_)
   ·refine xs_no (want_ft krf h16) krf ?_
    refine xs_run 13 krf ?_
    refine xs_end ?_
    exact nq_n true ⟨[0, 1, 2, 36], [], [], []⟩ krf
   ·refine xs_one (want_ff krf h16) krf ?_
    refine xs_run 3 krf ?_
    refine xs_split (ltI a1first 1) (fun h17 => ?_) (fun h17 => ?_)
    ·refine xs_no (want_ft krf h17) krf ?_
     refine xs_run 9 krf ?_
     refine xs_end ?_
     exact nq_n true ⟨[0, 1, 2, 36], [], [], []⟩ krf
    ·refine xs_one (want_ff krf h17) krf ?_
     refine xs_run 4 krf ?_
     refine xs_split (ltI a2last a1first) (fun h18 => ?_) (fun h18 => ?_)
     ·refine xs_no (want_ft krf h18) krf ?_
      refine xs_run 4 krf ?_
      refine xs_end ?_
      exact nq_n true ⟨[0, 1, 2, 36], [], [], []⟩ krf
     ·refine xs_one (want_ff krf h18) krf ?_
      refine xs_run 4 krf ?_
      refine xs_end ?_
      exact nq_n (ltI (lenI (List.map GReading.cs a0l)) a2last) ⟨[0, 1, 2, 36], [], [], []⟩ krf
  ·rintro j15
   refine sim_cond j15 krf ?_ ?_
   ·refine sim_run Tryz.fm ⟨[6, 7], [], [], []⟩ ⟨[(6, I 0), (7, I 1)], []⟩ krf ?_
    refine sim_ret ?_
    refine sq_r ?_
    exact rq_ret (.id) krf krf krf
   ·refine sim_skip ?_
    refine sq_nk ⟨[0, 1, 2], [], [], []⟩ ⟨[(0, .p (.sl 5 (List.map GReading.cs a0l))), (1, I a1first), (2, I a2last)], []⟩ krf ?_
    refine sim_run Tryz.fm ⟨[0, 1, 2, 9], [9], [], []⟩ ⟨[(0, .p (.sl 5 (List.map GReading.cs a0l))), (1, I a1first), (2, I a2last), (9, .ptr 9 0)], [(9, .box 3 [I 0])]⟩ krf ?_
    refine sim_run Tryz.fm ⟨[0, 1, 2, 9, 10], [9], [], []⟩ ⟨[(0, .p (.sl 5 (List.map GReading.cs a0l))), (1, I a1first), (2, I a2last), (9, .ptr 9 0), (10, .fn (.func 66) [] [.ptr 9 0])], [(9, .box 3 [I 0])]⟩ krf ?_
    refine sim_seq ?_
    refine sim_run Tryz.fm ⟨[0, 2, 9, 10, 11], [9], [], []⟩ ⟨[(0, .p (.sl 5 (List.map GReading.cs a0l))), (2, I a2last), (9, .ptr 9 0), (10, .fn (.func 66) [] [.ptr 9 0]), (11, I a1first)], [(9, .box 3 [I 0])]⟩ krf ?_
    refine sim_block ?_
    refine sim_loop (fun (l19_1, l19_2) => ⟨[(0, .p (.sl 5 (List.map GReading.cs a0l))), (2, I a2last), (9, .ptr 9 0), (10, .fn (.func 66) [] [.ptr 9 0]), (11, I l19_1)], [(9, .box 3 [I l19_2])]⟩ : (Int × Int) → St) (weak_shr (K := ⟨[0, 2, 9, 10, 11], [9], [], []⟩) krf) ?_
    rintro recl19 ⟨l19_1, l19_2⟩
    show SimE (g_chain_Energy_l19 a0l a2last recl19 l19_1 l19_2) _ _ _ _ _ _
    unfold g_chain_Energy_l19
    refine sim_seq ?_
    refine sim_run Tryz.fm ⟨[0, 2, 9, 10, 11, 41], [9], [], []⟩ ⟨[(0, .p (.sl 5 (List.map GReading.cs a0l))), (2, I a2last), (9, .ptr 9 0), (10, .fn (.func 66) [] [.ptr 9 0]), (11, I l19_1), (41, B (ltI l19_1 a2last))], [(9, .box 3 [I l19_2])]⟩ krf ?_
    refine sim_cond (ltI l19_1 a2last) krf ?_ ?_
    ·refine sim_skip ?_
     refine sq_nk ⟨[0, 2, 9, 10, 11], [9], [], []⟩ ⟨[(0, .p (.sl 5 (List.map GReading.cs a0l))), (2, I a2last), (9, .ptr 9 0), (10, .fn (.func 66) [] [.ptr 9 0]), (11, I l19_1)], [(9, .box 3 [I l19_2])]⟩ krf ?_
     refine sim_seq ?_
     refine sim_block ?_
     refine sim_drw Tryz.fm rfl ?_
     refine xs_run 4 krf ?_
     refine xs_get krf krf (aop_idx (e := 85) (S := 5) (enc := GReading.cs) (l := a0l) (k := .i64) (n := wi (l19_1 - 1)) (sv := .p (.sl 5 (List.map GReading.cs a0l))) rfl krf krf krf krf krf) (fun x20 => ?_)
     refine xs_run 3 krf ?_
     refine xs_get krf krf (aop_idx (e := 85) (S := 5) (enc := GReading.cs) (l := a0l) (k := .i64) (n := l19_1) (sv := .p (.sl 5 (List.map GReading.cs a0l))) rfl krf krf krf krf krf) (fun x21 => ?_)
     refine xs_run 1 krf ?_
     refine xs_inlineL [(1009, .box 3 [I l19_2])] [.agg [I x20.Serial, I x20.Number, I x20.Minute, I x20.Register, U x20.Link], .agg [I x21.Serial, I x21.Number, I x21.Minute, I x21.Register, U x21.Link], .ptr 1009 0] [(1009, 9)] [] [] krf Tryz.func66 rfl Tryz.ntmps66 rfl krf krf krf ?_
     refine sim_run Tryz.fm ⟨[2, 3, 4], [3, 4, 1009], [], []⟩ ⟨[(2, .ptr 1009 0), (3, .ptr 3 0), (4, .ptr 4 0)], [(3, .box 85 (bxc (GReading.cs x20))), (4, .box 85 (bxc (GReading.cs x21))), (1009, .box 3 [I l19_2])]⟩ krf ?_
     refine sim_run Tryz.fm ⟨[2, 3, 4, 9], [3, 4, 1009], [], []⟩ ⟨[(2, .ptr 1009 0), (3, .ptr 3 0), (4, .ptr 4 0), (9, B (eqI x21.Serial x20.Serial))], [(3, .box 85 (bxc (GReading.cs x20))), (4, .box 85 (bxc (GReading.cs x21))), (1009, .box 3 [I l19_2])]⟩ krf ?_
     refine sim_cond (eqI x21.Serial x20.Serial) krf ?_ ?_
     ·refine sim_last Tryz.fm krf ?_
      refine iq_n .id [1009] [] (.tup []) krf krf ?_
      refine kqn ?_
      refine bq_n ?_
      refine sq_nk ⟨[0, 2, 9, 10, 11], [9], [], []⟩ ⟨[(0, .p (.sl 5 (List.map GReading.cs a0l))), (2, I a2last), (9, .ptr 9 0), (10, .fn (.func 66) [] [.ptr 9 0]), (11, I l19_1)], [(9, .box 3 [I (wi (l19_2 + (wi (x21.Register - x20.Register))))])]⟩ krf ?_
      refine sim_last Tryz.fm krf ?_
      exact kq_n (wi (l19_1 + 1), wi (l19_2 + (wi (x21.Register - x20.Register)))) ⟨[0, 2, 9, 10, 11], [9], [], []⟩ krf
     ·refine sim_skip ?_
      refine iq_n .id [1009] [] (.tup []) krf krf ?_
      refine kqn ?_
      refine bq_n ?_
      refine sq_nk ⟨[0, 2, 9, 10, 11], [9], [], []⟩ ⟨[(0, .p (.sl 5 (List.map GReading.cs a0l))), (2, I a2last), (9, .ptr 9 0), (10, .fn (.func 66) [] [.ptr 9 0]), (11, I l19_1)], [(9, .box 3 [I l19_2])]⟩ krf ?_
      refine sim_last Tryz.fm krf ?_
      exact kq_n (wi (l19_1 + 1), l19_2) ⟨[0, 2, 9, 10, 11], [9], [], []⟩ krf
    ·refine sim_exit ?_
     refine sq_x ?_
     refine kq_x ?_
     refine bq_hit ?_
     refine sq_nk ⟨[9], [9], [], []⟩ ⟨[(9, .ptr 9 0)], [(9, .box 3 [I l19_2])]⟩ krf ?_
     refine sim_run Tryz.fm ⟨[6, 7], [], [], []⟩ ⟨[(6, I l19_2), (7, I 0)], []⟩ krf ?_
     refine sim_ret ?_
     exact rq_ret (.id) krf krf krf
def g_law43_follows_j7 (a1s : GSession) (j7_1 : Int) (j7_2 : Int) : Option Bool :=
 cond (eqI j7_1 (lenI (List.map GSlice.cs a1s.Slices)))
  (some (eqI a1s.End j7_2))
  (some false)
def g_law43_follows_l9 (n : Nat) (a0l : List GReading) (a1s : GSession) (recl9 : (Int × Int × Int) → Option Bool) (l9_1 : Int) (l9_2 : Int) (l9_3 : Int) : Option Bool :=
 cond (ltI l9_3 a1s.To)
  ((g_ref43_At n a0l l9_3).bind fun r10 =>
  (g_ref43_At n a0l (wi (l9_3 + 1))).bind fun r11 =>
  (g_chain_Energy n a0l r10 r11).bind fun r12 =>
  cond (!eqI r12.2 0)
   (some false)
   (cond (eqI r12.1 0)
    (recl9 (l9_1, l9_2, wi (l9_3 + 1)))
    ((cond (leI (lenI (List.map GSlice.cs a1s.Slices)) l9_1)
     (some true)
     ((getI a1s.Slices l9_1).bind fun x15 =>
     some (!opq ((eqI x15.Minute l9_3) && ((eqI x15.Energy r12.1) && true))))).bind fun j13 =>
    cond j13
     (some false)
     (recl9 (wi (l9_1 + 1), wi (l9_3 + 1), wi (l9_3 + 1))))))
  (g_law43_follows_j7 a1s l9_1 l9_2)
def g_law43_follows (n : Nat) (a0l : List GReading) (a1s : GSession) : Option Bool :=
 (cond (eqI (lenI (List.map GReading.cs a0l)) 0)
  (some true)
  ((getI a0l 0).bind fun x3 =>
  cond (!eqI a1s.From x3.Minute)
   (some true)
   ((getI a0l (wi ((lenI (List.map GReading.cs a0l)) - 1))).bind fun x5 =>
   cond (!eqI a1s.To x5.Minute)
    (some true)
    (some (ltI 2880 (wi (a1s.To - a1s.From))))))).bind fun j1 =>
 cond j1
  (some false)
  (loopN (fun recl9 (l9_1, l9_2, l9_3) => g_law43_follows_l9 n a0l a1s recl9 l9_1 l9_2 l9_3) n (0, a1s.From, a1s.From))
theorem g_law43_follows_ok (n : Nat) (a0l : List GReading) (a1s : GSession) : ∀ r, g_law43_follows n a0l a1s = some r → PCall Tryz.prog 17 [.p (.sl 5 (List.map GReading.cs a0l)), ag (GSession.cs a1s)] (.ret (B r)) := by
 refine pcall_sim (X := fun r : Bool => AEnd.ret (B r)) Tryz.func17 rfl Tryz.ntmps17 rfl ?_
 unfold g_law43_follows
 refine sim_run Tryz.fm ⟨[0, 3], [3], [], []⟩ ⟨[(0, .p (.sl 5 (List.map GReading.cs a0l))), (3, .ptr 3 0)], [(3, .box 35 (bxc (GSession.cs a1s)))]⟩ krf ?_
 refine sim_seq ?_
 refine sim_bind (fun j1 => ⟨[(0, .p (.sl 5 (List.map GReading.cs a0l))), (3, .ptr 3 0), (41, B j1)], [(3, .box 35 (bxc (GSession.cs a1s)))]⟩ : Bool → St) ?_ ?_
 ·refine sim_drw Tryz.fm rfl ?_
  refine xs_run 4 krf ?_
  refine xs_split (eqI (lenI (List.map GReading.cs a0l)) 0) (fun h2 => ?_) (fun h2 => ?_)
  ·refine xs_no (want_ft krf h2) krf ?_
   refine xs_run 27 krf ?_
   refine xs_endD krf ?_
   exact nq_n true ⟨[0, 3, 41], [3], [], []⟩ krf
  ·refine xs_one (want_ff krf h2) krf ?_
   refine xs_run 2 krf ?_
   refine xs_get krf krf (aop_idx (e := 85) (S := 5) (enc := GReading.cs) (l := a0l) (k := .i64) (n := 0) (sv := .p (.sl 5 (List.map GReading.cs a0l))) rfl krf krf krf krf krf) (fun x3 => ?_)
   refine xs_run 5 krf ?_
   refine xs_split (!eqI a1s.From x3.Minute) (fun h4 => ?_) (fun h4 => ?_)
   ·refine xs_no (want_ft krf h4) krf ?_
    refine xs_run 18 krf ?_
    refine xs_endD krf ?_
    exact nq_n true ⟨[0, 3, 41], [3], [], []⟩ krf
   ·refine xs_one (want_ff krf h4) krf ?_
    refine xs_run 5 krf ?_
    refine xs_get krf krf (aop_idx (e := 85) (S := 5) (enc := GReading.cs) (l := a0l) (k := .i64) (n := wi ((lenI (List.map GReading.cs a0l)) - 1)) (sv := .p (.sl 5 (List.map GReading.cs a0l))) rfl krf krf krf krf krf) (fun x5 => ?_)
    refine xs_run 5 krf ?_
    refine xs_split (!eqI a1s.To x5.Minute) (fun h6 => ?_) (fun h6 => ?_)
    ·refine xs_no (want_ft krf h6) krf ?_
     refine xs_run 6 krf ?_
     refine xs_endD krf ?_
     exact nq_n true ⟨[0, 3, 41], [3], [], []⟩ krf
    ·refine xs_one (want_ff krf h6) krf ?_
     refine xs_run 6 krf ?_
     refine xs_endD krf ?_
     exact nq_n (ltI 2880 (wi (a1s.To - a1s.From))) ⟨[0, 3, 41], [3], [], []⟩ krf
 ·rintro j1
  refine sim_cond j1 krf ?_ ?_
  ·refine sim_run Tryz.fm ⟨[4], [], [], []⟩ ⟨[(4, B false)], []⟩ krf ?_
   refine sim_ret ?_
   refine sq_r ?_
   exact rq_ret (.id) krf krf krf
  ·refine sim_skip ?_
   refine sq_nk ⟨[0, 3], [3], [], []⟩ ⟨[(0, .p (.sl 5 (List.map GReading.cs a0l))), (3, .ptr 3 0)], [(3, .box 35 (bxc (GSession.cs a1s)))]⟩ krf ?_
   refine sim_run Tryz.fm ⟨[0, 3, 5, 6], [3], [], []⟩ ⟨[(0, .p (.sl 5 (List.map GReading.cs a0l))), (3, .ptr 3 0), (5, I 0), (6, I a1s.From)], [(3, .box 35 (bxc (GSession.cs a1s)))]⟩ krf ?_
   refine sim_cps (fun (j7_1, j7_2) => ⟨[(3, .ptr 3 0), (5, I j7_1), (6, I j7_2)], [(3, .box 35 (bxc (GSession.cs a1s)))]⟩ : (Int × Int) → St) (fun (j7_1, j7_2) => g_law43_follows_j7 a1s j7_1 j7_2) ?_ ?_
   ·rintro ⟨j7_1, j7_2⟩
    show SimE (g_law43_follows_j7 a1s j7_1 j7_2) _ _ _ _ _ _
    unfold g_law43_follows_j7
    refine sim_seq ?_
    refine sim_reg ?_
    refine xs_run 6 krf ?_
    refine xs_split (eqI j7_1 (lenI (List.map GSlice.cs a1s.Slices))) (fun h8 => ?_) (fun h8 => ?_)
    ·refine xs_one (want_tt krf h8) krf ?_
     refine xs_run 5 krf ?_
     refine xs_end ?_
     refine sq_nk ⟨[4], [], [], []⟩ ⟨[(4, B (eqI a1s.End j7_2))], []⟩ krf ?_
     refine sim_ret ?_
     exact rq_ret (.id) krf krf krf
    ·refine xs_no (want_tf krf h8) krf ?_
     refine xs_run 5 krf ?_
     refine xs_end ?_
     refine sq_nk ⟨[4], [], [], []⟩ ⟨[(4, B false)], []⟩ krf ?_
     refine sim_ret ?_
     exact rq_ret (.id) krf krf krf
   ·refine sim_run Tryz.fm ⟨[0, 3, 5, 6, 7], [3], [], []⟩ ⟨[(0, .p (.sl 5 (List.map GReading.cs a0l))), (3, .ptr 3 0), (5, I 0), (6, I a1s.From), (7, I a1s.From)], [(3, .box 35 (bxc (GSession.cs a1s)))]⟩ krf ?_
    refine sim_block ?_
    refine sim_loop (fun (l9_1, l9_2, l9_3) => ⟨[(0, .p (.sl 5 (List.map GReading.cs a0l))), (3, .ptr 3 0), (5, I l9_1), (6, I l9_2), (7, I l9_3)], [(3, .box 35 (bxc (GSession.cs a1s)))]⟩ : (Int × Int × Int) → St) (weak_shr (K := ⟨[0, 3, 5, 6, 7], [3], [], []⟩) krf) ?_
    rintro recl9 ⟨l9_1, l9_2, l9_3⟩
    show SimE (g_law43_follows_l9 n a0l a1s recl9 l9_1 l9_2 l9_3) _ _ _ _ _ _
    unfold g_law43_follows_l9
    refine sim_seq ?_
    refine sim_run Tryz.fm ⟨[0, 3, 5, 6, 7, 49], [3], [], []⟩ ⟨[(0, .p (.sl 5 (List.map GReading.cs a0l))), (3, .ptr 3 0), (5, I l9_1), (6, I l9_2), (7, I l9_3), (49, B (ltI l9_3 a1s.To))], [(3, .box 35 (bxc (GSession.cs a1s)))]⟩ krf ?_
    refine sim_cond (ltI l9_3 a1s.To) krf ?_ ?_
    ·refine sim_skip ?_
     refine sq_nk ⟨[0, 3, 5, 6, 7], [3], [], []⟩ ⟨[(0, .p (.sl 5 (List.map GReading.cs a0l))), (3, .ptr 3 0), (5, I l9_1), (6, I l9_2), (7, I l9_3)], [(3, .box 35 (bxc (GSession.cs a1s)))]⟩ krf ?_
     refine sim_seq ?_
     refine sim_block ?_
     refine sim_seq ?_
     refine sim_reg ?_
     refine xs_run 3 krf ?_
     refine xs_call [] krf (g_ref43_At_ok n a0l l9_3) krf krf (fun _ => by kernel_rfl) (fun r10 => ?_)
     refine xs_run 3 krf ?_
     refine xs_call [] krf (g_ref43_At_ok n a0l (wi (l9_3 + 1))) krf krf (fun _ => by kernel_rfl) (fun r11 => ?_)
     refine xs_call [] krf (g_chain_Energy_ok n a0l r10 r11) krf krf (fun _ => by kernel_rfl) (fun r12 => ?_)
     refine xs_run 5 krf ?_
     refine xs_end ?_
     refine sq_nk ⟨[0, 3, 5, 6, 7, 8, 9], [3], [], []⟩ ⟨[(0, .p (.sl 5 (List.map GReading.cs a0l))), (3, .ptr 3 0), (5, I l9_1), (6, I l9_2), (7, I l9_3), (8, I r12.1), (9, I r12.2)], [(3, .box 35 (bxc (GSession.cs a1s)))]⟩ krf ?_
     refine sim_seq ?_
     refine sim_run Tryz.fm ⟨[0, 3, 5, 6, 7, 8, 65], [3], [], []⟩ ⟨[(0, .p (.sl 5 (List.map GReading.cs a0l))), (3, .ptr 3 0), (5, I l9_1), (6, I l9_2), (7, I l9_3), (8, I r12.1), (65, B (!eqI r12.2 0))], [(3, .box 35 (bxc (GSession.cs a1s)))]⟩ krf ?_
     refine sim_cond (!eqI r12.2 0) krf ?_ ?_
     ·refine sim_run Tryz.fm ⟨[4], [], [], []⟩ ⟨[(4, B false)], []⟩ krf ?_
      refine sim_ret ?_
      refine sq_r ?_
      refine bq_r ?_
      refine sq_r ?_
      refine kq_r ?_
      refine bq_r ?_
      refine kq_r ?_
      exact rq_ret (.id) krf krf krf
     ·refine sim_skip ?_
      refine sq_nk ⟨[0, 3, 5, 6, 7, 8], [3], [], []⟩ ⟨[(0, .p (.sl 5 (List.map GReading.cs a0l))), (3, .ptr 3 0), (5, I l9_1), (6, I l9_2), (7, I l9_3), (8, I r12.1)], [(3, .box 35 (bxc (GSession.cs a1s)))]⟩ krf ?_
      refine sim_seq ?_
      refine sim_run Tryz.fm ⟨[0, 3, 5, 6, 7, 8, 67], [3], [], []⟩ ⟨[(0, .p (.sl 5 (List.map GReading.cs a0l))), (3, .ptr 3 0), (5, I l9_1), (6, I l9_2), (7, I l9_3), (8, I r12.1), (67, B (eqI r12.1 0))], [(3, .box 35 (bxc (GSession.cs a1s)))]⟩ krf ?_
      refine sim_cond (eqI r12.1 0) krf ?_ ?_
      ·refine sim_exit ?_
       refine sq_x ?_
       refine bq_hit ?_
       refine sq_nk ⟨[0, 3, 5, 6, 7], [3], [], []⟩ ⟨[(0, .p (.sl 5 (List.map GReading.cs a0l))), (3, .ptr 3 0), (5, I l9_1), (6, I l9_2), (7, I l9_3)], [(3, .box 35 (bxc (GSession.cs a1s)))]⟩ krf ?_
       refine sim_last Tryz.fm krf ?_
       exact kq_n (l9_1, l9_2, wi (l9_3 + 1)) ⟨[0, 3, 5, 6, 7], [3], [], []⟩ krf
      ·refine sim_skip ?_
       refine sq_nk ⟨[0, 3, 5, 7, 8], [3], [], []⟩ ⟨[(0, .p (.sl 5 (List.map GReading.cs a0l))), (3, .ptr 3 0), (5, I l9_1), (7, I l9_3), (8, I r12.1)], [(3, .box 35 (bxc (GSession.cs a1s)))]⟩ krf ?_
       refine sim_seq ?_
       refine sim_bind (fun j13 => ⟨[(0, .p (.sl 5 (List.map GReading.cs a0l))), (3, .ptr 3 0), (5, I l9_1), (7, I l9_3), (83, B j13)], [(3, .box 35 (bxc (GSession.cs a1s)))]⟩ : Bool → St) ?_ ?_
       ·refine sim_reg ?_
        refine xs_run 6 krf ?_
        refine xs_split (leI (lenI (List.map GSlice.cs a1s.Slices)) l9_1) (fun h14 => ?_) (fun h14 => ?_)
        ·refine xs_no (want_ft krf h14) krf ?_
         refine xs_run 9 krf ?_
         refine xs_end ?_
         exact nq_n true ⟨[0, 3, 5, 7, 83], [3], [], []⟩ krf
        ·refine xs_one (want_ff krf h14) krf ?_
         refine xs_run 2 krf ?_
         refine xs_get krf krf (aop_idx (e := 62) (S := 2) (enc := GSlice.cs) (l := a1s.Slices) (k := .i64) (n := l9_1) (sv := .p (.sl 2 (List.map GSlice.cs a1s.Slices))) rfl krf krf krf krf krf) (fun x15 => ?_)
         refine xs_run 4 krf ?_
         refine xs_u krf krf (aop_neq (xs := [I x15.Minute, I x15.Energy]) (ys := [I l9_3, I r12.1]) (vx := [.int .i64 x15.Minute, .int .i64 x15.Energy]) (vy := [.int .i64 l9_3, .int .i64 r12.1]) (b := (eqI x15.Minute l9_3) && ((eqI x15.Energy r12.1) && true)) rfl krf krf krf krf krf krf) ?_
         refine xs_run 1 krf ?_
         refine xs_end ?_
         exact nq_n (!opq ((eqI x15.Minute l9_3) && ((eqI x15.Energy r12.1) && true))) ⟨[0, 3, 5, 7, 83], [3], [], []⟩ krf
       ·rintro j13
        refine sim_cond j13 krf ?_ ?_
        ·refine sim_run Tryz.fm ⟨[4], [], [], []⟩ ⟨[(4, B false)], []⟩ krf ?_
         refine sim_ret ?_
         refine sq_r ?_
         refine bq_r ?_
         refine sq_r ?_
         refine kq_r ?_
         refine bq_r ?_
         refine kq_r ?_
         exact rq_ret (.id) krf krf krf
        ·refine sim_skip ?_
         refine sq_nk ⟨[0, 3, 5, 7], [3], [], []⟩ ⟨[(0, .p (.sl 5 (List.map GReading.cs a0l))), (3, .ptr 3 0), (5, I l9_1), (7, I l9_3)], [(3, .box 35 (bxc (GSession.cs a1s)))]⟩ krf ?_
         refine sim_last Tryz.fm krf ?_
         refine bq_n ?_
         refine sq_nk ⟨[0, 3, 5, 6, 7], [3], [], []⟩ ⟨[(0, .p (.sl 5 (List.map GReading.cs a0l))), (3, .ptr 3 0), (5, I (wi (l9_1 + 1))), (6, I (wi (l9_3 + 1))), (7, I l9_3)], [(3, .box 35 (bxc (GSession.cs a1s)))]⟩ krf ?_
         refine sim_last Tryz.fm krf ?_
         exact kq_n (wi (l9_1 + 1), wi (l9_3 + 1), wi (l9_3 + 1)) ⟨[0, 3, 5, 6, 7], [3], [], []⟩ krf
    ·refine sim_exit ?_
     refine sq_x ?_
     refine kq_x ?_
     refine bq_hit ?_
     exact kq_n (k := fun (j7_1, j7_2) => g_law43_follows_j7 a1s j7_1 j7_2) (l9_1, l9_2) ⟨[3, 5, 6], [3], [], []⟩ krf
def g_law43_AuditorExactly (n : Nat) (a0c : GClaim) : Option Bool :=
 (g_law43_head n).bind fun r1 =>
 (g_ref43_Few n a0c).bind fun r2 =>
 cond (!r2)
  (some r1)
  ((g_bill_Bill n a0c.Tariff a0c.Calendar a0c.Session).bind fun r3 =>
  (cond (ltI 0 (lenI (List.map GReading.cs a0c.Readings)))
   ((g_chain_Check n a0c.Seed a0c.Readings).bind fun r6 =>
   some (eqI r6 (-1)))
   (some false)).bind fun j4 =>
  (cond r1
   ((g_a_Verify n a0c).bind fun r9 =>
   cond j4
    ((g_law43_follows n a0c.Readings a0c.Session).bind fun r11 =>
    cond r11
     (cond (eqI r3.2 0)
      ((g_ref33_Same n r3.1 a0c.Bill).bind fun r14 =>
      some (opq ((eqI r9 0) == r14)))
      (some (opq ((eqI r9 0) == false))))
     (some (opq ((eqI r9 0) == false))))
    (some (opq ((eqI r9 0) == false))))
   (some false)).bind fun j7 =>
  some j7)
theorem g_law43_AuditorExactly_ok (n : Nat) (a0c : GClaim) : ∀ r, g_law43_AuditorExactly n a0c = some r → PCall Tryz.prog 5 [ag (GClaim.cs a0c)] (.ret (B r)) := by
 refine pcall_sim (X := fun r : Bool => AEnd.ret (B r)) Tryz.func5 rfl Tryz.ntmps5 rfl ?_
 unfold g_law43_AuditorExactly
 refine sim_run Tryz.fm ⟨[1], [1], [], []⟩ ⟨[(1, .ptr 1 0)], [(1, .box 41 (bxc (GClaim.cs a0c)))]⟩ krf ?_
 refine sim_seq ?_
 refine sim_reg ?_
 refine xs_call [] krf (g_law43_head_ok n) krf krf (fun _ => by kernel_rfl) (fun r1 => ?_)
 refine xs_run 1 krf ?_
 refine xs_end ?_
 refine sq_nk ⟨[1, 3], [1], [], []⟩ ⟨[(1, .ptr 1 0), (3, B r1)], [(1, .box 41 (bxc (GClaim.cs a0c)))]⟩ krf ?_
 refine sim_seq ?_
 refine sim_seq ?_
 refine sim_reg ?_
 refine xs_run 1 krf ?_
 refine xs_call [] krf (g_ref43_Few_ok n a0c) krf krf (fun _ => by kernel_rfl) (fun r2 => ?_)
 refine xs_run 1 krf ?_
 refine xs_end ?_
 refine sq_nk ⟨[1, 3, 10], [1], [], []⟩ ⟨[(1, .ptr 1 0), (3, B r1), (10, B (!r2))], [(1, .box 41 (bxc (GClaim.cs a0c)))]⟩ krf ?_
 refine sim_cond (!r2) krf ?_ ?_
 ·refine sim_run Tryz.fm ⟨[2], [], [], []⟩ ⟨[(2, B r1)], []⟩ krf ?_
  refine sim_ret ?_
  refine sq_r ?_
  exact rq_ret (.id) krf krf krf
 ·refine sim_skip ?_
  refine sq_nk ⟨[1, 3], [1], [], []⟩ ⟨[(1, .ptr 1 0), (3, B r1)], [(1, .box 41 (bxc (GClaim.cs a0c)))]⟩ krf ?_
  refine sim_seq ?_
  refine sim_reg ?_
  refine xs_run 6 krf ?_
  refine xs_call [] krf (g_bill_Bill_ok n a0c.Tariff a0c.Calendar a0c.Session) krf krf (fun _ => by kernel_rfl) (fun r3 => ?_)
  refine xs_run 6 krf ?_
  refine xs_end ?_
  refine sq_nk ⟨[1, 3, 4, 5], [1, 4], [], []⟩ ⟨[(1, .ptr 1 0), (3, B r1), (4, .ptr 4 0), (5, I r3.2)], [(1, .box 41 (bxc (GClaim.cs a0c))), (4, .box 39 (bxc (GBill.cs r3.1)))]⟩ krf ?_
  refine sim_bind (fun j4 => ⟨[(1, .ptr 1 0), (3, B r1), (4, .ptr 4 0), (5, I r3.2), (6, B j4)], [(1, .box 41 (bxc (GClaim.cs a0c))), (4, .box 39 (bxc (GBill.cs r3.1)))]⟩ : Bool → St) ?_ ?_
  ·refine sim_reg ?_
   refine xs_run 5 krf ?_
   refine xs_split (ltI 0 (lenI (List.map GReading.cs a0c.Readings))) (fun h5 => ?_) (fun h5 => ?_)
   ·refine xs_one (want_tt krf h5) krf ?_
    refine xs_run 3 krf ?_
    refine xs_call [] krf (g_chain_Check_ok n a0c.Seed a0c.Readings) krf krf (fun _ => by kernel_rfl) (fun r6 => ?_)
    refine xs_run 3 krf ?_
    refine xs_end ?_
    exact nq_n (eqI r6 (-1)) ⟨[1, 3, 4, 5, 6], [1, 4], [], []⟩ krf
   ·refine xs_no (want_tf krf h5) krf ?_
    refine xs_run 7 krf ?_
    refine xs_end ?_
    exact nq_n false ⟨[1, 3, 4, 5, 6], [1, 4], [], []⟩ krf
  ·rintro j4
   refine sim_bind (fun j7 => ⟨[(2, B j7)], []⟩ : Bool → St) ?_ ?_
   ·refine sim_reg ?_
    refine xs_run 2 krf ?_
    refine xs_split r1 (fun h8 => ?_) (fun h8 => ?_)
    ·refine xs_one (want_tt krf h8) krf ?_
     refine xs_call [] krf (g_a_Verify_ok n a0c) krf krf (fun _ => by kernel_rfl) (fun r9 => ?_)
     refine xs_run 3 krf ?_
     refine xs_split j4 (fun h10 => ?_) (fun h10 => ?_)
     ·refine xs_one (want_tt krf h10) krf ?_
      refine xs_run 3 krf ?_
      refine xs_call [] krf (g_law43_follows_ok n a0c.Readings a0c.Session) krf krf (fun _ => by kernel_rfl) (fun r11 => ?_)
      refine xs_run 2 krf ?_
      refine xs_split r11 (fun h12 => ?_) (fun h12 => ?_)
      ·refine xs_one (want_tt krf h12) krf ?_
       refine xs_run 3 krf ?_
       refine xs_split (eqI r3.2 0) (fun h13 => ?_) (fun h13 => ?_)
       ·refine xs_one (want_tt krf h13) krf ?_
        refine xs_run 2 krf ?_
        refine xs_call [] krf (g_ref33_Same_ok n r3.1 a0c.Bill) krf krf (fun _ => by kernel_rfl) (fun r14 => ?_)
        refine xs_run 4 krf ?_
        refine xs_end ?_
        exact nq_n (opq ((eqI r9 0) == r14)) ⟨[2], [], [], []⟩ krf
       ·refine xs_no (want_tf krf h13) krf ?_
        refine xs_run 7 krf ?_
        refine xs_end ?_
        exact nq_n (opq ((eqI r9 0) == false)) ⟨[2], [], [], []⟩ krf
      ·refine xs_no (want_tf krf h12) krf ?_
       refine xs_run 11 krf ?_
       refine xs_end ?_
       exact nq_n (opq ((eqI r9 0) == false)) ⟨[2], [], [], []⟩ krf
     ·refine xs_no (want_tf krf h10) krf ?_
      refine xs_run 18 krf ?_
      refine xs_end ?_
      exact nq_n (opq ((eqI r9 0) == false)) ⟨[2], [], [], []⟩ krf
    ·refine xs_no (want_tf krf h8) krf ?_
     refine xs_run 23 krf ?_
     refine xs_end ?_
     exact nq_n false ⟨[2], [], [], []⟩ krf
   ·rintro j7
    refine sim_ret ?_
    exact rq_ret (.id) krf krf krf
end Go.Proofs
namespace Go.Proofs
open Go Go.Abs
set_option maxRecDepth 100000
set_option linter.unusedVariables false
def g_ref02_Kinds (n : Nat) : Option (List (List UInt8)) :=
 some [[102, 101, 101, 100, 101, 114], [99, 97, 98, 108, 101], [111, 119, 110, 101, 114], [99, 111, 110, 116, 114, 97, 99, 116], [99, 104, 97, 114, 103, 101, 114], [98, 97, 121], [116, 97, 114, 105, 102, 102]]
def g_ref02_Attrs (n : Nat) : Option (List (List UInt8)) :=
 some [[108, 105, 109, 105, 116], [110, 101, 117, 116, 114, 97, 108], [102, 117, 115, 101], [116, 104, 101, 114, 109, 97, 108], [102, 114, 111, 109], [97, 116], [112, 104, 97, 115, 101, 115], [97, 109, 112, 115], [102, 97, 108, 108, 98, 97, 99, 107], [111, 119, 110, 101, 114], [99, 97, 114, 100], [114, 97, 110, 107], [99, 104, 97, 114, 103, 101, 114]]
def g_ref02_Articles (n : Nat) : Option (List (List UInt8)) :=
 some [[115, 116, 97, 114, 116], [101, 110, 101, 114, 103, 121], [116, 105, 109, 101], [105, 100, 108, 101], [99, 97, 112], [116, 97, 120]]
def g_ref02_Words (n : Nat) : Option (List (List UInt8)) :=
 some [[111, 110], [119, 111, 114, 107], [115, 97, 116, 117, 114, 100, 97, 121], [115, 117, 110, 100, 97, 121], [98, 101, 116, 119, 101, 101, 110], [112, 101, 114], [102, 114, 101, 101]]
def g_ref32_Article (n : Nat) (a0a : GArticle) : Option Bool :=
 (cond (ltI a0a.Price 0)
  (some true)
  (cond (ltI 1000000 a0a.Price)
   (some true)
   (cond (ltI a0a.From 0)
    (some true)
    (cond (ltI 1439 a0a.From)
     (some true)
     (cond (leI a0a.To a0a.From)
      (some true)
      (cond (ltI 1440 a0a.To)
       (some true)
       (cond (ltI a0a.Days 1)
        (some true)
        (some (ltI 7 a0a.Days))))))))).bind fun j1 =>
 cond j1
  (some false)
  ((cond (eqI a0a.Kind 3)
   (some true)
   (some (eqI a0a.Kind 4))).bind fun j9 =>
  cond j9
   ((cond (leI 1 a0a.Unit)
    (cond (leI a0a.Unit 1440)
     (cond (leI 0 a0a.Free)
      (some (leI a0a.Free 1440))
      (some false))
     (some false))
    (some false)).bind fun j11 =>
   some j11)
   ((cond (!eqI a0a.Unit 0)
    (some true)
    (some (!eqI a0a.Free 0))).bind fun j15 =>
   cond j15
    (some false)
    ((cond (eqI a0a.From 0)
     (cond (eqI a0a.To 1440)
      (some (eqI a0a.Days 7))
      (some false))
     (some false)).bind fun j17 =>
    cond (eqI a0a.Kind 6)
     ((cond j17
      (some (leI a0a.Price 10000))
      (some false)).bind fun j20 =>
     some j20)
     (cond (eqI a0a.Kind 5)
      (some j17)
      (cond (eqI a0a.Kind 1)
       (some true)
       (some (eqI a0a.Kind 2)))))))
def g_ref26_offset (n : Nat) (a0n : Int) : Option Bool :=
 cond (leI (-1440) a0n)
  (some (leI a0n 1440))
  (some false)
def g_ref26_Valid_l6 (a0c : GCalendar) (recl6 : Int → Option Bool) (l6 : Int) : Option Bool :=
 cond (ltI l6 (lenI (List.map ci a0c.Holidays)))
  ((getI a0c.Holidays l6).bind fun x7 =>
  (cond (ltI x7 0)
   (some true)
   (cond (ltI 36500 x7)
    (some true)
    (cond (ltI 0 l6)
     ((getI a0c.Holidays (wi (l6 - 1))).bind fun x12 =>
     some (leI x7 x12))
     (some false)))).bind fun j8 =>
  cond j8
   (some false)
   (recl6 (wi (l6 + 1))))
  (some true)
def g_ref26_Valid_j5 (n : Nat) (a0c : GCalendar) : Option Bool :=
 loopN (fun recl6 l6 => g_ref26_Valid_l6 a0c recl6 l6) n 0
def g_ref26_Valid_l13 (n : Nat) (a0c : GCalendar) (recl13 : Int → Option Bool) (l13 : Int) : Option Bool :=
 cond (ltI l13 (lenI (List.map GChange.cs a0c.Changes)))
  ((getI a0c.Changes l13).bind fun x14 =>
  ((g_ref26_offset n x14.Offset).bind fun r16 =>
  cond (!r16)
   (some true)
   (cond (ltI x14.At 0)
    (some true)
    (cond (ltI 52560000 x14.At)
     (some true)
     (cond (ltI 0 l13)
      ((getI a0c.Changes (wi (l13 - 1))).bind fun x21 =>
      some (leI x14.At x21.At))
      (some false))))).bind fun j15 =>
  cond j15
   (some false)
   (recl13 (wi (l13 + 1))))
  (g_ref26_Valid_j5 n a0c)
def g_ref26_Valid (n : Nat) (a0c : GCalendar) : Option Bool :=
 ((g_ref26_offset n a0c.Offset).bind fun r2 =>
 cond (!r2)
  (some true)
  (cond (ltI 16 (lenI (List.map GChange.cs a0c.Changes)))
   (some true)
   (some (ltI 32 (lenI (List.map ci a0c.Holidays)))))).bind fun j1 =>
 cond j1
  (some false)
  (loopN (fun recl13 l13 => g_ref26_Valid_l13 n a0c recl13 l13) n 0)
def g_ref33_Valid_l8 (a0s : GSession) (recl8 : Int → Option Bool) (l8 : Int) : Option Bool :=
 cond (ltI l8 (lenI (List.map GSlice.cs a0s.Slices)))
  ((getI a0s.Slices l8).bind fun x9 =>
  (cond (ltI x9.Minute a0s.From)
   (some true)
   (cond (leI a0s.End x9.Minute)
    (some true)
    (cond (ltI x9.Energy 0)
     (some true)
     (cond (ltI 10000 x9.Energy)
      (some true)
      (cond (ltI 0 l8)
       ((getI a0s.Slices (wi (l8 - 1))).bind fun x16 =>
       some (leI x9.Minute x16.Minute))
       (some false)))))).bind fun j10 =>
  cond j10
   (some false)
   (recl8 (wi (l8 + 1))))
  (some true)
def g_ref33_Valid (n : Nat) (a0s : GSession) : Option Bool :=
 (cond (ltI a0s.From 0)
  (some true)
  (cond (leI a0s.To a0s.From)
   (some true)
   (cond (ltI 52560000 a0s.To)
    (some true)
    (cond (ltI 2880 (wi (a0s.To - a0s.From)))
     (some true)
     (cond (ltI a0s.End a0s.From)
      (some true)
      (cond (ltI a0s.To a0s.End)
       (some true)
       (some (ltI 48 (lenI (List.map GSlice.cs a0s.Slices)))))))))).bind fun j1 =>
 cond j1
  (some false)
  (loopN (fun recl8 l8 => g_ref33_Valid_l8 a0s recl8 l8) n 0)
def g_ref26_Offset_l1 (a0c : GCalendar) (a1minute : Int) (recl1 : (Int × Int) → Option Int) (l1_1 : Int) (l1_2 : Int) : Option Int :=
 cond (ltI l1_2 (lenI (List.map GChange.cs a0c.Changes)))
  ((getI a0c.Changes l1_2).bind fun x2 =>
  cond (leI x2.At a1minute)
   ((getI a0c.Changes l1_2).bind fun x3 =>
   recl1 (x3.Offset, wi (l1_2 + 1)))
   (recl1 (l1_1, wi (l1_2 + 1))))
  (some l1_1)
def g_ref26_Offset (n : Nat) (a0c : GCalendar) (a1minute : Int) : Option Int :=
 loopN (fun recl1 (l1_1, l1_2) => g_ref26_Offset_l1 a0c a1minute recl1 l1_1 l1_2) n (a0c.Offset, 0)
def g_ref26_Local (n : Nat) (a0c : GCalendar) (a1minute : Int) : Option (Int × Int × Int) :=
 ((g_ref26_Valid n a0c).bind fun r2 =>
 cond (!r2)
  (some true)
  (cond (ltI a1minute 0)
   (some true)
   (some (ltI 52560000 a1minute)))).bind fun j1 =>
 cond j1
  (some (0, 0, 1))
  ((g_ref26_Offset n a0c a1minute).bind fun r5 =>
  cond (ltI (wi (a1minute + r5)) 0)
   (some ((-1), wi ((wi (a1minute + r5)) - (-1440)), 0))
   (some (wi (Int.tdiv (wi (a1minute + r5)) 1440), wi ((wi (a1minute + r5)) - (wi (1440 * (wi (Int.tdiv (wi (a1minute + r5)) 1440))))), 0)))
def g_ref26_Type_j5 (a1day : Int) : Option (Int × Int) :=
 cond (eqI (Int.tmod (wi (a1day + 7)) 7) 6)
  (some (2, 0))
  (cond (eqI (Int.tmod (wi (a1day + 7)) 7) 5)
   (some (1, 0))
   (some (0, 0)))
def g_ref26_Type_l6 (a0c : GCalendar) (a1day : Int) (recl6 : Int → Option (Int × Int)) (l6 : Int) : Option (Int × Int) :=
 cond (ltI l6 (lenI (List.map ci a0c.Holidays)))
  ((getI a0c.Holidays l6).bind fun x7 =>
  cond (eqI x7 a1day)
   (some (2, 0))
   (recl6 (wi (l6 + 1))))
  (g_ref26_Type_j5 a1day)
def g_ref26_Type (n : Nat) (a0c : GCalendar) (a1day : Int) : Option (Int × Int) :=
 ((g_ref26_Valid n a0c).bind fun r2 =>
 cond (!r2)
  (some true)
  (cond (ltI a1day (-1))
   (some true)
   (some (ltI 36501 a1day)))).bind fun j1 =>
 cond j1
  (some (0, 1))
  (loopN (fun recl6 l6 => g_ref26_Type_l6 a0c a1day recl6 l6) n 0)
def g_ref32_Applies (n : Nat) (a0a : GArticle) (a1c : GCalendar) (a2minute : Int) : Option Bool :=
 (g_ref32_Article n a0a).bind fun r1 =>
 cond (!r1)
  (some false)
  ((g_ref26_Local n a1c a2minute).bind fun r2 =>
  cond (!eqI r2.2.2 0)
   (some false)
   ((g_ref26_Type n a1c r2.1).bind fun r3 =>
   (cond (eqI r3.1 1)
    (some (eqI (Int.tmod (wi (Int.tdiv a0a.Days 2)) 2) 1))
    (some (eqI (Int.tmod a0a.Days 2) 1))).bind fun j4 =>
   (cond (eqI r3.1 2)
    (some (eqI (Int.tmod (wi (Int.tdiv a0a.Days 4)) 2) 1))
    (some j4)).bind fun j5 =>
   cond j5
    (cond (leI a0a.From r2.2.1)
     (some (ltI r2.2.1 a0a.To))
     (some false))
    (some false)))
def g_ref33_Minutes_l1 (n : Nat) (a0a : GArticle) (a1c : GCalendar) (a3to : Int) (recl1 : (Int × Int) → Option Int) (l1_1 : Int) (l1_2 : Int) : Option Int :=
 cond (ltI l1_2 a3to)
  ((g_ref32_Applies n a0a a1c l1_2).bind fun r2 =>
  cond r2
   (recl1 (wi (l1_1 + 1), wi (l1_2 + 1)))
   (recl1 (l1_1, wi (l1_2 + 1))))
  (some l1_1)
def g_ref33_Minutes (n : Nat) (a0a : GArticle) (a1c : GCalendar) (a2from : Int) (a3to : Int) : Option Int :=
 loopN (fun recl1 (l1_1, l1_2) => g_ref33_Minutes_l1 n a0a a1c a3to recl1 l1_1 l1_2) n (0, a2from)
def g_ref33_Energy_l1 (n : Nat) (a0a : GArticle) (a1c : GCalendar) (a2s : GSession) (recl1 : (Int × Int) → Option Int) (l1_1 : Int) (l1_2 : Int) : Option Int :=
 cond (ltI l1_2 (lenI (List.map GSlice.cs a2s.Slices)))
  ((getI a2s.Slices l1_2).bind fun x2 =>
  (g_ref32_Applies n a0a a1c x2.Minute).bind fun r3 =>
  cond r3
   ((getI a2s.Slices l1_2).bind fun x4 =>
   recl1 (wi (l1_1 + x4.Energy), wi (l1_2 + 1)))
   (recl1 (l1_1, wi (l1_2 + 1))))
  (some l1_1)
def g_ref33_Energy (n : Nat) (a0a : GArticle) (a1c : GCalendar) (a2s : GSession) : Option Int :=
 loopN (fun recl1 (l1_1, l1_2) => g_ref33_Energy_l1 n a0a a1c a2s recl1 l1_1 l1_2) n (0, 0)
def g_ref31_amount (n : Nat) (a0n : Int) : Option Bool :=
 cond (leI 0 a0n)
  (some (leI a0n 1000000000))
  (some false)
def g_ref31_divided (n : Nat) (a0n : Int) (a1d : Int) : Option Int :=
 cond (!eqI (wi (2 * a1d)) 0) (
  some (wi (Int.tdiv (wi ((wi (2 * a0n)) + a1d)) (wi (2 * a1d))))) none
def g_ref31_checked (n : Nat) (a0n : Int) : Option (Int × Int) :=
 (g_ref31_amount n a0n).bind fun r1 =>
 cond (!r1)
  (some (0, 3))
  (some (a0n, 0))
def g_ref31_Times (n : Nat) (a0price : Int) (a1quantity : Int) (a2per : Int) : Option (Int × Int) :=
 ((g_ref31_amount n a0price).bind fun r2 =>
 cond (!r2)
  (some true)
  ((g_ref31_amount n a1quantity).bind fun r4 =>
  cond (!r4)
   (some true)
   (cond (ltI a2per 1)
    (some true)
    (some (ltI 1000000000 a2per))))).bind fun j1 =>
 cond j1
  (some (0, 1))
  ((g_ref31_divided n (wi (a0price * a1quantity)) a2per).bind fun r7 =>
  (g_ref31_checked n r7).bind fun r8 =>
  some (r8.1, r8.2))
def g_ref31_Started (n : Nat) (a0price : Int) (a1quantity : Int) (a2unit : Int) : Option (Int × Int) :=
 ((g_ref31_amount n a0price).bind fun r2 =>
 cond (!r2)
  (some true)
  ((g_ref31_amount n a1quantity).bind fun r4 =>
  cond (!r4)
   (some true)
   (cond (ltI a2unit 1)
    (some true)
    (some (ltI 1000000000 a2unit))))).bind fun j1 =>
 cond j1
  (some (0, 1))
  (cond (!eqI a2unit 0) (
   (g_ref31_checked n (wi (a0price * (wi (Int.tdiv (wi ((wi (a1quantity + a2unit)) - 1)) a2unit))))).bind fun r7 =>
   some (r7.1, r7.2)) none)
def g_ref33_Line (n : Nat) (a0a : GArticle) (a1c : GCalendar) (a2s : GSession) : Option (Int × Int) :=
 (g_ref32_Article n a0a).bind fun r1 =>
 (g_ref26_Valid n a1c).bind fun r2 =>
 (g_ref33_Valid n a2s).bind fun r3 =>
 (cond (!r1)
  (some true)
  (cond (!r2)
   (some true)
   (some (!r3)))).bind fun j4 =>
 cond j4
  (some (0, 1))
  (cond (eqI a0a.Kind 1)
   ((g_ref33_Minutes n a0a a1c a2s.From (wi (a2s.From + 1))).bind fun r7 =>
   some (wi (a0a.Price * r7), 0))
   (cond (eqI a0a.Kind 2)
    ((g_ref33_Energy n a0a a1c a2s).bind fun r8 =>
    (g_ref31_Times n a0a.Price r8 1000).bind fun r9 =>
    some (r9.1, r9.2))
    (cond (eqI a0a.Kind 3)
     ((g_ref33_Minutes n a0a a1c a2s.From a2s.To).bind fun r10 =>
     (g_ref31_Started n a0a.Price (maxI 0 (wi (r10 - a0a.Free))) a0a.Unit).bind fun r11 =>
     some (r11.1, r11.2))
     (cond (eqI a0a.Kind 4)
      ((g_ref33_Minutes n a0a a1c a2s.End a2s.To).bind fun r12 =>
      (g_ref31_Started n a0a.Price (maxI 0 (wi (r12 - a0a.Free))) a0a.Unit).bind fun r13 =>
      some (r13.1, r13.2))
      (some (0, 0))))))
def g_ref31_Tax (n : Nat) (a0n : Int) (a1rate : Int) : Option (Int × Int) :=
 ((g_ref31_amount n a0n).bind fun r2 =>
 cond (!r2)
  (some true)
  (cond (ltI a1rate 0)
   (some true)
   (some (ltI 100000 a1rate)))).bind fun j1 =>
 cond j1
  (some (0, 1))
  ((g_ref31_divided n (wi (a0n * a1rate)) 10000).bind fun r5 =>
  (g_ref31_checked n r5).bind fun r6 =>
  some (r6.1, r6.2))
end Go.Proofs
namespace Go.Proofs
open Go Go.Abs Go.ChangeShapes Go.WideShapes Go.ChangeAt Go.RowKit Go.Proofs.YtgehgobiibddaaaGreat
set_option maxRecDepth 100000
set_option linter.unusedVariables false
structure GArticle.wf (x : GArticle) : Prop where
 Kind : i64b x.Kind
 Days : i64b x.Days
 From : i64b x.From
 To : i64b x.To
 Price : i64b x.Price
 Unit : i64b x.Unit
 Free : i64b x.Free
theorem sh_GArticle {d : Nat} {cs : List PV} (h : Sh Tryz.prog (d + 2) 73 cs) : ∃ r : GArticle, cs = GArticle.cs r ∧ GArticle.wf r := by
 have h := sh_struct Tryz.underlying73 h
 obtain ⟨_, _, rfl, h0, _, _, rfl, h1, _, _, rfl, h2, _, _, rfl, h3, _, _, rfl, h4, _, _, rfl, h5, _, _, rfl, h6, rfl⟩ := h
 obtain ⟨x0, rfl, w0⟩ := sh_i64 Tryz.underlying3 h0
 obtain ⟨x1, rfl, w1⟩ := sh_i64 Tryz.underlying3 h1
 obtain ⟨x2, rfl, w2⟩ := sh_i64 Tryz.underlying3 h2
 obtain ⟨x3, rfl, w3⟩ := sh_i64 Tryz.underlying3 h3
 obtain ⟨x4, rfl, w4⟩ := sh_i64 Tryz.underlying3 h4
 obtain ⟨x5, rfl, w5⟩ := sh_i64 Tryz.underlying3 h5
 obtain ⟨x6, rfl, w6⟩ := sh_i64 Tryz.underlying3 h6
 exact ⟨⟨x0, x1, x2, x3, x4, x5, x6⟩, rfl, ⟨w0, w1, w2, w3, w4, w5, w6⟩⟩
structure GTariff.wf (x : GTariff) : Prop where
 Name : strb x.Name
 Articles : (listb GArticle.wf) x.Articles
theorem sh_GTariff {d : Nat} {cs : List PV} (h : Sh Tryz.prog (d + 4) 24 cs) : ∃ r : GTariff, cs = GTariff.cs r ∧ GTariff.wf r := by
 have h := sh_struct Tryz.underlying24 h
 obtain ⟨_, _, rfl, h0, _, _, rfl, h1, rfl⟩ := h
 obtain ⟨x0, rfl, w0⟩ := sh_str Tryz.underlying9 h0
 obtain ⟨x1, rfl, w1⟩ := sh_list (S := 7) (f := GArticle.cs) (W := GArticle.wf) Tryz.underlying22 krf (fun c h => sh_GArticle h) h1
 exact ⟨⟨x0, x1⟩, rfl, ⟨w0, w1⟩⟩
structure GChange.wf (x : GChange) : Prop where
 At : i64b x.At
 Offset : i64b x.Offset
theorem sh_GChange {d : Nat} {cs : List PV} (h : Sh Tryz.prog (d + 2) 76 cs) : ∃ r : GChange, cs = GChange.cs r ∧ GChange.wf r := by
 have h := sh_struct Tryz.underlying76 h
 obtain ⟨_, _, rfl, h0, _, _, rfl, h1, rfl⟩ := h
 obtain ⟨x0, rfl, w0⟩ := sh_i64 Tryz.underlying3 h0
 obtain ⟨x1, rfl, w1⟩ := sh_i64 Tryz.underlying3 h1
 exact ⟨⟨x0, x1⟩, rfl, ⟨w0, w1⟩⟩
structure GCalendar.wf (x : GCalendar) : Prop where
 Offset : i64b x.Offset
 Changes : (listb GChange.wf) x.Changes
 Holidays : (listb i64b) x.Holidays
theorem sh_GCalendar {d : Nat} {cs : List PV} (h : Sh Tryz.prog (d + 4) 28 cs) : ∃ r : GCalendar, cs = GCalendar.cs r ∧ GCalendar.wf r := by
 have h := sh_struct Tryz.underlying28 h
 obtain ⟨_, _, rfl, h0, _, _, rfl, h1, _, _, rfl, h2, rfl⟩ := h
 obtain ⟨x0, rfl, w0⟩ := sh_i64 Tryz.underlying3 h0
 obtain ⟨x1, rfl, w1⟩ := sh_list (S := 2) (f := GChange.cs) (W := GChange.wf) Tryz.underlying25 krf (fun c h => sh_GChange h) h1
 obtain ⟨x2, rfl, w2⟩ := sh_list (S := 1) (f := ci) (W := i64b) Tryz.underlying26 krf (fun c h => sh_i64 Tryz.underlying3 h) h2
 exact ⟨⟨x0, x1, x2⟩, rfl, ⟨w0, w1, w2⟩⟩
structure GReading.wf (x : GReading) : Prop where
 Serial : i64b x.Serial
 Number : i64b x.Number
 Minute : i64b x.Minute
 Register : i64b x.Register
 Link : u64b x.Link
theorem sh_GReading {d : Nat} {cs : List PV} (h : Sh Tryz.prog (d + 2) 85 cs) : ∃ r : GReading, cs = GReading.cs r ∧ GReading.wf r := by
 have h := sh_struct Tryz.underlying85 h
 obtain ⟨_, _, rfl, h0, _, _, rfl, h1, _, _, rfl, h2, _, _, rfl, h3, _, _, rfl, h4, rfl⟩ := h
 obtain ⟨x0, rfl, w0⟩ := sh_i64 Tryz.underlying3 h0
 obtain ⟨x1, rfl, w1⟩ := sh_i64 Tryz.underlying3 h1
 obtain ⟨x2, rfl, w2⟩ := sh_i64 Tryz.underlying3 h2
 obtain ⟨x3, rfl, w3⟩ := sh_i64 Tryz.underlying3 h3
 obtain ⟨x4, rfl, w4⟩ := sh_u64 Tryz.underlying29 h4
 exact ⟨⟨x0, x1, x2, x3, x4⟩, rfl, ⟨w0, w1, w2, w3, w4⟩⟩
structure GSlice.wf (x : GSlice) : Prop where
 Minute : i64b x.Minute
 Energy : i64b x.Energy
theorem sh_GSlice {d : Nat} {cs : List PV} (h : Sh Tryz.prog (d + 2) 62 cs) : ∃ r : GSlice, cs = GSlice.cs r ∧ GSlice.wf r := by
 have h := sh_struct Tryz.underlying62 h
 obtain ⟨_, _, rfl, h0, _, _, rfl, h1, rfl⟩ := h
 obtain ⟨x0, rfl, w0⟩ := sh_i64 Tryz.underlying3 h0
 obtain ⟨x1, rfl, w1⟩ := sh_i64 Tryz.underlying3 h1
 exact ⟨⟨x0, x1⟩, rfl, ⟨w0, w1⟩⟩
structure GSession.wf (x : GSession) : Prop where
 From : i64b x.From
 To : i64b x.To
 End : i64b x.End
 Slices : (listb GSlice.wf) x.Slices
theorem sh_GSession {d : Nat} {cs : List PV} (h : Sh Tryz.prog (d + 4) 35 cs) : ∃ r : GSession, cs = GSession.cs r ∧ GSession.wf r := by
 have h := sh_struct Tryz.underlying35 h
 obtain ⟨_, _, rfl, h0, _, _, rfl, h1, _, _, rfl, h2, _, _, rfl, h3, rfl⟩ := h
 obtain ⟨x0, rfl, w0⟩ := sh_i64 Tryz.underlying3 h0
 obtain ⟨x1, rfl, w1⟩ := sh_i64 Tryz.underlying3 h1
 obtain ⟨x2, rfl, w2⟩ := sh_i64 Tryz.underlying3 h2
 obtain ⟨x3, rfl, w3⟩ := sh_list (S := 2) (f := GSlice.cs) (W := GSlice.wf) Tryz.underlying33 krf (fun c h => sh_GSlice h) h3
 exact ⟨⟨x0, x1, x2, x3⟩, rfl, ⟨w0, w1, w2, w3⟩⟩
structure GLine.wf (x : GLine) : Prop where
 Article : i64b x.Article
 Amount : i64b x.Amount
theorem sh_GLine {d : Nat} {cs : List PV} (h : Sh Tryz.prog (d + 2) 69 cs) : ∃ r : GLine, cs = GLine.cs r ∧ GLine.wf r := by
 have h := sh_struct Tryz.underlying69 h
 obtain ⟨_, _, rfl, h0, _, _, rfl, h1, rfl⟩ := h
 obtain ⟨x0, rfl, w0⟩ := sh_i64 Tryz.underlying3 h0
 obtain ⟨x1, rfl, w1⟩ := sh_i64 Tryz.underlying3 h1
 exact ⟨⟨x0, x1⟩, rfl, ⟨w0, w1⟩⟩
structure GBill.wf (x : GBill) : Prop where
 Lines : (listb GLine.wf) x.Lines
 Net : i64b x.Net
 Tax : i64b x.Tax
 Total : i64b x.Total
theorem sh_GBill {d : Nat} {cs : List PV} (h : Sh Tryz.prog (d + 4) 39 cs) : ∃ r : GBill, cs = GBill.cs r ∧ GBill.wf r := by
 have h := sh_struct Tryz.underlying39 h
 obtain ⟨_, _, rfl, h0, _, _, rfl, h1, _, _, rfl, h2, _, _, rfl, h3, rfl⟩ := h
 obtain ⟨x0, rfl, w0⟩ := sh_list (S := 2) (f := GLine.cs) (W := GLine.wf) Tryz.underlying37 krf (fun c h => sh_GLine h) h0
 obtain ⟨x1, rfl, w1⟩ := sh_i64 Tryz.underlying3 h1
 obtain ⟨x2, rfl, w2⟩ := sh_i64 Tryz.underlying3 h2
 obtain ⟨x3, rfl, w3⟩ := sh_i64 Tryz.underlying3 h3
 exact ⟨⟨x0, x1, x2, x3⟩, rfl, ⟨w0, w1, w2, w3⟩⟩
structure GClaim.wf (x : GClaim) : Prop where
 Tariff : GTariff.wf x.Tariff
 Calendar : GCalendar.wf x.Calendar
 Readings : (listb GReading.wf) x.Readings
 Seed : u64b x.Seed
 Session : GSession.wf x.Session
 Bill : GBill.wf x.Bill
theorem sh_GClaim {d : Nat} {cs : List PV} (h : Sh Tryz.prog (d + 5) 41 cs) : ∃ r : GClaim, cs = GClaim.cs r ∧ GClaim.wf r := by
 have h := sh_struct Tryz.underlying41 h
 obtain ⟨_, _, rfl, h0, _, _, rfl, h1, _, _, rfl, h2, _, _, rfl, h3, _, _, rfl, h4, _, _, rfl, h5, rfl⟩ := h
 obtain ⟨x0, rfl, w0⟩ := sh_GTariff h0
 obtain ⟨x1, rfl, w1⟩ := sh_GCalendar h1
 obtain ⟨x2, rfl, w2⟩ := sh_list (S := 5) (f := GReading.cs) (W := GReading.wf) Tryz.underlying36 krf (fun c h => sh_GReading h) h2
 obtain ⟨x3, rfl, w3⟩ := sh_u64 Tryz.underlying29 h3
 obtain ⟨x4, rfl, w4⟩ := sh_GSession h4
 obtain ⟨x5, rfl, w5⟩ := sh_GBill h5
 exact ⟨⟨x0, x1, x2, x3, x4, x5⟩, rfl, ⟨w0, w1, w2, w3, w4, w5⟩⟩
def AuditorExactlyPlain : Prop := ∀ (a0 : GClaim), GClaim.wf a0 → ∃ n, g_law43_AuditorExactly n a0 = some true
theorem auditorExactly_call (h : AuditorExactlyPlain) : ∀ xs, ArgsSh Tryz.prog 9 Tryz.f5.params.toList xs → PCall Tryz.prog 5 xs (.ret (.p (.val (.bool true)))) := by
 intro xs ha
 rw [Tryz.params5] at ha
 obtain ⟨_, _, rfl, h0, rfl⟩ := ha
 obtain ⟨a0, rfl, w0⟩ := sh_GClaim h0
 obtain ⟨n, hn⟩ := h a0 w0
 simp only [avOf_struct Tryz.underlying41]
 exact g_law43_AuditorExactly_ok n a0 true hn
set_option maxRecDepth 100000 in
theorem auditorExactly_lifted (h : AuditorExactlyPlain) (os : Os) (started : os.Started) (H : Type) (enc : TypeId × Value → H) :
  ReturnsInHanded {} Tryz.checked os 5 .any (Rows.auditorExactlySpec.pre6 enc Tryz.prog Tryz.f5 Rows.auditorExactlyRow.domain false) (Rows.auditorExactlySpec.post enc Tryz.prog Tryz.f5 false true false false) := by
 refine returnsInHanded_of_change (C := Tryz.checked) krf started krf Tryz.func5
  (ChangeSpec.witness6 (enc := enc) (C := Tryz.checked) false ⟨#[], #[.agg #[.string ⟨#[]⟩, .slice none 0 0, .int .i64 0, .slice none 0 0, .slice none 0 0, .slice none 0 0, .int .u64 0, .int .i64 0, .int .i64 0, .int .i64 0, .slice none 0 0, .slice none 0 0, .int .i64 0, .int .i64 0, .int .i64 0]], []⟩ 8 krf krf krf krf) ?_
 intro W base args ds gs before hval hW _ _
 exact law_contract (P := Tryz.prog) (f := 5) (fn := Tryz.f5) (s := Rows.auditorExactlySpec) (tb := 4) (d := 9) krf krf krf krf Tryz.underlying4 rfl
  (fun ds hd => by
   have hd : ds.length = 1 := by rw [hd, show Tryz.f5.params.size = 1 from by kernel_rfl]
   match ds, hd with
   | [d0], _ => rfl)
  (auditorExactly_call h) hval hW
theorem auditorExactly_said (h : AuditorExactlyPlain) : Rows.AuditorExactlySaid :=
 OpenClaim.holds_of_wide 5 Tryz.f5 rfl rfl rfl rfl rfl rfl rfl ⟨rfl, rfl, rfl, rfl, rfl⟩ rfl rfl rfl rfl rfl krf Tryz.func5 krf
  (of_decide_eq_true krf) (by unfold Func.isWrapper; first | (rw [if_pos (by decide +kernel)]; kernel_rfl) | (rw [if_neg (by decide +kernel)]; exact ⟨rfl, rfl⟩))
  (fun os started H enc _ => auditorExactly_lifted h os started H enc)
end Go.Proofs
namespace Go.Proofs
open Go Go.Abs
set_option maxRecDepth 100000
set_option linter.unusedVariables false
def Does {α : Type} (m : Option α) (Q : α → Prop) : Prop := ∃ r, m = some r ∧ Q r
section
variable {α β V R E : Type}
theorem does_some {x : α} {Q : α → Prop} (h : Q x) : Does (some x) Q := ⟨x, rfl, h⟩
theorem does_mono {m : Option α} {Q Q' : α → Prop} (h : Does m Q) (hq : ∀ x, Q x → Q' x) : Does m Q' := by obtain ⟨x, e, h⟩ := h; exact ⟨x, e, hq x h⟩
theorem does_cond {b : Bool} {x y : Option α} {Q : α → Prop} (h1 : b = true → Does x Q) (h2 : b = false → Does y Q) : Does (cond b x y) Q := by
 cases b
 ·exact h2 rfl
 ·exact h1 rfl
theorem does_loop {B : (V → Option R) → V → Option R} {Q : V → R → Prop} (μ : V → Nat) (Inv : V → Prop)
  (hB : ∀ rec v, Inv v → (∀ v', Inv v' → μ v' < μ v → Does (rec v') (Q v')) → Does (B rec v) (Q v)) : ∀ {n : Nat} {v : V}, Inv v → μ v < n → Does (loopN B n v) (Q v)
 | 0, _, _, h => absurd h (Nat.not_lt_zero _)
 | n + 1, v, hv, h => hB _ v hv (fun v' h1 h2 => does_loop μ Inv hB h1 (by omega))
end
theorem getI_nat {α : Type} {l : List α} {i : Nat} : getI l (i : Int) = l[i]? := by
 unfold getI; rw [if_neg (by omega)]; simp
theorem wi_id {x : Int} (h1 : -9223372036854775808 ≤ x) (h2 : x ≤ 9223372036854775807) : wi x = x := by
 simp [wi, IntKind.wrap, IntKind.signed, IntKind.bits]; omega
theorem a_inside (n : Nat) (x a b : Int) : g_a_inside n x a b = some (decide (a ≤ x ∧ x ≤ b)) := by
 unfold g_a_inside leI
 by_cases h : a ≤ x <;> simp [h]
def needE (b : Bool) (p : Int) : Except Int Unit := if b then .ok () else .error p
theorem a_need (n : Nat) (b : Bool) (p : Int) : g_a_need n b p = some (needE b p) := by
 cases b <;> rfl
def folB (a r : GReading) : Bool := if r.Serial = a.Serial then decide (a.Minute ≤ r.Minute ∧ a.Register ≤ r.Register) else decide (r.Minute = a.Minute)
theorem a_follows (n : Nat) (a r : GReading) : g_a_follows n a r = some (folB a r) := by
 unfold g_a_follows folB leI eqI
 by_cases h : r.Serial = a.Serial
 ·by_cases h2 : a.Minute ≤ r.Minute <;> simp [h, h2]
 ·simp only [h, if_false]
  rw [show (r.Serial == a.Serial) = false from by simp [h]]
  simp only [cond_false, Option.some.injEq]
  by_cases h2 : r.Minute = a.Minute <;> simp [h2]
def mixB (s x k : Int) : Int := wu ((bXor .u64 s (bAnd .u64 (shrI .u64 (wu x) k) 255)) * 1099511628211)
def mixW (s x : Int) : Int := [56, 48, 40, 32, 24, 16, 8, 0].foldl (fun s k => mixB s x k) s
def linkF (s : Int) (r : GReading) : Int := [r.Serial, r.Number, r.Minute, r.Register].foldl mixW s
theorem a_link (n : Nat) (s : Int) (r : GReading) : g_a_link (n + 100) s r = some (linkF s r) := by kernel_rfl
theorem exc_need {R : Type} {k : Unit → Option R} {e : Int → Option R} {b : Bool} {p : Int} : exc k e (needE b p) = cond b (k ()) (e p) := by cases b <;> rfl
def prevLink (seed : Int) (l : List GReading) (i : Nat) : Int := if i = 0 then seed else ((l[i - 1]?).map (·.Link)).getD 0
def chainAt (seed : Int) (l : List GReading) (i : Nat) : Prop := ∀ r ∈ l[i]?, (1 ≤ r.Serial ∧ r.Serial ≤ 1000000) ∧ r.Number = i + 1 ∧ (0 ≤ r.Minute ∧ r.Minute ≤ 52560000) ∧ (0 ≤ r.Register ∧ r.Register ≤ 1000000000) ∧
 (i ≠ 0 → ∀ a ∈ l[i - 1]?, folB a r = true) ∧ r.Link = linkF (prevLink seed l i) r
def chainOk (seed : Int) (l : List GReading) : Prop := (1 ≤ l.length ∧ l.length ≤ 64) ∧ ∀ i, i < l.length → chainAt seed l i
open Classical in
noncomputable def okE (p : Prop) (e : Int) : Except Int Unit := needE (decide p) e
open Classical in
theorem okE_t {p : Prop} {e : Int} (h : p) : okE p e = .ok () := by unfold okE; rw [decide_eq_true h]; rfl
open Classical in
theorem okE_f {p : Prop} {e : Int} (h : ¬ p) : okE p e = .error e := by unfold okE; rw [decide_eq_false h]; rfl
theorem a_chained (n : Nat) (e : GAE) (hn : 1000 ≤ n) : g_ae_chained n e = some (okE (chainOk e.Claim.Seed e.Claim.Readings) 1) := by
 unfold g_ae_chained
 rw [a_inside, Option.bind_some, a_need, Option.bind_some, exc_need]
 generalize hl : e.Claim.Readings = l
 simp only [lenI, List.length_map]
 by_cases hb : (1 : Int) ≤ l.length ∧ (l.length : Int) ≤ 64
 rotate_left
 ·rw [decide_eq_false hb, cond_false, okE_f]
  intro h; exact hb ⟨by have := h.1.1; omega, by have := h.1.2; omega⟩
 rw [decide_eq_true hb, cond_true]
 obtain ⟨m, rfl⟩ : ∃ m, n = m + 100 := ⟨n - 100, by omega⟩
 have key := does_loop (B := fun recl4 (v : Int × Int) => g_ae_chained_l4 (m + 100) e recl4 v.1 v.2) (Q := fun v r => r = okE (∀ j : Nat, v.2 ≤ j → j < l.length → chainAt e.Claim.Seed l j) 1)
  (fun v => l.length - v.2.toNat) (fun v => ∃ i : Nat, v.2 = i ∧ i ≤ l.length ∧ v.1 = prevLink e.Claim.Seed l i) ?_ (n := m + 100) (v := (e.Claim.Seed, 0)) ⟨0, rfl, by omega, rfl⟩ (by simp; omega)
 ·obtain ⟨r, h1, h2⟩ := key
  refine h1.trans ?_
  rw [h2]
  congr 1
  by_cases hc : chainOk e.Claim.Seed l
  ·rw [okE_t hc, okE_t]
   intro j _ hj; exact hc.2 j hj
  ·rw [okE_f hc, okE_f]
   intro h; exact hc ⟨by omega, fun i hi => h i (by simp) hi⟩
 ·rintro rec ⟨s, i'⟩ ⟨i, rfl, hi, hs⟩ hrec
  simp only at hs hrec
  subst hs
  unfold g_ae_chained_l4
  simp only [lenI, List.length_map, hl, getI_nat]
  refine does_cond (fun hlt => ?_) (fun hlt => ?_)
  rotate_left
  ·refine does_some ?_
   rw [okE_t]
   intro j h1 h2
   simp [ltI] at hlt
   omega
  ·simp only [ltI, decide_eq_true_eq] at hlt
   have hlt' : i < l.length := by omega
   obtain ⟨x, hx⟩ : ∃ x, l[i]? = some x := ⟨l[i], by simp [hlt']⟩
   have hw : wi ((i : Int) + 1) = ((i + 1 : Nat) : Int) := by rw [wi_id] <;> omega
   have bad : ¬ chainAt e.Claim.Seed l i → Does (some (.error 1 : Except Int Unit)) (fun r => r = okE (∀ j : Nat, (i : Int) ≤ j → j < l.length → chainAt e.Claim.Seed l j) 1) := by
    intro h
    refine does_some ?_
    rw [okE_f]
    intro h2; exact h (h2 i (by omega) hlt')
   have good : chainAt e.Claim.Seed l i → Does (rec (x.Link, ((i + 1 : Nat) : Int))) (fun r => r = okE (∀ j : Nat, (i : Int) ≤ j → j < l.length → chainAt e.Claim.Seed l j) 1) := by
    intro h
    refine does_mono (hrec (x.Link, ((i + 1 : Nat) : Int)) ⟨i + 1, rfl, by omega, by simp [prevLink, hx]⟩ (by simp; omega)) ?_
    intro r hr
    rw [hr]
    by_cases hc : ∀ j : Nat, ((i + 1 : Nat) : Int) ≤ j → j < l.length → chainAt e.Claim.Seed l j
    ·rw [okE_t hc, okE_t]
     intro j h1 h2
     by_cases hj : j = i
     ·subst hj; exact h
     ·exact hc j (by omega) h2
    ·rw [okE_f hc, okE_f]
     intro h2; exact hc (fun j h3 h4 => h2 j (by omega) h4)
   simp only [hx, Option.bind_some, a_inside, a_need, exc_need, hw, g_ae_chained_j6, g_ae_chained_j7, g_ae_chained_j8, a_link, hl, cond_false, cond_true]
   have hprev : maxI 0 (wi ((i : Int) - 1)) = ((i - 1 : Nat) : Int) := by rw [wi_id (by omega) (by omega)]; unfold maxI; split <;> omega
   simp only [hprev, getI_nat, a_follows]
   have chain : chainAt e.Claim.Seed l i ↔ (1 ≤ x.Serial ∧ x.Serial ≤ 1000000) ∧ x.Number = i + 1 ∧ (0 ≤ x.Minute ∧ x.Minute ≤ 52560000) ∧ (0 ≤ x.Register ∧ x.Register ≤ 1000000000) ∧
     (i ≠ 0 → ∀ a ∈ l[i - 1]?, folB a x = true) ∧ x.Link = linkF (prevLink e.Claim.Seed l i) x := by
    constructor
    ·intro h; exact h x hx
    ·intro h r hr; rw [hx] at hr; cases hr; exact h
   refine does_cond (fun h1 => ?_) (fun h1 => bad ?_)
   rotate_left
   ·rw [chain]; intro h; simp at h1; have := h.1; omega
   refine does_cond (fun h2 => ?_) (fun h2 => bad ?_)
   rotate_left
   ·rw [chain]; intro h; simp [eqI] at h2; exact h2 (by rw [h.2.1])
   refine does_cond (fun h3 => ?_) (fun h3 => bad ?_)
   rotate_left
   ·rw [chain]; intro h; simp at h3; have := h.2.2.1; omega
   refine does_cond (fun h4 => ?_) (fun h4 => bad ?_)
   rotate_left
   ·rw [chain]; intro h; simp at h4; have := h.2.2.2.1; omega
   simp only [decide_eq_true_eq, eqI, beq_iff_eq] at h1 h2 h3 h4
   have last : (i ≠ 0 → ∀ a ∈ l[i - 1]?, folB a x = true) → Does (cond (eqI x.Link (linkF (prevLink e.Claim.Seed l i) x)) (rec (x.Link, ((i + 1 : Nat) : Int))) (some (.error 1))) (fun r => r = okE (∀ j : Nat, (i : Int) ≤ j → j < l.length → chainAt e.Claim.Seed l j) 1) := by
    intro hf
    refine does_cond (fun h5 => good ?_) (fun h5 => bad ?_)
    ·rw [chain]; exact ⟨h1, by rw [h2]; simp, h3, h4, hf, by simpa [eqI] using h5⟩
    ·rw [chain]; intro h; simp [eqI] at h5; exact h5 h.2.2.2.2.2
   refine does_cond (fun h6 => ?_) (fun h6 => ?_)
   ·refine last (fun h0 => ?_)
    simp [eqI] at h6
    omega
   ·have h0 : i ≠ 0 := by intro h; subst h; simp [eqI] at h6
    obtain ⟨a, ha⟩ : ∃ a, l[i - 1]? = some a := ⟨l[i - 1]'(by omega), by rw [List.getElem?_eq_getElem]⟩
    simp only [ha, Option.bind_some]
    refine does_cond (fun h7 => last (fun _ a' ha' => ?_)) (fun h7 => bad ?_)
    ·rw [ha] at ha'; cases ha'; exact h7
    ·rw [chain]; intro h
     have := h.2.2.2.2.1 h0 a ha
     rw [h7] at this; cases this
end Go.Proofs
namespace Go.Proofs
open Go Go.Abs
set_option maxRecDepth 100000
set_option linter.unusedVariables false
theorem eqI_d (x y : Int) : eqI x y = decide (x = y) := by unfold eqI; by_cases h : x = y <;> simp [h]
theorem cond_some {α : Type} {b : Bool} {x y : α} : cond b (some x) (some y) = some (cond b x y) := by cases b <;> rfl
def keyB (w : List UInt8) : Bool := (g_a_isKey 0 w).getD false
theorem a_isKey (n : Nat) (w : List UInt8) : g_a_isKey n w = some (keyB w) := by
 unfold keyB g_a_isKey
 simp only [cond_some, Option.bind_some, Option.getD_some]
def artB (a : GArticle) : Bool := (g_a_validArticle 0 a).getD false
theorem a_validArticle (n : Nat) (a : GArticle) : g_a_validArticle n a = some (artB a) := by
 unfold artB g_a_validArticle
 simp only [a_inside, cond_some, Option.bind_some, Option.getD_some]
def chrB (x : UInt8) : Bool := decide ((97 ≤ b2i x ∧ b2i x ≤ 122) ∨ (48 ≤ b2i x ∧ b2i x ≤ 57) ∨ b2i x = 95)
def nameB (s : List UInt8) : Bool := decide (1 ≤ s.length ∧ s.length ≤ 12) && decide (∀ x ∈ s.head?, 97 ≤ b2i x ∧ b2i x ≤ 122) && !keyB s && s.all chrB
theorem loop_list {α R : Type} {l : List α} {B : (Int → Option R) → Int → Option R} {F : List α → R} (hlen : l.length ≤ 4611686018427387904)
  (hend : ∀ rec, B rec (l.length : Int) = some (F []))
  (hstep : ∀ (rec : Int → Option R) (i : Nat) (x : α) (r : List α), l.drop i = x :: r → l[i]? = some x → i < l.length → wi ((i : Int) + 1) = ((i + 1 : Nat) : Int) → (rec ((i + 1 : Nat) : Int) = some (F r)) → B rec (i : Int) = some (F (x :: r))) :
  ∀ {n : Nat} (i : Nat), i ≤ l.length → l.length - i < n → loopN B n (i : Int) = some (F (l.drop i))
 | 0, _, _, h => absurd h (Nat.not_lt_zero _)
 | n + 1, i, hi, h => by
  unfold loopN
  by_cases he : i = l.length
  ·subst he; rw [hend]; simp
  ·have hlt : i < l.length := by omega
   have hd : l.drop i = l[i] :: l.drop (i + 1) := by rw [List.drop_eq_getElem_cons hlt]
   rw [hd]
   exact hstep _ i _ _ hd (by simp [hlt]) hlt (by rw [wi_id] <;> omega) (loop_list hlen hend hstep (i + 1) (by omega) (by omega))
theorem chr_lem (c : Int) : (bif decide (97 ≤ c) then bif decide (c ≤ 122) then false else bif decide (48 ≤ c) then bif decide (c ≤ 57) then false else !(c == 95) else !(c == 95)
  else bif decide (48 ≤ c) then bif decide (c ≤ 57) then false else !(c == 95) else !(c == 95)) = !decide ((97 ≤ c ∧ c ≤ 122) ∨ (48 ≤ c ∧ c ≤ 57) ∨ c = 95) := by
 by_cases h1 : 97 ≤ c <;> by_cases h2 : c ≤ 122 <;> by_cases h3 : 48 ≤ c <;> by_cases h4 : c ≤ 57 <;> by_cases h5 : c = 95 <;> simp [h1, h2, h3, h4, h5] <;> omega
theorem a_isName (n : Nat) (s : List UInt8) (hn : 1000 ≤ n) : g_a_isName n s = some (nameB s) := by
 unfold g_a_isName nameB
 simp only [a_inside, a_isKey, Option.bind_some, lenI]
 by_cases hl : (1 : Int) ≤ s.length ∧ (s.length : Int) ≤ 12
 rotate_left
 ·rw [decide_eq_false hl]
  have : ¬ (1 ≤ s.length ∧ s.length ≤ 12) := by omega
  simp [this]
 ·rw [decide_eq_true hl]
  have : 1 ≤ s.length ∧ s.length ≤ 12 := by omega
  have hloop : loopN (fun recl9 l9 => g_a_isName_l9 s recl9 l9) n 0 = some (s.all chrB) := by
   have := loop_list (l := s) (B := fun recl9 l9 => g_a_isName_l9 s recl9 l9) (F := fun r => r.all chrB) (by omega) ?_ ?_ (n := n) 0 (by omega) (by omega)
   ·simpa using this
   ·intro rec; simp [g_a_isName_l9, ltI, lenI]
   ·intro rec i x r hd hx hi hw hr
    unfold g_a_isName_l9
    simp only [lenI, getI_nat, hx, Option.bind_some, hw, hr, ltI, leI, eqI, cond_some]
    rw [decide_eq_true (by omega), cond_true, List.all_cons]
    rw [chr_lem, chrB]
    cases decide ((97 ≤ b2i x ∧ b2i x ≤ 122) ∨ (48 ≤ b2i x ∧ b2i x ≤ 57) ∨ b2i x = 95) <;> simp
  rw [hloop]
  match s, this with
  | x :: r, hh =>
   have hh2 : r.length ≤ 11 := by simpa using hh.2
   have h0 : getI (x :: r) 0 = some x := rfl
   simp only [h0, Option.bind_some, ltI, cond_some, Bool.not_true, cond_false]
   simp only [List.length_cons]
   rw [decide_eq_true (show 1 ≤ r.length + 1 ∧ r.length + 1 ≤ 12 from by omega)]
   simp only [List.head?_cons, Option.mem_def, Option.some.injEq, forall_eq', Bool.true_and]
   by_cases h1 : b2i x < 97
   ·simp [h1]; omega
   ·by_cases h2 : 122 < b2i x
    ·simp [h1, h2]; omega
    ·have : 97 ≤ b2i x ∧ b2i x ≤ 122 := by omega
     simp [h1, h2, this]
theorem loop_acc {α R A : Type} {l : List α} {B : (A × Int → Option R) → A × Int → Option R} {F : A → List α → R} (hlen : l.length ≤ 4611686018427387904)
  (hend : ∀ rec a, B rec (a, (l.length : Int)) = some (F a []))
  (hstep : ∀ (rec : A × Int → Option R) (a : A) (i : Nat) (x : α) (r : List α), l.drop i = x :: r → l[i]? = some x → i < l.length → wi ((i : Int) + 1) = ((i + 1 : Nat) : Int) → (∀ a, rec (a, ((i + 1 : Nat) : Int)) = some (F a r)) → B rec (a, (i : Int)) = some (F a (x :: r))) :
  ∀ {n : Nat} (i : Nat) (a : A), i ≤ l.length → l.length - i < n → loopN B n (a, (i : Int)) = some (F a (l.drop i))
 | 0, _, _, _, h => absurd h (Nat.not_lt_zero _)
 | n + 1, i, a, hi, h => by
  unfold loopN
  by_cases he : i = l.length
  ·subst he; rw [hend]; simp
  ·have hlt : i < l.length := by omega
   have hd : l.drop i = l[i] :: l.drop (i + 1) := by rw [List.drop_eq_getElem_cons hlt]
   rw [hd]
   exact hstep _ a i _ _ hd (by simp [hlt]) hlt (by rw [wi_id] <;> omega) (fun a => loop_acc hlen hend hstep (i + 1) a (by omega) (by omega))
def holB : Int → List Int → Bool
 | _, [] => true
 | a, x :: r => decide (a < x ∧ x ≤ 36500) && holB x r
def chgB : Int → List GChange → Bool
 | _, [] => true
 | a, x :: r => decide (a < x.At ∧ x.At ≤ 52560000 ∧ -1440 ≤ x.Offset ∧ x.Offset ≤ 1440) && chgB x.At r
def calB (c : GCalendar) : Bool := decide (-1440 ≤ c.Offset ∧ c.Offset ≤ 1440) && decide (c.Changes.length ≤ 16) && decide (c.Holidays.length ≤ 32) && chgB (-1) c.Changes && holB (-1) c.Holidays
theorem a_dated5 (n : Nat) (e : GAE) (hn : 1000 ≤ n) (hl : e.Claim.Calendar.Holidays.length ≤ 32) : g_ae_dated_j5 n e = some (needE (holB (-1) e.Claim.Calendar.Holidays) 2) := by
 unfold g_ae_dated_j5
 have := loop_acc (l := e.Claim.Calendar.Holidays) (B := fun recl6 (v : Int × Int) => g_ae_dated_l6 n e recl6 v.1 v.2) (F := fun a r => needE (holB a r) 2) (by omega) ?_ ?_ (n := n) 0 (-1) (by omega) (by omega)
 ·simpa using this
 ·intro rec a; simp [g_ae_dated_l6, ltI, lenI, holB, needE]
 ·intro rec a i x r hd hx hi hw hr
  simp only [g_ae_dated_l6, lenI, List.length_map, getI_nat, hx, Option.bind_some, hw, hr, a_need, exc_need, ltI, leI]
  rw [decide_eq_true (by omega), cond_true, holB]
  by_cases h1 : a < x <;> by_cases h2 : x ≤ 36500 <;> simp [h1, h2, needE]
theorem a_dated4 (n : Nat) (e : GAE) (hn : 1000 ≤ n) (hl : e.Claim.Calendar.Holidays.length ≤ 32) (hl2 : e.Claim.Calendar.Changes.length ≤ 16) : g_ae_dated_j4 n e = some (needE (chgB (-1) e.Claim.Calendar.Changes && holB (-1) e.Claim.Calendar.Holidays) 2) := by
 unfold g_ae_dated_j4
 have := loop_acc (l := e.Claim.Calendar.Changes) (B := fun recl6 (v : Int × Int) => g_ae_dated_l13 n e recl6 v.1 v.2) (F := fun a r => needE (chgB a r && holB (-1) e.Claim.Calendar.Holidays) 2) (by omega) ?_ ?_ (n := n) 0 (-1) (by omega) (by omega)
 ·simpa using this
 ·intro rec a; simp [g_ae_dated_l13, ltI, lenI, chgB, a_dated5 n e hn hl]
 ·intro rec a i x r hd hx hi hw hr
  simp only [g_ae_dated_l13, lenI, List.length_map, getI_nat, hx, Option.bind_some, hw, hr, a_need, a_inside, exc_need, ltI, leI]
  rw [decide_eq_true (by omega), cond_true, chgB]
  by_cases h1 : a < x.At <;> by_cases h2 : x.At ≤ 52560000 <;> by_cases h3 : -1440 ≤ x.Offset ∧ x.Offset ≤ 1440 <;> simp [h1, h2, h3, needE]
theorem a_dated (n : Nat) (e : GAE) (hn : 1000 ≤ n) : g_ae_dated n e = some (needE (calB e.Claim.Calendar) 2) := by
 unfold g_ae_dated calB
 simp only [a_inside, a_need, exc_need, Option.bind_some, lenI, List.length_map, leI]
 by_cases h1 : -1440 ≤ e.Claim.Calendar.Offset ∧ e.Claim.Calendar.Offset ≤ 1440
 ·by_cases h2 : e.Claim.Calendar.Changes.length ≤ 16
  ·by_cases h3 : e.Claim.Calendar.Holidays.length ≤ 32
   ·rw [a_dated4 n e hn h3 h2]
    have h2' : (e.Claim.Calendar.Changes.length : Int) ≤ 16 := by omega
    have h3' : (e.Claim.Calendar.Holidays.length : Int) ≤ 32 := by omega
    simp [h1, h2, h3, h2', h3']
   ·have h2' : (e.Claim.Calendar.Changes.length : Int) ≤ 16 := by omega
    have h3' : ¬ (e.Claim.Calendar.Holidays.length : Int) ≤ 32 := by omega
    simp [h1, h2, h3, h2', h3', needE]
  ·have h2' : ¬ (e.Claim.Calendar.Changes.length : Int) ≤ 16 := by omega
   simp [h1, h2, h2', needE]
 ·simp [h1, needE]
theorem loop_gen {α R A V : Type} {l : List α} (S : A → Int → V) {B : (V → Option R) → V → Option R} {F : A → List α → R} (Inv : Nat → A → Prop) (hlen : l.length ≤ 4611686018427387904)
  (hend : ∀ rec a, Inv l.length a → B rec (S a (l.length : Int)) = some (F a []))
  (hstep : ∀ (rec : V → Option R) (a : A) (i : Nat) (x : α) (r : List α), Inv i a → l.drop i = x :: r → l[i]? = some x → i < l.length → wi ((i : Int) + 1) = ((i + 1 : Nat) : Int) → (∀ a, Inv (i + 1) a → rec (S a ((i + 1 : Nat) : Int)) = some (F a r)) → B rec (S a (i : Int)) = some (F a (x :: r))) :
  ∀ {n : Nat} (i : Nat) (a : A), Inv i a → i ≤ l.length → l.length - i < n → loopN B n (S a (i : Int)) = some (F a (l.drop i))
 | 0, _, _, _, _, h => absurd h (Nat.not_lt_zero _)
 | n + 1, i, a, ha, hi, h => by
  unfold loopN
  by_cases he : i = l.length
  ·subst he; rw [hend _ _ ha]; simp
  ·have hlt : i < l.length := by omega
   have hd : l.drop i = l[i] :: l.drop (i + 1) := by rw [List.drop_eq_getElem_cons hlt]
   rw [hd]
   exact hstep _ a i _ _ ha hd (by simp [hlt]) hlt (by rw [wi_id] <;> omega) (fun a ha => loop_gen S Inv hlen hend hstep (i + 1) a ha (by omega) (by omega))
def tarB : Int → List GArticle → Bool
 | k, [] => decide (k ≤ 1)
 | k, a :: r => artB a && tarB (if a.Kind = 6 then k + 1 else k) r
def rateF : Int → List GArticle → Int
 | z, [] => z
 | z, a :: r => rateF (if a.Kind = 6 then a.Price else z) r
def tariffB (t : GTariff) : Bool := nameB t.Name && decide (t.Articles.length ≤ 12) && tarB 0 t.Articles
def tarM (e : GAE) (z : Int) : GAE := ⟨e.Claim, ⟨e.follows.From, e.follows.To, e.follows.End, []⟩, ⟨[], e.bill.Net, e.bill.Tax, e.bill.Total⟩, z⟩
def tarF (e : GAE) : Int × Int → List GArticle → Except (Int × GAE) GAE
 | (k, z), [] => if k ≤ 1 then .ok (tarM e z) else .error (2, tarM e z)
 | (k, z), a :: r => if artB a then tarF e (if a.Kind = 6 then (k + 1, a.Price) else (k, z)) r else .error (2, tarM e z)
theorem tarF_eq (e : GAE) : ∀ (l : List GArticle) (k z : Int), ∃ e', tarF e (k, z) l = if tarB k l then .ok (tarM e (rateF z l)) else .error (2, e')
 | [], k, z => ⟨tarM e z, by simp [tarF, tarB, rateF]⟩
 | a :: r, k, z => by
  cases h : artB a
  ·exact ⟨tarM e z, by simp [tarF, tarB, h]⟩
  ·by_cases h6 : a.Kind = 6
   ·obtain ⟨e', he⟩ := tarF_eq e r (k + 1) a.Price
    exact ⟨e', by simp [tarF, tarB, rateF, h, h6, he]⟩
   ·obtain ⟨e', he⟩ := tarF_eq e r k z
    exact ⟨e', by simp [tarF, tarB, rateF, h, h6, he]⟩
theorem a_tariffed1 (n : Nat) (e : GAE) (hn : 1000 ≤ n) (hl : e.Claim.Tariff.Articles.length ≤ 12) : g_ae_tariffed_j1 n e = some (tarF e (0, e.rate) e.Claim.Tariff.Articles) := by
 unfold g_ae_tariffed_j1
 have := loop_gen (l := e.Claim.Tariff.Articles) (fun (a : Int × Int) i => (a.1, i, a.2)) (B := fun recl5 (v : Int × Int × Int) => g_ae_tariffed_l5 n e recl5 v.1 v.2.1 v.2.2) (F := tarF e) (fun i a => 0 ≤ a.1 ∧ a.1 ≤ i) (by omega) ?_ ?_ (n := n) 0 (0, e.rate) (by simp) (by omega) (by omega)
 ·simpa using this
 ·rintro rec ⟨k, z⟩ hk
  simp only [g_ae_tariffed_l5, lenI, List.length_map, ltI, g_ae_tariffed_j2, a_need, exc_need, Option.bind_some, leI]
  rw [decide_eq_false (by omega), cond_false]
  by_cases h : k ≤ 1 <;> simp [h, tarF, tarM]
 ·rintro rec ⟨k, z⟩ i x r hk hd hx hi hw hr
  simp only [g_ae_tariffed_l5, lenI, List.length_map, ltI, getI_nat, hx, Option.bind_some, a_validArticle, a_need, exc_need, hw, eqI_d]
  rw [decide_eq_true (by omega), cond_true]
  simp only at hk
  have hk1 : wi (k + 1) = k + 1 := by rw [wi_id] <;> omega
  cases ha : artB x
  ·simp [tarF, ha, tarM]
  ·rw [cond_true, hk1]
   by_cases h6 : x.Kind = 6
   ·have := hr (k + 1, x.Price) (by simp; omega)
    simp only at this
    rw [this]; simp [h6, tarF, ha]
   ·have := hr (k, z) (by simp; omega)
    simp only at this
    rw [this]; simp [h6, tarF, ha]
theorem a_tariffed (n : Nat) (e : GAE) (hn : 1000 ≤ n) : ∃ e', g_ae_tariffed n e = some (if tariffB e.Claim.Tariff then .ok (tarM e (rateF e.rate e.Claim.Tariff.Articles)) else .error (2, e')) := by
 unfold g_ae_tariffed tariffB
 simp only [a_isName n _ hn, a_need, exc_need, Option.bind_some, lenI, List.length_map, leI]
 cases h1 : nameB e.Claim.Tariff.Name
 ·exact ⟨tarM e e.rate, by simp [tarM]⟩
 ·by_cases h2 : e.Claim.Tariff.Articles.length ≤ 12
  ·rw [a_tariffed1 n e hn h2]
   obtain ⟨e', he⟩ := tarF_eq e e.Claim.Tariff.Articles 0 e.rate
   have h2' : (e.Claim.Tariff.Articles.length : Int) ≤ 12 := by omega
   exact ⟨e', by simp [h2, h2', he]⟩
  ·have h2' : ¬ (e.Claim.Tariff.Articles.length : Int) ≤ 12 := by omega
   exact ⟨tarM e e.rate, by simp [h2, h2', tarM]⟩
end Go.Proofs
namespace Go.Proofs
open Go Go.Abs
set_option maxRecDepth 100000
set_option linter.unusedVariables false
def addS (m d e : Int) (sl : List GSlice) : Int × List GSlice := (wi (m + 1), sl ++ [⟨m, d⟩])
def derS (m0 : Int) (p x : GReading) (e : Int) (sl : List GSlice) : Int × List GSlice :=
 if x.Serial = p.Serial ∧ m0 < x.Minute then
  if wi (x.Register - p.Register) = 0 then (e, sl)
  else match sl.getLast? with
   | some q => if q.Minute = wi (x.Minute - 1) then (e, sl.set (sl.length - 1) ⟨q.Minute, wi (q.Energy + wi (x.Register - p.Register))⟩) else addS (wi (x.Minute - 1)) (wi (x.Register - p.Register)) e sl
   | none => addS (wi (x.Minute - 1)) (wi (x.Register - p.Register)) e sl
 else (e, sl)
def derF (m0 : Int) : GReading → Int → List GSlice → List GReading → Int × List GSlice
 | _, e, sl, [] => (e, sl)
 | p, e, sl, x :: r => derF m0 x (derS m0 p x e sl).1 (derS m0 p x e sl).2 r
theorem getI_last {α : Type} {l : List α} (h : 0 < l.length) (h2 : l.length ≤ 1000000) : getI l (wi ((l.length : Int) - 1)) = l.getLast? := by
 rw [wi_id (by omega) (by omega), show ((l.length : Int) - 1) = ((l.length - 1 : Nat) : Int) from by omega, getI_nat, List.getLast?_eq_getElem?]
theorem a_derive4 (n : Nat) (e : GAE) (x1 : GReading) (hn : 1000 ≤ n) (hl : e.Claim.Readings.length ≤ 64) {r : List GReading} (he : e.Claim.Readings = x1 :: r) :
  loopN (fun recl4 (v : Int × Int × (OL GSlice)) => g_ae_derive_l4 e x1 recl4 v.1 v.2.1 v.2.2) n (1, x1.Minute, OL.nil) = some ((e.Claim.Readings.length : Int), derF x1.Minute x1 x1.Minute [] r) := by
 have := loop_gen (l := e.Claim.Readings) (fun (a : GReading × Int × OL GSlice) i => (i, a.2.1, a.2.2)) (B := fun recl4 (v : Int × Int × (OL GSlice)) => g_ae_derive_l4 e x1 recl4 v.1 v.2.1 v.2.2)
  (F := fun a r => ((e.Claim.Readings.length : Int), derF x1.Minute a.1 a.2.1 a.2.2.toL r)) (fun i a => 1 ≤ i ∧ e.Claim.Readings[i - 1]? = some a.1 ∧ a.2.2.toL.length ≤ i) (by omega) ?_ ?_ (n := n) 1 (x1, x1.Minute, OL.nil) (by simp [he]) (by simp [he]) (by omega)
 ·simpa [he] using this
 ·rintro rec ⟨p, en, ol⟩ ⟨h1, h2, h3⟩
  simp only [g_ae_derive_l4, lenI, List.length_map, ltI]
  rw [decide_eq_false (by omega), cond_false]
  simp [derF]
 ·rintro rec ⟨p, en, ol⟩ i x r' ⟨h1, h2, h3⟩ hd hx hi hw hr
  simp only at h2 h3 hr
  have hp : wi ((i : Int) - 1) = ((i - 1 : Nat) : Int) := by rw [wi_id] <;> omega
  have hr' : ∀ (en : Int) (ol : OL GSlice), ol.toL.length ≤ i + 1 → rec (((i + 1 : Nat) : Int), en, ol) = some ((e.Claim.Readings.length : Int), derF x1.Minute x en ol.toL r') := fun en ol ho => hr (x, en, ol) ⟨by omega, by simpa using hx, ho⟩
  simp only [g_ae_derive_l4, lenI, List.length_map, ltI, hp, getI_nat, h2, hx, hw, Option.bind_some, eqI_d, derF, cond_some]
  rw [decide_eq_true (by omega), cond_true]
  by_cases c1 : x.Serial = p.Serial ∧ x1.Minute < x.Minute
  rotate_left
  ·have : (bif decide (x.Serial = p.Serial) then decide (x1.Minute < x.Minute) else false) = false := by
    by_cases a : x.Serial = p.Serial <;> by_cases b : x1.Minute < x.Minute <;> simp [a, b]
    exact c1 ⟨a, b⟩
   rw [this, cond_false, hr' en ol (by omega)]
   simp only [derS, if_neg c1]
  ·have : (bif decide (x.Serial = p.Serial) then decide (x1.Minute < x.Minute) else false) = true := by simp [c1.1, c1.2]
   rw [this, cond_true]
   simp only [derS, if_pos c1]
   by_cases c2 : wi (x.Register - p.Register) = 0
   ·simp only [c2, decide_true, cond_true, if_true]
    exact hr' en ol (by omega)
   ·simp only [c2, decide_false, cond_false, if_false]
    have hroom : ∀ m d, roomB (List.length (ol.toL ++ [(⟨m, d⟩ : GSlice)])) 16 = true := by
     intro m d; simp [roomB]; omega
    have happ : (bif roomB (List.length (ol.toL ++ [(⟨wi (x.Minute - 1), wi (x.Register - p.Register)⟩ : GSlice)])) 16 then rec (((i + 1 : Nat) : Int), wi (wi (x.Minute - 1) + 1), OL.own (ol.toL ++ [⟨wi (x.Minute - 1), wi (x.Register - p.Register)⟩])) else none) =
      some ((e.Claim.Readings.length : Int), derF x1.Minute x (addS (wi (x.Minute - 1)) (wi (x.Register - p.Register)) en ol.toL).1 (addS (wi (x.Minute - 1)) (wi (x.Register - p.Register)) en ol.toL).2 r') := by
     rw [hroom, cond_true, hr' _ _ (by simp; omega)]
     rfl
    by_cases c3 : ol.toL = []
    ·rw [happ]; simp [c3, addS]
    ·have hpos : 0 < ol.toL.length := List.length_pos_iff.2 c3
     obtain ⟨q, hq⟩ : ∃ q, ol.toL.getLast? = some q := ⟨_, List.getLast?_eq_some_getLast c3⟩
     simp only [getI_last hpos (by omega), hq, Option.bind_some]
     rw [decide_eq_true (show (0 : Int) < ol.toL.length from by omega), cond_true, Option.bind_some]
     by_cases c4 : q.Minute = wi (x.Minute - 1)
     ·simp only [c4, decide_true, cond_true, if_true]
      rw [hr' _ _ (by simp; omega)]
      rw [wi_id (x := (ol.toL.length : Int) - 1) (by omega) (by omega), show ((ol.toL.length : Int) - 1).toNat = ol.toL.length - 1 from by omega]
      rfl
     ·simp only [c4, decide_false, cond_false, if_false]
      exact happ
def sesF : List GReading → GSession
 | [] => ⟨0, 0, 0, []⟩
 | x :: r => ⟨x.Minute, ((x :: r).getLast (by simp)).Minute, (derF x.Minute x x.Minute [] r).1, (derF x.Minute x x.Minute [] r).2⟩
def sesB (s : GSession) : Bool := decide (s.From < s.To) && decide (wi (s.To - s.From) ≤ 2880) && decide (s.Slices.length ≤ 48) && s.Slices.all (fun x => decide (x.Energy ≤ 10000))
theorem a_derive14 (n : Nat) (e : GAE) (x1 x2 : GReading) (en : Int) (sl : List GSlice) (hn : 1000 ≤ n) (hl : sl.length ≤ 48) :
  ∃ e', g_ae_derive_j14 n e x1 x2 en sl = some (if sl.all (fun x => decide (x.Energy ≤ 10000)) then .ok ⟨e.Claim, ⟨x1.Minute, x2.Minute, en, sl⟩, ⟨[], e.bill.Net, e.bill.Tax, e.bill.Total⟩, e.rate⟩ else .error (3, e')) := by
 refine ⟨⟨e.Claim, ⟨e.follows.From, e.follows.To, e.follows.End, []⟩, ⟨[], e.bill.Net, e.bill.Tax, e.bill.Total⟩, e.rate⟩, ?_⟩
 unfold g_ae_derive_j14
 have := loop_list (l := sl) (B := fun recl15 l15 => g_ae_derive_l15 n e x1 x2 en sl recl15 l15)
  (F := fun r => if r.all (fun x => decide (x.Energy ≤ 10000)) then .ok ⟨e.Claim, ⟨x1.Minute, x2.Minute, en, sl⟩, ⟨[], e.bill.Net, e.bill.Tax, e.bill.Total⟩, e.rate⟩ else .error (3, ⟨e.Claim, ⟨e.follows.From, e.follows.To, e.follows.End, []⟩, ⟨[], e.bill.Net, e.bill.Tax, e.bill.Total⟩, e.rate⟩))
  (by omega) ?_ ?_ (n := n) 0 (by omega) (by omega)
 ·simpa using this
 ·intro rec
  simp only [g_ae_derive_l15, lenI, List.length_map, ltI]
  rw [decide_eq_false (by omega), cond_false]
  simp
 ·intro rec i x r hd hx hi hw hr
  simp only [g_ae_derive_l15, lenI, List.length_map, ltI, getI_nat, hx, Option.bind_some, a_need, exc_need, hw, hr, leI, List.all_cons]
  rw [decide_eq_true (by omega), cond_true]
  by_cases h : x.Energy ≤ 10000 <;> simp [h]
theorem a_derive (n : Nat) (e : GAE) (hn : 1000 ≤ n) (hne : e.Claim.Readings ≠ []) (hl : e.Claim.Readings.length ≤ 64) :
  ∃ e', g_ae_derive n e = some (if sesB (sesF e.Claim.Readings) then .ok ⟨e.Claim, sesF e.Claim.Readings, ⟨[], e.bill.Net, e.bill.Tax, e.bill.Total⟩, e.rate⟩ else .error (3, e')) := by
 obtain ⟨x1, r, he⟩ := List.exists_cons_of_ne_nil hne
 unfold g_ae_derive
 have hpos : 0 < e.Claim.Readings.length := List.length_pos_iff.2 hne
 have hx2 : e.Claim.Readings.getLast? = some (e.Claim.Readings.getLast hne) := List.getLast?_eq_some_getLast hne
 have h0 : getI e.Claim.Readings 0 = some x1 := by rw [he]; rfl
 have h4 := a_derive4 n e x1 hn hl he
 simp only [lenI, List.length_map, h0, Option.bind_some, getI_last hpos (by omega), hx2]
 have hmatch : ∀ (k : Int × Int × List GSlice → Option (Except (Int × GAE) GAE)), (loopN (fun recl4 x => g_ae_derive_l4 e x1 recl4 x.1 x.2.1 x.2.2) n (1, x1.Minute, OL.nil)).bind k = k ((e.Claim.Readings.length : Int), derF x1.Minute x1 x1.Minute [] r) := by
  intro k; rw [h4]; rfl
 rw [hmatch]
 have hs : sesF e.Claim.Readings = ⟨x1.Minute, (e.Claim.Readings.getLast hne).Minute, (derF x1.Minute x1 x1.Minute [] r).1, (derF x1.Minute x1 x1.Minute [] r).2⟩ := by
  have : ∀ (l : List GReading) (h : l ≠ []), l = x1 :: r → sesF l = ⟨x1.Minute, (l.getLast h).Minute, (derF x1.Minute x1 x1.Minute [] r).1, (derF x1.Minute x1 x1.Minute [] r).2⟩ := by
   intro l h hl; subst hl; rfl
  exact this _ hne he
 rw [hs]
 generalize (e.Claim.Readings.getLast hne) = x2
 generalize derF x1.Minute x1 x1.Minute [] r = q
 obtain ⟨en, sl⟩ := q
 simp only [a_need, exc_need, Option.bind_some, ltI, leI, sesB]
 by_cases c1 : x1.Minute < x2.Minute
 ·by_cases c2 : wi (x2.Minute - x1.Minute) ≤ 2880
  ·by_cases c3 : sl.length ≤ 48
   ·have c3' : (sl.length : Int) ≤ 48 := by omega
    obtain ⟨e', h⟩ := a_derive14 n e x1 x2 en sl hn c3
    exact ⟨e', by simp only [c1, c2, c3, c3', decide_true, cond_true, Bool.true_and]; exact h⟩
   ·have c3' : ¬ (sl.length : Int) ≤ 48 := by omega
    exact ⟨_, by simp only [c1, c2, c3, c3', decide_true, decide_false, cond_true, cond_false, Bool.true_and, Bool.false_and, Bool.and_false, Bool.false_eq_true, if_false]; rfl⟩
  ·exact ⟨_, by simp only [c1, c2, decide_true, decide_false, cond_true, cond_false, Bool.false_and, Bool.and_false, Bool.false_eq_true, if_false]; rfl⟩
 ·exact ⟨_, by simp only [c1, decide_false, cond_false, Bool.false_and, Bool.false_eq_true, if_false]; rfl⟩
theorem a_sameSlice (n : Nat) (a b : List GSlice) (hn : 1000 ≤ n) (hl : b.length ≤ 900) : g_a_same_api_Slice n a b = some (decide (a = b)) := by
 unfold g_a_same_api_Slice
 simp only [lenI, List.length_map, eqI_d]
 by_cases h : a.length = b.length
 rotate_left
 ·have h' : ¬ (a.length : Int) = b.length := by omega
  have h2 : ¬ a = b := fun h3 => h (by rw [h3])
  simp [h', h2]
 ·rw [decide_eq_true (show (a.length : Int) = b.length from by omega), Bool.not_true, cond_false]
  have := loop_gen (l := a) (fun (_ : List GSlice) i => i) (B := fun recl1 l1 => g_a_same_api_Slice_l1 a b recl1 l1) (F := fun q r => decide (r = q)) (fun i q => b.drop i = q) (by omega) ?_ ?_ (n := n) 0 b (by simp) (by omega) (by omega)
  ·simpa using this
  ·intro rec q hq
   simp only [g_a_same_api_Slice_l1, lenI, List.length_map, ltI]
   rw [decide_eq_false (by omega), cond_false]
   rw [h, List.drop_length] at hq
   subst hq; simp
  ·intro rec q i x r hq hd hx hi hw hr
   have hb : b[i]? = some b[i] := by rw [List.getElem?_eq_getElem]
   have hq2 : q = b[i] :: b.drop (i + 1) := by rw [← hq, List.drop_eq_getElem_cons (by omega)]
   simp only [g_a_same_api_Slice_l1, lenI, List.length_map, ltI, getI_nat, hx, hb, Option.bind_some, eqI_d, opq, hw]
   rw [decide_eq_true (by omega), cond_true, hr _ rfl, hq2]
   obtain ⟨xm, xe⟩ := x
   generalize b[i] = y
   obtain ⟨ym, ye⟩ := y
   by_cases h1 : xm = ym <;> by_cases h2 : xe = ye <;> simp [h1, h2]
theorem a_sameLine (n : Nat) (a b : List GLine) (hn : 1000 ≤ n) (hl : b.length ≤ 900) : g_a_same_api_Line n a b = some (decide (a = b)) := by
 unfold g_a_same_api_Line
 simp only [lenI, List.length_map, eqI_d]
 by_cases h : a.length = b.length
 rotate_left
 ·have h' : ¬ (a.length : Int) = b.length := by omega
  have h2 : ¬ a = b := fun h3 => h (by rw [h3])
  simp [h', h2]
 ·rw [decide_eq_true (show (a.length : Int) = b.length from by omega), Bool.not_true, cond_false]
  have := loop_gen (l := a) (fun (_ : List GLine) i => i) (B := fun recl1 l1 => g_a_same_api_Line_l1 a b recl1 l1) (F := fun q r => decide (r = q)) (fun i q => b.drop i = q) (by omega) ?_ ?_ (n := n) 0 b (by simp) (by omega) (by omega)
  ·simpa using this
  ·intro rec q hq
   simp only [g_a_same_api_Line_l1, lenI, List.length_map, ltI]
   rw [decide_eq_false (by omega), cond_false]
   rw [h, List.drop_length] at hq
   subst hq; simp
  ·intro rec q i x r hq hd hx hi hw hr
   have hb : b[i]? = some b[i] := by rw [List.getElem?_eq_getElem]
   have hq2 : q = b[i] :: b.drop (i + 1) := by rw [← hq, List.drop_eq_getElem_cons (by omega)]
   simp only [g_a_same_api_Line_l1, lenI, List.length_map, ltI, getI_nat, hx, hb, Option.bind_some, eqI_d, opq, hw]
   rw [decide_eq_true (by omega), cond_true, hr _ rfl, hq2]
   obtain ⟨xm, xe⟩ := x
   generalize b[i] = y
   obtain ⟨ym, ye⟩ := y
   by_cases h1 : xm = ym <;> by_cases h2 : xe = ye <;> simp [h1, h2]
theorem a_compared (n : Nat) (e : GAE) (hn : 1000 ≤ n) (hl : e.follows.Slices.length ≤ 900) : g_ae_compared n e = some (needE (decide (e.Claim.Session = e.follows)) 3) := by
 unfold g_ae_compared
 simp only [a_sameSlice n _ _ hn hl, a_need, exc_need, Option.bind_some, eqI_d]
 generalize e.Claim.Session = s
 generalize e.follows = t
 obtain ⟨a1, a2, a3, a4⟩ := s
 obtain ⟨b1, b2, b3, b4⟩ := t
 by_cases h1 : a1 = b1 <;> by_cases h2 : a2 = b2 <;> by_cases h3 : a3 = b3 <;> by_cases h4 : a4 = b4 <;> simp [h1, h2, h3, h4, needE]
end Go.Proofs
namespace Go.Proofs
open Go Go.Abs
set_option maxRecDepth 100000
set_option linter.unusedVariables false
theorem head_big : g_law43_head 36893488147419103232 = some true := by kernel_rfl
def offF (m : Int) : Int → List GChange → Int
 | o, [] => o
 | o, x :: r => offF m (if x.At ≤ m then x.Offset else o) r
theorem a_offset (n : Nat) (e : GAE) (m : Int) (hn : 1000 ≤ n) (hl : e.Claim.Calendar.Changes.length ≤ 900) : g_ae_offset n e m = some (offF m e.Claim.Calendar.Offset e.Claim.Calendar.Changes) := by
 unfold g_ae_offset
 have := loop_acc (l := e.Claim.Calendar.Changes) (B := fun recl1 (v : Int × Int) => g_ae_offset_l1 e m recl1 v.1 v.2) (F := offF m) (by omega) ?_ ?_ (n := n) 0 e.Claim.Calendar.Offset (by omega) (by omega)
 ·simpa using this
 ·intro rec a; simp [g_ae_offset_l1, ltI, lenI, offF]
 ·intro rec a i x r hd hx hi hw hr
  simp only [g_ae_offset_l1, lenI, List.length_map, getI_nat, hx, Option.bind_some, hw, hr, ltI, leI, offF]
  rw [decide_eq_true (by omega), cond_true]
  by_cases h : x.At ≤ m <;> simp [h]
def wkF (d : Int) : Int := if Int.tmod (wi (d + 7)) 7 = 5 then 1 else if Int.tmod (wi (d + 7)) 7 = 6 then 2 else 0
def typF (d : Int) : List Int → Int
 | [] => wkF d
 | x :: r => if x = d then 2 else typF d r
theorem typF_range (d : Int) : ∀ l, 0 ≤ typF d l ∧ typF d l ≤ 2
 | [] => by
  unfold typF wkF
  split
  ·omega
  ·split <;> omega
 | x :: r => by
  have := typF_range d r
  unfold typF; split <;> omega
theorem a_typeOf (n : Nat) (e : GAE) (d : Int) (hn : 1000 ≤ n) (hl : e.Claim.Calendar.Holidays.length ≤ 900) : g_ae_typeOf n e d = some (typF d e.Claim.Calendar.Holidays) := by
 unfold g_ae_typeOf
 have := loop_list (l := e.Claim.Calendar.Holidays) (B := fun recl2 l2 => g_ae_typeOf_l2 e d recl2 l2) (F := typF d) (by omega) ?_ ?_ (n := n) 0 (by omega) (by omega)
 ·simpa using this
 ·intro rec
  simp only [g_ae_typeOf_l2, lenI, List.length_map, ltI, g_ae_typeOf_j1, eqI_d]
  rw [decide_eq_false (by omega), cond_false, typF, wkF]
  by_cases h1 : Int.tmod (wi (d + 7)) 7 = 5 <;> by_cases h2 : Int.tmod (wi (d + 7)) 7 = 6 <;> simp [h1, h2]
 ·intro rec i x r hd hx hi hw hr
  simp only [g_ae_typeOf_l2, lenI, List.length_map, getI_nat, hx, Option.bind_some, hw, hr, ltI, eqI_d, typF]
  rw [decide_eq_true (by omega), cond_true]
  by_cases h : x = d <;> simp [h]
def appB (c : GCalendar) (a : GArticle) (m : Int) : Bool :=
 let w := wi (wi (m + offF m c.Offset c.Changes) + 1440)
 decide (a.From ≤ Int.tmod w 1440) && decide (Int.tmod w 1440 < a.To) && !decide (bAnd .i64 a.Days (shlI .i64 1 (typF (wi (wi (Int.tdiv w 1440) - 1)) c.Holidays)) = 0)
theorem a_applies (n : Nat) (e : GAE) (a : GArticle) (m : Int) (hn : 1000 ≤ n) (h1 : e.Claim.Calendar.Changes.length ≤ 900) (h2 : e.Claim.Calendar.Holidays.length ≤ 900) :
  g_ae_applies n e a m = some (appB e.Claim.Calendar a m) := by
 unfold g_ae_applies appB
 simp only [a_offset n e _ hn h1, a_typeOf n e _ hn h2, Option.bind_some, leI, ltI, eqI_d]
 generalize wi (wi (m + offF m e.Claim.Calendar.Offset e.Claim.Calendar.Changes) + 1440) = w
 have h3 := typF_range (wi (wi (Int.tdiv w 1440) - 1)) e.Claim.Calendar.Holidays
 rw [decide_eq_false (show ¬ typF (wi (wi (Int.tdiv w 1440) - 1)) e.Claim.Calendar.Holidays < 0 from by omega)]
 by_cases c1 : a.From ≤ Int.tmod w 1440 <;> by_cases c2 : Int.tmod w 1440 < a.To <;> simp [c1, c2]
def cntF (c : GCalendar) (a : GArticle) : Nat → Int → Int → Int
 | 0, _, z => z
 | k + 1, m, z => cntF c a k (m + 1) (if appB c a m then wi (z + 1) else z)
def staF (c : GCalendar) (a : GArticle) (f t : Int) : Int :=
 wi (a.Price * wi (Int.tdiv (wi (wi (maxI 0 (cntF c a (t - f).toNat f (wi (0 - a.Free))) + a.Unit) - 1)) a.Unit))
theorem a_started (n : Nat) (e : GAE) (a : GArticle) (f t : Int) (hn : 1000 ≤ n) (h1 : e.Claim.Calendar.Changes.length ≤ 900) (h2 : e.Claim.Calendar.Holidays.length ≤ 900) (hu : a.Unit ≠ 0) (hf : -9223372036854775808 ≤ f) (ht : t ≤ 9223372036854775807)
  (hk : (t - f).toNat < n) : g_ae_started n e a f t = some (staF e.Claim.Calendar a f t) := by
 have key : ∀ (k j : Nat) (z m : Int), (t - m).toNat = k → k < j → -9223372036854775808 ≤ m →
   loopN (fun recl1 (v : Int × Int) => g_ae_started_l1 n e a t recl1 v.1 v.2) j (z, m) = some (wi (a.Price * wi (Int.tdiv (wi (wi (maxI 0 (cntF e.Claim.Calendar a k m z) + a.Unit) - 1)) a.Unit))) := by
  intro k
  induction k with
  | zero =>
   intro j z m h3 h4 h5
   obtain ⟨j, rfl⟩ : ∃ i, j = i + 1 := ⟨j - 1, by omega⟩
   simp only [loopN, g_ae_started_l1, ltI, eqI_d, hu, cntF]
   rw [decide_eq_false (by omega)]
   simp
  | succ k ih =>
   intro j z m h3 h4 h5
   obtain ⟨j, rfl⟩ : ∃ i, j = i + 1 := ⟨j - 1, by omega⟩
   have hw : wi (m + 1) = m + 1 := by rw [wi_id] <;> omega
   have h6 := fun z => ih j z (m + 1) (by omega) (by omega) (by omega)
   rw [loopN]
   generalize loopN (fun recl1 (v : Int × Int) => g_ae_started_l1 n e a t recl1 v.1 v.2) j = rec at h6 ⊢
   simp only [g_ae_started_l1, ltI, a_applies n e a m hn h1 h2, Option.bind_some, hw, cntF]
   rw [decide_eq_true (by omega), cond_true]
   cases appB e.Claim.Calendar a m
   ·rw [cond_false, h6]; simp
   ·rw [cond_true, h6]; simp
 exact key _ n _ _ rfl hk hf
def eneF (c : GCalendar) (a : GArticle) : Int → List GSlice → Int
 | z, [] => z
 | z, x :: r => eneF c a (if appB c a x.Minute then wi (z + x.Energy) else z) r
def cosF (c : GCalendar) (s : GSession) (a : GArticle) : Int :=
 if a.Kind = 1 then (if appB c a s.From then a.Price else 0)
 else if a.Kind = 2 then wi (Int.tdiv (wi (wi (wi (2 * a.Price) * eneF c a 0 s.Slices) + 1000)) 2000)
 else if a.Kind = 3 then staF c a s.From s.To
 else if a.Kind = 4 then staF c a s.End s.To
 else 0
theorem a_cost2 (n : Nat) (e : GAE) (a : GArticle) (hn : 1000 ≤ n) (h1 : e.Claim.Calendar.Changes.length ≤ 900) (h2 : e.Claim.Calendar.Holidays.length ≤ 900) (h3 : e.follows.Slices.length ≤ 900) :
  loopN (fun recl2 (v : Int × Int) => g_ae_cost_l2 n e a recl2 v.1 v.2) n (0, 0) = some (wi (Int.tdiv (wi (wi (wi (2 * a.Price) * eneF e.Claim.Calendar a 0 e.follows.Slices) + 1000)) 2000)) := by
 have := loop_acc (l := e.follows.Slices) (B := fun recl2 (v : Int × Int) => g_ae_cost_l2 n e a recl2 v.1 v.2) (F := fun z r => wi (Int.tdiv (wi (wi (wi (2 * a.Price) * eneF e.Claim.Calendar a z r) + 1000)) 2000)) (by omega) ?_ ?_ (n := n) 0 0 (by omega) (by omega)
 ·exact this
 ·intro rec z
  have h : ltI ((e.follows.Slices.length : Nat) : Int) (lenI (List.map GSlice.cs e.follows.Slices)) = false := by simp [ltI, lenI]
  show g_ae_cost_l2 n e a rec z ((e.follows.Slices.length : Nat) : Int) = _
  unfold g_ae_cost_l2
  rw [h]
  exact cond_false _ _
 ·intro rec z i x r hd hx hi hw hr
  have h : ltI (i : Int) (lenI (List.map GSlice.cs e.follows.Slices)) = true := by simp [ltI, lenI]; omega
  show g_ae_cost_l2 n e a rec z (i : Int) = _
  unfold g_ae_cost_l2
  rw [h, cond_true, getI_nat, hx, Option.bind_some, a_applies n e a _ hn h1 h2, Option.bind_some, hw, hr, hr]
  have e1 : eneF e.Claim.Calendar a z (x :: r) = eneF e.Claim.Calendar a (if appB e.Claim.Calendar a x.Minute then wi (z + x.Energy) else z) r := rfl
  rw [e1]
  cases appB e.Claim.Calendar a x.Minute
  ·rw [cond_false, if_neg (by decide)]
  ·rw [cond_true, if_pos rfl]
theorem a_cost (n : Nat) (e : GAE) (a : GArticle) (hn : 36893488147419103232 ≤ n) (h1 : e.Claim.Calendar.Changes.length ≤ 900) (h2 : e.Claim.Calendar.Holidays.length ≤ 900) (h3 : e.follows.Slices.length ≤ 900)
  (hu : a.Kind = 3 ∨ a.Kind = 4 → a.Unit ≠ 0) (b1 : i64b e.follows.From) (b2 : i64b e.follows.To) (b3 : i64b e.follows.End) : g_ae_cost n e a = some (cosF e.Claim.Calendar e.follows a) := by
 unfold g_ae_cost cosF
 simp only [a_applies n e a _ (by omega) h1 h2, Option.bind_some, eqI_d]
 have hn' : 1000 ≤ n := by omega
 have hloop := a_cost2 n e a hn' h1 h2 h3
 by_cases k1 : a.Kind = 1
 ·simp only [k1, decide_true, cond_true, if_true]
  cases appB e.Claim.Calendar a e.follows.From <;> simp
 ·by_cases k2 : a.Kind = 2
  ·simp only [k2, decide_true, cond_true, if_true, show ¬ ((2 : Int) = 1) from by decide, decide_false, cond_false, if_false]
   exact hloop
  ·unfold i64b at b1 b2 b3
   by_cases k3 : a.Kind = 3
   ·rw [a_started n e a _ _ (by omega) h1 h2 (hu (.inl k3)) (by omega) (by omega) (by omega)]
    simp [k3]
   ·by_cases k4 : a.Kind = 4
    ·rw [a_started n e a e.follows.End _ (by omega) h1 h2 (hu (.inr k4)) (by omega) (by omega) (by omega)]
     simp [k4]
    ·simp [k1, k2, k3, k4]
end Go.Proofs
namespace Go.Proofs
open Go Go.Abs
set_option maxRecDepth 100000
set_option linter.unusedVariables false
theorem loop_does {α R A V : Type} {l : List α} (S : A → Int → V) {B : (V → Option R) → V → Option R} {Q : A → List α → R → Prop} (Inv : Nat → A → Prop) (hlen : l.length ≤ 4611686018427387904)
  (hend : ∀ rec a, Inv l.length a → Does (B rec (S a (l.length : Int))) (Q a []))
  (hstep : ∀ (rec : V → Option R) (a : A) (i : Nat) (x : α) (r : List α), Inv i a → l.drop i = x :: r → l[i]? = some x → i < l.length → wi ((i : Int) + 1) = ((i + 1 : Nat) : Int) → (∀ a, Inv (i + 1) a → Does (rec (S a ((i + 1 : Nat) : Int))) (Q a r)) → Does (B rec (S a (i : Int))) (Q a (x :: r))) :
  ∀ {n : Nat} (i : Nat) (a : A), Inv i a → i ≤ l.length → l.length - i < n → Does (loopN B n (S a (i : Int))) (Q a (l.drop i))
 | 0, _, _, _, _, h => absurd h (Nat.not_lt_zero _)
 | n + 1, i, a, ha, hi, h => by
  unfold loopN
  by_cases he : i = l.length
  ·subst he; simpa using hend _ _ ha
  ·have hlt : i < l.length := by omega
   have hd : l.drop i = l[i] :: l.drop (i + 1) := by rw [List.drop_eq_getElem_cons hlt]
   rw [hd]
   exact hstep _ a i _ _ ha hd (by simp [hlt]) hlt (by rw [wi_id] <;> omega) (fun a ha => loop_does S Inv hlen hend hstep (i + 1) a ha (by omega) (by omega))
def linF (c : GCalendar) (s : GSession) : Nat → List GArticle → List GLine
 | _, [] => []
 | i, a :: r => if a.Kind = 5 ∨ a.Kind = 6 then linF c s (i + 1) r else ⟨i, cosF c s a⟩ :: linF c s (i + 1) r
def linB (l : List GLine) : Bool := l.all (fun x => decide (x.Amount ≤ 1000000000))
theorem a_price (n : Nat) (e : GAE) (hn : 36893488147419103232 ≤ n) (h1 : e.Claim.Calendar.Changes.length ≤ 900) (h2 : e.Claim.Calendar.Holidays.length ≤ 900) (h3 : e.follows.Slices.length ≤ 900) (h4 : e.Claim.Tariff.Articles.length ≤ 900)
  (hu : ∀ a ∈ e.Claim.Tariff.Articles, a.Kind = 3 ∨ a.Kind = 4 → a.Unit ≠ 0) (b1 : i64b e.follows.From) (b2 : i64b e.follows.To) (b3 : i64b e.follows.End) :
  ∃ e', g_ae_price n e = some (if linB (linF e.Claim.Calendar e.follows 0 e.Claim.Tariff.Articles) then .ok ⟨e.Claim, e.follows, ⟨linF e.Claim.Calendar e.follows 0 e.Claim.Tariff.Articles, e.bill.Net, e.bill.Tax, e.bill.Total⟩, e.rate⟩ else .error (4, e')) := by
 have key := loop_does (l := e.Claim.Tariff.Articles) (fun (a : Nat × OL GLine) i => (i, a.2)) (B := fun recl1 (v : Int × OL GLine) => g_ae_price_l1 n e recl1 v.1 v.2)
  (Q := fun a r v => ∃ e', v = if linB (linF e.Claim.Calendar e.follows a.1 r) then .ok ⟨e.Claim, e.follows, ⟨a.2.toL ++ linF e.Claim.Calendar e.follows a.1 r, e.bill.Net, e.bill.Tax, e.bill.Total⟩, e.rate⟩ else .error (4, e'))
  (fun i a => a.1 = i ∧ a.2.toL.length ≤ i) (by omega) ?_ ?_ (n := n) 0 (0, OL.nil) (by simp) (by omega) (by omega)
 ·obtain ⟨v, g1, e', g2⟩ := key
  refine ⟨e', ?_⟩
  unfold g_ae_price
  refine Eq.trans g1 ?_
  rw [g2]; rfl
 ·rintro rec ⟨k, ol⟩ ⟨rfl, ho⟩
  have h : ltI ((e.Claim.Tariff.Articles.length : Nat) : Int) (lenI (List.map GArticle.cs e.Claim.Tariff.Articles)) = false := by simp [ltI, lenI]
  show Does (g_ae_price_l1 n e rec ((e.Claim.Tariff.Articles.length : Nat) : Int) ol) _
  unfold g_ae_price_l1
  rw [h, cond_false]
  refine does_some ⟨e, ?_⟩
  simp [linF, linB]
 ·rintro rec ⟨k, ol⟩ i x r ⟨rfl, ho⟩ hd hx hi hw hr
  simp only at ho
  have h : ltI (k : Int) (lenI (List.map GArticle.cs e.Claim.Tariff.Articles)) = true := by simp [ltI, lenI]; omega
  show Does (g_ae_price_l1 n e rec (k : Int) ol) _
  unfold g_ae_price_l1
  rw [h, cond_true, getI_nat, hx, Option.bind_some]
  have hj : (bif eqI x.Kind 5 then some true else some (eqI x.Kind 6)) = some (decide (x.Kind = 5 ∨ x.Kind = 6)) := by
   simp only [eqI_d]
   by_cases c1 : x.Kind = 5 <;> by_cases c2 : x.Kind = 6 <;> simp [c1, c2]
  rw [hj, Option.bind_some, hw]
  by_cases c : x.Kind = 5 ∨ x.Kind = 6
  ·rw [decide_eq_true c, cond_true]
   refine does_mono (hr (k + 1, ol) ⟨rfl, by simp; omega⟩) ?_
   rintro v ⟨e', hv⟩
   exact ⟨e', by rw [hv, linF, if_pos c]⟩
  ·rw [decide_eq_false c, cond_false]
   have hc := a_cost n (⟨e.Claim, e.follows, ⟨ol.toL, e.bill.Net, e.bill.Tax, e.bill.Total⟩, e.rate⟩ : GAE) x hn h1 h2 h3 (hu x (List.mem_of_getElem? hx)) b1 b2 b3
   rw [hc, Option.bind_some, a_need, Option.bind_some, exc_need]
   simp only
   have hroom : roomB (List.length (ol.toL ++ [(⟨(k : Int), cosF e.Claim.Calendar e.follows x⟩ : GLine)])) 16 = true := by simp [roomB]; omega
   rw [hroom, cond_true, leI]
   have e1 : linF e.Claim.Calendar e.follows k (x :: r) = ⟨(k : Int), cosF e.Claim.Calendar e.follows x⟩ :: linF e.Claim.Calendar e.follows (k + 1) r := by rw [linF, if_neg c]
   rw [e1]
   by_cases d : cosF e.Claim.Calendar e.follows x ≤ 1000000000
   ·rw [decide_eq_true d, cond_true]
    refine does_mono (hr (k + 1, OL.own _) ⟨rfl, by simp; omega⟩) ?_
    rintro v ⟨e', hv⟩
    exact ⟨e', by rw [hv]; simp [linB, d]⟩
   ·rw [decide_eq_false d, cond_false]
    exact does_some ⟨_, by simp [linB, d]; rfl⟩
def sumF : Int → List GLine → Int
 | z, [] => z
 | z, x :: r => sumF (wi (z + x.Amount)) r
def capF : Int → List GArticle → Int
 | z, [] => z
 | z, a :: r => capF (if a.Kind = 5 then minI z a.Price else z) r
def taxF (net rate : Int) : Int := wi (Int.tdiv (wi (wi (wi (2 * net) * rate) + 10000)) 20000)
def netF (t : GTariff) (z : Int) (l : List GLine) : Int := capF (sumF z l) t.Articles
def bilF (t : GTariff) (rate z : Int) (l : List GLine) : GBill := ⟨l, netF t z l, taxF (netF t z l) rate, wi (netF t z l + taxF (netF t z l) rate)⟩
def bilB (b : GBill) : Bool := decide (b.Net ≤ 1000000000) && decide (b.Total ≤ 1000000000)
theorem a_add2 (n : Nat) (e : GAE) (z : Int) (hn : 1000 ≤ n) (hl : e.bill.Lines.length ≤ 900) : loopN (fun recl2 (v : Int × Int) => g_ae_add_l2 e recl2 v.1 v.2) n (0, z) = some (sumF z e.bill.Lines) := by
 refine loop_gen (l := e.bill.Lines) (fun (a : Int) i => (i, a)) (B := fun recl2 (v : Int × Int) => g_ae_add_l2 e recl2 v.1 v.2) (F := sumF) (fun _ _ => True) (by omega) ?_ ?_ (n := n) 0 z trivial (by omega) (by omega)
 ·intro rec a _
  have h : ltI ((e.bill.Lines.length : Nat) : Int) (lenI (List.map GLine.cs e.bill.Lines)) = false := by simp [ltI, lenI]
  show g_ae_add_l2 e rec ((e.bill.Lines.length : Nat) : Int) a = _
  unfold g_ae_add_l2
  rw [h]; rfl
 ·intro rec a i x r _ hd hx hi hw hr
  have h : ltI (i : Int) (lenI (List.map GLine.cs e.bill.Lines)) = true := by simp [ltI, lenI]; omega
  show g_ae_add_l2 e rec (i : Int) a = _
  unfold g_ae_add_l2
  rw [h, cond_true, getI_nat, hx, Option.bind_some, hw, hr _ trivial]; rfl
theorem a_add5 (n : Nat) (e : GAE) (z : Int) (hn : 1000 ≤ n) (hl : e.Claim.Tariff.Articles.length ≤ 900) : loopN (fun recl5 (v : Int × Int) => g_ae_add_l5 e recl5 v.1 v.2) n (0, z) = some (capF z e.Claim.Tariff.Articles) := by
 refine loop_gen (l := e.Claim.Tariff.Articles) (fun (a : Int) i => (i, a)) (B := fun recl5 (v : Int × Int) => g_ae_add_l5 e recl5 v.1 v.2) (F := capF) (fun _ _ => True) (by omega) ?_ ?_ (n := n) 0 z trivial (by omega) (by omega)
 ·intro rec a _
  have h : ltI ((e.Claim.Tariff.Articles.length : Nat) : Int) (lenI (List.map GArticle.cs e.Claim.Tariff.Articles)) = false := by simp [ltI, lenI]
  show g_ae_add_l5 e rec ((e.Claim.Tariff.Articles.length : Nat) : Int) a = _
  unfold g_ae_add_l5
  rw [h]; rfl
 ·intro rec a i x r _ hd hx hi hw hr
  have h : ltI (i : Int) (lenI (List.map GArticle.cs e.Claim.Tariff.Articles)) = true := by simp [ltI, lenI]; omega
  show g_ae_add_l5 e rec (i : Int) a = _
  unfold g_ae_add_l5
  rw [h, cond_true, getI_nat, hx, Option.bind_some, hw, hr _ trivial, hr _ trivial, eqI_d, capF]
  by_cases c : x.Kind = 5 <;> simp [c]
theorem a_add (n : Nat) (e : GAE) (hn : 1000 ≤ n) (hl : e.bill.Lines.length ≤ 900) (h4 : e.Claim.Tariff.Articles.length ≤ 900) :
  ∃ e', g_ae_add n e = some (if bilB (bilF e.Claim.Tariff e.rate e.bill.Net e.bill.Lines) then .ok ⟨e.Claim, e.follows, bilF e.Claim.Tariff e.rate e.bill.Net e.bill.Lines, e.rate⟩ else .error (5, e')) := by
 unfold g_ae_add
 have g1 := a_add2 n e e.bill.Net hn hl
 have g2 := a_add5 n e (sumF e.bill.Net e.bill.Lines) hn h4
 have k1 : ∀ (k : Int → Option (Except (Int × GAE) GAE)), (loopN (fun recl2 x => g_ae_add_l2 e recl2 x.1 x.2) n (0, e.bill.Net)).bind k = k (sumF e.bill.Net e.bill.Lines) := fun k => by rw [g1]; rfl
 have k2 : ∀ (k : Int → Option (Except (Int × GAE) GAE)), (loopN (fun recl5 x => g_ae_add_l5 e recl5 x.1 x.2) n (0, sumF e.bill.Net e.bill.Lines)).bind k = k (capF (sumF e.bill.Net e.bill.Lines) e.Claim.Tariff.Articles) := fun k => by rw [g2]; rfl
 rw [k1, k2]
 rw [show capF (sumF e.bill.Net e.bill.Lines) e.Claim.Tariff.Articles = netF e.Claim.Tariff e.bill.Net e.bill.Lines from rfl]
 unfold bilB bilF
 generalize netF e.Claim.Tariff e.bill.Net e.bill.Lines = w
 rw [show wi (Int.tdiv (wi (wi (wi (2 * w) * e.rate) + 10000)) 20000) = taxF w e.rate from rfl]
 generalize taxF w e.rate = t
 rw [a_need, Option.bind_some, exc_need, a_need, Option.bind_some, exc_need, leI, leI]
 generalize wi (w + t) = tt
 by_cases c1 : w ≤ 1000000000
 ·by_cases c2 : tt ≤ 1000000000
  ·exact ⟨e, by simp [c1, c2]⟩
  ·exact ⟨_, by simp [c1, c2]; rfl⟩
 ·exact ⟨_, by simp [c1]; rfl⟩
end Go.Proofs
namespace Go.Proofs
open Go Go.Abs
set_option maxRecDepth 100000
set_option linter.unusedVariables false
theorem wi_b (x : Int) : i64b (wi x) := by
 simp only [i64b, wi, IntKind.wrap, IntKind.signed, IntKind.bits]
 simp
 omega
theorem artB_unit {a : GArticle} (h : artB a = true) (hk : a.Kind = 3 ∨ a.Kind = 4) : a.Unit ≠ 0 := by
 intro hu
 unfold artB g_a_validArticle at h
 simp only [a_inside, cond_some, Option.bind_some, Option.getD_some, eqI_d, hu] at h
 rcases hk with hk | hk <;> simp [hk] at h
theorem tarB_all : ∀ {l : List GArticle} {k : Int}, tarB k l = true → ∀ a ∈ l, artB a = true
 | [], _, _, a, ha => by cases ha
 | x :: r, k, h, a, ha => by
  simp only [tarB, Bool.and_eq_true] at h
  rcases List.mem_cons.1 ha with rfl | ha
  ·exact h.1
  ·exact tarB_all h.2 a ha
theorem derF_end (m0 : Int) : ∀ (l : List GReading) (p : GReading) (e : Int) (sl : List GSlice), i64b e → i64b (derF m0 p e sl l).1
 | [], p, e, sl, h => h
 | x :: r, p, e, sl, h => by
  unfold derF
  refine derF_end m0 r x _ _ ?_
  unfold derS addS
  split
  ·split
   ·exact h
   ·split
    ·split
     ·exact h
     ·exact wi_b _
    ·exact wi_b _
  ·exact h
def linesOf (c : GClaim) : List GLine := linF c.Calendar (sesF c.Readings) 0 c.Tariff.Articles
def billOf (c : GClaim) : GBill := bilF c.Tariff (rateF 0 c.Tariff.Articles) 0 (linesOf c)
open Classical in
noncomputable def exa (c : GClaim) (own : Bool) : Int :=
 if ¬ chainOk c.Seed c.Readings then 1
 else if tariffB c.Tariff = false then 2
 else if calB c.Calendar = false then 2
 else if sesB (sesF c.Readings) = false then 3
 else if own = true ∧ c.Session ≠ sesF c.Readings then 3
 else if linB (linesOf c) = false then 4
 else if own = true ∧ c.Bill.Lines ≠ linesOf c then 4
 else if bilB (billOf c) = false then 5
 else if own = true ∧ ¬ (c.Bill.Net = (billOf c).Net ∧ c.Bill.Tax = (billOf c).Tax ∧ c.Bill.Total = (billOf c).Total) then 5
 else 0
theorem linF_len (c : GCalendar) (s : GSession) : ∀ (l : List GArticle) (i : Nat), (linF c s i l).length ≤ l.length
 | [], _ => by simp [linF]
 | a :: r, i => by
  have := linF_len c s r (i + 1)
  unfold linF
  split <;> simp <;> omega
theorem a_j12 (n : Nat) (c : GClaim) (own : Bool) (r : GAE) (hn : 1000 ≤ n) (hl : r.bill.Lines.length ≤ 900) (h4 : r.Claim.Tariff.Articles.length ≤ 900) (b : GBill) (hb : bilF r.Claim.Tariff r.rate r.bill.Net r.bill.Lines = b) :
  ∃ e', g_a_examine_j12 n c own r = some (e', if bilB b = false then 5 else if own = true ∧ ¬ (c.Bill.Net = b.Net ∧ c.Bill.Tax = b.Tax ∧ c.Bill.Total = b.Total) then 5 else 0) ∧ (bilB b = true → e'.bill = b) := by
 obtain ⟨e1, g1⟩ := a_add n r hn hl h4
 rw [hb] at g1
 unfold g_a_examine_j12
 rw [g1, Option.bind_some]
 cases h : bilB b
 ·simp only [Bool.false_eq_true, if_false, exc, if_true]
  exact ⟨_, rfl, fun h => by cases h⟩
 ·simp only [if_true, exc, Bool.true_eq_false, if_false, a_need, Option.bind_some, eqI_d]
  cases own
  ·exact ⟨_, rfl, fun _ => rfl⟩
  ·simp only [Bool.not_true, cond_false, true_and]
   by_cases c1 : c.Bill.Net = b.Net
   ·by_cases c2 : c.Bill.Tax = b.Tax
    ·by_cases c3 : c.Bill.Total = b.Total
     ·simp only [c1, c2, c3, decide_true, cond_true, needE, if_true, and_self, not_true_eq_false, if_false]
      exact ⟨_, rfl, fun _ => rfl⟩
     ·simp only [c1, c2, c3, decide_true, decide_false, cond_true, needE, if_true, and_false, not_false_eq_true, if_false, Bool.false_eq_true]
      exact ⟨_, rfl, fun _ => rfl⟩
    ·simp only [c1, c2, decide_true, decide_false, cond_true, cond_false, needE, if_true, and_false, false_and, not_false_eq_true, if_false, Bool.false_eq_true]
     exact ⟨_, rfl, fun _ => rfl⟩
   ·simp only [c1, decide_false, cond_false, needE, if_true, false_and, not_false_eq_true, if_false, Bool.false_eq_true]
    exact ⟨_, rfl, fun _ => rfl⟩
theorem a_j9 (n : Nat) (c : GClaim) (own : Bool) (hn : 36893488147419103232 ≤ n) (h1 : chainOk c.Seed c.Readings) (h2 : tariffB c.Tariff = true) (h3 : calB c.Calendar = true) (h4 : sesB (sesF c.Readings) = true) :
  ∃ e', g_a_examine_j9 n c own ⟨c, sesF c.Readings, ⟨[], 0, 0, 0⟩, rateF 0 c.Tariff.Articles⟩ = some (e', if linB (linesOf c) = false then 4 else if own = true ∧ c.Bill.Lines ≠ linesOf c then 4 else if bilB (billOf c) = false then 5 else if own = true ∧ ¬ (c.Bill.Net = (billOf c).Net ∧ c.Bill.Tax = (billOf c).Tax ∧ c.Bill.Total = (billOf c).Total) then 5 else 0) ∧
   ((if linB (linesOf c) = false then 4 else if own = true ∧ c.Bill.Lines ≠ linesOf c then 4 else if bilB (billOf c) = false then 5 else if own = true ∧ ¬ (c.Bill.Net = (billOf c).Net ∧ c.Bill.Tax = (billOf c).Tax ∧ c.Bill.Total = (billOf c).Total) then 5 else 0) = (0 : Int) → e'.bill = billOf c) := by
 have hn' : 1000 ≤ n := by omega
 simp only [calB, Bool.and_eq_true, decide_eq_true_eq] at h3
 simp only [tariffB, Bool.and_eq_true, decide_eq_true_eq] at h2
 have h4' := h4
 simp only [sesB, Bool.and_eq_true, decide_eq_true_eq] at h4'
 have hb : i64b (sesF c.Readings).From ∧ i64b (sesF c.Readings).To ∧ i64b (sesF c.Readings).End := by
  have hm : ∀ x ∈ c.Readings, i64b x.Minute := by
   intro x hx
   obtain ⟨i, hi, hxi⟩ := List.mem_iff_getElem.1 hx
   have := (h1.2 i hi x (by rw [List.getElem?_eq_getElem hi, hxi]; rfl)).2.2.1
   unfold i64b; omega
  cases hl : c.Readings with
  | nil => rw [hl] at h4; exact absurd h4 (by decide)
  | cons x r =>
   rw [hl] at hm
   exact ⟨hm x (by simp), hm _ (List.getLast_mem _), derF_end _ _ _ _ _ (hm x (by simp))⟩
 have hll := linF_len c.Calendar (sesF c.Readings) c.Tariff.Articles 0
 obtain ⟨e1, g1⟩ := a_price n (⟨c, sesF c.Readings, ⟨[], 0, 0, 0⟩, rateF 0 c.Tariff.Articles⟩ : GAE) hn (by simp only; omega) (by simp only; omega) (by simp only; omega) (by simp only; omega) (fun a ha => artB_unit (tarB_all h2.2 a ha)) hb.1 hb.2.1 hb.2.2
 simp only at g1
 obtain ⟨e2, g2, g3⟩ := a_j12 n c own (⟨c, sesF c.Readings, ⟨linesOf c, 0, 0, 0⟩, rateF 0 c.Tariff.Articles⟩ : GAE) hn' (by simp only [linesOf]; omega) (by simp only; omega) (billOf c) rfl
 unfold g_a_examine_j9
 simp only
 rw [g1, Option.bind_some]
 change ∃ e', (exc _ _ (if linB (linesOf c) = true then _ else _)) = _ ∧ _
 cases h5 : linB (linesOf c)
 ·simp only [Bool.false_eq_true, if_false, exc, if_true]
  exact ⟨_, rfl, fun h => absurd h (by decide)⟩
 ·simp only [if_true, exc, Bool.true_eq_false, if_false, a_need, Option.bind_some]
  cases own
  ·simp only [Bool.not_false, cond_true, needE, if_true, Bool.false_eq_true, false_and, if_false] at g2 ⊢
   refine ⟨e2, g2, fun h => g3 ?_⟩
   cases h6 : bilB (billOf c)
   ·rw [h6] at h; exact absurd h (by decide)
   ·rfl
  ·rw [a_sameLine n _ _ hn' (by omega)]
   simp only [Bool.not_true, cond_false, Option.bind_some, true_and] at g2 ⊢
   by_cases h7 : c.Bill.Lines = linesOf c
   ·simp only [h7, ne_eq, not_true_eq_false, if_false]
    rw [show decide (linesOf c = linF c.Calendar (sesF c.Readings) 0 c.Tariff.Articles) = true from decide_eq_true rfl]
    simp only [needE, if_true]
    refine ⟨e2, g2, fun h => g3 ?_⟩
    cases h6 : bilB (billOf c)
    ·rw [h6, if_pos rfl] at h; exact absurd h (by decide)
    ·rfl
   ·rw [decide_eq_false (show ¬ c.Bill.Lines = linF c.Calendar (sesF c.Readings) 0 c.Tariff.Articles from h7)]
    simp only [needE, Bool.false_eq_true, if_false, h7, ne_eq, not_false_eq_true, if_true]
    exact ⟨_, rfl, fun h => absurd h (by decide)⟩
theorem a_examine (n : Nat) (c : GClaim) (own : Bool) (hn : 36893488147419103232 ≤ n) : ∃ e', g_a_examine n c own = some (e', exa c own) ∧ (exa c own = 0 → e'.bill = billOf c) := by
 have hn' : 1000 ≤ n := by omega
 unfold g_a_examine exa
 rw [a_chained n _ hn', Option.bind_some]
 by_cases h1 : chainOk c.Seed c.Readings
 rotate_left
 ·rw [okE_f h1, if_pos h1]
  exact ⟨_, rfl, fun h => absurd h (by decide)⟩
 rw [okE_t h1, if_neg (not_not_intro h1)]
 simp only [exc]
 obtain ⟨e1, g1⟩ := a_tariffed n (⟨c, (⟨0, 0, 0, []⟩ : GSession), (⟨[], 0, 0, 0⟩ : GBill), 0⟩ : GAE) hn'
 rw [g1, Option.bind_some]
 simp only
 cases h2 : tariffB c.Tariff
 ·simp only [Bool.false_eq_true, if_false, if_true]
  exact ⟨_, rfl, fun h => absurd h (by decide)⟩
 simp only [if_true, Bool.true_eq_false, if_false, tarM, exc]
 rw [a_dated n _ hn', Option.bind_some]
 simp only
 cases h3 : calB c.Calendar
 ·simp only [if_true, needE, Bool.false_eq_true, if_false]
  exact ⟨_, rfl, fun h => absurd h (by decide)⟩
 simp only [if_true, needE, Bool.true_eq_false, if_false, exc]
 have hne : c.Readings ≠ [] := by intro h; have := h1.1.1; rw [h] at this; simp at this
 obtain ⟨e2, g2⟩ := a_derive n (⟨c, (⟨0, 0, 0, []⟩ : GSession), (⟨[], 0, 0, 0⟩ : GBill), rateF 0 c.Tariff.Articles⟩ : GAE) hn' hne h1.1.2
 rw [g2, Option.bind_some]
 simp only
 cases h4 : sesB (sesF c.Readings)
 ·simp only [Bool.false_eq_true, if_false, if_true]
  exact ⟨_, rfl, fun h => absurd h (by decide)⟩
 simp only [if_true, Bool.true_eq_false, if_false, exc]
 obtain ⟨e3, g3, g4⟩ := a_j9 n c own hn h1 h2 h3 h4
 cases own
 ·simp only [Bool.false_eq_true, false_and, if_false, cond_false] at g3 g4 ⊢
  exact ⟨e3, g3, g4⟩
 ·have h48 : (sesF c.Readings).Slices.length ≤ 900 := by
   simp only [sesB, Bool.and_eq_true, decide_eq_true_eq] at h4
   omega
  rw [cond_true, a_compared n _ hn' h48, Option.bind_some]
  simp only [true_and] at g3 g4 ⊢
  by_cases h7 : c.Session = sesF c.Readings
  ·simp only [h7, decide_true, needE, if_true, exc, ne_eq, not_true_eq_false, if_false]
   exact ⟨e3, g3, g4⟩
  ·simp only [h7, decide_false, needE, if_true, exc, ne_eq, not_false_eq_true, if_false, Bool.false_eq_true]
   exact ⟨_, rfl, fun h => absurd h (by decide)⟩
end Go.Proofs
namespace Go.Proofs
open Go Go.Abs
set_option maxRecDepth 100000
set_option linter.unusedVariables false
structure Zero (c : GClaim) : Prop where
 h1 : chainOk c.Seed c.Readings
 h2 : tariffB c.Tariff = true
 h3 : calB c.Calendar = true
 h4 : sesB (sesF c.Readings) = true
 h5 : c.Session = sesF c.Readings
 h6 : linB (linesOf c) = true
 h7 : c.Bill.Lines = linesOf c
 h8 : bilB (billOf c) = true
 h9 : c.Bill.Net = (billOf c).Net ∧ c.Bill.Tax = (billOf c).Tax ∧ c.Bill.Total = (billOf c).Total
theorem exa_zero {c : GClaim} (h : exa c true = 0) : Zero c := by
 unfold exa at h
 split at h; · cases h
 split at h; · cases h
 split at h; · cases h
 split at h; · cases h
 split at h; · cases h
 split at h; · cases h
 split at h; · cases h
 split at h; · cases h
 split at h; · cases h
 rename_i a1 a2 a3 a4 a5 a6 a7 a8 a9
 exact ⟨Classical.not_not.1 a1, by simpa using a2, by simpa using a3, by simpa using a4, by simpa using a5, by simpa using a6, by simpa using a7, by simpa using a8, by simpa using a9⟩
theorem a_verify (n : Nat) (c : GClaim) (hn : 36893488147419103232 ≤ n) : g_a_Verify n c = some (exa c true) := by
 obtain ⟨e, g, _⟩ := a_examine n c true hn
 unfold g_a_Verify
 rw [g]; rfl
theorem a_few (n : Nat) (c : GClaim) : ∃ b, g_ref43_Few n c = some b ∧ (b = true → c.Tariff.Articles.length ≤ 20 ∧ c.Session.Slices.length ≤ 60 ∧ c.Readings.length ≤ 80 ∧ c.Bill.Lines.length ≤ 40 ∧ c.Calendar.Changes.length ≤ 30 ∧ c.Calendar.Holidays.length ≤ 60 ∧ c.Tariff.Name.length ≤ 50) := by
 unfold g_ref43_Few g_ref33_Few g_ref26_Few
 simp only [cond_some, Option.bind_some, lenI, List.length_map, leI]
 refine ⟨_, rfl, fun h => ?_⟩
 simp [Bool.cond_eq_ite] at h
 omega
end Go.Proofs
namespace Go.Proofs
open Go Go.Abs
set_option maxRecDepth 100000
set_option linter.unusedVariables false
theorem a_sameBill (n : Nat) (a b : GBill) (hn : 1000 ≤ n) (hl : b.Lines.length ≤ 900) : g_ref33_Same n a b = some (decide (a = b)) := by
 obtain ⟨al, an, at', ao⟩ := a
 obtain ⟨bl, bn, bt, bo⟩ := b
 unfold g_ref33_Same
 simp only [lenI, List.length_map, eqI_d] at hl ⊢
 by_cases h : al.length = bl.length
 rotate_left
 ·have h' : ¬ (al.length : Int) = bl.length := by omega
  have h2 : ¬ al = bl := fun h3 => h (by rw [h3])
  simp [h', h2]
 ·rw [decide_eq_true (show (al.length : Int) = bl.length from by omega), Bool.not_true, cond_false]
  have := loop_gen (l := al) (fun (_ : List GLine) i => i) (B := fun recl4 l4 => g_ref33_Same_l4 ⟨al, an, at', ao⟩ ⟨bl, bn, bt, bo⟩ recl4 l4) (F := fun q r => decide (r = q) && (decide (an = bn) && (decide (at' = bt) && decide (ao = bo)))) (fun i q => bl.drop i = q) (by omega) ?_ ?_ (n := n) 0 bl (by simp) (by omega) (by omega)
  ·rw [show (((0 : Nat) : Int)) = 0 from rfl] at this
   rw [this]
   simp
  ·intro rec q hq
   simp only [g_ref33_Same_l4, g_ref33_Same_j1, lenI, List.length_map, ltI, eqI_d]
   rw [decide_eq_false (by omega), cond_false]
   rw [h, List.drop_length] at hq
   subst hq
   by_cases k1 : an = bn <;> by_cases k2 : at' = bt <;> by_cases k3 : ao = bo <;> simp [k1, k2, k3]
  ·intro rec q i x r hq hd hx hi hw hr
   have hb : bl[i]? = some bl[i] := by rw [List.getElem?_eq_getElem]
   have hq2 : q = bl[i] :: bl.drop (i + 1) := by rw [← hq, List.drop_eq_getElem_cons (by omega)]
   simp only [g_ref33_Same_l4, lenI, List.length_map, ltI, getI_nat, hx, hb, Option.bind_some, eqI_d, opq, hw]
   rw [decide_eq_true (by omega), cond_true, hr _ rfl, hq2]
   obtain ⟨xm, xe⟩ := x
   generalize bl[i] = y
   obtain ⟨ym, ye⟩ := y
   by_cases h1 : xm = ym <;> by_cases h2 : xe = ye <;> simp [h1, h2]
end Go.Proofs
namespace Go.Proofs
open Go Go.Abs
set_option maxRecDepth 100000
set_option linter.unusedVariables false
def ks : List Nat := [56, 48, 40, 32, 24, 16, 8, 0]
end Go.Proofs
namespace Go.Proofs
open Go Go.Abs
set_option maxRecDepth 100000
set_option linter.unusedVariables false
theorem and255 (w : Int) (h0 : 0 ≤ w) (h1 : w ≤ 18446744073709551615) : bAnd .u64 w 255 = w % 256 := by
 obtain ⟨k, rfl⟩ : ∃ k : Nat, w = (k : Int) := ⟨w.toNat, by omega⟩
 have hb : (BitVec.ofInt 64 (k : Int) &&& BitVec.ofInt 64 255).toNat = k % 256 := by
  rw [BitVec.toNat_and, BitVec.ofInt_natCast, BitVec.toNat_ofNat, show (BitVec.ofInt 64 255).toNat = 2 ^ 8 - 1 from by decide, Nat.and_two_pow_sub_one_eq_mod, Nat.mod_eq_of_lt (by omega : k < 2 ^ 64)]
 have : bAnd .u64 (k : Int) 255 = wu ((BitVec.ofInt 64 (k : Int) &&& BitVec.ofInt 64 255).toNat : Int) := rfl
 rw [this, hb]
 simp only [wu, IntKind.wrap, IntKind.signed, IntKind.bits]
 simp
 omega
theorem shrU (w : Int) (k : Nat) (hk : k ≤ 64) : shrI .u64 w (k : Int) = w / 2 ^ k := by
 unfold shrI
 rw [show min ((k : Int)).toNat IntKind.u64.bits = k from by rw [Int.toNat_natCast]; exact Nat.min_eq_left hk]
 rw [Int.fdiv_eq_ediv_of_nonneg _ (by exact_mod_cast Nat.zero_le _)]
theorem wu_range (x : Int) : 0 ≤ wu x ∧ wu x ≤ 18446744073709551615 := by
 simp only [wu, IntKind.wrap, IntKind.signed, IntKind.bits]
 simp
 omega
def fitP (l : List GReading) (i : Nat) : Prop := i < 64 ∧ ∀ r ∈ l[i]?, (1 ≤ r.Serial ∧ r.Serial ≤ 1000000) ∧ r.Number = i + 1 ∧ (0 ≤ r.Minute ∧ r.Minute ≤ 52560000) ∧ (0 ≤ r.Register ∧ r.Register ≤ 1000000000) ∧
 (i ≠ 0 → ∀ a ∈ l[i - 1]?, folB a r = true)
theorem chain_fit (seed : Int) (l : List GReading) (i : Nat) (hi : i < l.length) : (i < 64 ∧ chainAt seed l i) ↔ fitP l i ∧ ∀ r ∈ l[i]?, r.Link = linkF (prevLink seed l i) r := by
 unfold chainAt fitP
 constructor
 ·rintro ⟨h1, h2⟩
  exact ⟨⟨h1, fun r hr => ⟨(h2 r hr).1, (h2 r hr).2.1, (h2 r hr).2.2.1, (h2 r hr).2.2.2.1, (h2 r hr).2.2.2.2.1⟩⟩, fun r hr => (h2 r hr).2.2.2.2.2⟩
 ·rintro ⟨⟨h1, h2⟩, h3⟩
  exact ⟨h1, fun r hr => ⟨(h2 r hr).1, (h2 r hr).2.1, (h2 r hr).2.2.1, (h2 r hr).2.2.2.1, (h2 r hr).2.2.2.2, h3 r hr⟩⟩
end Go.Proofs
namespace Go.Proofs
open Go Go.Abs
set_option maxRecDepth 100000
set_option linter.unusedVariables false
def keyL : List (List UInt8) := ((g_ref02_Kinds 0).getD []) ++ (((g_ref02_Attrs 0).getD []) ++ (((g_ref02_Articles 0).getD []) ++ ((g_ref02_Words 0).getD [])))
theorem cse (b c : Bool) : (bif b then b else c) = (b || c) := by cases b <;> rfl
theorem cst (b c : Bool) : (bif b then true else c) = (b || c) := by cases b <;> rfl
def keyA : List (List UInt8) := [[102, 101, 101, 100, 101, 114], [99, 97, 98, 108, 101], [111, 119, 110, 101, 114], [99, 111, 110, 116, 114, 97, 99, 116], [99, 104, 97, 114, 103, 101, 114], [98, 97, 121], [116, 97, 114, 105, 102, 102], [108, 105, 109, 105, 116], [110, 101, 117, 116, 114, 97, 108], [102, 117, 115, 101], [116, 104, 101, 114, 109, 97, 108], [102, 114, 111, 109], [97, 116], [112, 104, 97, 115, 101, 115], [97, 109, 112, 115], [102, 97, 108, 108, 98, 97, 99, 107], [99, 97, 114, 100], [114, 97, 110, 107], [115, 116, 97, 114, 116], [101, 110, 101, 114, 103, 121], [116, 105, 109, 101], [105, 100, 108, 101], [99, 97, 112], [116, 97, 120], [111, 110], [119, 111, 114, 107], [115, 97, 116, 117, 114, 100, 97, 121], [115, 117, 110, 100, 97, 121], [98, 101, 116, 119, 101, 101, 110], [112, 101, 114], [102, 114, 101, 101]]
theorem keyB_any (s : List UInt8) : keyB s = keyA.contains s := by
 unfold keyB g_a_isKey keyA
 simp only [cond_some, Option.bind_some, Option.getD_some, cse, cst, eqS, List.contains_cons, List.contains_nil, Bool.or_assoc, Bool.or_false]
theorem keyB_mem (s : List UInt8) : keyB s = keyL.contains s := by
 rw [keyB_any, Bool.eq_iff_iff, List.contains_iff_mem, List.contains_iff_mem]
 have h1 : ∀ x ∈ keyA, x ∈ keyL := by decide
 have h2 : ∀ x ∈ keyL, x ∈ keyA := by decide
 exact ⟨h1 s, h2 s⟩
theorem r_article (n : Nat) (a : GArticle) : g_ref32_Article n a = some (artB a) := by
 unfold g_ref32_Article artB g_a_validArticle
 simp only [a_inside, cond_some, Option.bind_some, Option.getD_some, eqI_d, ltI, leI]
 rw [Option.some.injEq, Bool.eq_iff_iff]
 obtain ⟨k, d, f, t, p, u, v⟩ := a
 simp only [Bool.cond_eq_ite]
 by_cases k1 : k = 1
 ·subst k1; simp; omega
 by_cases k2 : k = 2
 ·subst k2; simp; omega
 by_cases k3 : k = 3
 ·subst k3; simp; omega
 by_cases k4 : k = 4
 ·subst k4; simp; omega
 by_cases k5 : k = 5
 ·subst k5; simp; omega
 by_cases k6 : k = 6
 ·subst k6; simp; omega
 simp [k1, k2, k3, k4, k5, k6]
 omega
theorem r_off (n : Nat) (x : Int) : g_ref26_offset n x = some (decide (-1440 ≤ x ∧ x ≤ 1440)) := by
 unfold g_ref26_offset
 by_cases h : -1440 ≤ x <;> simp [leI, h]
theorem r_cal5 (n : Nat) (c : GCalendar) (hn : 1000 ≤ n) (hl : c.Holidays.length ≤ 900) : g_ref26_Valid_j5 n c = some (holB (-1) c.Holidays) := by
 unfold g_ref26_Valid_j5
 have := loop_gen (l := c.Holidays) (fun (_ : Int) i => i) (B := fun recl6 l6 => g_ref26_Valid_l6 c recl6 l6) (F := holB) (fun i a => -1 ≤ a ∧ (i = 0 → a = -1) ∧ (i ≠ 0 → c.Holidays[i - 1]? = some a)) (by omega) ?_ ?_ (n := n) 0 (-1) (by simp) (by omega) (by omega)
 ·exact this
 ·intro rec a ha
  simp only [g_ref26_Valid_l6, lenI, List.length_map, ltI]
  rw [decide_eq_false (by omega), cond_false]
  rfl
 ·intro rec a i x r ha hd hx hi hw hr
  simp only [g_ref26_Valid_l6, lenI, List.length_map, ltI, leI, getI_nat, hx, Option.bind_some, hw]
  rw [decide_eq_true (by omega), cond_true, holB]
  by_cases c1 : x < 0
  ·rw [decide_eq_true c1]
   simp only [cond_true, Option.bind_some]
   rw [decide_eq_false (show ¬ (a < x ∧ x ≤ 36500) by omega)]; rfl
  rw [decide_eq_false c1, cond_false]
  by_cases c2 : 36500 < x
  ·rw [decide_eq_true c2]
   simp only [cond_true, Option.bind_some]
   rw [decide_eq_false (show ¬ (a < x ∧ x ≤ 36500) by omega)]; rfl
  rw [decide_eq_false c2, cond_false]
  have hrr := hr x ⟨by omega, by omega, fun _ => by simpa using hx⟩
  by_cases c3 : i = 0
  ·rw [decide_eq_false (show ¬ (0 : Int) < i by omega)]
   simp only [cond_false, Option.bind_some]
   rw [hrr, decide_eq_true (show a < x ∧ x ≤ 36500 by have := ha.2.1 c3; omega)]; rfl
  ·rw [decide_eq_true (show (0 : Int) < i by omega), cond_true, show wi ((i : Int) - 1) = ((i - 1 : Nat) : Int) from by rw [wi_id] <;> omega, getI_nat, ha.2.2 c3]
   simp only [Option.bind_some]
   by_cases c4 : x ≤ a
   ·rw [decide_eq_true c4, cond_true, decide_eq_false (show ¬ (a < x ∧ x ≤ 36500) by omega)]; rfl
   ·rw [decide_eq_false c4, cond_false, hrr, decide_eq_true (show a < x ∧ x ≤ 36500 by omega)]; rfl
theorem r_cal (n : Nat) (c : GCalendar) (hn : 1000 ≤ n) (h1 : c.Changes.length ≤ 900) (h2 : c.Holidays.length ≤ 900) : g_ref26_Valid n c = some (calB c) := by
 have key : loopN (fun recl13 l13 => g_ref26_Valid_l13 n c recl13 l13) n 0 = some (chgB (-1) c.Changes && holB (-1) c.Holidays) := by
  have := loop_gen (l := c.Changes) (fun (_ : Int) i => i) (B := fun recl13 l13 => g_ref26_Valid_l13 n c recl13 l13) (F := fun a r => chgB a r && holB (-1) c.Holidays) (fun i a => -1 ≤ a ∧ (i = 0 → a = -1) ∧ (i ≠ 0 → ∃ x, c.Changes[i - 1]? = some x ∧ x.At = a)) (by omega) ?_ ?_ (n := n) 0 (-1) (by simp) (by omega) (by omega)
  ·exact this
  ·intro rec a ha
   simp only [g_ref26_Valid_l13, lenI, List.length_map, ltI]
   rw [decide_eq_false (by omega), cond_false, r_cal5 n c hn h2]
   rfl
  ·intro rec a i x r ha hd hx hi hw hr
   simp only [g_ref26_Valid_l13, lenI, List.length_map, ltI, leI, getI_nat, hx, Option.bind_some, hw, r_off]
   rw [decide_eq_true (by omega), cond_true, chgB]
   by_cases c0 : -1440 ≤ x.Offset ∧ x.Offset ≤ 1440
   rotate_left
   ·rw [decide_eq_false c0]
    simp only [Bool.not_false, cond_true, Option.bind_some]
    rw [decide_eq_false (show ¬ (a < x.At ∧ x.At ≤ 52560000 ∧ -1440 ≤ x.Offset ∧ x.Offset ≤ 1440) by omega)]; rfl
   rw [decide_eq_true c0, Bool.not_true, cond_false]
   by_cases c1 : x.At < 0
   ·rw [decide_eq_true c1]
    simp only [cond_true, Option.bind_some]
    rw [decide_eq_false (show ¬ (a < x.At ∧ x.At ≤ 52560000 ∧ -1440 ≤ x.Offset ∧ x.Offset ≤ 1440) by omega)]; rfl
   rw [decide_eq_false c1, cond_false]
   by_cases c2 : 52560000 < x.At
   ·rw [decide_eq_true c2]
    simp only [cond_true, Option.bind_some]
    rw [decide_eq_false (show ¬ (a < x.At ∧ x.At ≤ 52560000 ∧ -1440 ≤ x.Offset ∧ x.Offset ≤ 1440) by omega)]; rfl
   rw [decide_eq_false c2, cond_false]
   have hrr := hr x.At ⟨by omega, by omega, fun _ => ⟨x, by simpa using hx, rfl⟩⟩
   by_cases c3 : i = 0
   ·rw [decide_eq_false (show ¬ (0 : Int) < i by omega)]
    simp only [cond_false, Option.bind_some]
    rw [hrr, decide_eq_true (show a < x.At ∧ x.At ≤ 52560000 ∧ -1440 ≤ x.Offset ∧ x.Offset ≤ 1440 by have := ha.2.1 c3; omega)]; rfl
   ·obtain ⟨y, hy, hya⟩ := ha.2.2 c3
    rw [decide_eq_true (show (0 : Int) < i by omega), cond_true, show wi ((i : Int) - 1) = ((i - 1 : Nat) : Int) from by rw [wi_id] <;> omega, getI_nat, hy]
    simp only [Option.bind_some, hya]
    by_cases c4 : x.At ≤ a
    ·rw [decide_eq_true c4, cond_true, decide_eq_false (show ¬ (a < x.At ∧ x.At ≤ 52560000 ∧ -1440 ≤ x.Offset ∧ x.Offset ≤ 1440) by omega)]; rfl
    ·rw [decide_eq_false c4, cond_false, hrr, decide_eq_true (show a < x.At ∧ x.At ≤ 52560000 ∧ -1440 ≤ x.Offset ∧ x.Offset ≤ 1440 by omega)]; rfl
 unfold g_ref26_Valid calB
 rw [key]
 simp only [r_off, Option.bind_some, cond_some, lenI, List.length_map, ltI]
 by_cases c0 : -1440 ≤ c.Offset ∧ c.Offset ≤ 1440
 rotate_left
 ·rw [decide_eq_false c0]; rfl
 rw [decide_eq_true c0]
 by_cases c1 : c.Changes.length ≤ 16
 rotate_left
 ·rw [decide_eq_true (show (16 : Int) < c.Changes.length by omega), decide_eq_false c1]; rfl
 rw [decide_eq_false (show ¬ (16 : Int) < c.Changes.length by omega), decide_eq_true c1]
 by_cases c2 : c.Holidays.length ≤ 32
 rotate_left
 ·rw [decide_eq_true (show (32 : Int) < c.Holidays.length by omega), decide_eq_false c2]; rfl
 rw [decide_eq_false (show ¬ (32 : Int) < c.Holidays.length by omega), decide_eq_true c2]
 rfl
end Go.Proofs
namespace Go.Proofs
open Go Go.Abs
set_option maxRecDepth 100000
set_option linter.unusedVariables false
structure Art (a : GArticle) : Prop where
 days : 1 ≤ a.Days ∧ a.Days ≤ 7
 from_ : 0 ≤ a.From ∧ a.From ≤ 1439
 to_ : a.From < a.To ∧ a.To ≤ 1440
 price : 0 ≤ a.Price ∧ a.Price ≤ 1000000
 kind : 1 ≤ a.Kind ∧ a.Kind ≤ 6
 unit : a.Kind = 3 ∨ a.Kind = 4 → 1 ≤ a.Unit ∧ a.Unit ≤ 1440 ∧ 0 ≤ a.Free ∧ a.Free ≤ 1440
 rate : a.Kind = 6 → a.Price ≤ 10000
theorem artB_art {a : GArticle} (h : artB a = true) : Art a := by
 unfold artB g_a_validArticle at h
 simp only [a_inside, cond_some, Option.bind_some, Option.getD_some, eqI_d, ltI, leI] at h
 obtain ⟨k, d, f, t, p, u, v⟩ := a
 simp only [Bool.cond_eq_ite] at h
 by_cases k1 : k = 1
 ·subst k1; simp at h; constructor <;> simp <;> omega
 by_cases k2 : k = 2
 ·subst k2; simp at h; constructor <;> simp <;> omega
 by_cases k3 : k = 3
 ·subst k3; simp at h; constructor <;> simp <;> omega
 by_cases k4 : k = 4
 ·subst k4; simp at h; constructor <;> simp <;> omega
 by_cases k5 : k = 5
 ·subst k5; simp at h; constructor <;> simp <;> omega
 by_cases k6 : k = 6
 ·subst k6; simp at h; constructor <;> simp <;> omega
 exfalso
 simp [k3, k4, k5, k6] at h
 omega
theorem offF_range (m : Int) : ∀ (l : List GChange) (p o : Int), chgB p l = true → (-1440 ≤ o ∧ o ≤ 1440) → -1440 ≤ offF m o l ∧ offF m o l ≤ 1440
 | [], _, o, _, h => h
 | x :: r, p, o, hc, h => by
  simp only [chgB, Bool.and_eq_true, decide_eq_true_eq] at hc
  unfold offF
  refine offF_range m r x.At _ hc.2 ?_
  split
  ·exact ⟨hc.1.2.2.1, hc.1.2.2.2⟩
  ·exact h
theorem cal_off {c : GCalendar} (m : Int) (h : calB c = true) : -1440 ≤ offF m c.Offset c.Changes ∧ offF m c.Offset c.Changes ≤ 1440 := by
 simp only [calB, Bool.and_eq_true, decide_eq_true_eq] at h
 exact offF_range m _ _ _ h.1.2 h.1.1.1.1
theorem r_offset (n : Nat) (c : GCalendar) (m : Int) (hn : 1000 ≤ n) (hl : c.Changes.length ≤ 900) : g_ref26_Offset n c m = some (offF m c.Offset c.Changes) := by
 unfold g_ref26_Offset
 have := loop_acc (l := c.Changes) (B := fun recl1 (v : Int × Int) => g_ref26_Offset_l1 c m recl1 v.1 v.2) (F := offF m) (by omega) ?_ ?_ (n := n) 0 c.Offset (by omega) (by omega)
 ·exact this
 ·intro rec a; simp [g_ref26_Offset_l1, ltI, lenI, offF]
 ·intro rec a i x r hd hx hi hw hr
  simp only [g_ref26_Offset_l1, lenI, List.length_map, getI_nat, hx, Option.bind_some, hw, hr, ltI, leI, offF]
  rw [decide_eq_true (by omega), cond_true]
  by_cases h : x.At ≤ m <;> simp [h]
theorem r_type (n : Nat) (c : GCalendar) (d : Int) (hn : 1000 ≤ n) (h1 : c.Changes.length ≤ 900) (h2 : c.Holidays.length ≤ 900) (hc : calB c = true) (hd : -1 ≤ d ∧ d ≤ 36501) : g_ref26_Type n c d = some (typF d c.Holidays, 0) := by
 unfold g_ref26_Type
 rw [r_cal n c hn h1 h2, hc]
 simp only [Option.bind_some, Bool.not_true, cond_false, ltI]
 rw [decide_eq_false (show ¬ d < -1 by omega), cond_false, Option.bind_some, decide_eq_false (show ¬ 36501 < d by omega), cond_false]
 have := loop_list (l := c.Holidays) (B := fun recl6 l6 => g_ref26_Type_l6 c d recl6 l6) (F := fun r => (typF d r, (0 : Int))) (by omega) ?_ ?_ (n := n) 0 (by omega) (by omega)
 ·exact this
 ·intro rec
  simp only [g_ref26_Type_l6, g_ref26_Type_j5, lenI, List.length_map, ltI, eqI_d, typF, wkF]
  rw [decide_eq_false (by omega), cond_false]
  by_cases k1 : Int.tmod (wi (d + 7)) 7 = 5
  ·simp [k1]
  ·by_cases k2 : Int.tmod (wi (d + 7)) 7 = 6 <;> simp [k1, k2]
 ·intro rec i x r hd hx hi hw hr
  simp only [g_ref26_Type_l6, lenI, List.length_map, getI_nat, hx, Option.bind_some, hw, hr, ltI, eqI_d, typF]
  rw [decide_eq_true (by omega), cond_true]
  by_cases h : x = d <;> simp [h]
theorem days_lem (d t : Int) (hd : 1 ≤ d ∧ d ≤ 7) (ht : 0 ≤ t ∧ t ≤ 2) :
  (bif decide (t = 2) then decide (Int.tmod (wi (Int.tdiv d 4)) 2 = 1) else bif decide (t = 1) then decide (Int.tmod (wi (Int.tdiv d 2)) 2 = 1) else decide (Int.tmod d 2 = 1)) = !decide (bAnd .i64 d (shlI .i64 1 t) = 0) := by
 have hd' : d = 1 ∨ d = 2 ∨ d = 3 ∨ d = 4 ∨ d = 5 ∨ d = 6 ∨ d = 7 := by omega
 have ht' : t = 0 ∨ t = 1 ∨ t = 2 := by omega
 rcases hd' with rfl | rfl | rfl | rfl | rfl | rfl | rfl <;> rcases ht' with rfl | rfl | rfl <;> decide
theorem r_applies (n : Nat) (c : GCalendar) (a : GArticle) (m : Int) (hn : 1000 ≤ n) (h1 : c.Changes.length ≤ 900) (h2 : c.Holidays.length ≤ 900) (hc : calB c = true) (ha : artB a = true) (hm : 0 ≤ m ∧ m ≤ 52560000) :
  g_ref32_Applies n a c m = some (appB c a m) := by
 have ho := cal_off m hc
 have hA := artB_art ha
 have hloc : g_ref26_Local n c m = some ((m + offF m c.Offset c.Changes + 1440) / 1440 - 1, (m + offF m c.Offset c.Changes + 1440) % 1440, 0) := by
  unfold g_ref26_Local
  rw [r_cal n c hn h1 h2, hc]
  simp only [Option.bind_some, Bool.not_true, cond_false, ltI]
  rw [decide_eq_false (show ¬ m < 0 by omega), cond_false, Option.bind_some, decide_eq_false (show ¬ 52560000 < m by omega), cond_false, r_offset n c m hn h1, Option.bind_some]
  generalize offF m c.Offset c.Changes = o at ho
  rw [wi_id (x := m + o) (by omega) (by omega)]
  by_cases hneg : m + o < 0
  ·rw [decide_eq_true hneg, cond_true, wi_id (x := m + o - -1440) (by omega) (by omega)]
   congr 2
   ·omega
   ·congr 1
    omega
  ·rw [decide_eq_false hneg, cond_false, Int.tdiv_eq_ediv_of_nonneg (by omega)]
   rw [wi_id (x := (m + o) / 1440) (by omega) (by omega), wi_id (x := 1440 * ((m + o) / 1440)) (by omega) (by omega), wi_id (by omega) (by omega)]
   congr 2
   ·omega
   ·congr 1
    omega
 unfold g_ref32_Applies appB
 rw [r_article, ha, hloc]
 simp only [Option.bind_some, Bool.not_true, cond_false, eqI_d, decide_true]
 generalize offF m c.Offset c.Changes = o at ho
 rw [wi_id (x := m + o) (by omega) (by omega), wi_id (x := m + o + 1440) (by omega) (by omega)]
 rw [Int.tdiv_eq_ediv_of_nonneg (a := m + o + 1440) (by omega), Int.tmod_eq_emod_of_nonneg (a := m + o + 1440) (by omega)]
 rw [wi_id (x := (m + o + 1440) / 1440) (by omega) (by omega), wi_id (x := (m + o + 1440) / 1440 - 1) (by omega) (by omega)]
 rw [r_type n c _ hn h1 h2 hc (by omega)]
 simp only [Option.bind_some, cond_some, leI, ltI]
 rw [days_lem _ _ hA.days (typF_range _ _)]
 generalize decide (bAnd .i64 a.Days (shlI .i64 1 (typF ((m + o + 1440) / 1440 - 1) c.Holidays)) = 0) = b
 generalize decide (a.From ≤ (m + o + 1440) % 1440) = b1
 generalize decide ((m + o + 1440) % 1440 < a.To) = b2
 cases b <;> cases b1 <;> cases b2 <;> rfl
def cN (c : GCalendar) (a : GArticle) : Nat → Int → Int
 | 0, _ => 0
 | k + 1, m => (if appB c a m then 1 else 0) + cN c a k (m + 1)
theorem cN_range (c : GCalendar) (a : GArticle) : ∀ (k : Nat) (m : Int), 0 ≤ cN c a k m ∧ cN c a k m ≤ k
 | 0, _ => by simp [cN]
 | k + 1, m => by
  have := cN_range c a k (m + 1)
  unfold cN
  split <;> omega
theorem cntF_cN (c : GCalendar) (a : GArticle) : ∀ (k : Nat) (m z : Int), k ≤ 1000000 → -1000000 ≤ z ∧ z ≤ 2000000 - k → cntF c a k m z = z + cN c a k m
 | 0, m, z, _, _ => by simp [cntF, cN]
 | k + 1, m, z, hk, hz => by
  unfold cntF cN
  split
  ·rw [wi_id (by omega) (by omega), cntF_cN c a k (m + 1) (z + 1) (by omega) (by omega)]
   omega
  ·rw [cntF_cN c a k (m + 1) z (by omega) (by omega)]
   omega
theorem r_minutes (n : Nat) (c : GCalendar) (a : GArticle) (f t : Int) (hn : 10000 ≤ n) (h1 : c.Changes.length ≤ 900) (h2 : c.Holidays.length ≤ 900) (hc : calB c = true) (ha : artB a = true) (hf : 0 ≤ f) (ht : t ≤ 52560000) (hk : t - f ≤ 2880) :
  g_ref33_Minutes n a c f t = some (cN c a (t - f).toNat f) := by
 unfold g_ref33_Minutes
 have key : ∀ (k j : Nat) (z m : Int), (t - m).toNat = k → k < j → 0 ≤ m → k ≤ 2880 → 0 ≤ z ∧ z ≤ 3000 - k →
   loopN (fun recl1 (v : Int × Int) => g_ref33_Minutes_l1 n a c t recl1 v.1 v.2) j (z, m) = some (z + cN c a k m) := by
  intro k
  induction k with
  | zero =>
   intro j z m h3 h4 h5 h6 h7
   obtain ⟨j, rfl⟩ : ∃ j', j = j' + 1 := ⟨j - 1, by omega⟩
   unfold loopN
   simp only [g_ref33_Minutes_l1, ltI]
   rw [decide_eq_false (by omega), cond_false]
   simp [cN]
  | succ k ih =>
   intro j z m h3 h4 h5 h6 h7
   obtain ⟨j, rfl⟩ : ∃ j', j = j' + 1 := ⟨j - 1, by omega⟩
   have i0 := ih j z (m + 1) (by omega) (by omega) (by omega) (by omega) (by omega)
   have i1 := ih j (z + 1) (m + 1) (by omega) (by omega) (by omega) (by omega) (by omega)
   unfold loopN
   generalize loopN (fun recl1 (v : Int × Int) => g_ref33_Minutes_l1 n a c t recl1 v.1 v.2) j = L at i0 i1 ⊢
   show g_ref33_Minutes_l1 n a c t L z m = _
   unfold g_ref33_Minutes_l1
   simp only [ltI]
   rw [decide_eq_true (by omega), cond_true, r_applies n c a m (by omega) h1 h2 hc ha (by omega), Option.bind_some, wi_id (x := m + 1) (by omega) (by omega), wi_id (x := z + 1) (by omega) (by omega)]
   unfold cN
   cases appB c a m
   ·rw [cond_false, i0]
    simp
   ·rw [cond_true, i1]
    simp
    omega
 have := key (t - f).toNat n 0 f rfl (by omega) hf (by omega) (by omega)
 rw [Int.zero_add] at this
 exact this
def slB (f e : Int) : Int → List GSlice → Bool
 | _, [] => true
 | p, x :: r => decide (f ≤ x.Minute ∧ x.Minute < e ∧ 0 ≤ x.Energy ∧ x.Energy ≤ 10000 ∧ p < x.Minute) && slB f e x.Minute r
def valB (s : GSession) : Bool := decide (0 ≤ s.From ∧ s.From < s.To ∧ s.To ≤ 52560000 ∧ s.To - s.From ≤ 2880 ∧ s.From ≤ s.End ∧ s.End ≤ s.To ∧ s.Slices.length ≤ 48) && slB s.From s.End (s.From - 1) s.Slices
theorem r_session_valid (n : Nat) (s : GSession) (hn : 1000 ≤ n) (hl : s.Slices.length ≤ 900) (hb : i64b s.From) : g_ref33_Valid n s = some (valB s) := by
 unfold i64b at hb
 unfold g_ref33_Valid valB
 simp only [ltI, leI, lenI, List.length_map]
 have key : loopN (fun recl8 l8 => g_ref33_Valid_l8 s recl8 l8) n 0 = some (slB s.From s.End (s.From - 1) s.Slices) := by
  have := loop_gen (l := s.Slices) (fun (_ : Int) i => i) (B := fun recl8 l8 => g_ref33_Valid_l8 s recl8 l8) (F := slB s.From s.End) (fun i a => s.From - 1 ≤ a ∧ (i = 0 → a = s.From - 1) ∧ (i ≠ 0 → ∃ x, s.Slices[i - 1]? = some x ∧ x.Minute = a)) (by omega) ?_ ?_ (n := n) 0 (s.From - 1) (by simp) (by omega) (by omega)
  ·exact this
  ·intro rec a ha
   simp only [g_ref33_Valid_l8, lenI, List.length_map, ltI]
   rw [decide_eq_false (by omega), cond_false]
   rfl
  ·intro rec a i x r ha hd hx hi hw hr
   simp only [g_ref33_Valid_l8, lenI, List.length_map, ltI, leI, getI_nat, hx, Option.bind_some, hw]
   rw [decide_eq_true (by omega), cond_true, slB]
   by_cases c1 : x.Minute < s.From
   ·rw [decide_eq_true c1, cond_true, Option.bind_some, cond_true, decide_eq_false (by omega)]; rfl
   rw [decide_eq_false c1, cond_false]
   by_cases c2 : s.End ≤ x.Minute
   ·rw [decide_eq_true c2, cond_true, Option.bind_some, cond_true, decide_eq_false (by omega)]; rfl
   rw [decide_eq_false c2, cond_false]
   by_cases c3 : x.Energy < 0
   ·rw [decide_eq_true c3, cond_true, Option.bind_some, cond_true, decide_eq_false (by omega)]; rfl
   rw [decide_eq_false c3, cond_false]
   by_cases c4 : 10000 < x.Energy
   ·rw [decide_eq_true c4, cond_true, Option.bind_some, cond_true, decide_eq_false (by omega)]; rfl
   rw [decide_eq_false c4, cond_false]
   have hrr := hr x.Minute ⟨by omega, by omega, fun _ => ⟨x, by simpa using hx, rfl⟩⟩
   by_cases c5 : i = 0
   ·rw [decide_eq_false (show ¬ (0 : Int) < i by omega), cond_false, Option.bind_some, cond_false, hrr, decide_eq_true (show s.From ≤ x.Minute ∧ x.Minute < s.End ∧ 0 ≤ x.Energy ∧ x.Energy ≤ 10000 ∧ a < x.Minute by have := ha.2.1 c5; omega)]; rfl
   ·obtain ⟨y, hy, hya⟩ := ha.2.2 c5
    rw [decide_eq_true (show (0 : Int) < i by omega), cond_true, show wi ((i : Int) - 1) = ((i - 1 : Nat) : Int) from by rw [wi_id] <;> omega, getI_nat, hy]
    simp only [Option.bind_some, hya]
    by_cases c6 : x.Minute ≤ a
    ·rw [decide_eq_true c6, cond_true, decide_eq_false (show ¬ (s.From ≤ x.Minute ∧ x.Minute < s.End ∧ 0 ≤ x.Energy ∧ x.Energy ≤ 10000 ∧ a < x.Minute) by omega)]; rfl
    ·rw [decide_eq_false c6, cond_false, hrr, decide_eq_true (show s.From ≤ x.Minute ∧ x.Minute < s.End ∧ 0 ≤ x.Energy ∧ x.Energy ≤ 10000 ∧ a < x.Minute by omega)]; rfl
 rw [key]
 by_cases c1 : s.From < 0
 ·rw [decide_eq_true c1, cond_true, Option.bind_some, cond_true, decide_eq_false (by omega)]; rfl
 rw [decide_eq_false c1, cond_false]
 by_cases c2 : s.To ≤ s.From
 ·rw [decide_eq_true c2, cond_true, Option.bind_some, cond_true, decide_eq_false (by omega)]; rfl
 rw [decide_eq_false c2, cond_false]
 by_cases c3 : 52560000 < s.To
 ·rw [decide_eq_true c3, cond_true, Option.bind_some, cond_true, decide_eq_false (by omega)]; rfl
 rw [decide_eq_false c3, cond_false, wi_id (x := s.To - s.From) (by omega) (by omega)]
 by_cases c4 : 2880 < s.To - s.From
 ·rw [decide_eq_true c4, cond_true, Option.bind_some, cond_true, decide_eq_false (by omega)]; rfl
 rw [decide_eq_false c4, cond_false]
 by_cases c5 : s.End < s.From
 ·rw [decide_eq_true c5, cond_true, Option.bind_some, cond_true, decide_eq_false (by omega)]; rfl
 rw [decide_eq_false c5, cond_false]
 by_cases c6 : s.To < s.End
 ·rw [decide_eq_true c6, cond_true, Option.bind_some, cond_true, decide_eq_false (by omega)]; rfl
 rw [decide_eq_false c6, cond_false, Option.bind_some]
 by_cases c7 : s.Slices.length ≤ 48
 ·rw [decide_eq_false (show ¬ (48 : Int) < s.Slices.length by omega), cond_false, decide_eq_true (show 0 ≤ s.From ∧ s.From < s.To ∧ s.To ≤ 52560000 ∧ s.To - s.From ≤ 2880 ∧ s.From ≤ s.End ∧ s.End ≤ s.To ∧ s.Slices.length ≤ 48 by omega)]; rfl
 ·rw [decide_eq_true (show (48 : Int) < s.Slices.length by omega), cond_true, decide_eq_false (show ¬ (0 ≤ s.From ∧ s.From < s.To ∧ s.To ≤ 52560000 ∧ s.To - s.From ≤ 2880 ∧ s.From ≤ s.End ∧ s.End ≤ s.To ∧ s.Slices.length ≤ 48) by omega)]; rfl
end Go.Proofs
namespace Go.Proofs
open Go Go.Abs
set_option maxRecDepth 100000
set_option linter.unusedVariables false
theorem slB_mem {f e : Int} : ∀ {l : List GSlice} {p : Int}, slB f e p l = true → ∀ x ∈ l, f ≤ x.Minute ∧ x.Minute < e ∧ 0 ≤ x.Energy ∧ x.Energy ≤ 10000
 | [], _, _, x, hx => by cases hx
 | y :: r, p, h, x, hx => by
  simp only [slB, Bool.and_eq_true, decide_eq_true_eq] at h
  rcases List.mem_cons.1 hx with rfl | hx
  ·omega
  ·exact slB_mem h.2 x hx
theorem eneF_range (c : GCalendar) (a : GArticle) : ∀ (l : List GSlice) (z : Int), (∀ x ∈ l, 0 ≤ x.Energy ∧ x.Energy ≤ 10000) → 0 ≤ z → z + 10000 * l.length ≤ 10000000 → 0 ≤ eneF c a z l ∧ eneF c a z l ≤ z + 10000 * l.length
 | [], z, _, h0, h1 => by
  show 0 ≤ z ∧ z ≤ z + 10000 * ((0 : Nat) : Int)
  omega
 | x :: r, z, h, h0, h1 => by
  have hx := h x List.mem_cons_self
  simp only [List.length_cons] at h1 ⊢
  unfold eneF
  split
  ·rw [wi_id (by omega) (by omega)]
   have := eneF_range c a r (z + x.Energy) (fun y hy => h y (List.mem_cons_of_mem _ hy)) (by omega) (by omega)
   omega
  ·have := eneF_range c a r z (fun y hy => h y (List.mem_cons_of_mem _ hy)) (by omega) (by omega)
   omega
theorem r_energy (n : Nat) (c : GCalendar) (a : GArticle) (s : GSession) (hn : 1000 ≤ n) (h1 : c.Changes.length ≤ 900) (h2 : c.Holidays.length ≤ 900) (hc : calB c = true) (ha : artB a = true) (hl : s.Slices.length ≤ 900) (hs : ∀ x ∈ s.Slices, 0 ≤ x.Minute ∧ x.Minute ≤ 52560000) :
  g_ref33_Energy n a c s = some (eneF c a 0 s.Slices) := by
 unfold g_ref33_Energy
 have := loop_acc (l := s.Slices) (B := fun recl1 (v : Int × Int) => g_ref33_Energy_l1 n a c s recl1 v.1 v.2) (F := eneF c a) (by omega) ?_ ?_ (n := n) 0 0 (by omega) (by omega)
 ·exact this
 ·intro rec z
  have h : ltI ((s.Slices.length : Nat) : Int) (lenI (List.map GSlice.cs s.Slices)) = false := by simp [ltI, lenI]
  show g_ref33_Energy_l1 n a c s rec z ((s.Slices.length : Nat) : Int) = some z
  unfold g_ref33_Energy_l1
  rw [h, cond_false]
 ·intro rec z i x r hd hx hi hw hr
  have h3 : ltI (i : Int) (lenI (List.map GSlice.cs s.Slices)) = true := by
   simp only [ltI, lenI, List.length_map]
   rw [decide_eq_true (by omega)]
  show g_ref33_Energy_l1 n a c s rec z (i : Int) = some (eneF c a z (x :: r))
  unfold g_ref33_Energy_l1 eneF
  rw [h3, cond_true, getI_nat, hx, Option.bind_some, r_applies n c a x.Minute hn h1 h2 hc ha (hs x (List.mem_of_getElem? hx)), Option.bind_some, Option.bind_some, hw, hr, hr]
  cases appB c a x.Minute
  ·rfl
  ·rfl
theorem r_amount (n : Nat) (x : Int) : g_ref31_amount n x = some (decide (0 ≤ x ∧ x ≤ 1000000000)) := by
 unfold g_ref31_amount
 by_cases h : 0 ≤ x <;> simp [leI, h]
theorem r_checked (n : Nat) (x : Int) (h : 0 ≤ x) : g_ref31_checked n x = some (if x ≤ 1000000000 then (x, 0) else (0, 3)) := by
 unfold g_ref31_checked
 rw [r_amount, Option.bind_some]
 by_cases h1 : x ≤ 1000000000
 ·rw [decide_eq_true ⟨h, h1⟩, if_pos h1]; rfl
 ·rw [decide_eq_false (fun h => h1 h.2), if_neg h1]; rfl
theorem mul_bound {x y X Y : Int} (hx : 0 ≤ x ∧ x ≤ X) (hy : 0 ≤ y ∧ y ≤ Y) : 0 ≤ x * y ∧ x * y ≤ X * Y :=
 ⟨Int.mul_nonneg hx.1 hy.1, Int.mul_le_mul hx.2 hy.2 hy.1 (Int.le_trans hx.1 hx.2)⟩
theorem r_times (n : Nat) (p q : Int) (hp : 0 ≤ p ∧ p ≤ 1000000) (hq : 0 ≤ q ∧ q ≤ 480000) :
  g_ref31_Times n p q 1000 = some (if wi (Int.tdiv (wi (wi (wi (2 * p) * q) + 1000)) 2000) ≤ 1000000000 then (wi (Int.tdiv (wi (wi (wi (2 * p) * q) + 1000)) 2000), 0) else (0, 3)) ∧ 0 ≤ wi (Int.tdiv (wi (wi (wi (2 * p) * q) + 1000)) 2000) := by
 have hb := mul_bound hp hq
 have e1 : wi (p * q) = p * q := wi_id (by omega) (by omega)
 have e2 : wi (2 * p) = 2 * p := wi_id (by omega) (by omega)
 have e3 : 2 * p * q = 2 * (p * q) := Int.mul_assoc ..
 have e4 : wi (2 * (p * q)) = 2 * (p * q) := wi_id (by omega) (by omega)
 have e5 : wi (2 * (p * q) + 1000) = 2 * (p * q) + 1000 := wi_id (by omega) (by omega)
 have e6 : Int.tdiv (2 * (p * q) + 1000) 2000 = (2 * (p * q) + 1000) / 2000 := Int.tdiv_eq_ediv_of_nonneg (by omega)
 have e7 : wi ((2 * (p * q) + 1000) / 2000) = (2 * (p * q) + 1000) / 2000 := wi_id (by omega) (by omega)
 rw [e2, e3, e4, e5, e6, e7]
 refine ⟨?_, by omega⟩
 unfold g_ref31_Times g_ref31_divided
 simp only [r_amount, Option.bind_some]
 rw [decide_eq_true (show 0 ≤ p ∧ p ≤ 1000000000 by omega), decide_eq_true (show 0 ≤ q ∧ q ≤ 1000000000 by omega)]
 simp only [Bool.not_true, cond_false, Option.bind_some, show ltI 1000 1 = false from rfl, show ltI 1000000000 1000 = false from rfl]
 rw [show wi (2 * 1000) = 2000 from rfl, show (!eqI 2000 0) = true from rfl, cond_true, Option.bind_some, e1, e4, e5, e6, e7, r_checked n _ (by omega), Option.bind_some]
theorem r_started (n : Nat) (p q u : Int) (hp : 0 ≤ p ∧ p ≤ 1000000) (hq : 0 ≤ q ∧ q ≤ 3000) (hu : 1 ≤ u ∧ u ≤ 1440) :
  g_ref31_Started n p q u = some (if wi (p * wi (Int.tdiv (wi (wi (q + u) - 1)) u)) ≤ 1000000000 then (wi (p * wi (Int.tdiv (wi (wi (q + u) - 1)) u)), 0) else (0, 3)) ∧ 0 ≤ wi (p * wi (Int.tdiv (wi (wi (q + u) - 1)) u)) := by
 have e1 : wi (q + u) = q + u := wi_id (by omega) (by omega)
 have e2 : wi (q + u - 1) = q + u - 1 := wi_id (by omega) (by omega)
 have e3 : Int.tdiv (q + u - 1) u = (q + u - 1) / u := Int.tdiv_eq_ediv_of_nonneg (by omega)
 have hd : 0 ≤ (q + u - 1) / u ∧ (q + u - 1) / u ≤ 5000 := by
  constructor
  ·exact Int.ediv_nonneg (by omega) (by omega)
  ·have := Int.ediv_le_self (a := q + u - 1) u (by omega)
   omega
 have e4 : wi ((q + u - 1) / u) = (q + u - 1) / u := wi_id (by omega) (by omega)
 have hb := mul_bound hp hd
 have e5 : wi (p * ((q + u - 1) / u)) = p * ((q + u - 1) / u) := wi_id (by omega) (by omega)
 rw [e1, e2, e3, e4, e5]
 refine ⟨?_, hb.1⟩
 unfold g_ref31_Started
 simp only [r_amount, Option.bind_some]
 rw [decide_eq_true (show 0 ≤ p ∧ p ≤ 1000000000 by omega), decide_eq_true (show 0 ≤ q ∧ q ≤ 1000000000 by omega)]
 simp only [Bool.not_true, cond_false, ltI, eqI_d]
 rw [decide_eq_false (show ¬ u < 1 by omega), cond_false, Option.bind_some, decide_eq_false (show ¬ 1000000000 < u by omega), cond_false, decide_eq_false (show ¬ u = 0 by omega), Bool.not_false, cond_true, e1, e2, e3, e4, e5, r_checked n _ hb.1, Option.bind_some]
theorem r_sta (n : Nat) (c : GCalendar) (a : GArticle) (f t : Int) (hn : 10000 ≤ n) (h1 : c.Changes.length ≤ 900) (h2 : c.Holidays.length ≤ 900) (hc : calB c = true) (ha : artB a = true) (hk34 : a.Kind = 3 ∨ a.Kind = 4) (hf : 0 ≤ f) (ht : t ≤ 52560000) (hk : t - f ≤ 2880) :
  ((g_ref33_Minutes n a c f t).bind fun r => (g_ref31_Started n a.Price (maxI 0 (wi (r - a.Free))) a.Unit).bind fun r => some (r.1, r.2)) = some (if staF c a f t ≤ 1000000000 then (staF c a f t, 0) else (0, 3)) ∧ 0 ≤ staF c a f t := by
 have hA := artB_art ha
 have hU := hA.unit hk34
 have hcn := cN_range c a (t - f).toNat f
 have eq : maxI 0 (wi (cN c a (t - f).toNat f - a.Free)) = maxI 0 (cntF c a (t - f).toNat f (wi (0 - a.Free))) := by
  rw [wi_id (x := 0 - a.Free) (by omega) (by omega), cntF_cN c a _ _ _ (by omega) (by omega), wi_id (by omega) (by omega)]
  congr 1
  omega
 have hq : 0 ≤ maxI 0 (wi (cN c a (t - f).toNat f - a.Free)) ∧ maxI 0 (wi (cN c a (t - f).toNat f - a.Free)) ≤ 3000 := by
  rw [wi_id (by omega) (by omega)]
  unfold maxI
  split <;> omega
 have hs := r_started n a.Price _ a.Unit hA.price hq ⟨hU.1, hU.2.1⟩
 rw [eq] at hs
 unfold staF
 refine ⟨?_, hs.2⟩
 rw [r_minutes n c a f t hn h1 h2 hc ha hf ht hk, Option.bind_some, eq, hs.1, Option.bind_some]
theorem r_line (n : Nat) (c : GCalendar) (a : GArticle) (s : GSession) (hn : 10000 ≤ n) (h1 : c.Changes.length ≤ 900) (h2 : c.Holidays.length ≤ 900) (hc : calB c = true) (ha : artB a = true) (hv : valB s = true) :
  g_ref33_Line n a c s = some (if cosF c s a ≤ 1000000000 then (cosF c s a, 0) else (0, 3)) ∧ 0 ≤ cosF c s a := by
 have hA := artB_art ha
 have hv' := hv
 simp only [valB, Bool.and_eq_true, decide_eq_true_eq] at hv'
 obtain ⟨hr, hs⟩ := hv'
 unfold g_ref33_Line cosF
 rw [r_article, r_cal n c (by omega) h1 h2, r_session_valid n s (by omega) (by omega) (by unfold i64b; omega), ha, hc, hv]
 simp only [Option.bind_some, Bool.not_true, cond_false, eqI_d]
 by_cases k1 : a.Kind = 1
 ·rw [decide_eq_true k1, cond_true, if_pos k1, wi_id (x := s.From + 1) (by omega) (by omega), r_minutes n c a s.From (s.From + 1) hn h1 h2 hc ha hr.1 (by omega) (by omega), Option.bind_some]
  rw [show (s.From + 1 - s.From).toNat = 1 from by omega]
  unfold cN cN
  have := hA.price
  cases appB c a s.From
  ·refine ⟨?_, by simp⟩
   simp
   rfl
  ·rw [if_pos rfl, if_pos rfl, if_pos (by omega), show (1 : Int) + 0 = 1 from rfl, Int.mul_one, wi_id (by omega) (by omega)]
   exact ⟨rfl, this.1⟩
 rw [decide_eq_false k1, cond_false, if_neg k1]
 by_cases k2 : a.Kind = 2
 ·rw [decide_eq_true k2, cond_true, if_pos k2]
  have hm := slB_mem hs
  rw [r_energy n c a s (by omega) h1 h2 hc ha (by omega) (fun x hx => by have := hm x hx; omega), Option.bind_some]
  have he := eneF_range c a s.Slices 0 (fun x hx => by have := hm x hx; omega) (by omega) (by omega)
  have ht := r_times n a.Price (eneF c a 0 s.Slices) hA.price (by omega)
  refine ⟨?_, ht.2⟩
  rw [ht.1, Option.bind_some]
 rw [decide_eq_false k2, cond_false, if_neg k2]
 by_cases k3 : a.Kind = 3
 ·rw [decide_eq_true k3, cond_true, if_pos k3]
  exact r_sta n c a s.From s.To hn h1 h2 hc ha (Or.inl k3) hr.1 (by omega) (by omega)
 rw [decide_eq_false k3, cond_false, if_neg k3]
 by_cases k4 : a.Kind = 4
 ·rw [decide_eq_true k4, cond_true, if_pos k4]
  exact r_sta n c a s.End s.To hn h1 h2 hc ha (Or.inr k4) (by omega) (by omega) (by omega)
 rw [decide_eq_false k4, cond_false, if_neg k4]
 exact ⟨rfl, by omega⟩
end Go.Proofs
namespace Go.Proofs
open Go Go.Abs
set_option maxRecDepth 100000
set_option linter.unusedVariables false
theorem drop_idx {α : Type} {l : List α} {i : Nat} {x : α} {r : List α} (h : l.drop i = x :: r) (hi : i < l.length) : l.length - (r.length + 1) = i ∧ l.length - r.length = i + 1 := by
 have := congrArg List.length h
 simp only [List.length_drop, List.length_cons] at this
 omega
theorem linB_cons (x : GLine) (r : List GLine) : linB (x :: r) = (decide (x.Amount ≤ 1000000000) && linB r) := by
 unfold linB
 rw [List.all_cons]
def capR : Int → List GArticle → Int
 | k, [] => k
 | k, a :: r => capR (if a.Kind = 5 then (if k < 0 ∨ a.Price < k then a.Price else k) else k) r
def capV (k z : Int) : Int := if 0 ≤ k ∧ k < z then k else z
theorem capF_R : ∀ (l : List GArticle) (k z : Int), (∀ a ∈ l, 0 ≤ a.Price) → capF (capV k z) l = capV (capR k l) z
 | [], k, z, _ => rfl
 | a :: r, k, z, h => by
  have ha := h a List.mem_cons_self
  unfold capF capR
  by_cases h5 : a.Kind = 5
  ·rw [if_pos h5, if_pos h5, ← capF_R r _ z (fun x hx => h x (List.mem_cons_of_mem _ hx))]
   congr 1
   unfold capV minI
   by_cases c1 : 0 ≤ k ∧ k < z
   ·rw [if_pos c1]
    by_cases c2 : k < 0 ∨ a.Price < k
    ·rw [if_pos c2]
     split <;> first | omega | (split <;> omega)
    ·rw [if_neg c2]
     split <;> first | omega | (split <;> omega)
   ·rw [if_neg c1]
    by_cases c2 : k < 0 ∨ a.Price < k
    ·rw [if_pos c2]
     split <;> first | omega | (split <;> omega)
    ·rw [if_neg c2]
     split <;> first | omega | (split <;> omega)
  ·rw [if_neg h5, if_neg h5]
   exact capF_R r k z (fun x hx => h x (List.mem_cons_of_mem _ hx))
theorem r_tax (n : Nat) (net rate : Int) (hn : 0 ≤ net ∧ net ≤ 1000000000) (hr : 0 ≤ rate ∧ rate ≤ 10000) : g_ref31_Tax n net rate = some (taxF net rate, 0) ∧ 0 ≤ taxF net rate ∧ taxF net rate ≤ net + 1 := by
 have hb := mul_bound hn hr
 have hb2 : net * rate ≤ net * 10000 := Int.mul_le_mul_of_nonneg_left hr.2 hn.1
 have e1 : wi (net * rate) = net * rate := wi_id (by omega) (by omega)
 have e2 : wi (2 * net) = 2 * net := wi_id (by omega) (by omega)
 have e3 : 2 * net * rate = 2 * (net * rate) := Int.mul_assoc ..
 have e4 : wi (2 * (net * rate)) = 2 * (net * rate) := wi_id (by omega) (by omega)
 have e5 : wi (2 * (net * rate) + 10000) = 2 * (net * rate) + 10000 := wi_id (by omega) (by omega)
 have e6 : Int.tdiv (2 * (net * rate) + 10000) 20000 = (2 * (net * rate) + 10000) / 20000 := Int.tdiv_eq_ediv_of_nonneg (by omega)
 have e7 : wi ((2 * (net * rate) + 10000) / 20000) = (2 * (net * rate) + 10000) / 20000 := wi_id (by omega) (by omega)
 unfold taxF
 rw [e2, e3, e4, e5, e6, e7]
 refine ⟨?_, by omega, by omega⟩
 unfold g_ref31_Tax g_ref31_divided
 simp only [r_amount, Option.bind_some, ltI]
 rw [decide_eq_true (show 0 ≤ net ∧ net ≤ 1000000000 by omega), Bool.not_true, cond_false, decide_eq_false (show ¬ rate < 0 by omega), cond_false, Option.bind_some, decide_eq_false (show ¬ 100000 < rate by omega), cond_false]
 rw [show wi (2 * 10000) = 20000 from rfl, show (!eqI 20000 0) = true from rfl, cond_true, Option.bind_some, e1, e4, e5, e6, e7, r_checked n _ (by omega), Option.bind_some, if_pos (by omega)]
def zeroBill : GBill := ⟨[], 0, 0, 0⟩
end Go.Proofs
namespace Go.Proofs
open Go Go.Abs
set_option maxRecDepth 100000
set_option linter.unusedVariables false
def OrdR : GReading → List GReading → Prop
 | _, [] => True
 | p, x :: r => (0 ≤ x.Minute ∧ x.Minute ≤ 52560000) ∧ (0 ≤ x.Register ∧ x.Register ≤ 1000000000) ∧ folB p x = true ∧ OrdR x r
def lst : GReading → List GReading → GReading
 | p, [] => p
 | _, x :: r => lst x r
def dE (p x : GReading) : Int := if x.Serial = p.Serial then x.Register - p.Register else 0
def sumE : GReading → List GReading → Int
 | _, [] => 0
 | p, x :: r => dE p x + sumE x r
theorem fol_min {p x : GReading} (h : folB p x = true) : p.Minute ≤ x.Minute := by
 unfold folB at h
 split at h <;> simp only [decide_eq_true_eq] at h <;> omega
theorem dE_range {p x : GReading} (h : folB p x = true) (hp : 0 ≤ p.Register) (hx : x.Register ≤ 1000000000) : 0 ≤ dE p x ∧ dE p x ≤ 1000000000 := by
 unfold folB at h
 unfold dE
 split at h <;> rename_i hs
 ·rw [if_pos hs]; simp only [decide_eq_true_eq] at h; omega
 ·rw [if_neg hs]; omega
theorem sumE_range : ∀ (l : List GReading) (p : GReading), OrdR p l → 0 ≤ p.Register → 0 ≤ sumE p l ∧ sumE p l ≤ 1000000000 * l.length
 | [], p, _, _ => by
  show (0 : Int) ≤ 0 ∧ (0 : Int) ≤ 1000000000 * ((0 : Nat) : Int)
  omega
 | x :: r, p, h, hp => by
  have h1 := dE_range h.2.2.1 hp h.2.1.2
  have h2 := sumE_range r x h.2.2.2 h.2.1.1
  unfold sumE
  simp only [List.length_cons]
  omega
theorem ord_app : ∀ (a b : List GReading) (p : GReading), OrdR p (a ++ b) ↔ OrdR p a ∧ OrdR (lst p a) b
 | [], b, p => by simp [OrdR, lst]
 | x :: a, b, p => by
  have := ord_app a b x
  simp only [List.cons_append, OrdR, lst, this]
  constructor
  ·rintro ⟨h1, h2, h3, h4, h5⟩; exact ⟨⟨h1, h2, h3, h4⟩, h5⟩
  ·rintro ⟨⟨h1, h2, h3, h4⟩, h5⟩; exact ⟨h1, h2, h3, h4, h5⟩
theorem ord_min : ∀ (l : List GReading) (p : GReading), OrdR p l → ∀ x ∈ l, p.Minute ≤ x.Minute
 | [], _, _, x, hx => by cases hx
 | y :: r, p, h, x, hx => by
  have h1 := fol_min h.2.2.1
  rcases List.mem_cons.1 hx with rfl | hx
  ·exact h1
  ·have := ord_min r y h.2.2.2 x hx
   omega
theorem ord_lst : ∀ (l : List GReading) (p : GReading), OrdR p l → ∀ x, x = p ∨ x ∈ l → x.Minute ≤ (lst p l).Minute
 | [], p, _, x, hx => by
  rcases hx with rfl | hx
  ·exact Int.le_refl _
  ·cases hx
 | y :: r, p, h, x, hx => by
  have h1 := fol_min h.2.2.1
  show x.Minute ≤ (lst y r).Minute
  rcases hx with rfl | hx
  ·have := ord_lst r y h.2.2.2 y (Or.inl rfl)
   omega
  ·rcases List.mem_cons.1 hx with rfl | hx
   ·exact ord_lst r x h.2.2.2 x (Or.inl rfl)
   ·exact ord_lst r y h.2.2.2 x (Or.inr hx)
theorem lst_reg : ∀ (l : List GReading) (p : GReading), OrdR p l → 0 ≤ p.Register → 0 ≤ (lst p l).Register
 | [], _, _, h => h
 | x :: r, _, h, _ => lst_reg r x h.2.2.2 h.2.1.1
theorem derF_app (m0 : Int) : ∀ (a b : List GReading) (p : GReading) (e : Int) (sl : List GSlice), derF m0 p e sl (a ++ b) = derF m0 (lst p a) (derF m0 p e sl a).1 (derF m0 p e sl a).2 b
 | [], _, _, _, _ => rfl
 | x :: a, b, p, e, sl => derF_app m0 a b x _ _
theorem derG2 (m0 m e : Int) (hm : m0 ≤ m ∧ 0 ≤ m ∧ m ≤ 52560000) (sl0 : List GSlice) : ∀ (g : List GReading) (p : GReading) (E : Int), OrdR p g → 0 ≤ p.Register → p.Register ≤ 1000000000 → (∀ x ∈ g, x.Minute = m + 1) → 0 ≤ E → E + 1000000000 * g.length ≤ 1000000000000000 →
  derF m0 p e (sl0 ++ [⟨m, E⟩]) g = (e, sl0 ++ [⟨m, E + sumE p g⟩])
 | [], p, E, _, _, _, _, _, _ => by
  unfold derF sumE
  rw [Int.add_zero]
 | x :: r, p, E, h, hp, hp2, hg, hE, hb => by
  have hx := hg x List.mem_cons_self
  have hd := dE_range h.2.2.1 hp h.2.1.2
  simp only [List.length_cons] at hb
  have step : derS m0 p x e (sl0 ++ [⟨m, E⟩]) = (e, sl0 ++ [⟨m, E + dE p x⟩]) := by
   unfold derS
   by_cases hs : x.Serial = p.Serial
   ·rw [if_pos ⟨hs, by omega⟩]
    have ed : dE p x = x.Register - p.Register := by unfold dE; rw [if_pos hs]
    have hr := h.2.1
    rw [wi_id (x := x.Register - p.Register) (by omega) (by omega), ← ed]
    by_cases h0 : dE p x = 0
    ·rw [if_pos h0, h0, Int.add_zero]
    ·rw [if_neg h0]
     simp only [List.getLast?_append, List.getLast?_singleton, Option.some_or]
     rw [wi_id (x := x.Minute - 1) (by omega) (by omega), if_pos (by omega), wi_id (x := E + dE p x) (by omega) (by omega)]
     congr 1
     simp
   ·rw [if_neg (fun h => hs h.1)]
    have ed : dE p x = 0 := by unfold dE; rw [if_neg hs]
    rw [ed, Int.add_zero]
  unfold derF
  rw [step]
  simp only
  rw [derG2 m0 m e hm sl0 r x (E + dE p x) h.2.2.2 h.2.1.1 h.2.1.2 (fun y hy => hg y (List.mem_cons_of_mem _ hy)) (by omega) (by omega)]
  rw [show sumE p (x :: r) = dE p x + sumE x r from rfl, Int.add_assoc]
theorem derG1 (m0 m e : Int) (hm : m0 ≤ m ∧ 0 ≤ m ∧ m ≤ 52560000) (sl : List GSlice) (hl : ∀ q ∈ sl, q.Minute < m) : ∀ (g : List GReading) (p : GReading), OrdR p g → 0 ≤ p.Register → p.Register ≤ 1000000000 → (∀ x ∈ g, x.Minute = m + 1) → g.length ≤ 1000 →
  derF m0 p e sl g = if sumE p g = 0 then (e, sl) else (m + 1, sl ++ [⟨m, sumE p g⟩])
 | [], p, _, _, _, _, _ => rfl
 | x :: r, p, h, hp, hp2, hg, hb => by
  have hx := hg x List.mem_cons_self
  have hd := dE_range h.2.2.1 hp h.2.1.2
  have hsr := sumE_range r x h.2.2.2 h.2.1.1
  simp only [List.length_cons] at hb
  have es : sumE p (x :: r) = dE p x + sumE x r := rfl
  unfold derF
  by_cases h0 : dE p x = 0
  ·have step : derS m0 p x e sl = (e, sl) := by
    unfold derS
    by_cases hs : x.Serial = p.Serial
    ·rw [if_pos ⟨hs, by omega⟩]
     have ed : dE p x = x.Register - p.Register := by unfold dE; rw [if_pos hs]
     have hr := h.2.1
     rw [wi_id (x := x.Register - p.Register) (by omega) (by omega), ← ed, if_pos h0]
    ·rw [if_neg (fun h => hs h.1)]
   rw [step]
   simp only
   rw [derG1 m0 m e hm sl hl r x h.2.2.2 h.2.1.1 h.2.1.2 (fun y hy => hg y (List.mem_cons_of_mem _ hy)) (by omega), es, h0, Int.zero_add]
  ·have hs : x.Serial = p.Serial := by
    apply Classical.byContradiction
    intro hs
    exact h0 (by unfold dE; rw [if_neg hs])
   have ed : dE p x = x.Register - p.Register := by unfold dE; rw [if_pos hs]
   have hr := h.2.1
   have step : derS m0 p x e sl = (m + 1, sl ++ [⟨m, dE p x⟩]) := by
    have hadd : addS (wi (x.Minute - 1)) (dE p x) e sl = (m + 1, sl ++ [⟨m, dE p x⟩]) := by
     unfold addS
     rw [wi_id (x := x.Minute - 1) (by omega) (by omega), wi_id (by omega) (by omega), show x.Minute - 1 = m from by omega]
    unfold derS
    rw [if_pos ⟨hs, by omega⟩, wi_id (x := x.Register - p.Register) (by omega) (by omega), ← ed, if_neg h0]
    split
    ·rename_i q hq
     have := hl q (List.mem_of_getLast? hq)
     rw [if_neg (by rw [wi_id (x := x.Minute - 1) (by omega) (by omega)]; omega), hadd]
    ·exact hadd
   rw [step]
   simp only
   rw [derG2 m0 m (m + 1) hm sl r x (dE p x) h.2.2.2 h.2.1.1 h.2.1.2 (fun y hy => hg y (List.mem_cons_of_mem _ hy)) (by omega) (by omega), es, if_neg (by omega)]
theorem drop_lst : ∀ (a b : List GReading) (x : GReading), (x :: (a ++ b)).drop a.length = lst x a :: b
 | [], b, x => rfl
 | y :: a, b, x => by
  simp only [List.cons_append, List.length_cons, List.drop_succ_cons, lst]
  exact drop_lst a b y
theorem getLast_lst : ∀ (r : List GReading) (x : GReading) (h : x :: r ≠ []), (x :: r).getLast h = lst x r
 | [], x, _ => rfl
 | y :: r, x, _ => by
  rw [List.getLast_cons (by simp)]
  exact getLast_lst r y _
def atF (m : Int) : Nat → Int → List GReading → Int
 | _, a, [] => a
 | i, a, x :: r => atF m (i + 1) (if x.Minute ≤ m then (i : Int) + 1 else a) r
theorem atF_post (m : Int) : ∀ (post : List GReading) (i : Nat) (a : Int), (∀ x ∈ post, m < x.Minute) → atF m i a post = a
 | [], _, _, _ => rfl
 | x :: r, i, a, h => by
  have := h x List.mem_cons_self
  unfold atF
  rw [if_neg (by omega)]
  exact atF_post m r (i + 1) a (fun y hy => h y (List.mem_cons_of_mem _ hy))
theorem atF_pre (m : Int) : ∀ (pre post : List GReading) (i : Nat), (∀ x ∈ pre, x.Minute ≤ m) → (∀ x ∈ post, m < x.Minute) → atF m i (i : Int) (pre ++ post) = ((i + pre.length : Nat) : Int)
 | [], post, i, _, h => atF_post m post i _ h
 | x :: r, post, i, h, h2 => by
  have := h x List.mem_cons_self
  rw [List.cons_append]
  unfold atF
  rw [if_pos this, show (i : Int) + 1 = ((i + 1 : Nat) : Int) from by omega, atF_pre m r post (i + 1) (fun y hy => h y (List.mem_cons_of_mem _ hy)) h2]
  simp only [List.length_cons]
  congr 1
  omega
theorem r_at (n : Nat) (pre post : List GReading) (m : Int) (hn : 1000 ≤ n) (hl : (pre ++ post).length ≤ 900) (h1 : ∀ x ∈ pre, x.Minute ≤ m) (h2 : ∀ x ∈ post, m < x.Minute) : g_ref43_At n (pre ++ post) m = some (pre.length : Int) := by
 unfold g_ref43_At
 have := loop_gen (l := pre ++ post) (fun (a : Int) i => (a, i)) (B := fun recl1 (v : Int × Int) => g_ref43_At_l1 (pre ++ post) m recl1 v.1 v.2) (F := fun a r => atF m ((pre ++ post).length - r.length) a r) (fun _ _ => True) (by omega) ?_ ?_ (n := n) 0 0 trivial (by omega) (by omega)
 ·refine this.trans ?_
  rw [List.drop_zero, Nat.sub_self]
  have := atF_pre m pre post 0 h1 h2
  rw [Nat.zero_add] at this
  rw [← this]; rfl
 ·intro rec a _
  have h : ltI (((pre ++ post).length : Nat) : Int) (lenI (List.map GReading.cs (pre ++ post))) = false := by
   simp only [ltI, lenI, List.length_map]
   rw [decide_eq_false (by omega)]
  show g_ref43_At_l1 (pre ++ post) m rec a (((pre ++ post).length : Nat) : Int) = some (atF m _ a [])
  unfold g_ref43_At_l1 atF
  rw [h, cond_false]
 ·intro rec a i x r _ hd hx hi hw hr
  have h : ltI (i : Int) (lenI (List.map GReading.cs (pre ++ post))) = true := by
   simp only [ltI, lenI, List.length_map]
   rw [decide_eq_true (by omega)]
  have hidx := drop_idx hd hi
  simp only [List.length_cons, hidx.1]
  simp only [hidx.2] at hr
  show g_ref43_At_l1 (pre ++ post) m rec a (i : Int) = _
  unfold g_ref43_At_l1 atF
  rw [h, cond_true, getI_nat, hx, Option.bind_some, hw, hr _ trivial, hr _ trivial]
  simp only [leI]
  by_cases c : x.Minute ≤ m
  ·rw [decide_eq_true c, cond_true, if_pos c]; rfl
  ·rw [decide_eq_false c, cond_false, if_neg c]
end Go.Proofs
namespace Go.Proofs
open Go Go.Abs
set_option maxRecDepth 100000
set_option linter.unusedVariables false
theorem chain_drop {seed : Int} {l : List GReading} (h : chainOk seed l) : ∀ (r : List GReading) (p : GReading) (i : Nat), l.drop i = p :: r → OrdR p r
 | [], _, _, _ => trivial
 | x :: r, p, i, hd => by
  have hlen : i + 1 < l.length := by
   have := congrArg List.length hd
   simp only [List.length_drop, List.length_cons] at this
   omega
  have e0 : l[i]? = some p := by
   have := congrArg List.head? hd
   rw [List.head?_drop] at this
   exact this
  have hd1 : l.drop (i + 1) = x :: r := by
   rw [← List.tail_drop, hd]; rfl
  have e1 : l[i + 1]? = some x := by
   have := congrArg List.head? hd1
   rw [List.head?_drop] at this
   exact this
  have hc := h.2 (i + 1) hlen x e1
  exact ⟨hc.2.2.1, hc.2.2.2.1, hc.2.2.2.2.1 (by omega) p (by simpa using e0), chain_drop h r x (i + 1) hd1⟩
theorem post_split (m : Int) : ∀ (post : List GReading) (p : GReading), OrdR p post → (∀ x ∈ post, m < x.Minute) → ∃ g post', post = g ++ post' ∧ (∀ x ∈ g, x.Minute = m + 1) ∧ ∀ x ∈ post', m + 1 < x.Minute
 | [], _, _, _ => ⟨[], [], rfl, (fun _ h => by cases h), (fun _ h => by cases h)⟩
 | x :: r, p, h, hp => by
  have hx := hp x List.mem_cons_self
  by_cases c : x.Minute = m + 1
  ·obtain ⟨g, q, e, h1, h2⟩ := post_split m r x h.2.2.2 (fun y hy => hp y (List.mem_cons_of_mem _ hy))
   refine ⟨x :: g, q, by rw [e]; rfl, fun y hy => ?_, h2⟩
   rcases List.mem_cons.1 hy with rfl | hy
   ·exact c
   ·exact h1 y hy
  ·refine ⟨[], x :: r, rfl, (fun _ h => by cases h), fun y hy => ?_⟩
   rcases List.mem_cons.1 hy with rfl | hy
   ·omega
   ·have := ord_min r x h.2.2.2 y hy
    omega
structure Good (f t e : Int) (sl : List GSlice) : Prop where
 all : ∀ x ∈ sl, f ≤ x.Minute ∧ x.Minute < e ∧ 0 ≤ x.Energy
 pw : sl.Pairwise (fun a b => a.Minute < b.Minute)
 lo : f ≤ e
 hi : e ≤ t
end Go.Proofs
namespace Go.Proofs
open Go Go.Abs
set_option maxRecDepth 100000
set_option linter.unusedVariables false
theorem slB_of (f e : Int) : ∀ (l : List GSlice) (p : Int), (∀ x ∈ l, f ≤ x.Minute ∧ x.Minute < e ∧ 0 ≤ x.Energy) → (∀ x ∈ l, p < x.Minute) → l.Pairwise (fun a b => a.Minute < b.Minute) → slB f e p l = l.all (fun x => decide (x.Energy ≤ 10000))
 | [], _, _, _, _ => rfl
 | x :: r, p, h1, h2, h3 => by
  have a1 := h1 x List.mem_cons_self
  have a2 := h2 x List.mem_cons_self
  rw [List.pairwise_cons] at h3
  unfold slB
  rw [List.all_cons, slB_of f e r x.Minute (fun y hy => h1 y (List.mem_cons_of_mem _ hy)) (fun y hy => h3.1 y hy) h3.2]
  congr 1
  by_cases c : x.Energy ≤ 10000
  ·rw [decide_eq_true c, decide_eq_true (by omega)]
  ·rw [decide_eq_false c, decide_eq_false (by omega)]
end Go.Proofs
namespace Go.Proofs
open Go Go.Abs
set_option maxRecDepth 100000
set_option linter.unusedVariables false
theorem b_goodWord (n : Nat) (s : List UInt8) (hn : 1000 ≤ n) : g_parser_goodWord n s = some (decide (1 ≤ s.length ∧ s.length ≤ 12) && decide (∀ x ∈ s.head?, 97 ≤ b2i x ∧ b2i x ≤ 122) && s.all chrB) := by
 unfold g_parser_goodWord
 simp only [lenI, ltI]
 cases s with
 | nil => simp
 | cons x r =>
  rw [decide_eq_false (show ¬ (((x :: r).length : Nat) : Int) < 1 by simp only [List.length_cons]; omega), cond_false]
  by_cases hl : (x :: r).length ≤ 12
  rotate_left
  ·rw [decide_eq_true (show (12 : Int) < (((x :: r).length : Nat) : Int) by omega), decide_eq_false (show ¬ (1 ≤ (x :: r).length ∧ (x :: r).length ≤ 12) by omega)]; rfl
  rw [decide_eq_false (show ¬ (12 : Int) < (((x :: r).length : Nat) : Int) by omega), cond_false, decide_eq_true (show 1 ≤ (x :: r).length ∧ (x :: r).length ≤ 12 by simp only [List.length_cons] at hl ⊢; omega)]
  rw [show getI (x :: r) 0 = some x from rfl]
  have hloop : loopN (fun recl7 l7 => g_parser_goodWord_l7 (x :: r) recl7 l7) n 1 = some (r.all chrB) := by
   have := loop_list (l := x :: r) (B := fun recl7 l7 => g_parser_goodWord_l7 (x :: r) recl7 l7) (F := fun r => r.all chrB) (by omega) ?_ ?_ (n := n) 1 (by simp) (by omega)
   ·simpa using this
   ·intro rec; simp [g_parser_goodWord_l7, ltI, lenI]
   ·intro rec i y q hd hx hi hw hr
    unfold g_parser_goodWord_l7
    simp only [lenI, getI_nat, hx, Option.bind_some, hw, hr, ltI, leI, eqI, cond_some]
    rw [decide_eq_true (by omega), cond_true, List.all_cons]
    rw [chr_lem, chrB]
    cases decide ((97 ≤ b2i y ∧ b2i y ≤ 122) ∨ (48 ≤ b2i y ∧ b2i y ≤ 57) ∨ b2i y = 95) <;> simp
  rw [hloop]
  simp only [Option.bind_some, cond_some, List.head?_cons, Option.mem_def, Option.some.injEq, forall_eq', Bool.true_and, List.all_cons]
  by_cases h1 : b2i x < 97
  ·rw [decide_eq_true h1, decide_eq_false (show ¬ (97 ≤ b2i x ∧ b2i x ≤ 122) by omega)]; rfl
  ·rw [decide_eq_false h1, cond_false]
   by_cases h2 : 122 < b2i x
   ·rw [decide_eq_true h2, decide_eq_false (show ¬ (97 ≤ b2i x ∧ b2i x ≤ 122) by omega)]; rfl
   ·have h3 : 97 ≤ b2i x ∧ b2i x ≤ 122 := by omega
    have h4 : chrB x = true := by unfold chrB; rw [decide_eq_true]; exact Or.inl h3
    rw [decide_eq_false h2, decide_eq_true h3, h4]; rfl
theorem cnz (b : Bool) (k r : Int) (hk : k ≠ 0) : (!eqI (bif b then k else r) 0) = (b || !eqI r 0) := by
 cases b
 ·rfl
 ·simp [eqI, hk]
theorem b_isKey (n : Nat) (s : List UInt8) : g_parser_isKey n s = some (keyB s) := by
 unfold g_parser_isKey g_parser_kindOf g_parser_isAttr g_parser_isArticle g_parser_isWord
 rw [keyB_mem]
 simp only [cond_some, Option.bind_some, cse, cst, keyL, g_ref02_Kinds, g_ref02_Attrs, g_ref02_Articles, g_ref02_Words, Option.getD_some, List.cons_append, List.nil_append, List.contains_cons, List.contains_nil, Bool.or_false, eqS]
 rw [cnz _ 1 _ (by decide), cnz _ 2 _ (by decide), cnz _ 3 _ (by decide), cnz _ 4 _ (by decide), cnz _ 5 _ (by decide), cnz _ 6 _ (by decide), cnz _ 7 _ (by decide), show (!eqI 0 0) = false from rfl]
 simp only [Bool.or_assoc, Bool.or_false]
theorem b_goodName (n : Nat) (s : List UInt8) (hn : 1000 ≤ n) : g_parser_goodName n s = some (nameB s) := by
 unfold g_parser_goodName nameB
 rw [b_goodWord n s hn, Option.bind_some, b_isKey, Option.bind_some, cond_some]
 generalize decide (1 ≤ s.length ∧ s.length ≤ 12) = a
 generalize decide (∀ x ∈ s.head?, 97 ≤ b2i x ∧ b2i x ≤ 122) = b
 generalize s.all chrB = c
 generalize keyB s = d
 cases a <;> cases b <;> cases c <;> cases d <;> rfl
theorem of_cs' (k : Int) (s : List UInt8) (m t : Int) (l : List (List PV)) : GNode.of (GNode.cs ⟨k, s, m, t, l⟩) = some ⟨k, s, m, t, l⟩ := by
 unfold GNode.cs GNode.of
 simp only [map_idc, byt_mkS, if_true]
theorem b_parser (n : Nat) (s : List UInt8) (hn : 1000 ≤ n) : g_parser_Valid n (⟨1, [], 0, 0, [GNode.cs (⟨2, s, 3, 0, []⟩ : GNode)]⟩ : GNode) = some (nameB s) := by
 obtain ⟨m, rfl⟩ : ∃ m, n = m + 2 := ⟨n - 2, by omega⟩
 have hitem : g_parser_validItem (m + 2) (⟨2, s, 3, 0, []⟩ : GNode) 1498 = some (nameB s, 1498) := by
  unfold g_parser_validItem
  rw [b_goodName (m + 2) s hn]
  simp only [show (!eqI 2 2) = false from rfl, show ltI 3 1 = false from rfl, show ltI 7 3 = false from rfl, cond_false, Option.bind_some]
  cases nameB s
  ·rfl
  ·unfold loopN; rfl
 unfold g_parser_Valid
 have e1 : ((bif !eqI 1 1 then some true else bif !eqS [] [] then some true else bif !eqI 0 0 then some true else some (ltI (wi (1499 - lenI (List.map idc [GNode.cs (⟨2, s, 3, 0, []⟩ : GNode)]))) 0))) = some false := rfl
 have e2 : wi (1499 - lenI (List.map idc [GNode.cs (⟨2, s, 3, 0, []⟩ : GNode)])) = 1498 := rfl
 simp only
 rw [e1, Option.bind_some, cond_false, e2]
 unfold loopN
 simp only [g_parser_Valid_l5]
 rw [show ltI 0 (lenI (List.map idc [GNode.cs (⟨2, s, 3, 0, []⟩ : GNode)])) = true from rfl, cond_true, show getI [GNode.cs (⟨2, s, 3, 0, []⟩ : GNode)] 0 = some (GNode.cs (⟨2, s, 3, 0, []⟩ : GNode)) from rfl, Option.bind_some, of_cs', Option.bind_some, hitem, Option.bind_some]
 cases nameB s
 ·rfl
 ·unfold loopN; rfl
theorem b_inside (n : Nat) (x a b : Int) : g_tariff_inside n x a b = some (decide (a ≤ x ∧ x ≤ b)) := by
 unfold g_tariff_inside leI
 by_cases h : a ≤ x <;> simp [h]
theorem b_article (n : Nat) (a : GArticle) : g_tariff_validArticle n a = some (artB a) := by
 have bad : ¬ Art a → some false = some (artB a) := by
  intro h
  cases hb : artB a
  ·rfl
  ·exact absurd (artB_art hb) h
 unfold g_tariff_validArticle g_tariff_isWhole g_tariff_isTime
 simp only [b_inside, Option.bind_some]
 by_cases c2 : 1 ≤ a.Kind ∧ a.Kind ≤ 6
 rotate_left
 ·rw [decide_eq_false c2]; exact bad (fun h => c2 h.kind)
 rw [decide_eq_true c2]
 by_cases c4 : 0 ≤ a.From ∧ a.From ≤ 1439
 rotate_left
 ·rw [decide_eq_false c4]; exact bad (fun h => c4 h.from_)
 rw [decide_eq_true c4, wi_id (x := a.From + 1) (by omega) (by omega)]
 by_cases c6 : a.From + 1 ≤ a.To ∧ a.To ≤ 1440
 rotate_left
 ·rw [decide_eq_false c6]; exact bad (fun h => by have := h.to_; omega)
 rw [decide_eq_true c6]
 by_cases c8 : 1 ≤ a.Days ∧ a.Days ≤ 7
 rotate_left
 ·rw [decide_eq_false c8]; exact bad (fun h => c8 h.days)
 rw [decide_eq_true c8]
 unfold artB g_a_validArticle
 simp only [a_inside, cond_some, Option.bind_some, Option.getD_some, eqI_d, Bool.not_true, cond_false]
 rw [Option.some.injEq, Bool.eq_iff_iff]
 obtain ⟨k, d, f, t, p, u, v⟩ := a
 simp only at c2 c4 c6 c8
 simp only [Bool.cond_eq_ite]
 have hk : k = 1 ∨ k = 2 ∨ k = 3 ∨ k = 4 ∨ k = 5 ∨ k = 6 := by omega
 rcases hk with rfl | rfl | rfl | rfl | rfl | rfl <;> simp [leI, ltI] <;> omega
theorem b_tariff (n : Nat) (t : GTariff) (hn : 1000 ≤ n) : g_tariff_Valid n t = some (tariffB t) := by
 unfold g_tariff_Valid tariffB
 rw [b_parser n t.Name hn]
 simp only [Option.bind_some, cond_some, lenI, List.length_map, ltI]
 cases hname : nameB t.Name
 ·rfl
 by_cases h2 : t.Articles.length ≤ 12
 rotate_left
 ·rw [decide_eq_true (show (12 : Int) < t.Articles.length by omega), decide_eq_false h2]; rfl
 rw [decide_eq_false (show ¬ (12 : Int) < t.Articles.length by omega), decide_eq_true h2]
 simp only [Bool.not_true, cond_false, Bool.true_and]
 have := loop_gen (l := t.Articles) (fun (a : Int) i => (a, i)) (B := fun recl4 (v : Int × Int) => g_tariff_Valid_l4 n t recl4 v.1 v.2) (F := tarB) (fun i a => 0 ≤ a ∧ a ≤ i) (by omega) ?_ ?_ (n := n) 0 0 (by omega) (by omega) (by omega)
 ·exact this
 ·intro rec a ha
  simp only [g_tariff_Valid_l4, lenI, List.length_map, ltI, leI]
  rw [decide_eq_false (by omega), cond_false]
  rfl
 ·intro rec a i x r ha hd hx hi hw hr
  simp only [g_tariff_Valid_l4, lenI, List.length_map, ltI, getI_nat, hx, Option.bind_some, b_article, hw, eqI_d]
  rw [decide_eq_true (by omega), cond_true, tarB]
  cases hb : artB x
  ·rfl
  ·have hw2 : wi (a + 1) = a + 1 := wi_id (by omega) (by omega)
   simp only [Bool.not_true, cond_false, Bool.true_and]
   by_cases h6 : x.Kind = 6
   ·rw [decide_eq_true h6, cond_true, if_pos h6, hw2, hr _ (by omega)]
   ·rw [decide_eq_false h6, cond_false, if_neg h6, hr _ (by omega)]
def chK : Int → List GChange → Bool
 | _, [] => true
 | a, x :: r => decide (a < x.At ∧ x.At ≤ 52560000) && chK x.At r
def chO (l : List GChange) : Bool := l.all (fun x => decide (-1440 ≤ x.Offset ∧ x.Offset ≤ 1440))
theorem chgB_KO : ∀ (l : List GChange) (a : Int), chgB a l = (chO l && chK a l)
 | [], _ => rfl
 | x :: r, a => by
  unfold chgB chK
  rw [chgB_KO r x.At, show chO (x :: r) = (decide (-1440 ≤ x.Offset ∧ x.Offset ≤ 1440) && chO r) from List.all_cons]
  by_cases c1 : a < x.At ∧ x.At ≤ 52560000
  ·by_cases c2 : -1440 ≤ x.Offset ∧ x.Offset ≤ 1440
   ·rw [decide_eq_true (show a < x.At ∧ x.At ≤ 52560000 ∧ -1440 ≤ x.Offset ∧ x.Offset ≤ 1440 by omega), decide_eq_true c1, decide_eq_true c2]; rfl
   ·rw [decide_eq_false (show ¬ (a < x.At ∧ x.At ≤ 52560000 ∧ -1440 ≤ x.Offset ∧ x.Offset ≤ 1440) by omega), decide_eq_false c2]; rfl
  ·rw [decide_eq_false (show ¬ (a < x.At ∧ x.At ≤ 52560000 ∧ -1440 ≤ x.Offset ∧ x.Offset ≤ 1440) by omega), decide_eq_false c1]
   simp
theorem b_dinside (n : Nat) (x a b : Int) : g_days_inside n x a b = some (decide (a ≤ x ∧ x ≤ b)) := by
 unfold g_days_inside leI
 by_cases h : a ≤ x <;> simp [h]
theorem b_listC (n : Nat) (l : List GChange) (hn : 1000 ≤ n) (hl : l.length ≤ 900) : g_dv_api_Change n l 52560000 = some (chK (-1) l) := by
 unfold g_dv_api_Change
 have := loop_acc (l := l) (B := fun recl1 (v : Int × Int) => g_dv_api_Change_l1 n l 52560000 recl1 v.1 v.2) (F := chK) (by omega) ?_ ?_ (n := n) 0 (-1) (by omega) (by omega)
 ·exact this
 ·intro rec a; simp [g_dv_api_Change_l1, ltI, lenI, chK]
 ·intro rec a i x r hd hx hi hw hr
  simp only [g_dv_api_Change_l1, g_days_keys_1, lenI, List.length_map, getI_nat, hx, Option.bind_some, hw, hr, ltI, leI, chK, cond_some]
  rw [decide_eq_true (by omega), cond_true]
  by_cases h1 : x.At ≤ a
  ·rw [decide_eq_true h1, decide_eq_false (show ¬ (a < x.At ∧ x.At ≤ 52560000) by omega)]; rfl
  ·rw [decide_eq_false h1]
   by_cases h2 : 52560000 < x.At
   ·rw [decide_eq_true h2, decide_eq_false (show ¬ (a < x.At ∧ x.At ≤ 52560000) by omega)]; rfl
   ·rw [decide_eq_false h2, decide_eq_true (show a < x.At ∧ x.At ≤ 52560000 by omega)]; rfl
theorem b_listI (n : Nat) (l : List Int) (hn : 1000 ≤ n) (hl : l.length ≤ 900) : g_dv_int n l 36500 = some (holB (-1) l) := by
 unfold g_dv_int
 have := loop_acc (l := l) (B := fun recl1 (v : Int × Int) => g_dv_int_l1 n l 36500 recl1 v.1 v.2) (F := holB) (by omega) ?_ ?_ (n := n) 0 (-1) (by omega) (by omega)
 ·exact this
 ·intro rec a; simp [g_dv_int_l1, ltI, lenI, holB]
 ·intro rec a i x r hd hx hi hw hr
  simp only [g_dv_int_l1, g_days_keys_2, lenI, List.length_map, getI_nat, hx, Option.bind_some, hw, hr, ltI, leI, holB, cond_some]
  rw [decide_eq_true (by omega), cond_true]
  by_cases h1 : x ≤ a
  ·rw [decide_eq_true h1, decide_eq_false (show ¬ (a < x ∧ x ≤ 36500) by omega)]; rfl
  ·rw [decide_eq_false h1]
   by_cases h2 : 36500 < x
   ·rw [decide_eq_true h2, decide_eq_false (show ¬ (a < x ∧ x ≤ 36500) by omega)]; rfl
   ·rw [decide_eq_false h2, decide_eq_true (show a < x ∧ x ≤ 36500 by omega)]; rfl
theorem b_cal (n : Nat) (c : GCalendar) (hn : 1000 ≤ n) (h1 : c.Changes.length ≤ 900) (h2 : c.Holidays.length ≤ 900) : g_days_Valid n c = some (calB c) := by
 have key : loopN (fun recl9 l9 => g_days_Valid_l9 n c recl9 l9) n 0 = some (chO c.Changes && (chK (-1) c.Changes && holB (-1) c.Holidays)) := by
  have := loop_list (l := c.Changes) (B := fun recl9 l9 => g_days_Valid_l9 n c recl9 l9) (F := fun r => chO r && (chK (-1) c.Changes && holB (-1) c.Holidays)) (by omega) ?_ ?_ (n := n) 0 (by omega) (by omega)
  ·exact this
  ·intro rec
   simp only [g_days_Valid_l9, g_days_Valid_j5, lenI, List.length_map, ltI, b_listC n _ hn h1, b_listI n _ hn h2, Option.bind_some, cond_some]
   rw [decide_eq_false (by omega), cond_false]
   cases chK (-1) c.Changes <;> rfl
  ·intro rec i x r hd hx hi hw hr
   simp only [g_days_Valid_l9, lenI, List.length_map, getI_nat, hx, Option.bind_some, hw, hr, ltI, b_dinside]
   rw [decide_eq_true (by omega), cond_true, show chO (x :: r) = (decide (-1440 ≤ x.Offset ∧ x.Offset ≤ 1440) && chO r) from List.all_cons]
   cases decide (-1440 ≤ x.Offset ∧ x.Offset ≤ 1440) <;> rfl
 unfold g_days_Valid calB
 rw [key, chgB_KO]
 simp only [b_dinside, Option.bind_some, cond_some, lenI, List.length_map, ltI]
 by_cases c1 : c.Changes.length ≤ 16
 rotate_left
 ·rw [decide_eq_true (show (16 : Int) < c.Changes.length by omega), decide_eq_false c1]; simp
 rw [decide_eq_false (show ¬ (16 : Int) < c.Changes.length by omega), decide_eq_true c1]
 by_cases c2 : c.Holidays.length ≤ 32
 rotate_left
 ·rw [decide_eq_true (show (32 : Int) < c.Holidays.length by omega), decide_eq_false c2]; simp
 rw [decide_eq_false (show ¬ (32 : Int) < c.Holidays.length by omega), decide_eq_true c2]
 generalize decide (-1440 ≤ c.Offset ∧ c.Offset ≤ 1440) = b0
 generalize chO c.Changes = b1
 generalize chK (-1) c.Changes = b2
 generalize holB (-1) c.Holidays = b3
 cases b0 <;> cases b1 <;> cases b2 <;> cases b3 <;> rfl
end Go.Proofs
namespace Go.Proofs
open Go Go.Abs
set_option maxRecDepth 100000
set_option linter.unusedVariables false
theorem chK_lt : ∀ (l : List GChange) (a : Int), chK a l = true → (∀ x ∈ l, a < x.At) ∧ l.Pairwise (fun x y => x.At < y.At)
 | [], _, _ => ⟨(fun x h => by cases h), List.Pairwise.nil⟩
 | x :: r, a, h => by
  simp only [chK, Bool.and_eq_true, decide_eq_true_eq] at h
  obtain ⟨h1, h2⟩ := chK_lt r x.At h.2
  refine ⟨fun y hy => ?_, List.pairwise_cons.2 ⟨h1, h2⟩⟩
  rcases List.mem_cons.1 hy with rfl | hy
  ·exact h.1.1
  ·have := h1 y hy; omega
theorem holB_lt : ∀ (l : List Int) (a : Int), holB a l = true → (∀ x ∈ l, a < x) ∧ l.Pairwise (fun x y => x < y)
 | [], _, _ => ⟨(fun x h => by cases h), List.Pairwise.nil⟩
 | x :: r, a, h => by
  simp only [holB, Bool.and_eq_true, decide_eq_true_eq] at h
  obtain ⟨h1, h2⟩ := holB_lt r x h.2
  refine ⟨fun y hy => ?_, List.pairwise_cons.2 ⟨h1, h2⟩⟩
  rcases List.mem_cons.1 hy with rfl | hy
  ·exact h.1.1
  ·have := h1 y hy; omega
structure LastOf {α : Type} (key : α → Int) (l : List α) (m r : Int) : Prop where
 lo : -1 ≤ r
 hi : r < l.length
 le : ∀ (i : Nat) (x : α), (i : Int) ≤ r → l[i]? = some x → key x ≤ m
 gt : ∀ (i : Nat) (x : α), r < (i : Int) → l[i]? = some x → m < key x
theorem last_gen {α : Type} {key : α → Int} {l : List α} {m : Int} {B : (Int × Int → Option Int) → Int × Int → Option Int} (hl : l.length ≤ 900) (hs : l.Pairwise (fun x y => key x < key y))
  (hB : ∀ rec lo hi, B rec (lo, hi) = cond (ltI lo hi) ((getI l (wi (lo + wi (Int.tdiv (wi (wi (hi - lo) + 1)) 2)))).bind fun x => cond (leI (key x) m) (rec (wi (lo + wi (Int.tdiv (wi (wi (hi - lo) + 1)) 2)), hi)) (rec (lo, wi (wi (lo + wi (Int.tdiv (wi (wi (hi - lo) + 1)) 2)) - 1)))) (some lo))
  {n : Nat} (hn : 1000 ≤ n) : Does (loopN B n (-1, (l.length : Int) - 1)) (LastOf key l m) := by
 have := does_loop (B := B) (Q := fun _ r => LastOf key l m r) (fun v => (v.2 - v.1).toNat) (fun v => -1 ≤ v.1 ∧ v.1 ≤ v.2 ∧ v.2 < l.length ∧ (∀ (i : Nat) (x : α), (i : Int) ≤ v.1 → l[i]? = some x → key x ≤ m) ∧ (∀ (i : Nat) (x : α), v.2 < (i : Int) → l[i]? = some x → m < key x)) ?_ (n := n) (v := (-1, (l.length : Int) - 1)) ⟨by simp, by simp; omega, by simp; omega, fun i x h => by simp only at h; omega, fun i x h hx => by
  have := (List.getElem?_eq_some_iff.1 hx).1
  simp only at h
  omega⟩ (by simp only; omega)
 ·exact this
 ·rintro rec ⟨lo, hi⟩ ⟨h1, h2, h3, h4, h5⟩ ih
  simp only at h1 h2 h3 h4 h5 ih
  rw [hB]
  by_cases hlt : lo < hi
  rotate_left
  ·rw [show ltI lo hi = false from by simp only [ltI]; rw [decide_eq_false hlt], cond_false]
   exact does_some ⟨h1, by omega, h4, fun i x hi' hx => h5 i x (by omega) hx⟩
  rw [show ltI lo hi = true from by simp only [ltI]; rw [decide_eq_true hlt], cond_true]
  rw [wi_id (x := hi - lo) (by omega) (by omega), wi_id (x := hi - lo + 1) (by omega) (by omega), Int.tdiv_eq_ediv_of_nonneg (by omega), wi_id (x := (hi - lo + 1) / 2) (by omega) (by omega), wi_id (x := lo + (hi - lo + 1) / 2) (by omega) (by omega), wi_id (x := lo + (hi - lo + 1) / 2 - 1) (by omega) (by omega)]
  generalize hmid : lo + (hi - lo + 1) / 2 = mid
  have hm : lo < mid ∧ mid ≤ hi := by omega
  obtain ⟨j, rfl⟩ : ∃ j : Nat, mid = (j : Int) := ⟨mid.toNat, by omega⟩
  have hx : l[j]? = some (l[j]'(by omega)) := by rw [List.getElem?_eq_getElem]
  generalize l[j]'(by omega) = x at hx
  rw [getI_nat, hx, Option.bind_some]
  refine does_cond (fun hc => ?_) (fun hc => ?_)
  ·simp only [leI, decide_eq_true_eq] at hc
   refine ih (j, hi) ⟨by simp only; omega, by simp only; omega, h3, fun i y hi' hy => ?_, h5⟩ (by simp only; omega)
   simp only at hi'
   by_cases e : i = j
   ·subst e
    rw [hx] at hy; cases hy
    exact hc
   ·have hij : i < j := by omega
    have hy' := List.getElem?_eq_some_iff.1 hy
    have hx' := List.getElem?_eq_some_iff.1 hx
    have := List.pairwise_iff_getElem.1 hs i j hy'.1 hx'.1 hij
    rw [hy'.2, hx'.2] at this
    omega
  ·simp only [leI, decide_eq_false_iff_not] at hc
   refine ih (lo, (j : Int) - 1) ⟨h1, by simp only; omega, by simp only; omega, h4, fun i y hi' hy => ?_⟩ (by simp only; omega)
   simp only at hi'
   by_cases e : i = j
   ·subst e
    rw [hx] at hy; cases hy
    omega
   ·have hij : j < i := by omega
    have hy' := List.getElem?_eq_some_iff.1 hy
    have hx' := List.getElem?_eq_some_iff.1 hx
    have := List.pairwise_iff_getElem.1 hs j i hx'.1 hy'.1 hij
    rw [hy'.2, hx'.2] at this
    omega
theorem b_lastC (n : Nat) (l : List GChange) (m : Int) (hn : 1000 ≤ n) (hl : l.length ≤ 900) (hs : chK (-1) l = true) : Does (g_days_last_api_Change n l m) (LastOf GChange.At l m) := by
 unfold g_days_last_api_Change
 simp only [lenI, List.length_map]
 rw [wi_id (x := (l.length : Int) - 1) (by omega) (by omega)]
 exact last_gen (B := fun recl1 (v : Int × Int) => g_days_last_api_Change_l1 n l m recl1 v.1 v.2) hl (chK_lt l _ hs).2 (fun rec lo hi => rfl) hn
theorem b_lastI (n : Nat) (l : List Int) (m : Int) (hn : 1000 ≤ n) (hl : l.length ≤ 900) (hs : holB (-1) l = true) : Does (g_days_last_int n l m) (LastOf (fun x => x) l m) := by
 unfold g_days_last_int
 simp only [lenI, List.length_map]
 rw [wi_id (x := (l.length : Int) - 1) (by omega) (by omega)]
 exact last_gen (key := fun x => x) (B := fun recl1 (v : Int × Int) => g_days_last_int_l1 n l m recl1 v.1 v.2) hl (holB_lt l _ hs).2 (fun rec lo hi => rfl) hn
theorem offF_gt (m : Int) : ∀ (l : List GChange) (o : Int), (∀ x ∈ l, m < x.At) → offF m o l = o
 | [], _, _ => rfl
 | x :: r, o, h => by
  have := h x List.mem_cons_self
  unfold offF
  rw [if_neg (by omega)]
  exact offF_gt m r o (fun y hy => h y (List.mem_cons_of_mem _ hy))
theorem offF_at (m : Int) : ∀ (l : List GChange) (o : Int) (k : Nat) (x : GChange), l[k]? = some x → (∀ (i : Nat) (y : GChange), i ≤ k → l[i]? = some y → y.At ≤ m) → (∀ (i : Nat) (y : GChange), k < i → l[i]? = some y → m < y.At) → offF m o l = x.Offset
 | [], _, _, _, h, _, _ => by simp at h
 | z :: r, o, 0, x, h, h1, h2 => by
  simp at h
  subst h
  unfold offF
  rw [if_pos (h1 0 z (Nat.le_refl _) rfl)]
  exact offF_gt m r _ (fun y hy => by
   obtain ⟨i, hi⟩ := List.mem_iff_getElem?.1 hy
   exact h2 (i + 1) y (by omega) (by simpa using hi))
 | z :: r, o, k + 1, x, h, h1, h2 => by
  unfold offF
  exact offF_at m r _ k x (by simpa using h) (fun i y hi hy => h1 (i + 1) y (by omega) (by simpa using hy)) (fun i y hi hy => h2 (i + 1) y (by omega) (by simpa using hy))
theorem typF_mem (d : Int) : ∀ (l : List Int), typF d l = if d ∈ l then 2 else wkF d
 | [] => by simp [typF]
 | x :: r => by
  unfold typF
  rw [typF_mem d r]
  by_cases h : x = d
  ·simp [h]
  ·simp [h, Ne.symm h]
theorem tdiv_neg' (x : Int) (b : Int) (h : x ≤ 0) : Int.tdiv x b = -((-x) / b) ∧ Int.tmod x b = -((-x) % b) := by
 obtain ⟨y, rfl⟩ : ∃ y : Int, x = -y := ⟨-x, by omega⟩
 rw [Int.neg_tdiv, Int.neg_tmod, Int.neg_neg, Int.tdiv_eq_ediv_of_nonneg (by omega), Int.tmod_eq_emod_of_nonneg (by omega)]
 exact ⟨rfl, rfl⟩
theorem b_split1440 (n : Nat) (x : Int) (h : -1440 ≤ x ∧ x ≤ 100000000) : g_days_split n x 1440 = some ((x + 1440) / 1440 - 1, (x + 1440) % 1440) := by
 unfold g_days_split
 rw [show (!eqI 1440 0) = true from rfl, cond_true, cond_true]
 simp only [ltI]
 by_cases hx : 0 ≤ x
 ·rw [Int.tdiv_eq_ediv_of_nonneg hx, Int.tmod_eq_emod_of_nonneg hx, decide_eq_false (by omega), cond_false, wi_id (x := x / 1440) (by omega) (by omega)]
  congr 2
  ·omega
  ·omega
 ·obtain ⟨e1, e2⟩ := tdiv_neg' x 1440 (by omega)
  rw [e1, e2]
  by_cases hm : -((-x) % 1440) < 0
  ·rw [decide_eq_true hm, cond_true, wi_id (x := -((-x) / 1440)) (by omega) (by omega), wi_id (by omega) (by omega), wi_id (by omega) (by omega)]
   congr 2
   ·omega
   ·omega
  ·rw [decide_eq_false hm, cond_false, wi_id (x := -((-x) / 1440)) (by omega) (by omega)]
   congr 2
   ·omega
   ·omega
theorem b_local (n : Nat) (c : GCalendar) (m : Int) (hn : 1000 ≤ n) (h1 : c.Changes.length ≤ 900) (h2 : c.Holidays.length ≤ 900) (hc : calB c = true) (hm : 0 ≤ m ∧ m ≤ 52560000) :
  g_days_Local n c m = some ((m + offF m c.Offset c.Changes + 1440) / 1440 - 1, (m + offF m c.Offset c.Changes + 1440) % 1440, 0) := by
 have ho := cal_off m hc
 have hc' := hc
 simp only [calB, Bool.and_eq_true] at hc'
 have hK : chK (-1) c.Changes = true := by
  have := hc'.1.2
  rw [chgB_KO, Bool.and_eq_true] at this
  exact this.2
 unfold g_days_Local
 rw [b_cal n c hn h1 h2, hc, b_dinside, decide_eq_true hm]
 simp only [Option.bind_some, Bool.not_true, cond_false]
 obtain ⟨r, e, L⟩ := b_lastC n c.Changes m hn h1 hK
 rw [e]
 simp only [Option.bind_some]
 have hoff : (bif leI 0 r then (getI c.Changes r).bind fun x7 => some x7.Offset else some c.Offset) = some (offF m c.Offset c.Changes) := by
  by_cases h0 : 0 ≤ r
  ·obtain ⟨k, rfl⟩ : ∃ k : Nat, r = (k : Int) := ⟨r.toNat, by omega⟩
   have hk := L.hi
   have hx : c.Changes[k]? = some (c.Changes[k]'(by omega)) := by rw [List.getElem?_eq_getElem]
   rw [show leI 0 (k : Int) = true from by simp only [leI]; rw [decide_eq_true h0], cond_true, getI_nat, hx, Option.bind_some]
   rw [offF_at m c.Changes c.Offset k _ hx (fun i y hi hy => L.le i y (by omega) hy) (fun i y hi hy => L.gt i y (by omega) hy)]
  ·rw [show leI 0 r = false from by simp only [leI]; rw [decide_eq_false h0], cond_false]
   rw [offF_gt m c.Changes c.Offset (fun x hx => by
    obtain ⟨i, hi⟩ := List.mem_iff_getElem?.1 hx
    exact L.gt i x (by omega) hi)]
 rw [hoff, Option.bind_some]
 generalize offF m c.Offset c.Changes = o at ho
 rw [wi_id (x := m + o) (by omega) (by omega), b_split1440 n (m + o) (by omega), Option.bind_some]
theorem b_split7 (n : Nat) (d : Int) (h : -1 ≤ d ∧ d ≤ 36501) : g_days_split n d 7 = some ((d + 7) / 7 - 1, (d + 7) % 7) := by
 unfold g_days_split
 rw [show (!eqI 7 0) = true from rfl, cond_true, cond_true]
 simp only [ltI]
 by_cases hx : 0 ≤ d
 ·rw [Int.tdiv_eq_ediv_of_nonneg hx, Int.tmod_eq_emod_of_nonneg hx, decide_eq_false (by omega), cond_false, wi_id (x := d / 7) (by omega) (by omega)]
  congr 2
  ·omega
  ·omega
 ·have : d = -1 := by omega
  subst this
  rfl
theorem b_type (n : Nat) (c : GCalendar) (d : Int) (hn : 1000 ≤ n) (h1 : c.Changes.length ≤ 900) (h2 : c.Holidays.length ≤ 900) (hc : calB c = true) (hd : -1 ≤ d ∧ d ≤ 36501) : g_days_Type n c d = some (typF d c.Holidays, 0) := by
 have hc' := hc
 simp only [calB, Bool.and_eq_true] at hc'
 unfold g_days_Type
 rw [b_cal n c hn h1 h2, hc, b_dinside, decide_eq_true hd]
 simp only [Option.bind_some, Bool.not_true, cond_false]
 obtain ⟨r, e, L⟩ := b_lastI n c.Holidays d hn h2 hc'.2
 have hpw := (holB_lt _ _ hc'.2).2
 rw [e]
 simp only [Option.bind_some]
 have hj : (bif leI 0 r then (getI c.Holidays r).bind fun x8 => some (eqI x8 d) else some false) = some (decide (d ∈ c.Holidays)) := by
  by_cases h0 : 0 ≤ r
  ·obtain ⟨k, rfl⟩ : ∃ k : Nat, r = (k : Int) := ⟨r.toNat, by omega⟩
   have hk := L.hi
   have hx : c.Holidays[k]? = some (c.Holidays[k]'(by omega)) := by rw [List.getElem?_eq_getElem]
   rw [show leI 0 (k : Int) = true from by simp only [leI]; rw [decide_eq_true h0], cond_true, getI_nat, hx, Option.bind_some, eqI_d]
   generalize c.Holidays[k]'(by omega) = x at hx
   by_cases hxd : x = d
   ·rw [decide_eq_true hxd, decide_eq_true]
    rw [← hxd]
    exact List.mem_of_getElem? hx
   ·rw [decide_eq_false hxd, decide_eq_false]
    intro hmem
    obtain ⟨i, hi⟩ := List.mem_iff_getElem?.1 hmem
    have hik : (i : Int) ≤ k := by
     apply Classical.byContradiction
     intro h
     have := L.gt i d (by omega) hi
     omega
    by_cases e : i = k
    ·subst e
     rw [hx] at hi; cases hi
     exact hxd rfl
    ·have hi' := List.getElem?_eq_some_iff.1 hi
     have hx' := List.getElem?_eq_some_iff.1 hx
     have := List.pairwise_iff_getElem.1 hpw i k hi'.1 hx'.1 (by omega)
     rw [hi'.2, hx'.2] at this
     have := L.le k x (Int.le_refl _) hx
     omega
  ·rw [show leI 0 r = false from by simp only [leI]; rw [decide_eq_false h0], cond_false, decide_eq_false]
   intro hmem
   obtain ⟨i, hi⟩ := List.mem_iff_getElem?.1 hmem
   have := L.gt i d (by omega) hi
   omega
 rw [hj, Option.bind_some, typF_mem]
 by_cases hmem : d ∈ c.Holidays
 ·rw [decide_eq_true hmem, if_pos hmem]; rfl
 ·rw [decide_eq_false hmem, if_neg hmem, cond_false, b_split7 n d hd]
  unfold g_days_week wkF
  simp only [Option.bind_some]
  rw [wi_id (x := d + 7) (by omega) (by omega), Int.tmod_eq_emod_of_nonneg (a := d + 7) (by omega)]
  have hr : 0 ≤ (d + 7) % 7 ∧ (d + 7) % 7 < 7 := by omega
  generalize (d + 7) % 7 = w at hr
  have hw : w = 0 ∨ w = 1 ∨ w = 2 ∨ w = 3 ∨ w = 4 ∨ w = 5 ∨ w = 6 := by omega
  rcases hw with rfl | rfl | rfl | rfl | rfl | rfl | rfl <;> rfl
theorem b_applies (n : Nat) (c : GCalendar) (a : GArticle) (m : Int) (hn : 1000 ≤ n) (h1 : c.Changes.length ≤ 900) (h2 : c.Holidays.length ≤ 900) (hc : calB c = true) (ha : artB a = true) (hm : 0 ≤ m ∧ m ≤ 52560000) :
  g_tariff_Applies n a c m = some (appB c a m) := by
 have ho := cal_off m hc
 unfold g_tariff_Applies appB
 rw [b_article, ha, b_local n c m hn h1 h2 hc hm]
 simp only [Option.bind_some, Bool.not_true, cond_false, eqI_d, decide_true]
 generalize offF m c.Offset c.Changes = o at ho
 rw [wi_id (x := m + o) (by omega) (by omega), wi_id (x := m + o + 1440) (by omega) (by omega)]
 rw [Int.tdiv_eq_ediv_of_nonneg (a := m + o + 1440) (by omega), Int.tmod_eq_emod_of_nonneg (a := m + o + 1440) (by omega)]
 rw [wi_id (x := (m + o + 1440) / 1440) (by omega) (by omega), wi_id (x := (m + o + 1440) / 1440 - 1) (by omega) (by omega)]
 rw [b_type n c _ hn h1 h2 hc (by omega)]
 have ht := typF_range ((m + o + 1440) / 1440 - 1) c.Holidays
 simp only [Option.bind_some, cond_some, leI, ltI, decide_true, cond_true]
 rw [decide_eq_false (show ¬ typF ((m + o + 1440) / 1440 - 1) c.Holidays < 0 by omega)]
 generalize decide (bAnd .i64 a.Days (shlI .i64 1 (typF ((m + o + 1440) / 1440 - 1) c.Holidays)) = 0) = b
 generalize (m + o + 1440) % 1440 = w
 by_cases c1 : a.From ≤ w
 ·by_cases c2 : w < a.To
  ·rw [decide_eq_false (show ¬ w < a.From by omega), decide_eq_false (show ¬ a.To ≤ w by omega), decide_eq_true c1, decide_eq_true c2]
   cases b <;> rfl
  ·rw [decide_eq_false (show ¬ w < a.From by omega), decide_eq_true (show a.To ≤ w by omega), decide_eq_false c2]
   cases b <;> simp
 ·rw [decide_eq_true (show w < a.From by omega), decide_eq_false c1]; rfl
end Go.Proofs
namespace Go.Proofs
open Go Go.Abs
set_option maxRecDepth 100000
set_option linter.unusedVariables false
theorem b_minside (n : Nat) (x a b : Int) : g_money_inside n x a b = some (decide (a ≤ x ∧ x ≤ b)) := by
 unfold g_money_inside leI
 by_cases h : a ≤ x <;> simp [h]
theorem b_amount (n : Nat) (x : Int) : g_money_isAmount n x = some (decide (0 ≤ x ∧ x ≤ 1000000000)) := by
 unfold g_money_isAmount
 rw [b_minside, Option.bind_some]
theorem b_need (n : Nat) (b : Bool) (e : Int) : g_money_need n b e = some (needE b e) := by cases b <;> rfl
theorem b_checked (n : Nat) (x : Int) : g_money_checked n x = some (if 0 ≤ x ∧ x ≤ 1000000000 then .ok x else .error 3) := by
 unfold g_money_checked
 rw [b_amount, Option.bind_some, b_need, Option.bind_some, exc_need]
 by_cases h : 0 ≤ x ∧ x ≤ 1000000000
 ·rw [decide_eq_true h, if_pos h]; rfl
 ·rw [decide_eq_false h, if_neg h]; rfl
theorem r_checked' (n : Nat) (x : Int) : g_ref31_checked n x = some (if 0 ≤ x ∧ x ≤ 1000000000 then (x, 0) else (0, 3)) := by
 unfold g_ref31_checked
 rw [r_amount, Option.bind_some]
 by_cases h : 0 ≤ x ∧ x ≤ 1000000000
 ·rw [decide_eq_true h, if_pos h]; rfl
 ·rw [decide_eq_false h, if_neg h]; rfl
theorem b_end (n : Nat) (x : Int) : ((g_money_checked n x).bind (exc (fun r3 => (g_money_caught n 0).bind fun r5 => some (r3, r5)) fun e4 => (g_money_caught_2 n e4 0).bind fun r6 => some (0, r6))) = ((g_ref31_checked n x).bind fun r8 => some (r8.1, r8.2)) := by
 rw [b_checked, r_checked', Option.bind_some, Option.bind_some]
 by_cases h : 0 ≤ x ∧ x ≤ 1000000000
 ·rw [if_pos h, if_pos h]; rfl
 ·rw [if_neg h, if_neg h]; rfl
theorem b_times (n : Nat) (p q d : Int) : g_money_Times n p q d = g_ref31_Times n p q d := by
 unfold g_money_Times g_ref31_Times g_money_Times_j1
 simp only [b_amount, r_amount, b_minside, b_need, Option.bind_some, exc_need, b_end]
 unfold g_money_half g_ref31_divided
 by_cases c1 : 0 ≤ p ∧ p ≤ 1000000000
 rotate_left
 ·rw [decide_eq_false c1]; rfl
 rw [decide_eq_true c1]
 by_cases c2 : 0 ≤ q ∧ q ≤ 1000000000
 rotate_left
 ·rw [decide_eq_false c2]; rfl
 rw [decide_eq_true c2]
 simp only [Bool.not_true, cond_false, cond_true, ltI]
 by_cases c3 : 1 ≤ d
 ·rw [decide_eq_false (show ¬ d < 1 by omega)]
  by_cases c4 : d ≤ 1000000000
  ·rw [decide_eq_true (show 1 ≤ d ∧ d ≤ 1000000000 from ⟨c3, c4⟩), decide_eq_false (show ¬ 1000000000 < d by omega)]; rfl
  ·rw [decide_eq_false (show ¬ (1 ≤ d ∧ d ≤ 1000000000) by omega), decide_eq_true (show 1000000000 < d by omega)]; rfl
 ·rw [decide_eq_true (show d < 1 by omega), decide_eq_false (show ¬ (1 ≤ d ∧ d ≤ 1000000000) by omega)]; rfl
theorem b_started (n : Nat) (p q u : Int) : g_money_Started n p q u = g_ref31_Started n p q u := by
 unfold g_money_Started g_ref31_Started g_money_Started_j1
 simp only [b_amount, r_amount, b_minside, b_need, Option.bind_some, exc_need, b_end]
 by_cases c1 : 0 ≤ p ∧ p ≤ 1000000000
 rotate_left
 ·rw [decide_eq_false c1]; rfl
 rw [decide_eq_true c1]
 by_cases c2 : 0 ≤ q ∧ q ≤ 1000000000
 rotate_left
 ·rw [decide_eq_false c2]; rfl
 rw [decide_eq_true c2]
 simp only [Bool.not_true, cond_false, cond_true, ltI]
 by_cases c3 : 1 ≤ u
 ·rw [decide_eq_false (show ¬ u < 1 by omega)]
  by_cases c4 : u ≤ 1000000000
  ·rw [decide_eq_true (show 1 ≤ u ∧ u ≤ 1000000000 from ⟨c3, c4⟩), decide_eq_false (show ¬ 1000000000 < u by omega)]; rfl
  ·rw [decide_eq_false (show ¬ (1 ≤ u ∧ u ≤ 1000000000) by omega), decide_eq_true (show 1000000000 < u by omega)]; rfl
 ·rw [decide_eq_true (show u < 1 by omega), decide_eq_false (show ¬ (1 ≤ u ∧ u ≤ 1000000000) by omega)]; rfl
theorem b_tax (n : Nat) (x r : Int) : g_money_Tax n x r = g_ref31_Tax n x r := by
 unfold g_money_Tax g_ref31_Tax g_money_Tax_j1
 simp only [b_amount, r_amount, b_minside, b_need, Option.bind_some, exc_need, b_end]
 unfold g_money_half g_ref31_divided
 by_cases c1 : 0 ≤ x ∧ x ≤ 1000000000
 rotate_left
 ·rw [decide_eq_false c1]; rfl
 rw [decide_eq_true c1]
 simp only [Bool.not_true, cond_false, cond_true, ltI]
 by_cases c3 : 0 ≤ r
 ·rw [decide_eq_false (show ¬ r < 0 by omega)]
  by_cases c4 : r ≤ 100000
  ·rw [decide_eq_true (show 0 ≤ r ∧ r ≤ 100000 from ⟨c3, c4⟩), decide_eq_false (show ¬ 100000 < r by omega)]; rfl
  ·rw [decide_eq_false (show ¬ (0 ≤ r ∧ r ≤ 100000) by omega), decide_eq_true (show 100000 < r by omega)]; rfl
 ·rw [decide_eq_true (show r < 0 by omega), decide_eq_false (show ¬ (0 ≤ r ∧ r ≤ 100000) by omega)]; rfl
def amt (x : Int) : Except Int Int := if x ≤ 1000000000 then .ok x else .error 3
theorem b_must (n : Nat) (x : Int) : g_bill_must n (if x ≤ 1000000000 then (x, 0) else (0, 3) : Int × Int).1 (if x ≤ 1000000000 then (x, 0) else (0, 3) : Int × Int).2 = some (amt x) := by
 unfold amt
 by_cases h : x ≤ 1000000000
 ·rw [if_pos h, if_pos h]; rfl
 ·rw [if_neg h, if_neg h]; rfl
end Go.Proofs
