/-
  A part of the proof of a statement of the seat YtfkhnaogcahcoaaGreat.
-/
import Derived.Test.YtfkhnaogcahcoaaGreatMat03
namespace Go.Proofs
open Go Go.Abs
set_option maxRecDepth 100000
set_option linter.unusedVariables false
theorem g_bill_sum_ok (n : Nat) (a0t : GTf) (a1c : GCl) (a2s : GSs) : ∀ r, g_bill_sum n a0t a1c a2s = some r → PCall Tryz.prog 31 [ag (GTf.cs a0t), ag (GCl.cs a1c), ag (GSs.cs a2s)] (excE (fun r : GBill => (ag (GBill.cs r) : AV)) (fun e : Int => (.ifc 89 (.agg [I e]) : AV)) r) := by
 refine pcall_sim (X := excE (fun r : GBill => (ag (GBill.cs r) : AV)) (fun e : Int => (.ifc 89 (.agg [I e]) : AV))) Tryz.func31 rfl Tryz.ntmps31 rfl ?_
 unfold g_bill_sum
 refine sR tfm ⟨[3, 4, 5, 6], [3, 4, 5, 6], [], []⟩ ⟨[(3, .ptr 3 0), (4, .ptr 4 0), (5, .ptr 5 0), (6, .ptr 6 0)], [(3, .box 24 (bxc (GTf.cs a0t))), (4, .box 28 (bxc (GCl.cs a1c))), (5, .box 31 (bxc (GSs.cs a2s))), (6, .box 55 [.p (.val (.slice none 0 0)), I 0, I 0, I 0])]⟩ krf ?_
 refine sR tfm ⟨[3, 4, 5, 6, 7], [3, 4, 5, 6, 7], [], []⟩ ⟨[(3, .ptr 3 0), (4, .ptr 4 0), (5, .ptr 5 0), (6, .ptr 6 0), (7, .ptr 7 0)], [(3, .box 24 (bxc (GTf.cs a0t))), (4, .box 28 (bxc (GCl.cs a1c))), (5, .box 31 (bxc (GSs.cs a2s))), (6, .box 55 [.p (.val (.slice none 0 0)), I 0, I 0, I 0]), (7, .box 55 [.p (.val (.slice none 0 0)), I 0, I 0, I 0])]⟩ krf ?_
 refine sR tfm ⟨[3, 4, 5, 6, 7, 8, 9], [3, 4, 5, 6, 7], [], []⟩ ⟨[(3, .ptr 3 0), (4, .ptr 4 0), (5, .ptr 5 0), (6, .ptr 6 0), (7, .ptr 7 0), (8, I 0), (9, I (-1))], [(3, .box 24 (bxc (GTf.cs a0t))), (4, .box 28 (bxc (GCl.cs a1c))), (5, .box 31 (bxc (GSs.cs a2s))), (6, .box 55 [.p (.val (.slice none 0 0)), I 0, I 0, I 0]), (7, .box 55 [.p (.val (.slice none 0 0)), I 0, I 0, I 0])]⟩ krf ?_
 refine sim_cps (fun (j1_1, j1_2, j1_3, j1_4) => ⟨[(6, .ptr 6 0), (7, .ptr 7 0), (8, I j1_1), (9, I j1_2)], [(6, .box 55 [.p (.val (.slice none 0 0)), I 0, I 0, I 0]), (7, .box 55 [osl 2 GLine.cs j1_3 38, I j1_4, I 0, I 0])] ++ oarr 68 2 GLine.cs j1_3 38⟩ : (Int × Int × (OL GLine) × Int) → St) (fun (j1_1, j1_2, j1_3, j1_4) => g_bill_sum_j1 n j1_1 j1_2 j1_3 j1_4) ?_ ?_
 ·rintro ⟨j1_1, j1_2, j1_3, j1_4⟩
  show SimE (g_bill_sum_j1 n j1_1 j1_2 j1_3 j1_4) _ _ _ _ _ _
  unfold g_bill_sum_j1
  rcases j1_3 with _ | ow_j1_3
  ·refine sim_bind (fun j2 => ⟨[(6, .ptr 6 0), (7, .ptr 7 0), (8, I j1_1)], [(6, .box 55 [.p (.val (.slice none 0 0)), I 0, I 0, I 0]), (7, .box 55 [.p (.val (.slice none 0 0)), I j2, I 0, I 0])]⟩ : Int → St) ?_ ?_
   ·refine sR tfm ⟨[6, 7, 8, 9, 63], [6, 7], [], []⟩ ⟨[(6, .ptr 6 0), (7, .ptr 7 0), (8, I j1_1), (9, I j1_2), (63, B (leI 0 j1_2))], [(6, .box 55 [.p (.val (.slice none 0 0)), I 0, I 0, I 0]), (7, .box 55 [.p (.val (.slice none 0 0)), I j1_4, I 0, I 0])]⟩ krf ?_
    refine sC (leI 0 j1_2) krf ?_ ?_
    ·refine sL tfm krf ?_
     exact nq_n (minI j1_4 j1_2) ⟨[6, 7, 8], [6, 7], [], []⟩ krf
    ·refine sK ?_
     exact nq_n j1_4 ⟨[6, 7, 8], [6, 7], [], []⟩ krf
   ·rintro j2
    refine sS ?_
    refine sG ?_
    refine xR 3 krf ?_
    refine xC [] krf (g_money_Tax_ok n j2 j1_1) krf krf (fun _ => by kernel_rfl) (fun r3 => ?_)
    refine xR 2 krf ?_
    refine xs_exc [] krf (g_bill_must_ok n r3.1 r3.2) krf krf (fun _ => by kernel_rfl) (fun _ => by kernel_rfl) (fun r4 => ?_) (fun e5 => ?_)
    ·refine xR 2 krf ?_
     refine xE ?_
     refine sN ⟨[6, 7], [6, 7], [], []⟩ ⟨[(6, .ptr 6 0), (7, .ptr 7 0)], [(6, .box 55 [.p (.val (.slice none 0 0)), I 0, I 0, I 0]), (7, .box 55 [.p (.val (.slice none 0 0)), I j2, I r4, I 0])]⟩ krf ?_
     refine sR tfm ⟨[6, 7], [6, 7], [], []⟩ ⟨[(6, .ptr 6 0), (7, .ptr 7 0)], [(6, .box 55 [.p (.val (.slice none 0 0)), I 0, I 0, I 0]), (7, .box 55 [.p (.val (.slice none 0 0)), I j2, I r4, I (wi (j2 + r4))])]⟩ krf ?_
     refine sS ?_
     refine sR tfm ⟨[6, 7, 85], [6, 7], [], []⟩ ⟨[(6, .ptr 6 0), (7, .ptr 7 0), (85, B (ltI 1000000000 (wi (j2 + r4))))], [(6, .box 55 [.p (.val (.slice none 0 0)), I 0, I 0, I 0]), (7, .box 55 [.p (.val (.slice none 0 0)), I j2, I r4, I (wi (j2 + r4))])]⟩ krf ?_
     refine sC (ltI 1000000000 (wi (j2 + r4))) krf ?_ ?_
     ·refine sG ?_
      refine xR 2 krf ?_
      refine xs_panic 89 (.agg [I 3]) krf rfl krf ?_
      refine sq_p ?_
      exact rq_p krf krf
     ·refine sK ?_
      refine sN ⟨[6, 7], [6, 7], [], []⟩ ⟨[(6, .ptr 6 0), (7, .ptr 7 0)], [(6, .box 55 [.p (.val (.slice none 0 0)), I 0, I 0, I 0]), (7, .box 55 [.p (.val (.slice none 0 0)), I j2, I r4, I (wi (j2 + r4))])]⟩ krf ?_
      refine sR tfm ⟨[6], [6], [], []⟩ ⟨[(6, .ptr 6 0)], [(6, .box 55 [.p (.val (.slice none 0 0)), I j2, I r4, I (wi (j2 + r4))])]⟩ krf ?_
      refine sT ?_
      exact qR (.agg [.sl 2, .id, .id, .id]) krf krf krf
    ·refine sq_p ?_
     exact rq_p krf krf
  ·refine sim_bind (fun j2 => ⟨[(6, .ptr 6 0), (7, .ptr 7 0), (8, I j1_1)], [(6, .box 55 [.p (.val (.slice none 0 0)), I 0, I 0, I 0]), (7, .box 55 [.tsl 2 (List.map GLine.cs (OL.own ow_j1_3).toL) 38, I j2, I 0, I 0]), (38, .arr 68 2 (List.map GLine.cs (OL.own ow_j1_3).toL).length)]⟩ : Int → St) ?_ ?_
   ·refine sR tfm ⟨[6, 7, 8, 9, 63], [6, 7, 38], [], []⟩ ⟨[(6, .ptr 6 0), (7, .ptr 7 0), (8, I j1_1), (9, I j1_2), (63, B (leI 0 j1_2))], [(6, .box 55 [.p (.val (.slice none 0 0)), I 0, I 0, I 0]), (7, .box 55 [.tsl 2 (List.map GLine.cs (OL.own ow_j1_3).toL) 38, I j1_4, I 0, I 0]), (38, .arr 68 2 (List.map GLine.cs (OL.own ow_j1_3).toL).length)]⟩ krf ?_
    refine sC (leI 0 j1_2) krf ?_ ?_
    ·refine sL tfm krf ?_
     exact nq_n (minI j1_4 j1_2) ⟨[6, 7, 8], [6, 7, 38], [], []⟩ krf
    ·refine sK ?_
     exact nq_n j1_4 ⟨[6, 7, 8], [6, 7, 38], [], []⟩ krf
   ·rintro j2
    refine sS ?_
    refine sG ?_
    refine xR 3 krf ?_
    refine xC [] krf (g_money_Tax_ok n j2 j1_1) krf krf (fun _ => by kernel_rfl) (fun r3 => ?_)
    refine xR 2 krf ?_
    refine xs_exc [] krf (g_bill_must_ok n r3.1 r3.2) krf krf (fun _ => by kernel_rfl) (fun _ => by kernel_rfl) (fun r4 => ?_) (fun e5 => ?_)
    ·refine xR 2 krf ?_
     refine xE ?_
     refine sN ⟨[6, 7], [6, 7, 38], [], []⟩ ⟨[(6, .ptr 6 0), (7, .ptr 7 0)], [(6, .box 55 [.p (.val (.slice none 0 0)), I 0, I 0, I 0]), (7, .box 55 [.tsl 2 (List.map GLine.cs (OL.own ow_j1_3).toL) 38, I j2, I r4, I 0]), (38, .arr 68 2 (List.map GLine.cs (OL.own ow_j1_3).toL).length)]⟩ krf ?_
     refine sR tfm ⟨[6, 7], [6, 7, 38], [], []⟩ ⟨[(6, .ptr 6 0), (7, .ptr 7 0)], [(6, .box 55 [.p (.val (.slice none 0 0)), I 0, I 0, I 0]), (7, .box 55 [.tsl 2 (List.map GLine.cs (OL.own ow_j1_3).toL) 38, I j2, I r4, I (wi (j2 + r4))]), (38, .arr 68 2 (List.map GLine.cs (OL.own ow_j1_3).toL).length)]⟩ krf ?_
     refine sS ?_
     refine sR tfm ⟨[6, 7, 85], [6, 7, 38], [], []⟩ ⟨[(6, .ptr 6 0), (7, .ptr 7 0), (85, B (ltI 1000000000 (wi (j2 + r4))))], [(6, .box 55 [.p (.val (.slice none 0 0)), I 0, I 0, I 0]), (7, .box 55 [.tsl 2 (List.map GLine.cs (OL.own ow_j1_3).toL) 38, I j2, I r4, I (wi (j2 + r4))]), (38, .arr 68 2 (List.map GLine.cs (OL.own ow_j1_3).toL).length)]⟩ krf ?_
     refine sC (ltI 1000000000 (wi (j2 + r4))) krf ?_ ?_
     ·refine sG ?_
      refine xR 2 krf ?_
      refine xs_panic 89 (.agg [I 3]) krf rfl krf ?_
      refine sq_p ?_
      exact rq_p krf krf
     ·refine sK ?_
      refine sN ⟨[6, 7], [6, 7, 38], [], []⟩ ⟨[(6, .ptr 6 0), (7, .ptr 7 0)], [(6, .box 55 [.p (.val (.slice none 0 0)), I 0, I 0, I 0]), (7, .box 55 [.tsl 2 (List.map GLine.cs (OL.own ow_j1_3).toL) 38, I j2, I r4, I (wi (j2 + r4))]), (38, .arr 68 2 (List.map GLine.cs (OL.own ow_j1_3).toL).length)]⟩ krf ?_
      refine sR tfm ⟨[6], [6, 38], [], []⟩ ⟨[(6, .ptr 6 0)], [(6, .box 55 [.tsl 2 (List.map GLine.cs (OL.own ow_j1_3).toL) 38, I j2, I r4, I (wi (j2 + r4))]), (38, .arr 68 2 (List.map GLine.cs (OL.own ow_j1_3).toL).length)]⟩ krf ?_
      refine sT ?_
      exact qR (.agg [.sl 2, .id, .id, .id]) krf krf krf
    ·refine sq_p ?_
     exact rq_p krf krf
 ·refine sR tfm ⟨[4, 5, 6, 7, 8, 9, 15, 16, 17], [4, 5, 6, 7], [], []⟩ ⟨[(4, .ptr 4 0), (5, .ptr 5 0), (6, .ptr 6 0), (7, .ptr 7 0), (8, I 0), (9, I (-1)), (15, .p (.sl 7 (List.map GAr.cs a0t.Articles))), (16, I (lenI (List.map GAr.cs a0t.Articles))), (17, I 0)], [(4, .box 28 (bxc (GCl.cs a1c))), (5, .box 31 (bxc (GSs.cs a2s))), (6, .box 55 [.p (.val (.slice none 0 0)), I 0, I 0, I 0]), (7, .box 55 [.p (.val (.slice none 0 0)), I 0, I 0, I 0])]⟩ krf ?_
  refine sB ?_
  refine sim_loop (fun (l6_1, l6_2, l6_3, l6_4, l6_5) => ⟨[(4, .ptr 4 0), (5, .ptr 5 0), (6, .ptr 6 0), (7, .ptr 7 0), (8, I l6_1), (9, I l6_2), (15, .p (.sl 7 (List.map GAr.cs a0t.Articles))), (16, I (lenI (List.map GAr.cs a0t.Articles))), (17, I l6_3)], [(4, .box 28 (bxc (GCl.cs a1c))), (5, .box 31 (bxc (GSs.cs a2s))), (6, .box 55 [.p (.val (.slice none 0 0)), I 0, I 0, I 0]), (7, .box 55 [osl 2 GLine.cs l6_4 38, I l6_5, I 0, I 0])] ++ oarr 68 2 GLine.cs l6_4 38⟩ : (Int × Int × Int × (OL GLine) × Int) → St) (weak_shr (K := ⟨[4, 5, 6, 7, 8, 9, 15, 16, 17], [4, 5, 6, 7], [], []⟩) krf) ?_
  rintro recl6 ⟨l6_1, l6_2, l6_3, l6_4, l6_5⟩
  show SimE (g_bill_sum_l6 n a0t a1c a2s recl6 l6_1 l6_2 l6_3 l6_4 l6_5) _ _ _ _ _ _
  unfold g_bill_sum_l6
  rcases l6_4 with _ | ow_l6_4
  ·refine sR tfm ⟨[4, 5, 6, 7, 8, 9, 15, 16, 17, 18], [4, 5, 6, 7], [], []⟩ ⟨[(4, .ptr 4 0), (5, .ptr 5 0), (6, .ptr 6 0), (7, .ptr 7 0), (8, I l6_1), (9, I l6_2), (15, .p (.sl 7 (List.map GAr.cs a0t.Articles))), (16, I (lenI (List.map GAr.cs a0t.Articles))), (17, I l6_3), (18, B (ltI l6_3 (lenI (List.map GAr.cs a0t.Articles))))], [(4, .box 28 (bxc (GCl.cs a1c))), (5, .box 31 (bxc (GSs.cs a2s))), (6, .box 55 [.p (.val (.slice none 0 0)), I 0, I 0, I 0]), (7, .box 55 [.p (.val (.slice none 0 0)), I l6_5, I 0, I 0])]⟩ krf ?_
   refine sS ?_
   refine sC (ltI l6_3 (lenI (List.map GAr.cs a0t.Articles))) krf ?_ ?_
   ·refine sK ?_
    refine sN ⟨[4, 5, 6, 7, 8, 9, 15, 16, 17], [4, 5, 6, 7], [], []⟩ ⟨[(4, .ptr 4 0), (5, .ptr 5 0), (6, .ptr 6 0), (7, .ptr 7 0), (8, I l6_1), (9, I l6_2), (15, .p (.sl 7 (List.map GAr.cs a0t.Articles))), (16, I (lenI (List.map GAr.cs a0t.Articles))), (17, I l6_3)], [(4, .box 28 (bxc (GCl.cs a1c))), (5, .box 31 (bxc (GSs.cs a2s))), (6, .box 55 [.p (.val (.slice none 0 0)), I 0, I 0, I 0]), (7, .box 55 [.p (.val (.slice none 0 0)), I l6_5, I 0, I 0])]⟩ krf ?_
    refine sS ?_
    refine sB ?_
    refine sS ?_
    refine sG ?_
    refine xR 1 krf ?_
    refine xG krf krf (aop_idx (e := 45) (S := 7) (enc := GAr.cs) (l := a0t.Articles) (k := .i64) (n := l6_3) (sv := .p (.sl 7 (List.map GAr.cs a0t.Articles))) rfl krf krf krf krf krf) (fun x7 => ?_)
    refine xR 4 krf ?_
    refine xE ?_
    refine sN ⟨[4, 5, 6, 7, 8, 9, 10, 11, 15, 16, 17], [4, 5, 6, 7, 11], [], []⟩ ⟨[(4, .ptr 4 0), (5, .ptr 5 0), (6, .ptr 6 0), (7, .ptr 7 0), (8, I l6_1), (9, I l6_2), (10, I l6_3), (11, .ptr 11 0), (15, .p (.sl 7 (List.map GAr.cs a0t.Articles))), (16, I (lenI (List.map GAr.cs a0t.Articles))), (17, I l6_3)], [(4, .box 28 (bxc (GCl.cs a1c))), (5, .box 31 (bxc (GSs.cs a2s))), (6, .box 55 [.p (.val (.slice none 0 0)), I 0, I 0, I 0]), (7, .box 55 [.p (.val (.slice none 0 0)), I l6_5, I 0, I 0]), (11, .box 45 (bxc (GAr.cs x7)))]⟩ krf ?_
    refine sR tfm ⟨[4, 5, 6, 7, 8, 9, 10, 11, 15, 16, 17, 23], [4, 5, 6, 7, 11], [], []⟩ ⟨[(4, .ptr 4 0), (5, .ptr 5 0), (6, .ptr 6 0), (7, .ptr 7 0), (8, I l6_1), (9, I l6_2), (10, I l6_3), (11, .ptr 11 0), (15, .p (.sl 7 (List.map GAr.cs a0t.Articles))), (16, I (lenI (List.map GAr.cs a0t.Articles))), (17, I l6_3), (23, I x7.Kind)], [(4, .box 28 (bxc (GCl.cs a1c))), (5, .box 31 (bxc (GSs.cs a2s))), (6, .box 55 [.p (.val (.slice none 0 0)), I 0, I 0, I 0]), (7, .box 55 [.p (.val (.slice none 0 0)), I l6_5, I 0, I 0]), (11, .box 45 (bxc (GAr.cs x7)))]⟩ krf ?_
    refine sB ?_
    refine sR tfm ⟨[4, 5, 6, 7, 8, 9, 10, 11, 15, 16, 17, 23, 45], [4, 5, 6, 7, 11], [], []⟩ ⟨[(4, .ptr 4 0), (5, .ptr 5 0), (6, .ptr 6 0), (7, .ptr 7 0), (8, I l6_1), (9, I l6_2), (10, I l6_3), (11, .ptr 11 0), (15, .p (.sl 7 (List.map GAr.cs a0t.Articles))), (16, I (lenI (List.map GAr.cs a0t.Articles))), (17, I l6_3), (23, I x7.Kind), (45, B (eqI x7.Kind 5))], [(4, .box 28 (bxc (GCl.cs a1c))), (5, .box 31 (bxc (GSs.cs a2s))), (6, .box 55 [.p (.val (.slice none 0 0)), I 0, I 0, I 0]), (7, .box 55 [.p (.val (.slice none 0 0)), I l6_5, I 0, I 0]), (11, .box 45 (bxc (GAr.cs x7)))]⟩ krf ?_
    refine sC (eqI x7.Kind 5) krf ?_ ?_
    ·refine sim_bind (fun j8 => ⟨[(4, .ptr 4 0), (5, .ptr 5 0), (6, .ptr 6 0), (7, .ptr 7 0), (8, I l6_1), (9, I l6_2), (11, .ptr 11 0), (15, .p (.sl 7 (List.map GAr.cs a0t.Articles))), (16, I (lenI (List.map GAr.cs a0t.Articles))), (17, I l6_3), (54, B j8)], [(4, .box 28 (bxc (GCl.cs a1c))), (5, .box 31 (bxc (GSs.cs a2s))), (6, .box 55 [.p (.val (.slice none 0 0)), I 0, I 0, I 0]), (7, .box 55 [.p (.val (.slice none 0 0)), I l6_5, I 0, I 0]), (11, .box 45 (bxc (GAr.cs x7)))]⟩ : Bool → St) ?_ ?_
     ·refine sG ?_
      refine xR 3 krf ?_
      refine xS (ltI l6_2 0) (fun h9 => ?_) (fun h9 => ?_)
      ·refine xN (want_ft krf h9) krf ?_
       refine xR 4 krf ?_
       refine xE ?_
       exact nq_n true ⟨[4, 5, 6, 7, 8, 9, 11, 15, 16, 17, 54], [4, 5, 6, 7, 11], [], []⟩ krf
      ·refine xO (want_ff krf h9) krf ?_
       refine xR 4 krf ?_
       refine xE ?_
       exact nq_n (ltI x7.Price l6_2) ⟨[4, 5, 6, 7, 8, 9, 11, 15, 16, 17, 54], [4, 5, 6, 7, 11], [], []⟩ krf
     ·rintro j8
      refine sC j8 krf ?_ ?_
      ·refine sL tfm krf ?_
       refine bq_n ?_
       refine bq_n ?_
       refine sN ⟨[4, 5, 6, 7, 8, 9, 15, 16, 17], [4, 5, 6, 7], [], []⟩ ⟨[(4, .ptr 4 0), (5, .ptr 5 0), (6, .ptr 6 0), (7, .ptr 7 0), (8, I l6_1), (9, I x7.Price), (15, .p (.sl 7 (List.map GAr.cs a0t.Articles))), (16, I (lenI (List.map GAr.cs a0t.Articles))), (17, I l6_3)], [(4, .box 28 (bxc (GCl.cs a1c))), (5, .box 31 (bxc (GSs.cs a2s))), (6, .box 55 [.p (.val (.slice none 0 0)), I 0, I 0, I 0]), (7, .box 55 [.p (.val (.slice none 0 0)), I l6_5, I 0, I 0])]⟩ krf ?_
       refine sL tfm krf ?_
       exact kq_n (l6_1, x7.Price, wi (l6_3 + 1), OL.nil, l6_5) ⟨[4, 5, 6, 7, 8, 9, 15, 16, 17], [4, 5, 6, 7], [], []⟩ krf
      ·refine sK ?_
       refine bq_n ?_
       refine bq_n ?_
       refine sN ⟨[4, 5, 6, 7, 8, 9, 15, 16, 17], [4, 5, 6, 7], [], []⟩ ⟨[(4, .ptr 4 0), (5, .ptr 5 0), (6, .ptr 6 0), (7, .ptr 7 0), (8, I l6_1), (9, I l6_2), (15, .p (.sl 7 (List.map GAr.cs a0t.Articles))), (16, I (lenI (List.map GAr.cs a0t.Articles))), (17, I l6_3)], [(4, .box 28 (bxc (GCl.cs a1c))), (5, .box 31 (bxc (GSs.cs a2s))), (6, .box 55 [.p (.val (.slice none 0 0)), I 0, I 0, I 0]), (7, .box 55 [.p (.val (.slice none 0 0)), I l6_5, I 0, I 0])]⟩ krf ?_
       refine sL tfm krf ?_
       exact kq_n (l6_1, l6_2, wi (l6_3 + 1), OL.nil, l6_5) ⟨[4, 5, 6, 7, 8, 9, 15, 16, 17], [4, 5, 6, 7], [], []⟩ krf
    ·refine sR tfm ⟨[4, 5, 6, 7, 8, 9, 10, 11, 15, 16, 17, 57], [4, 5, 6, 7, 11], [], []⟩ ⟨[(4, .ptr 4 0), (5, .ptr 5 0), (6, .ptr 6 0), (7, .ptr 7 0), (8, I l6_1), (9, I l6_2), (10, I l6_3), (11, .ptr 11 0), (15, .p (.sl 7 (List.map GAr.cs a0t.Articles))), (16, I (lenI (List.map GAr.cs a0t.Articles))), (17, I l6_3), (57, B (eqI x7.Kind 6))], [(4, .box 28 (bxc (GCl.cs a1c))), (5, .box 31 (bxc (GSs.cs a2s))), (6, .box 55 [.p (.val (.slice none 0 0)), I 0, I 0, I 0]), (7, .box 55 [.p (.val (.slice none 0 0)), I l6_5, I 0, I 0]), (11, .box 45 (bxc (GAr.cs x7)))]⟩ krf ?_
     refine sC (eqI x7.Kind 6) krf ?_ ?_
     ·refine sL tfm krf ?_
      refine bq_n ?_
      refine bq_n ?_
      refine sN ⟨[4, 5, 6, 7, 8, 9, 15, 16, 17], [4, 5, 6, 7], [], []⟩ ⟨[(4, .ptr 4 0), (5, .ptr 5 0), (6, .ptr 6 0), (7, .ptr 7 0), (8, I x7.Price), (9, I l6_2), (15, .p (.sl 7 (List.map GAr.cs a0t.Articles))), (16, I (lenI (List.map GAr.cs a0t.Articles))), (17, I l6_3)], [(4, .box 28 (bxc (GCl.cs a1c))), (5, .box 31 (bxc (GSs.cs a2s))), (6, .box 55 [.p (.val (.slice none 0 0)), I 0, I 0, I 0]), (7, .box 55 [.p (.val (.slice none 0 0)), I l6_5, I 0, I 0])]⟩ krf ?_
      refine sL tfm krf ?_
      exact kq_n (x7.Price, l6_2, wi (l6_3 + 1), OL.nil, l6_5) ⟨[4, 5, 6, 7, 8, 9, 15, 16, 17], [4, 5, 6, 7], [], []⟩ krf
     ·refine sR tfm ⟨[4, 5, 6, 7, 8, 9, 10, 12, 15, 16, 17], [4, 5, 6, 7, 28], [], []⟩ ⟨[(4, .ptr 4 0), (5, .ptr 5 0), (6, .ptr 6 0), (7, .ptr 7 0), (8, I l6_1), (9, I l6_2), (10, I l6_3), (12, .ptr 28 0), (15, .p (.sl 7 (List.map GAr.cs a0t.Articles))), (16, I (lenI (List.map GAr.cs a0t.Articles))), (17, I l6_3)], [(4, .box 28 (bxc (GCl.cs a1c))), (5, .box 31 (bxc (GSs.cs a2s))), (6, .box 55 [.p (.val (.slice none 0 0)), I 0, I 0, I 0]), (7, .box 55 [.p (.val (.slice none 0 0)), I l6_5, I 0, I 0]), (28, .box 93 (bxc (GBB.cs ⟨x7, a1c, a2s⟩)))]⟩ krf ?_
      refine sim_cps (fun j10 => ⟨[(4, .ptr 4 0), (5, .ptr 5 0), (6, .ptr 6 0), (7, .ptr 7 0), (8, I l6_1), (9, I l6_2), (10, I l6_3), (13, I j10), (15, .p (.sl 7 (List.map GAr.cs a0t.Articles))), (16, I (lenI (List.map GAr.cs a0t.Articles))), (17, I l6_3)], [(4, .box 28 (bxc (GCl.cs a1c))), (5, .box 31 (bxc (GSs.cs a2s))), (6, .box 55 [.p (.val (.slice none 0 0)), I 0, I 0, I 0]), (7, .box 55 [.p (.val (.slice none 0 0)), I l6_5, I 0, I 0])]⟩ : Int → St) (fun j10 => g_bill_sum_j10 l6_1 l6_2 l6_3 OL.nil l6_5 recl6 j10) ?_ ?_
      ·rintro j10
       show SimE (g_bill_sum_j10 l6_1 l6_2 l6_3 OL.nil l6_5 recl6 j10) _ _ _ _ _ _
       unfold g_bill_sum_j10
       refine sS ?_
       refine sG ?_
       refine xR 6 krf ?_
       refine xF krf krf (aop_app0 (e := 68) (S := 2) (by_ := 16) (enc := GLine.cs) (d := 38) (l2 := [(⟨l6_3, j10⟩ : GLine)]) (xv := .tsl 2 (List.map GLine.cs [(⟨l6_3, j10⟩ : GLine)]) 37) rfl rfl krf krf rfl krf krf krf rfl krf) ?_
       refine xR 2 krf ?_
       refine xE ?_
       refine sN ⟨[4, 5, 6, 7, 8, 9, 13, 15, 16, 17], [4, 5, 6, 7, 38], [], []⟩ ⟨[(4, .ptr 4 0), (5, .ptr 5 0), (6, .ptr 6 0), (7, .ptr 7 0), (8, I l6_1), (9, I l6_2), (13, I j10), (15, .p (.sl 7 (List.map GAr.cs a0t.Articles))), (16, I (lenI (List.map GAr.cs a0t.Articles))), (17, I l6_3)], [(4, .box 28 (bxc (GCl.cs a1c))), (5, .box 31 (bxc (GSs.cs a2s))), (6, .box 55 [.p (.val (.slice none 0 0)), I 0, I 0, I 0]), (7, .box 55 [.tsl 2 (List.map GLine.cs (OL.nil.toL ++ [(⟨l6_3, j10⟩ : GLine)])) 38, I l6_5, I 0, I 0]), (38, .arr 68 2 (List.map GLine.cs (OL.nil.toL ++ [(⟨l6_3, j10⟩ : GLine)])).length)]⟩ krf ?_
       refine sL tfm krf ?_
       refine bq_n ?_
       refine bq_n ?_
       refine sN ⟨[4, 5, 6, 7, 8, 9, 15, 16, 17], [4, 5, 6, 7, 38], [], []⟩ ⟨[(4, .ptr 4 0), (5, .ptr 5 0), (6, .ptr 6 0), (7, .ptr 7 0), (8, I l6_1), (9, I l6_2), (15, .p (.sl 7 (List.map GAr.cs a0t.Articles))), (16, I (lenI (List.map GAr.cs a0t.Articles))), (17, I l6_3)], [(4, .box 28 (bxc (GCl.cs a1c))), (5, .box 31 (bxc (GSs.cs a2s))), (6, .box 55 [.p (.val (.slice none 0 0)), I 0, I 0, I 0]), (7, .box 55 [.tsl 2 (List.map GLine.cs (OL.nil.toL ++ [(⟨l6_3, j10⟩ : GLine)])) 38, I (wi (l6_5 + j10)), I 0, I 0]), (38, .arr 68 2 (List.map GLine.cs (OL.nil.toL ++ [(⟨l6_3, j10⟩ : GLine)])).length)]⟩ krf ?_
       refine sL tfm krf ?_
       exact kq_n (l6_1, l6_2, wi (l6_3 + 1), OL.own (OL.nil.toL ++ [(⟨l6_3, j10⟩ : GLine)]), wi (l6_5 + j10)) ⟨[4, 5, 6, 7, 8, 9, 15, 16, 17], [4, 5, 6, 7, 38], [], []⟩ krf
      ·refine sG ?_
       refine xR 1 krf ?_
       refine xs_inline [(1028, .box 93 (bxc (GBB.cs ⟨x7, a1c, a2s⟩)))] [.ptr 1028 0] [(1028, 28)] [] [] krf Tryz.func43 rfl Tryz.ntmps43 rfl krf krf krf ?_
       refine sR tfm ⟨[0], [1028], [], []⟩ ⟨[(0, .ptr 1028 0)], [(1028, .box 93 (bxc (GBB.cs ⟨x7, a1c, a2s⟩)))]⟩ krf ?_
       refine sS ?_
       refine sR tfm ⟨[0, 6, 7], [1028], [], []⟩ ⟨[(0, .ptr 1028 0), (6, .ptr 1028 0), (7, I x7.Kind)], [(1028, .box 93 (bxc (GBB.cs ⟨x7, a1c, a2s⟩)))]⟩ krf ?_
       refine sB ?_
       refine sR tfm ⟨[0, 6, 7, 8], [1028], [], []⟩ ⟨[(0, .ptr 1028 0), (6, .ptr 1028 0), (7, I x7.Kind), (8, B (eqI x7.Kind 1))], [(1028, .box 93 (bxc (GBB.cs ⟨x7, a1c, a2s⟩)))]⟩ krf ?_
       refine sC (eqI x7.Kind 1) krf ?_ ?_
       ·refine sR tfm ⟨[2], [1028], [], []⟩ ⟨[(2, .fn (.func 62) [.ptr 1028 0] [])], [(1028, .box 93 (bxc (GBB.cs ⟨x7, a1c, a2s⟩)))]⟩ krf ?_
        refine sT ?_
        refine bq_r ?_
        refine sq_r ?_
        refine iq_ret .id [1028] [] (.fn (.func 62) [.ptr 1028 0] []) krf krf ?_
        refine kr0 ?_
        refine xs_inline [(1028, .box 93 (bxc (GBB.cs ⟨x7, a1c, a2s⟩)))] [.ptr 1028 0] [(1028, 28)] [] [] krf Tryz.func62 rfl Tryz.ntmps62 rfl krf krf krf ?_
        refine sR tfm ⟨[0], [1028], [], []⟩ ⟨[(0, .ptr 1028 0)], [(1028, .box 93 (bxc (GBB.cs ⟨x7, a1c, a2s⟩)))]⟩ krf ?_
        refine sS ?_
        refine sS ?_
        refine sG ?_
        refine xR 6 krf ?_
        refine xs_ro [.ro [], .cv (.id)] krf (g_bb_applies_ok n (⟨x7, a1c, a2s⟩ : GBB) a2s.From) krf krf (fun _ => by kernel_rfl) (fun r11 => ?_)
        refine xE ?_
        refine sN ⟨[0, 6, 7, 9], [1028], [], []⟩ ⟨[(0, .ptr 1028 0), (6, .ptr 1028 10), (7, .ptr 1028 10), (9, B r11)], [(1028, .box 93 (bxc (GBB.cs ⟨x7, a1c, a2s⟩)))]⟩ krf ?_
        refine sC r11 krf ?_ ?_
        ·refine sR tfm ⟨[2], [1028], [], []⟩ ⟨[(2, I x7.Price)], [(1028, .box 93 (bxc (GBB.cs ⟨x7, a1c, a2s⟩)))]⟩ krf ?_
         refine sT ?_
         refine sq_r ?_
         refine iq_ret .id [1028] [] (I x7.Price) krf krf ?_
         refine kr0 ?_
         refine xR 1 krf ?_
         refine xE ?_
         exact kq_n (k := fun j10 => g_bill_sum_j10 l6_1 l6_2 l6_3 OL.nil l6_5 recl6 j10) x7.Price ⟨[4, 5, 6, 7, 8, 9, 10, 13, 15, 16, 17], [4, 5, 6, 7], [], []⟩ krf
        ·refine sK ?_
         refine sN ⟨[6, 7], [1028], [], []⟩ ⟨[(6, .ptr 1028 10), (7, .ptr 1028 10)], [(1028, .box 93 (bxc (GBB.cs ⟨x7, a1c, a2s⟩)))]⟩ krf ?_
         refine sR tfm ⟨[2], [1028], [], []⟩ ⟨[(2, I 0)], [(1028, .box 93 (bxc (GBB.cs ⟨x7, a1c, a2s⟩)))]⟩ krf ?_
         refine sT ?_
         refine iq_ret .id [1028] [] (I 0) krf krf ?_
         refine kr0 ?_
         refine xR 1 krf ?_
         refine xE ?_
         exact kq_n (k := fun j10 => g_bill_sum_j10 l6_1 l6_2 l6_3 OL.nil l6_5 recl6 j10) 0 ⟨[4, 5, 6, 7, 8, 9, 10, 13, 15, 16, 17], [4, 5, 6, 7], [], []⟩ krf
       ·refine sR tfm ⟨[0, 6, 7, 12], [1028], [], []⟩ ⟨[(0, .ptr 1028 0), (6, .ptr 1028 0), (7, I x7.Kind), (12, B (eqI x7.Kind 2))], [(1028, .box 93 (bxc (GBB.cs ⟨x7, a1c, a2s⟩)))]⟩ krf ?_
        refine sC (eqI x7.Kind 2) krf ?_ ?_
        ·refine sR tfm ⟨[2], [1028], [], []⟩ ⟨[(2, .fn (.func 63) [.ptr 1028 0] [])], [(1028, .box 93 (bxc (GBB.cs ⟨x7, a1c, a2s⟩)))]⟩ krf ?_
         refine sT ?_
         refine bq_r ?_
         refine sq_r ?_
         refine iq_ret .id [1028] [] (.fn (.func 63) [.ptr 1028 0] []) krf krf ?_
         refine kr0 ?_
         refine xs_inline [(1028, .box 93 (bxc (GBB.cs ⟨x7, a1c, a2s⟩)))] [.ptr 1028 0] [(1028, 28)] [] [] krf Tryz.func63 rfl Tryz.ntmps63 rfl krf krf krf ?_
         refine sR tfm ⟨[0], [1028], [], []⟩ ⟨[(0, .ptr 1028 0)], [(1028, .box 93 (bxc (GBB.cs ⟨x7, a1c, a2s⟩)))]⟩ krf ?_
         refine sR tfm ⟨[0, 3], [1028], [], []⟩ ⟨[(0, .ptr 1028 0), (3, I 0)], [(1028, .box 93 (bxc (GBB.cs ⟨x7, a1c, a2s⟩)))]⟩ krf ?_
         refine sim_bind (fun j12 => ⟨[(0, .ptr 1028 0), (3, I j12), (6, .ptr 1028 0), (7, .ptr 1028 0)], [(1028, .box 93 (bxc (GBB.cs ⟨x7, a1c, a2s⟩)))]⟩ : Int → St) ?_ ?_
         ·refine sR tfm ⟨[0, 3, 6, 7, 10, 11, 12], [1028], [], []⟩ ⟨[(0, .ptr 1028 0), (3, I 0), (6, .ptr 1028 0), (7, .ptr 1028 0), (10, .p (.sl 2 (List.map GSl.cs a2s.Slices))), (11, I (lenI (List.map GSl.cs a2s.Slices))), (12, I 0)], [(1028, .box 93 (bxc (GBB.cs ⟨x7, a1c, a2s⟩)))]⟩ krf ?_
          refine sB ?_
          refine sim_loop (fun (l13_1, l13_2) => ⟨[(0, .ptr 1028 0), (3, I l13_1), (6, .ptr 1028 0), (7, .ptr 1028 0), (10, .p (.sl 2 (List.map GSl.cs a2s.Slices))), (11, I (lenI (List.map GSl.cs a2s.Slices))), (12, I l13_2)], [(1028, .box 93 (bxc (GBB.cs ⟨x7, a1c, a2s⟩)))]⟩ : (Int × Int) → St) (weak_shr (K := ⟨[0, 3, 6, 7, 10, 11, 12], [1028], [], []⟩) krf) ?_
          rintro recl13 ⟨l13_1, l13_2⟩
          show SimE (g_bill_sum_l13 n a1c a2s x7 recl13 l13_1 l13_2) _ _ _ _ _ _
          unfold g_bill_sum_l13
          refine sR tfm ⟨[0, 3, 6, 7, 10, 11, 12, 13], [1028], [], []⟩ ⟨[(0, .ptr 1028 0), (3, I l13_1), (6, .ptr 1028 0), (7, .ptr 1028 0), (10, .p (.sl 2 (List.map GSl.cs a2s.Slices))), (11, I (lenI (List.map GSl.cs a2s.Slices))), (12, I l13_2), (13, B (ltI l13_2 (lenI (List.map GSl.cs a2s.Slices))))], [(1028, .box 93 (bxc (GBB.cs ⟨x7, a1c, a2s⟩)))]⟩ krf ?_
          refine sS ?_
          refine sC (ltI l13_2 (lenI (List.map GSl.cs a2s.Slices))) krf ?_ ?_
          ·refine sK ?_
           refine sN ⟨[0, 3, 6, 7, 10, 11, 12], [1028], [], []⟩ ⟨[(0, .ptr 1028 0), (3, I l13_1), (6, .ptr 1028 0), (7, .ptr 1028 0), (10, .p (.sl 2 (List.map GSl.cs a2s.Slices))), (11, I (lenI (List.map GSl.cs a2s.Slices))), (12, I l13_2)], [(1028, .box 93 (bxc (GBB.cs ⟨x7, a1c, a2s⟩)))]⟩ krf ?_
           refine sS ?_
           refine sB ?_
           refine sS ?_
           refine sG ?_
           refine xG krf krf (aop_idx (e := 48) (S := 2) (enc := GSl.cs) (l := a2s.Slices) (k := .i64) (n := l13_2) (sv := .p (.sl 2 (List.map GSl.cs a2s.Slices))) rfl krf krf krf krf krf) (fun x14 => ?_)
           refine xR 3 krf ?_
           refine xE ?_
           refine sN ⟨[0, 3, 5, 6, 7, 10, 11, 12], [5, 1028], [], []⟩ ⟨[(0, .ptr 1028 0), (3, I l13_1), (5, .ptr 5 0), (6, .ptr 1028 0), (7, .ptr 1028 0), (10, .p (.sl 2 (List.map GSl.cs a2s.Slices))), (11, I (lenI (List.map GSl.cs a2s.Slices))), (12, I l13_2)], [(5, .box 48 (bxc (GSl.cs x14))), (1028, .box 93 (bxc (GBB.cs ⟨x7, a1c, a2s⟩)))]⟩ krf ?_
           refine sS ?_
           refine sG ?_
           refine xR 3 krf ?_
           refine xs_ro [.ro [], .cv (.id)] krf (g_bb_applies_ok n (⟨x7, a1c, a2s⟩ : GBB) x14.Minute) krf krf (fun _ => by kernel_rfl) (fun r15 => ?_)
           refine xE ?_
           refine sN ⟨[0, 3, 5, 6, 7, 10, 11, 12, 19], [5, 1028], [], []⟩ ⟨[(0, .ptr 1028 0), (3, I l13_1), (5, .ptr 5 0), (6, .ptr 1028 0), (7, .ptr 1028 0), (10, .p (.sl 2 (List.map GSl.cs a2s.Slices))), (11, I (lenI (List.map GSl.cs a2s.Slices))), (12, I l13_2), (19, B r15)], [(5, .box 48 (bxc (GSl.cs x14))), (1028, .box 93 (bxc (GBB.cs ⟨x7, a1c, a2s⟩)))]⟩ krf ?_
           refine sC r15 krf ?_ ?_
           ·refine sL tfm krf ?_
            refine bq_n ?_
            refine sN ⟨[0, 3, 6, 7, 10, 11, 12], [1028], [], []⟩ ⟨[(0, .ptr 1028 0), (3, I (wi (l13_1 + x14.Energy))), (6, .ptr 1028 0), (7, .ptr 1028 0), (10, .p (.sl 2 (List.map GSl.cs a2s.Slices))), (11, I (lenI (List.map GSl.cs a2s.Slices))), (12, I l13_2)], [(1028, .box 93 (bxc (GBB.cs ⟨x7, a1c, a2s⟩)))]⟩ krf ?_
            refine sL tfm krf ?_
            exact kq_n (wi (l13_1 + x14.Energy), wi (l13_2 + 1)) ⟨[0, 3, 6, 7, 10, 11, 12], [1028], [], []⟩ krf
           ·refine sK ?_
            refine bq_n ?_
            refine sN ⟨[0, 3, 6, 7, 10, 11, 12], [1028], [], []⟩ ⟨[(0, .ptr 1028 0), (3, I l13_1), (6, .ptr 1028 0), (7, .ptr 1028 0), (10, .p (.sl 2 (List.map GSl.cs a2s.Slices))), (11, I (lenI (List.map GSl.cs a2s.Slices))), (12, I l13_2)], [(1028, .box 93 (bxc (GBB.cs ⟨x7, a1c, a2s⟩)))]⟩ krf ?_
            refine sL tfm krf ?_
            exact kq_n (l13_1, wi (l13_2 + 1)) ⟨[0, 3, 6, 7, 10, 11, 12], [1028], [], []⟩ krf
          ·refine sim_exit ?_
           refine sq_x ?_
           refine kq_x ?_
           refine bq_hit ?_
           exact nq_n l13_1 ⟨[0, 3, 6, 7], [1028], [], []⟩ krf
         ·rintro j12
          refine sS ?_
          refine sG ?_
          refine xR 6 krf ?_
          refine xC [] krf (g_money_Times_ok n x7.Price j12 1000) krf krf (fun _ => by kernel_rfl) (fun r16 => ?_)
          refine xR 2 krf ?_
          refine xs_exc [] krf (g_bill_must_ok n r16.1 r16.2) krf krf (fun _ => by kernel_rfl) (fun _ => by kernel_rfl) (fun r17 => ?_) (fun e18 => ?_)
          ·refine xR 1 krf ?_
           refine xE ?_
           refine sN ⟨[2], [1028], [], []⟩ ⟨[(2, I r17)], [(1028, .box 93 (bxc (GBB.cs ⟨x7, a1c, a2s⟩)))]⟩ krf ?_
           refine sT ?_
           refine iq_ret .id [1028] [] (I r17) krf krf ?_
           refine kr0 ?_
           refine xR 1 krf ?_
           refine xE ?_
           exact kq_n (k := fun j10 => g_bill_sum_j10 l6_1 l6_2 l6_3 OL.nil l6_5 recl6 j10) r17 ⟨[4, 5, 6, 7, 8, 9, 10, 13, 15, 16, 17], [4, 5, 6, 7], [], []⟩ krf
          ·refine sq_p ?_
           refine iq_p [1028] [] krf ?_
           refine kq_p ?_
           refine bq_p ?_
           refine bq_p ?_
           refine sq_p ?_
           refine kq_p ?_
           refine bq_p ?_
           refine kq_p ?_
           exact rq_p krf krf
        ·refine sR tfm ⟨[0, 6, 7, 16], [1028], [], []⟩ ⟨[(0, .ptr 1028 0), (6, .ptr 1028 0), (7, I x7.Kind), (16, B (eqI x7.Kind 3))], [(1028, .box 93 (bxc (GBB.cs ⟨x7, a1c, a2s⟩)))]⟩ krf ?_
         refine sC (eqI x7.Kind 3) krf ?_ ?_
         ·refine sR tfm ⟨[2], [1028], [], []⟩ ⟨[(2, .fn (.func 64) [.ptr 1028 0] [])], [(1028, .box 93 (bxc (GBB.cs ⟨x7, a1c, a2s⟩)))]⟩ krf ?_
          refine sT ?_
          refine bq_r ?_
          refine sq_r ?_
          refine iq_ret .id [1028] [] (.fn (.func 64) [.ptr 1028 0] []) krf krf ?_
          refine kr0 ?_
          refine xs_inline [(1028, .box 93 (bxc (GBB.cs ⟨x7, a1c, a2s⟩)))] [.ptr 1028 0] [(1028, 28)] [] [] krf Tryz.func64 rfl Tryz.ntmps64 rfl krf krf krf ?_
          refine sR tfm ⟨[0], [1028], [], []⟩ ⟨[(0, .ptr 1028 0)], [(1028, .box 93 (bxc (GBB.cs ⟨x7, a1c, a2s⟩)))]⟩ krf ?_
          refine sS ?_
          refine sim_drw tfm rfl ?_
          refine xR 11 krf ?_
          refine xs_seqL rfl krf krf ?_
          refine xs_roE [.ro [], .cv (.id), .cv (.id)] krf (g_bb_stretch_ok n (⟨x7, a1c, a2s⟩ : GBB) a2s.From a2s.To) krf krf (fun _ => by kernel_rfl) (fun _ => by kernel_rfl) (fun r19 => ?_) (fun e20 => ?_)
          ·refine xR 1 krf ?_
           refine xE ?_
           refine sN ⟨[2], [1028], [], []⟩ ⟨[(2, I r19)], [(1028, .box 93 (bxc (GBB.cs ⟨x7, a1c, a2s⟩)))]⟩ krf ?_
           refine sT ?_
           refine iq_ret .id [1028] [] (I r19) krf krf ?_
           refine kr0 ?_
           refine xR 1 krf ?_
           refine xE ?_
           exact kq_n (k := fun j10 => g_bill_sum_j10 l6_1 l6_2 l6_3 OL.nil l6_5 recl6 j10) r19 ⟨[4, 5, 6, 7, 8, 9, 10, 13, 15, 16, 17], [4, 5, 6, 7], [], []⟩ krf
          ·refine sq_p ?_
           refine iq_p [1028] [] krf ?_
           refine kq_p ?_
           refine bq_p ?_
           refine bq_p ?_
           refine sq_p ?_
           refine kq_p ?_
           refine bq_p ?_
           refine kq_p ?_
           exact rq_p krf krf
         ·refine sR tfm ⟨[0, 6, 7, 20], [1028], [], []⟩ ⟨[(0, .ptr 1028 0), (6, .ptr 1028 0), (7, I x7.Kind), (20, B (eqI x7.Kind 4))], [(1028, .box 93 (bxc (GBB.cs ⟨x7, a1c, a2s⟩)))]⟩ krf ?_
          refine sC (eqI x7.Kind 4) krf ?_ ?_
          ·refine sR tfm ⟨[2], [1028], [], []⟩ ⟨[(2, .fn (.func 65) [.ptr 1028 0] [])], [(1028, .box 93 (bxc (GBB.cs ⟨x7, a1c, a2s⟩)))]⟩ krf ?_
           refine sT ?_
           refine bq_r ?_
           refine sq_r ?_
           refine iq_ret .id [1028] [] (.fn (.func 65) [.ptr 1028 0] []) krf krf ?_
           refine kr0 ?_
           refine xs_inline [(1028, .box 93 (bxc (GBB.cs ⟨x7, a1c, a2s⟩)))] [.ptr 1028 0] [(1028, 28)] [] [] krf Tryz.func65 rfl Tryz.ntmps65 rfl krf krf krf ?_
           refine sR tfm ⟨[0], [1028], [], []⟩ ⟨[(0, .ptr 1028 0)], [(1028, .box 93 (bxc (GBB.cs ⟨x7, a1c, a2s⟩)))]⟩ krf ?_
           refine sS ?_
           refine sim_drw tfm rfl ?_
           refine xR 11 krf ?_
           refine xs_seqL rfl krf krf ?_
           refine xs_roE [.ro [], .cv (.id), .cv (.id)] krf (g_bb_stretch_ok n (⟨x7, a1c, a2s⟩ : GBB) a2s.End a2s.To) krf krf (fun _ => by kernel_rfl) (fun _ => by kernel_rfl) (fun r21 => ?_) (fun e22 => ?_)
           ·refine xR 1 krf ?_
            refine xE ?_
            refine sN ⟨[2], [1028], [], []⟩ ⟨[(2, I r21)], [(1028, .box 93 (bxc (GBB.cs ⟨x7, a1c, a2s⟩)))]⟩ krf ?_
            refine sT ?_
            refine iq_ret .id [1028] [] (I r21) krf krf ?_
            refine kr0 ?_
            refine xR 1 krf ?_
            refine xE ?_
            exact kq_n (k := fun j10 => g_bill_sum_j10 l6_1 l6_2 l6_3 OL.nil l6_5 recl6 j10) r21 ⟨[4, 5, 6, 7, 8, 9, 10, 13, 15, 16, 17], [4, 5, 6, 7], [], []⟩ krf
           ·refine sq_p ?_
            refine iq_p [1028] [] krf ?_
            refine kq_p ?_
            refine bq_p ?_
            refine bq_p ?_
            refine sq_p ?_
            refine kq_p ?_
            refine bq_p ?_
            refine kq_p ?_
            exact rq_p krf krf
          ·refine sK ?_
           refine bq_n ?_
           refine sN ⟨[0, 6, 7], [1028], [], []⟩ ⟨[(0, .ptr 1028 0), (6, .ptr 1028 0), (7, I x7.Kind)], [(1028, .box 93 (bxc (GBB.cs ⟨x7, a1c, a2s⟩)))]⟩ krf ?_
           refine sR tfm ⟨[2], [1028], [], []⟩ ⟨[(2, .fn (.func 66) [.ptr 1028 0] [])], [(1028, .box 93 (bxc (GBB.cs ⟨x7, a1c, a2s⟩)))]⟩ krf ?_
           refine sT ?_
           refine iq_ret .id [1028] [] (.fn (.func 66) [.ptr 1028 0] []) krf krf ?_
           refine kr0 ?_
           refine xs_inline [(1028, .box 93 (bxc (GBB.cs ⟨x7, a1c, a2s⟩)))] [.ptr 1028 0] [(1028, 28)] [] [] krf Tryz.func66 rfl Tryz.ntmps66 rfl krf krf krf ?_
           refine sR tfm ⟨[], [1028], [], []⟩ ⟨[], [(1028, .box 93 (bxc (GBB.cs ⟨x7, a1c, a2s⟩)))]⟩ krf ?_
           refine sR tfm ⟨[2], [1028], [], []⟩ ⟨[(2, I 0)], [(1028, .box 93 (bxc (GBB.cs ⟨x7, a1c, a2s⟩)))]⟩ krf ?_
           refine sT ?_
           refine iq_ret .id [1028] [] (I 0) krf krf ?_
           refine kr0 ?_
           refine xR 1 krf ?_
           refine xE ?_
           exact kq_n (k := fun j10 => g_bill_sum_j10 l6_1 l6_2 l6_3 OL.nil l6_5 recl6 j10) 0 ⟨[4, 5, 6, 7, 8, 9, 10, 13, 15, 16, 17], [4, 5, 6, 7], [], []⟩ krf
   ·refine sim_exit ?_
    refine sq_x ?_
    refine kq_x ?_
    refine bq_hit ?_
    exact kq_n (k := fun (j1_1, j1_2, j1_3, j1_4) => g_bill_sum_j1 n j1_1 j1_2 j1_3 j1_4) (l6_1, l6_2, OL.nil, l6_5) ⟨[6, 7, 8, 9], [6, 7], [], []⟩ krf
  ·refine sR tfm ⟨[4, 5, 6, 7, 8, 9, 15, 16, 17, 18], [4, 5, 6, 7, 38], [], []⟩ ⟨[(4, .ptr 4 0), (5, .ptr 5 0), (6, .ptr 6 0), (7, .ptr 7 0), (8, I l6_1), (9, I l6_2), (15, .p (.sl 7 (List.map GAr.cs a0t.Articles))), (16, I (lenI (List.map GAr.cs a0t.Articles))), (17, I l6_3), (18, B (ltI l6_3 (lenI (List.map GAr.cs a0t.Articles))))], [(4, .box 28 (bxc (GCl.cs a1c))), (5, .box 31 (bxc (GSs.cs a2s))), (6, .box 55 [.p (.val (.slice none 0 0)), I 0, I 0, I 0]), (7, .box 55 [.tsl 2 (List.map GLine.cs (OL.own ow_l6_4).toL) 38, I l6_5, I 0, I 0]), (38, .arr 68 2 (List.map GLine.cs (OL.own ow_l6_4).toL).length)]⟩ krf ?_
   refine sS ?_
   refine sC (ltI l6_3 (lenI (List.map GAr.cs a0t.Articles))) krf ?_ ?_
   ·refine sK ?_
    refine sN ⟨[4, 5, 6, 7, 8, 9, 15, 16, 17], [4, 5, 6, 7, 38], [], []⟩ ⟨[(4, .ptr 4 0), (5, .ptr 5 0), (6, .ptr 6 0), (7, .ptr 7 0), (8, I l6_1), (9, I l6_2), (15, .p (.sl 7 (List.map GAr.cs a0t.Articles))), (16, I (lenI (List.map GAr.cs a0t.Articles))), (17, I l6_3)], [(4, .box 28 (bxc (GCl.cs a1c))), (5, .box 31 (bxc (GSs.cs a2s))), (6, .box 55 [.p (.val (.slice none 0 0)), I 0, I 0, I 0]), (7, .box 55 [.tsl 2 (List.map GLine.cs (OL.own ow_l6_4).toL) 38, I l6_5, I 0, I 0]), (38, .arr 68 2 (List.map GLine.cs (OL.own ow_l6_4).toL).length)]⟩ krf ?_
    refine sS ?_
    refine sB ?_
    refine sS ?_
    refine sG ?_
    refine xR 1 krf ?_
    refine xG krf krf (aop_idx (e := 45) (S := 7) (enc := GAr.cs) (l := a0t.Articles) (k := .i64) (n := l6_3) (sv := .p (.sl 7 (List.map GAr.cs a0t.Articles))) rfl krf krf krf krf krf) (fun x7 => ?_)
    refine xR 4 krf ?_
    refine xE ?_
    refine sN ⟨[4, 5, 6, 7, 8, 9, 10, 11, 15, 16, 17], [4, 5, 6, 7, 11, 38], [], []⟩ ⟨[(4, .ptr 4 0), (5, .ptr 5 0), (6, .ptr 6 0), (7, .ptr 7 0), (8, I l6_1), (9, I l6_2), (10, I l6_3), (11, .ptr 11 0), (15, .p (.sl 7 (List.map GAr.cs a0t.Articles))), (16, I (lenI (List.map GAr.cs a0t.Articles))), (17, I l6_3)], [(4, .box 28 (bxc (GCl.cs a1c))), (5, .box 31 (bxc (GSs.cs a2s))), (6, .box 55 [.p (.val (.slice none 0 0)), I 0, I 0, I 0]), (7, .box 55 [.tsl 2 (List.map GLine.cs (OL.own ow_l6_4).toL) 38, I l6_5, I 0, I 0]), (11, .box 45 (bxc (GAr.cs x7))), (38, .arr 68 2 (List.map GLine.cs (OL.own ow_l6_4).toL).length)]⟩ krf ?_
    refine sR tfm ⟨[4, 5, 6, 7, 8, 9, 10, 11, 15, 16, 17, 23], [4, 5, 6, 7, 11, 38], [], []⟩ ⟨[(4, .ptr 4 0), (5, .ptr 5 0), (6, .ptr 6 0), (7, .ptr 7 0), (8, I l6_1), (9, I l6_2), (10, I l6_3), (11, .ptr 11 0), (15, .p (.sl 7 (List.map GAr.cs a0t.Articles))), (16, I (lenI (List.map GAr.cs a0t.Articles))), (17, I l6_3), (23, I x7.Kind)], [(4, .box 28 (bxc (GCl.cs a1c))), (5, .box 31 (bxc (GSs.cs a2s))), (6, .box 55 [.p (.val (.slice none 0 0)), I 0, I 0, I 0]), (7, .box 55 [.tsl 2 (List.map GLine.cs (OL.own ow_l6_4).toL) 38, I l6_5, I 0, I 0]), (11, .box 45 (bxc (GAr.cs x7))), (38, .arr 68 2 (List.map GLine.cs (OL.own ow_l6_4).toL).length)]⟩ krf ?_
    refine sB ?_
    refine sR tfm ⟨[4, 5, 6, 7, 8, 9, 10, 11, 15, 16, 17, 23, 45], [4, 5, 6, 7, 11, 38], [], []⟩ ⟨[(4, .ptr 4 0), (5, .ptr 5 0), (6, .ptr 6 0), (7, .ptr 7 0), (8, I l6_1), (9, I l6_2), (10, I l6_3), (11, .ptr 11 0), (15, .p (.sl 7 (List.map GAr.cs a0t.Articles))), (16, I (lenI (List.map GAr.cs a0t.Articles))), (17, I l6_3), (23, I x7.Kind), (45, B (eqI x7.Kind 5))], [(4, .box 28 (bxc (GCl.cs a1c))), (5, .box 31 (bxc (GSs.cs a2s))), (6, .box 55 [.p (.val (.slice none 0 0)), I 0, I 0, I 0]), (7, .box 55 [.tsl 2 (List.map GLine.cs (OL.own ow_l6_4).toL) 38, I l6_5, I 0, I 0]), (11, .box 45 (bxc (GAr.cs x7))), (38, .arr 68 2 (List.map GLine.cs (OL.own ow_l6_4).toL).length)]⟩ krf ?_
    refine sC (eqI x7.Kind 5) krf ?_ ?_
    ·refine sim_bind (fun j8 => ⟨[(4, .ptr 4 0), (5, .ptr 5 0), (6, .ptr 6 0), (7, .ptr 7 0), (8, I l6_1), (9, I l6_2), (11, .ptr 11 0), (15, .p (.sl 7 (List.map GAr.cs a0t.Articles))), (16, I (lenI (List.map GAr.cs a0t.Articles))), (17, I l6_3), (54, B j8)], [(4, .box 28 (bxc (GCl.cs a1c))), (5, .box 31 (bxc (GSs.cs a2s))), (6, .box 55 [.p (.val (.slice none 0 0)), I 0, I 0, I 0]), (7, .box 55 [.tsl 2 (List.map GLine.cs (OL.own ow_l6_4).toL) 38, I l6_5, I 0, I 0]), (11, .box 45 (bxc (GAr.cs x7))), (38, .arr 68 2 (List.map GLine.cs (OL.own ow_l6_4).toL).length)]⟩ : Bool → St) ?_ ?_
     ·refine sG ?_
      refine xR 3 krf ?_
      refine xS (ltI l6_2 0) (fun h9 => ?_) (fun h9 => ?_)
      ·refine xN (want_ft krf h9) krf ?_
       refine xR 4 krf ?_
       refine xE ?_
       exact nq_n true ⟨[4, 5, 6, 7, 8, 9, 11, 15, 16, 17, 54], [4, 5, 6, 7, 11, 38], [], []⟩ krf
      ·refine xO (want_ff krf h9) krf ?_
       refine xR 4 krf ?_
       refine xE ?_
       exact nq_n (ltI x7.Price l6_2) ⟨[4, 5, 6, 7, 8, 9, 11, 15, 16, 17, 54], [4, 5, 6, 7, 11, 38], [], []⟩ krf
     ·rintro j8
      refine sC j8 krf ?_ ?_
      ·refine sL tfm krf ?_
       refine bq_n ?_
       refine bq_n ?_
       refine sN ⟨[4, 5, 6, 7, 8, 9, 15, 16, 17], [4, 5, 6, 7, 38], [], []⟩ ⟨[(4, .ptr 4 0), (5, .ptr 5 0), (6, .ptr 6 0), (7, .ptr 7 0), (8, I l6_1), (9, I x7.Price), (15, .p (.sl 7 (List.map GAr.cs a0t.Articles))), (16, I (lenI (List.map GAr.cs a0t.Articles))), (17, I l6_3)], [(4, .box 28 (bxc (GCl.cs a1c))), (5, .box 31 (bxc (GSs.cs a2s))), (6, .box 55 [.p (.val (.slice none 0 0)), I 0, I 0, I 0]), (7, .box 55 [.tsl 2 (List.map GLine.cs (OL.own ow_l6_4).toL) 38, I l6_5, I 0, I 0]), (38, .arr 68 2 (List.map GLine.cs (OL.own ow_l6_4).toL).length)]⟩ krf ?_
       refine sL tfm krf ?_
       exact kq_n (l6_1, x7.Price, wi (l6_3 + 1), (OL.own ow_l6_4), l6_5) ⟨[4, 5, 6, 7, 8, 9, 15, 16, 17], [4, 5, 6, 7, 38], [], []⟩ krf
      ·refine sK ?_
       refine bq_n ?_
       refine bq_n ?_
       refine sN ⟨[4, 5, 6, 7, 8, 9, 15, 16, 17], [4, 5, 6, 7, 38], [], []⟩ ⟨[(4, .ptr 4 0), (5, .ptr 5 0), (6, .ptr 6 0), (7, .ptr 7 0), (8, I l6_1), (9, I l6_2), (15, .p (.sl 7 (List.map GAr.cs a0t.Articles))), (16, I (lenI (List.map GAr.cs a0t.Articles))), (17, I l6_3)], [(4, .box 28 (bxc (GCl.cs a1c))), (5, .box 31 (bxc (GSs.cs a2s))), (6, .box 55 [.p (.val (.slice none 0 0)), I 0, I 0, I 0]), (7, .box 55 [.tsl 2 (List.map GLine.cs (OL.own ow_l6_4).toL) 38, I l6_5, I 0, I 0]), (38, .arr 68 2 (List.map GLine.cs (OL.own ow_l6_4).toL).length)]⟩ krf ?_
       refine sL tfm krf ?_
       exact kq_n (l6_1, l6_2, wi (l6_3 + 1), (OL.own ow_l6_4), l6_5) ⟨[4, 5, 6, 7, 8, 9, 15, 16, 17], [4, 5, 6, 7, 38], [], []⟩ krf
    ·refine sR tfm ⟨[4, 5, 6, 7, 8, 9, 10, 11, 15, 16, 17, 57], [4, 5, 6, 7, 11, 38], [], []⟩ ⟨[(4, .ptr 4 0), (5, .ptr 5 0), (6, .ptr 6 0), (7, .ptr 7 0), (8, I l6_1), (9, I l6_2), (10, I l6_3), (11, .ptr 11 0), (15, .p (.sl 7 (List.map GAr.cs a0t.Articles))), (16, I (lenI (List.map GAr.cs a0t.Articles))), (17, I l6_3), (57, B (eqI x7.Kind 6))], [(4, .box 28 (bxc (GCl.cs a1c))), (5, .box 31 (bxc (GSs.cs a2s))), (6, .box 55 [.p (.val (.slice none 0 0)), I 0, I 0, I 0]), (7, .box 55 [.tsl 2 (List.map GLine.cs (OL.own ow_l6_4).toL) 38, I l6_5, I 0, I 0]), (11, .box 45 (bxc (GAr.cs x7))), (38, .arr 68 2 (List.map GLine.cs (OL.own ow_l6_4).toL).length)]⟩ krf ?_
     refine sC (eqI x7.Kind 6) krf ?_ ?_
     ·refine sL tfm krf ?_
      refine bq_n ?_
      refine bq_n ?_
      refine sN ⟨[4, 5, 6, 7, 8, 9, 15, 16, 17], [4, 5, 6, 7, 38], [], []⟩ ⟨[(4, .ptr 4 0), (5, .ptr 5 0), (6, .ptr 6 0), (7, .ptr 7 0), (8, I x7.Price), (9, I l6_2), (15, .p (.sl 7 (List.map GAr.cs a0t.Articles))), (16, I (lenI (List.map GAr.cs a0t.Articles))), (17, I l6_3)], [(4, .box 28 (bxc (GCl.cs a1c))), (5, .box 31 (bxc (GSs.cs a2s))), (6, .box 55 [.p (.val (.slice none 0 0)), I 0, I 0, I 0]), (7, .box 55 [.tsl 2 (List.map GLine.cs (OL.own ow_l6_4).toL) 38, I l6_5, I 0, I 0]), (38, .arr 68 2 (List.map GLine.cs (OL.own ow_l6_4).toL).length)]⟩ krf ?_
      refine sL tfm krf ?_
      exact kq_n (x7.Price, l6_2, wi (l6_3 + 1), (OL.own ow_l6_4), l6_5) ⟨[4, 5, 6, 7, 8, 9, 15, 16, 17], [4, 5, 6, 7, 38], [], []⟩ krf
     ·refine sR tfm ⟨[4, 5, 6, 7, 8, 9, 10, 12, 15, 16, 17], [4, 5, 6, 7, 28, 38], [], []⟩ ⟨[(4, .ptr 4 0), (5, .ptr 5 0), (6, .ptr 6 0), (7, .ptr 7 0), (8, I l6_1), (9, I l6_2), (10, I l6_3), (12, .ptr 28 0), (15, .p (.sl 7 (List.map GAr.cs a0t.Articles))), (16, I (lenI (List.map GAr.cs a0t.Articles))), (17, I l6_3)], [(4, .box 28 (bxc (GCl.cs a1c))), (5, .box 31 (bxc (GSs.cs a2s))), (6, .box 55 [.p (.val (.slice none 0 0)), I 0, I 0, I 0]), (7, .box 55 [.tsl 2 (List.map GLine.cs (OL.own ow_l6_4).toL) 38, I l6_5, I 0, I 0]), (28, .box 93 (bxc (GBB.cs ⟨x7, a1c, a2s⟩))), (38, .arr 68 2 (List.map GLine.cs (OL.own ow_l6_4).toL).length)]⟩ krf ?_
      refine sim_cps (fun j10 => ⟨[(4, .ptr 4 0), (5, .ptr 5 0), (6, .ptr 6 0), (7, .ptr 7 0), (8, I l6_1), (9, I l6_2), (10, I l6_3), (13, I j10), (15, .p (.sl 7 (List.map GAr.cs a0t.Articles))), (16, I (lenI (List.map GAr.cs a0t.Articles))), (17, I l6_3)], [(4, .box 28 (bxc (GCl.cs a1c))), (5, .box 31 (bxc (GSs.cs a2s))), (6, .box 55 [.p (.val (.slice none 0 0)), I 0, I 0, I 0]), (7, .box 55 [.tsl 2 (List.map GLine.cs (OL.own ow_l6_4).toL) 38, I l6_5, I 0, I 0]), (38, .arr 68 2 (List.map GLine.cs (OL.own ow_l6_4).toL).length)]⟩ : Int → St) (fun j10 => g_bill_sum_j10 l6_1 l6_2 l6_3 (OL.own ow_l6_4) l6_5 recl6 j10) ?_ ?_
      ·rintro j10
       show SimE (g_bill_sum_j10 l6_1 l6_2 l6_3 (OL.own ow_l6_4) l6_5 recl6 j10) _ _ _ _ _ _
       unfold g_bill_sum_j10
       refine sS ?_
       refine sG ?_
       refine xR 6 krf ?_
       refine xF krf krf (aop_app (e := 68) (S := 2) (by_ := 16) (enc := GLine.cs) (tk := 38) (l := (OL.own ow_l6_4).toL) (l2 := [(⟨l6_3, j10⟩ : GLine)]) (xv := .tsl 2 (List.map GLine.cs [(⟨l6_3, j10⟩ : GLine)]) 37) rfl krf krf rfl krf krf krf rfl krf) ?_
       refine xR 2 krf ?_
       refine xE ?_
       refine sN ⟨[4, 5, 6, 7, 8, 9, 13, 15, 16, 17], [4, 5, 6, 7, 38], [], []⟩ ⟨[(4, .ptr 4 0), (5, .ptr 5 0), (6, .ptr 6 0), (7, .ptr 7 0), (8, I l6_1), (9, I l6_2), (13, I j10), (15, .p (.sl 7 (List.map GAr.cs a0t.Articles))), (16, I (lenI (List.map GAr.cs a0t.Articles))), (17, I l6_3)], [(4, .box 28 (bxc (GCl.cs a1c))), (5, .box 31 (bxc (GSs.cs a2s))), (6, .box 55 [.p (.val (.slice none 0 0)), I 0, I 0, I 0]), (7, .box 55 [.tsl 2 (List.map GLine.cs ((OL.own ow_l6_4).toL ++ [(⟨l6_3, j10⟩ : GLine)])) 38, I l6_5, I 0, I 0]), (38, .arr 68 2 (List.map GLine.cs ((OL.own ow_l6_4).toL ++ [(⟨l6_3, j10⟩ : GLine)])).length)]⟩ krf ?_
       refine sL tfm krf ?_
       refine bq_n ?_
       refine bq_n ?_
       refine sN ⟨[4, 5, 6, 7, 8, 9, 15, 16, 17], [4, 5, 6, 7, 38], [], []⟩ ⟨[(4, .ptr 4 0), (5, .ptr 5 0), (6, .ptr 6 0), (7, .ptr 7 0), (8, I l6_1), (9, I l6_2), (15, .p (.sl 7 (List.map GAr.cs a0t.Articles))), (16, I (lenI (List.map GAr.cs a0t.Articles))), (17, I l6_3)], [(4, .box 28 (bxc (GCl.cs a1c))), (5, .box 31 (bxc (GSs.cs a2s))), (6, .box 55 [.p (.val (.slice none 0 0)), I 0, I 0, I 0]), (7, .box 55 [.tsl 2 (List.map GLine.cs ((OL.own ow_l6_4).toL ++ [(⟨l6_3, j10⟩ : GLine)])) 38, I (wi (l6_5 + j10)), I 0, I 0]), (38, .arr 68 2 (List.map GLine.cs ((OL.own ow_l6_4).toL ++ [(⟨l6_3, j10⟩ : GLine)])).length)]⟩ krf ?_
       refine sL tfm krf ?_
       exact kq_n (l6_1, l6_2, wi (l6_3 + 1), OL.own ((OL.own ow_l6_4).toL ++ [(⟨l6_3, j10⟩ : GLine)]), wi (l6_5 + j10)) ⟨[4, 5, 6, 7, 8, 9, 15, 16, 17], [4, 5, 6, 7, 38], [], []⟩ krf
      ·refine sG ?_
       refine xR 1 krf ?_
       refine xs_inline [(1028, .box 93 (bxc (GBB.cs ⟨x7, a1c, a2s⟩)))] [.ptr 1028 0] [(1028, 28)] [] [] krf Tryz.func43 rfl Tryz.ntmps43 rfl krf krf krf ?_
       refine sR tfm ⟨[0], [1028], [], []⟩ ⟨[(0, .ptr 1028 0)], [(1028, .box 93 (bxc (GBB.cs ⟨x7, a1c, a2s⟩)))]⟩ krf ?_
       refine sS ?_
       refine sR tfm ⟨[0, 6, 7], [1028], [], []⟩ ⟨[(0, .ptr 1028 0), (6, .ptr 1028 0), (7, I x7.Kind)], [(1028, .box 93 (bxc (GBB.cs ⟨x7, a1c, a2s⟩)))]⟩ krf ?_
       refine sB ?_
       refine sR tfm ⟨[0, 6, 7, 8], [1028], [], []⟩ ⟨[(0, .ptr 1028 0), (6, .ptr 1028 0), (7, I x7.Kind), (8, B (eqI x7.Kind 1))], [(1028, .box 93 (bxc (GBB.cs ⟨x7, a1c, a2s⟩)))]⟩ krf ?_
       refine sC (eqI x7.Kind 1) krf ?_ ?_
       ·refine sR tfm ⟨[2], [1028], [], []⟩ ⟨[(2, .fn (.func 62) [.ptr 1028 0] [])], [(1028, .box 93 (bxc (GBB.cs ⟨x7, a1c, a2s⟩)))]⟩ krf ?_
        refine sT ?_
        refine bq_r ?_
        refine sq_r ?_
        refine iq_ret .id [1028] [] (.fn (.func 62) [.ptr 1028 0] []) krf krf ?_
        refine kr0 ?_
        refine xs_inline [(1028, .box 93 (bxc (GBB.cs ⟨x7, a1c, a2s⟩)))] [.ptr 1028 0] [(1028, 28)] [] [] krf Tryz.func62 rfl Tryz.ntmps62 rfl krf krf krf ?_
        refine sR tfm ⟨[0], [1028], [], []⟩ ⟨[(0, .ptr 1028 0)], [(1028, .box 93 (bxc (GBB.cs ⟨x7, a1c, a2s⟩)))]⟩ krf ?_
        refine sS ?_
        refine sS ?_
        refine sG ?_
        refine xR 6 krf ?_
        refine xs_ro [.ro [], .cv (.id)] krf (g_bb_applies_ok n (⟨x7, a1c, a2s⟩ : GBB) a2s.From) krf krf (fun _ => by kernel_rfl) (fun r11 => ?_)
        refine xE ?_
        refine sN ⟨[0, 6, 7, 9], [1028], [], []⟩ ⟨[(0, .ptr 1028 0), (6, .ptr 1028 10), (7, .ptr 1028 10), (9, B r11)], [(1028, .box 93 (bxc (GBB.cs ⟨x7, a1c, a2s⟩)))]⟩ krf ?_
        refine sC r11 krf ?_ ?_
        ·refine sR tfm ⟨[2], [1028], [], []⟩ ⟨[(2, I x7.Price)], [(1028, .box 93 (bxc (GBB.cs ⟨x7, a1c, a2s⟩)))]⟩ krf ?_
         refine sT ?_
         refine sq_r ?_
         refine iq_ret .id [1028] [] (I x7.Price) krf krf ?_
         refine kr0 ?_
         refine xR 1 krf ?_
         refine xE ?_
         exact kq_n (k := fun j10 => g_bill_sum_j10 l6_1 l6_2 l6_3 (OL.own ow_l6_4) l6_5 recl6 j10) x7.Price ⟨[4, 5, 6, 7, 8, 9, 10, 13, 15, 16, 17], [4, 5, 6, 7, 38], [], []⟩ krf
        ·refine sK ?_
         refine sN ⟨[6, 7], [1028], [], []⟩ ⟨[(6, .ptr 1028 10), (7, .ptr 1028 10)], [(1028, .box 93 (bxc (GBB.cs ⟨x7, a1c, a2s⟩)))]⟩ krf ?_
         refine sR tfm ⟨[2], [1028], [], []⟩ ⟨[(2, I 0)], [(1028, .box 93 (bxc (GBB.cs ⟨x7, a1c, a2s⟩)))]⟩ krf ?_
         refine sT ?_
         refine iq_ret .id [1028] [] (I 0) krf krf ?_
         refine kr0 ?_
         refine xR 1 krf ?_
         refine xE ?_
         exact kq_n (k := fun j10 => g_bill_sum_j10 l6_1 l6_2 l6_3 (OL.own ow_l6_4) l6_5 recl6 j10) 0 ⟨[4, 5, 6, 7, 8, 9, 10, 13, 15, 16, 17], [4, 5, 6, 7, 38], [], []⟩ krf
       ·refine sR tfm ⟨[0, 6, 7, 12], [1028], [], []⟩ ⟨[(0, .ptr 1028 0), (6, .ptr 1028 0), (7, I x7.Kind), (12, B (eqI x7.Kind 2))], [(1028, .box 93 (bxc (GBB.cs ⟨x7, a1c, a2s⟩)))]⟩ krf ?_
        refine sC (eqI x7.Kind 2) krf ?_ ?_
        ·refine sR tfm ⟨[2], [1028], [], []⟩ ⟨[(2, .fn (.func 63) [.ptr 1028 0] [])], [(1028, .box 93 (bxc (GBB.cs ⟨x7, a1c, a2s⟩)))]⟩ krf ?_
         refine sT ?_
         refine bq_r ?_
         refine sq_r ?_
         refine iq_ret .id [1028] [] (.fn (.func 63) [.ptr 1028 0] []) krf krf ?_
         refine kr0 ?_
         refine xs_inline [(1028, .box 93 (bxc (GBB.cs ⟨x7, a1c, a2s⟩)))] [.ptr 1028 0] [(1028, 28)] [] [] krf Tryz.func63 rfl Tryz.ntmps63 rfl krf krf krf ?_
         refine sR tfm ⟨[0], [1028], [], []⟩ ⟨[(0, .ptr 1028 0)], [(1028, .box 93 (bxc (GBB.cs ⟨x7, a1c, a2s⟩)))]⟩ krf ?_
         refine sR tfm ⟨[0, 3], [1028], [], []⟩ ⟨[(0, .ptr 1028 0), (3, I 0)], [(1028, .box 93 (bxc (GBB.cs ⟨x7, a1c, a2s⟩)))]⟩ krf ?_
         refine sim_bind (fun j12 => ⟨[(0, .ptr 1028 0), (3, I j12), (6, .ptr 1028 0), (7, .ptr 1028 0)], [(1028, .box 93 (bxc (GBB.cs ⟨x7, a1c, a2s⟩)))]⟩ : Int → St) ?_ ?_
         ·refine sR tfm ⟨[0, 3, 6, 7, 10, 11, 12], [1028], [], []⟩ ⟨[(0, .ptr 1028 0), (3, I 0), (6, .ptr 1028 0), (7, .ptr 1028 0), (10, .p (.sl 2 (List.map GSl.cs a2s.Slices))), (11, I (lenI (List.map GSl.cs a2s.Slices))), (12, I 0)], [(1028, .box 93 (bxc (GBB.cs ⟨x7, a1c, a2s⟩)))]⟩ krf ?_
          refine sB ?_
          refine sim_loop (fun (l13_1, l13_2) => ⟨[(0, .ptr 1028 0), (3, I l13_1), (6, .ptr 1028 0), (7, .ptr 1028 0), (10, .p (.sl 2 (List.map GSl.cs a2s.Slices))), (11, I (lenI (List.map GSl.cs a2s.Slices))), (12, I l13_2)], [(1028, .box 93 (bxc (GBB.cs ⟨x7, a1c, a2s⟩)))]⟩ : (Int × Int) → St) (weak_shr (K := ⟨[0, 3, 6, 7, 10, 11, 12], [1028], [], []⟩) krf) ?_
          rintro recl13 ⟨l13_1, l13_2⟩
          show SimE (g_bill_sum_l13 n a1c a2s x7 recl13 l13_1 l13_2) _ _ _ _ _ _
          unfold g_bill_sum_l13
          refine sR tfm ⟨[0, 3, 6, 7, 10, 11, 12, 13], [1028], [], []⟩ ⟨[(0, .ptr 1028 0), (3, I l13_1), (6, .ptr 1028 0), (7, .ptr 1028 0), (10, .p (.sl 2 (List.map GSl.cs a2s.Slices))), (11, I (lenI (List.map GSl.cs a2s.Slices))), (12, I l13_2), (13, B (ltI l13_2 (lenI (List.map GSl.cs a2s.Slices))))], [(1028, .box 93 (bxc (GBB.cs ⟨x7, a1c, a2s⟩)))]⟩ krf ?_
          refine sS ?_
          refine sC (ltI l13_2 (lenI (List.map GSl.cs a2s.Slices))) krf ?_ ?_
          ·refine sK ?_
           refine sN ⟨[0, 3, 6, 7, 10, 11, 12], [1028], [], []⟩ ⟨[(0, .ptr 1028 0), (3, I l13_1), (6, .ptr 1028 0), (7, .ptr 1028 0), (10, .p (.sl 2 (List.map GSl.cs a2s.Slices))), (11, I (lenI (List.map GSl.cs a2s.Slices))), (12, I l13_2)], [(1028, .box 93 (bxc (GBB.cs ⟨x7, a1c, a2s⟩)))]⟩ krf ?_
           refine sS ?_
           refine sB ?_
           refine sS ?_
           refine sG ?_
           refine xG krf krf (aop_idx (e := 48) (S := 2) (enc := GSl.cs) (l := a2s.Slices) (k := .i64) (n := l13_2) (sv := .p (.sl 2 (List.map GSl.cs a2s.Slices))) rfl krf krf krf krf krf) (fun x14 => ?_)
           refine xR 3 krf ?_
           refine xE ?_
           refine sN ⟨[0, 3, 5, 6, 7, 10, 11, 12], [5, 1028], [], []⟩ ⟨[(0, .ptr 1028 0), (3, I l13_1), (5, .ptr 5 0), (6, .ptr 1028 0), (7, .ptr 1028 0), (10, .p (.sl 2 (List.map GSl.cs a2s.Slices))), (11, I (lenI (List.map GSl.cs a2s.Slices))), (12, I l13_2)], [(5, .box 48 (bxc (GSl.cs x14))), (1028, .box 93 (bxc (GBB.cs ⟨x7, a1c, a2s⟩)))]⟩ krf ?_
           refine sS ?_
           refine sG ?_
           refine xR 3 krf ?_
           refine xs_ro [.ro [], .cv (.id)] krf (g_bb_applies_ok n (⟨x7, a1c, a2s⟩ : GBB) x14.Minute) krf krf (fun _ => by kernel_rfl) (fun r15 => ?_)
           refine xE ?_
           refine sN ⟨[0, 3, 5, 6, 7, 10, 11, 12, 19], [5, 1028], [], []⟩ ⟨[(0, .ptr 1028 0), (3, I l13_1), (5, .ptr 5 0), (6, .ptr 1028 0), (7, .ptr 1028 0), (10, .p (.sl 2 (List.map GSl.cs a2s.Slices))), (11, I (lenI (List.map GSl.cs a2s.Slices))), (12, I l13_2), (19, B r15)], [(5, .box 48 (bxc (GSl.cs x14))), (1028, .box 93 (bxc (GBB.cs ⟨x7, a1c, a2s⟩)))]⟩ krf ?_
           refine sC r15 krf ?_ ?_
           ·refine sL tfm krf ?_
            refine bq_n ?_
            refine sN ⟨[0, 3, 6, 7, 10, 11, 12], [1028], [], []⟩ ⟨[(0, .ptr 1028 0), (3, I (wi (l13_1 + x14.Energy))), (6, .ptr 1028 0), (7, .ptr 1028 0), (10, .p (.sl 2 (List.map GSl.cs a2s.Slices))), (11, I (lenI (List.map GSl.cs a2s.Slices))), (12, I l13_2)], [(1028, .box 93 (bxc (GBB.cs ⟨x7, a1c, a2s⟩)))]⟩ krf ?_
            refine sL tfm krf ?_
            exact kq_n (wi (l13_1 + x14.Energy), wi (l13_2 + 1)) ⟨[0, 3, 6, 7, 10, 11, 12], [1028], [], []⟩ krf
           ·refine sK ?_
            refine bq_n ?_
            refine sN ⟨[0, 3, 6, 7, 10, 11, 12], [1028], [], []⟩ ⟨[(0, .ptr 1028 0), (3, I l13_1), (6, .ptr 1028 0), (7, .ptr 1028 0), (10, .p (.sl 2 (List.map GSl.cs a2s.Slices))), (11, I (lenI (List.map GSl.cs a2s.Slices))), (12, I l13_2)], [(1028, .box 93 (bxc (GBB.cs ⟨x7, a1c, a2s⟩)))]⟩ krf ?_
            refine sL tfm krf ?_
            exact kq_n (l13_1, wi (l13_2 + 1)) ⟨[0, 3, 6, 7, 10, 11, 12], [1028], [], []⟩ krf
          ·refine sim_exit ?_
           refine sq_x ?_
           refine kq_x ?_
           refine bq_hit ?_
           exact nq_n l13_1 ⟨[0, 3, 6, 7], [1028], [], []⟩ krf
         ·rintro j12
          refine sS ?_
          refine sG ?_
          refine xR 6 krf ?_
          refine xC [] krf (g_money_Times_ok n x7.Price j12 1000) krf krf (fun _ => by kernel_rfl) (fun r16 => ?_)
          refine xR 2 krf ?_
          refine xs_exc [] krf (g_bill_must_ok n r16.1 r16.2) krf krf (fun _ => by kernel_rfl) (fun _ => by kernel_rfl) (fun r17 => ?_) (fun e18 => ?_)
          ·refine xR 1 krf ?_
           refine xE ?_
           refine sN ⟨[2], [1028], [], []⟩ ⟨[(2, I r17)], [(1028, .box 93 (bxc (GBB.cs ⟨x7, a1c, a2s⟩)))]⟩ krf ?_
           refine sT ?_
           refine iq_ret .id [1028] [] (I r17) krf krf ?_
           refine kr0 ?_
           refine xR 1 krf ?_
           refine xE ?_
           exact kq_n (k := fun j10 => g_bill_sum_j10 l6_1 l6_2 l6_3 (OL.own ow_l6_4) l6_5 recl6 j10) r17 ⟨[4, 5, 6, 7, 8, 9, 10, 13, 15, 16, 17], [4, 5, 6, 7, 38], [], []⟩ krf
          ·refine sq_p ?_
           refine iq_p [1028] [] krf ?_
           refine kq_p ?_
           refine bq_p ?_
           refine bq_p ?_
           refine sq_p ?_
           refine kq_p ?_
           refine bq_p ?_
           refine kq_p ?_
           exact rq_p krf krf
        ·refine sR tfm ⟨[0, 6, 7, 16], [1028], [], []⟩ ⟨[(0, .ptr 1028 0), (6, .ptr 1028 0), (7, I x7.Kind), (16, B (eqI x7.Kind 3))], [(1028, .box 93 (bxc (GBB.cs ⟨x7, a1c, a2s⟩)))]⟩ krf ?_
         refine sC (eqI x7.Kind 3) krf ?_ ?_
         ·refine sR tfm ⟨[2], [1028], [], []⟩ ⟨[(2, .fn (.func 64) [.ptr 1028 0] [])], [(1028, .box 93 (bxc (GBB.cs ⟨x7, a1c, a2s⟩)))]⟩ krf ?_
          refine sT ?_
          refine bq_r ?_
          refine sq_r ?_
          refine iq_ret .id [1028] [] (.fn (.func 64) [.ptr 1028 0] []) krf krf ?_
          refine kr0 ?_
          refine xs_inline [(1028, .box 93 (bxc (GBB.cs ⟨x7, a1c, a2s⟩)))] [.ptr 1028 0] [(1028, 28)] [] [] krf Tryz.func64 rfl Tryz.ntmps64 rfl krf krf krf ?_
          refine sR tfm ⟨[0], [1028], [], []⟩ ⟨[(0, .ptr 1028 0)], [(1028, .box 93 (bxc (GBB.cs ⟨x7, a1c, a2s⟩)))]⟩ krf ?_
          refine sS ?_
          refine sim_drw tfm rfl ?_
          refine xR 11 krf ?_
          refine xs_seqL rfl krf krf ?_
          refine xs_roE [.ro [], .cv (.id), .cv (.id)] krf (g_bb_stretch_ok n (⟨x7, a1c, a2s⟩ : GBB) a2s.From a2s.To) krf krf (fun _ => by kernel_rfl) (fun _ => by kernel_rfl) (fun r19 => ?_) (fun e20 => ?_)
          ·refine xR 1 krf ?_
           refine xE ?_
           refine sN ⟨[2], [1028], [], []⟩ ⟨[(2, I r19)], [(1028, .box 93 (bxc (GBB.cs ⟨x7, a1c, a2s⟩)))]⟩ krf ?_
           refine sT ?_
           refine iq_ret .id [1028] [] (I r19) krf krf ?_
           refine kr0 ?_
           refine xR 1 krf ?_
           refine xE ?_
           exact kq_n (k := fun j10 => g_bill_sum_j10 l6_1 l6_2 l6_3 (OL.own ow_l6_4) l6_5 recl6 j10) r19 ⟨[4, 5, 6, 7, 8, 9, 10, 13, 15, 16, 17], [4, 5, 6, 7, 38], [], []⟩ krf
          ·refine sq_p ?_
           refine iq_p [1028] [] krf ?_
           refine kq_p ?_
           refine bq_p ?_
           refine bq_p ?_
           refine sq_p ?_
           refine kq_p ?_
           refine bq_p ?_
           refine kq_p ?_
           exact rq_p krf krf
         ·refine sR tfm ⟨[0, 6, 7, 20], [1028], [], []⟩ ⟨[(0, .ptr 1028 0), (6, .ptr 1028 0), (7, I x7.Kind), (20, B (eqI x7.Kind 4))], [(1028, .box 93 (bxc (GBB.cs ⟨x7, a1c, a2s⟩)))]⟩ krf ?_
          refine sC (eqI x7.Kind 4) krf ?_ ?_
          ·refine sR tfm ⟨[2], [1028], [], []⟩ ⟨[(2, .fn (.func 65) [.ptr 1028 0] [])], [(1028, .box 93 (bxc (GBB.cs ⟨x7, a1c, a2s⟩)))]⟩ krf ?_
           refine sT ?_
           refine bq_r ?_
           refine sq_r ?_
           refine iq_ret .id [1028] [] (.fn (.func 65) [.ptr 1028 0] []) krf krf ?_
           refine kr0 ?_
           refine xs_inline [(1028, .box 93 (bxc (GBB.cs ⟨x7, a1c, a2s⟩)))] [.ptr 1028 0] [(1028, 28)] [] [] krf Tryz.func65 rfl Tryz.ntmps65 rfl krf krf krf ?_
           refine sR tfm ⟨[0], [1028], [], []⟩ ⟨[(0, .ptr 1028 0)], [(1028, .box 93 (bxc (GBB.cs ⟨x7, a1c, a2s⟩)))]⟩ krf ?_
           refine sS ?_
           refine sim_drw tfm rfl ?_
           refine xR 11 krf ?_
           refine xs_seqL rfl krf krf ?_
           refine xs_roE [.ro [], .cv (.id), .cv (.id)] krf (g_bb_stretch_ok n (⟨x7, a1c, a2s⟩ : GBB) a2s.End a2s.To) krf krf (fun _ => by kernel_rfl) (fun _ => by kernel_rfl) (fun r21 => ?_) (fun e22 => ?_)
           ·refine xR 1 krf ?_
            refine xE ?_
            refine sN ⟨[2], [1028], [], []⟩ ⟨[(2, I r21)], [(1028, .box 93 (bxc (GBB.cs ⟨x7, a1c, a2s⟩)))]⟩ krf ?_
            refine sT ?_
            refine iq_ret .id [1028] [] (I r21) krf krf ?_
            refine kr0 ?_
            refine xR 1 krf ?_
            refine xE ?_
            exact kq_n (k := fun j10 => g_bill_sum_j10 l6_1 l6_2 l6_3 (OL.own ow_l6_4) l6_5 recl6 j10) r21 ⟨[4, 5, 6, 7, 8, 9, 10, 13, 15, 16, 17], [4, 5, 6, 7, 38], [], []⟩ krf
           ·refine sq_p ?_
            refine iq_p [1028] [] krf ?_
            refine kq_p ?_
            refine bq_p ?_
            refine bq_p ?_
            refine sq_p ?_
            refine kq_p ?_
            refine bq_p ?_
            refine kq_p ?_
            exact rq_p krf krf
          ·refine sK ?_
           refine bq_n ?_
           refine sN ⟨[0, 6, 7], [1028], [], []⟩ ⟨[(0, .ptr 1028 0), (6, .ptr 1028 0), (7, I x7.Kind)], [(1028, .box 93 (bxc (GBB.cs ⟨x7, a1c, a2s⟩)))]⟩ krf ?_
           refine sR tfm ⟨[2], [1028], [], []⟩ ⟨[(2, .fn (.func 66) [.ptr 1028 0] [])], [(1028, .box 93 (bxc (GBB.cs ⟨x7, a1c, a2s⟩)))]⟩ krf ?_
           refine sT ?_
           refine iq_ret .id [1028] [] (.fn (.func 66) [.ptr 1028 0] []) krf krf ?_
           refine kr0 ?_
           refine xs_inline [(1028, .box 93 (bxc (GBB.cs ⟨x7, a1c, a2s⟩)))] [.ptr 1028 0] [(1028, 28)] [] [] krf Tryz.func66 rfl Tryz.ntmps66 rfl krf krf krf ?_
           refine sR tfm ⟨[], [1028], [], []⟩ ⟨[], [(1028, .box 93 (bxc (GBB.cs ⟨x7, a1c, a2s⟩)))]⟩ krf ?_
           refine sR tfm ⟨[2], [1028], [], []⟩ ⟨[(2, I 0)], [(1028, .box 93 (bxc (GBB.cs ⟨x7, a1c, a2s⟩)))]⟩ krf ?_
           refine sT ?_
           refine iq_ret .id [1028] [] (I 0) krf krf ?_
           refine kr0 ?_
           refine xR 1 krf ?_
           refine xE ?_
           exact kq_n (k := fun j10 => g_bill_sum_j10 l6_1 l6_2 l6_3 (OL.own ow_l6_4) l6_5 recl6 j10) 0 ⟨[4, 5, 6, 7, 8, 9, 10, 13, 15, 16, 17], [4, 5, 6, 7, 38], [], []⟩ krf
   ·refine sim_exit ?_
    refine sq_x ?_
    refine kq_x ?_
    refine bq_hit ?_
    exact kq_n (k := fun (j1_1, j1_2, j1_3, j1_4) => g_bill_sum_j1 n j1_1 j1_2 j1_3 j1_4) (l6_1, l6_2, (OL.own ow_l6_4), l6_5) ⟨[6, 7, 8, 9], [6, 7, 38], [], []⟩ krf
def g_bill_caught_2 (n : Nat) (a0x_0 : Int) (a1err : Int) : Option Int :=
 some a0x_0
theorem g_bill_caught_2_ok (n : Nat) (a0x_0 : Int) (a1err : Int) : ∀ r, g_bill_caught_2 n a0x_0 a1err = some r → ACall Tryz.prog 30 [.ifc 89 (.agg [I a0x_0]), .ptr 1001 0] (Go.Abs.look [(1001, .box 34 [I a1err])]) (heapR (fun r : Int => ((.ret (.tup []), [(1001, .box 34 [I r])]) : AEnd × List (Nat × Blk))) r) := by
 refine acall_sim (X := fun r : Int => ((.ret (.tup []), [(1001, .box 34 [I r])]) : AEnd × List (Nat × Blk))) [(1001, .box 34 [I a1err])] Tryz.func30 rfl Tryz.ntmps30 rfl ?_
 unfold g_bill_caught_2
 refine sS ?_
 refine sR tfm ⟨[0, 1, 6, 7], [1001], [], []⟩ ⟨[(0, .ifc 89 (.agg [I a0x_0])), (1, .ptr 1001 0), (6, .ifc 89 (.agg [I a0x_0])), (7, B false)], [(1001, .box 34 [I a1err])]⟩ krf ?_
 refine sim_condF krf ?_
 refine sK ?_
 refine sN ⟨[0, 1, 6, 7], [1001], [], []⟩ ⟨[(0, .ifc 89 (.agg [I a0x_0])), (1, .ptr 1001 0), (6, .ifc 89 (.agg [I a0x_0])), (7, B false)], [(1001, .box 34 [I a1err])]⟩ krf ?_
 refine sR tfm ⟨[0, 1, 4, 5, 6, 7], [4, 1001], [], []⟩ ⟨[(0, .ifc 89 (.agg [I a0x_0])), (1, .ptr 1001 0), (4, .ptr 4 0), (5, B true), (6, .ifc 89 (.agg [I a0x_0])), (7, B false)], [(4, .box 89 [I a0x_0]), (1001, .box 34 [I a1err])]⟩ krf ?_
 refine sS ?_
 refine sR tfm ⟨[0, 1, 4, 6, 7, 14], [4, 1001], [], []⟩ ⟨[(0, .ifc 89 (.agg [I a0x_0])), (1, .ptr 1001 0), (4, .ptr 4 0), (6, .ifc 89 (.agg [I a0x_0])), (7, B false), (14, B false)], [(4, .box 89 [I a0x_0]), (1001, .box 34 [I a1err])]⟩ krf ?_
 refine sim_condF krf ?_
 refine sK ?_
 refine sN ⟨[1, 4, 6, 7], [4, 1001], [], []⟩ ⟨[(1, .ptr 1001 0), (4, .ptr 4 0), (6, .ifc 89 (.agg [I a0x_0])), (7, B false)], [(4, .box 89 [I a0x_0]), (1001, .box 34 [I a1err])]⟩ krf ?_
 refine sL tfm krf ?_
 exact hq_n (.id) [1001] [] krf krf krf krf
def g_bill_Bill (n : Nat) (a0t : GTf) (a1c : GCl) (a2s : GSs) : Option (GBill × Int) :=
 ((g_t_Valid n a0t).bind fun r2 =>
 cond (!r2)
  (some true)
  ((g_days_Valid n a1c).bind fun r4 =>
  cond (!r4)
   (some true)
   ((g_bill_Valid n a2s).bind fun r6 =>
   some (!r6)))).bind fun j1 =>
 cond j1
  ((g_bill_caught n 1).bind fun r7 =>
  some ((⟨[], 0, 0, 0⟩ : GBill), r7))
  ((g_bill_sum n a0t a1c a2s).bind (exc (fun r8 =>
   (g_bill_caught n 0).bind fun r10 =>
   some (r8, r10)) fun e9 => (g_bill_caught_2 n e9 0).bind fun r11 =>
  some ((⟨[], 0, 0, 0⟩ : GBill), r11)))
theorem g_bill_Bill_okH (n : Nat) (a0t : GTf) (a1c : GCl) (a2s : GSs) : ∀ r, g_bill_Bill n a0t a1c a2s = some r → ACall Tryz.prog 22 [ag (GTf.cs a0t), ag (GCl.cs a1c), ag (GSs.cs a2s)] (Go.Abs.look []) (heapR (fun r : GBill × Int => ((.ret (.tup [ag (GBill.cs r.1), I r.2]), []) : AEnd × List (Nat × Blk))) r) := by
 refine defer_sim (X := fun r : GBill × Int => ((.ret (.tup [ag (GBill.cs r.1), I r.2]), []) : AEnd × List (Nat × Blk))) [] (⟨Tryz.f29, _, _, _, 1, _, _, Tryz.func29, rfl, rfl, rfl, rfl, rfl, rfl, by decide, by decide, rfl, by kernel_rfl⟩ : Catcher Tryz.prog 29 30) (⟨_, _, _, _, _, 7, 8, _, rfl, rfl, rfl, rfl, rfl, rfl, rfl, by decide⟩ : Deferrer Tryz.f22 29) 7 Tryz.func22 Tryz.ntmps22 rfl krf rfl tfm rfl krf krf krf ?_
 unfold g_bill_Bill
 refine sP ⟨[3, 4, 5, 6, 7], [3, 4, 5, 6, 2000], [], []⟩ ⟨[(3, .ptr 3 0), (4, .ptr 4 0), (5, .ptr 5 0), (6, .ptr 6 0), (7, .ptr 2000 0)], [(3, .box 24 (bxc (GTf.cs a0t))), (4, .box 28 (bxc (GCl.cs a1c))), (5, .box 31 (bxc (GSs.cs a2s))), (6, .box 55 [.p (.val (.slice none 0 0)), I 0, I 0, I 0]), (2000, .box 34 [I 0])]⟩ krf ?_
 refine sS ?_
 refine sim_bind (fun j1 => ⟨[(3, .ptr 3 0), (4, .ptr 4 0), (5, .ptr 5 0), (6, .ptr 6 0), (7, .ptr 2000 0), (21, B j1)], [(3, .box 24 (bxc (GTf.cs a0t))), (4, .box 28 (bxc (GCl.cs a1c))), (5, .box 31 (bxc (GSs.cs a2s))), (6, .box 55 [.p (.val (.slice none 0 0)), I 0, I 0, I 0]), (2000, .box 34 [I 0])]⟩ : Bool → St) ?_ ?_
 ·refine sG ?_
  refine xR 1 krf ?_
  refine xC [] krf (g_t_Valid_ok n a0t) krf krf (fun _ => by kernel_rfl) (fun r2 => ?_)
  refine xR 2 krf ?_
  refine xS (!r2) (fun h3 => ?_) (fun h3 => ?_)
  ·refine xN (want_ft krf h3) krf ?_
   refine xR 8 krf ?_
   refine xE ?_
   exact nq_n true ⟨[3, 4, 5, 6, 7, 21], [3, 4, 5, 6, 2000], [], []⟩ krf
  ·refine xO (want_ff krf h3) krf ?_
   refine xC [] krf (g_days_Valid_ok n a1c) krf krf (fun _ => by kernel_rfl) (fun r4 => ?_)
   refine xR 3 krf ?_
   refine xS (!r4) (fun h5 => ?_) (fun h5 => ?_)
   ·refine xN (want_ft krf h5) krf ?_
    refine xR 3 krf ?_
    refine xE ?_
    exact nq_n true ⟨[3, 4, 5, 6, 7, 21], [3, 4, 5, 6, 2000], [], []⟩ krf
   ·refine xO (want_ff krf h5) krf ?_
    refine xC [] krf (g_bill_Valid_ok n a2s) krf krf (fun _ => by kernel_rfl) (fun r6 => ?_)
    refine xR 2 krf ?_
    refine xE ?_
    exact nq_n (!r6) ⟨[3, 4, 5, 6, 7, 21], [3, 4, 5, 6, 2000], [], []⟩ krf
 ·rintro j1
  refine sC j1 krf ?_ ?_
  ·refine sR tfm ⟨[6, 7], [6, 2000], [], []⟩ ⟨[(6, .ptr 6 0), (7, .ptr 2000 0)], [(6, .box 55 [.p (.val (.slice none 0 0)), I 0, I 0, I 0]), (2000, .box 34 [I 1])]⟩ krf ?_
   refine sT ?_
   refine sq_r ?_
   refine dq_ret ?_
   refine sc_heap [(1001, 2000)] [] [] (g_bill_caught_ok n 1) krf krf krf (fun _ => by kernel_rfl) (fun _ => by kernel_rfl) (fun r7 => ?_)
   exact ke_end (.agg [.agg [.sl 2, .id, .id, .id], .id]) [] [] krf krf krf krf
  ·refine sK ?_
   refine sN ⟨[3, 4, 5, 6, 7], [3, 4, 5, 6, 2000], [], []⟩ ⟨[(3, .ptr 3 0), (4, .ptr 4 0), (5, .ptr 5 0), (6, .ptr 6 0), (7, .ptr 2000 0)], [(3, .box 24 (bxc (GTf.cs a0t))), (4, .box 28 (bxc (GCl.cs a1c))), (5, .box 31 (bxc (GSs.cs a2s))), (6, .box 55 [.p (.val (.slice none 0 0)), I 0, I 0, I 0]), (2000, .box 34 [I 0])]⟩ krf ?_
   refine sS ?_
   refine sG ?_
   refine xR 3 krf ?_
   refine xs_exc [] krf (g_bill_sum_ok n a0t a1c a2s) krf krf (fun _ => by kernel_rfl) (fun _ => by kernel_rfl) (fun r8 => ?_) (fun e9 => ?_)
   ·refine xR 2 krf ?_
    refine xE ?_
    refine sN ⟨[6, 7], [6, 2000], [], []⟩ ⟨[(6, .ptr 6 0), (7, .ptr 2000 0)], [(6, .box 55 (bxc (GBill.cs r8))), (2000, .box 34 [I 0])]⟩ krf ?_
    refine sT ?_
    refine dq_ret ?_
    refine sc_heap [(1001, 2000)] [] [] (g_bill_caught_ok n 0) krf krf krf (fun _ => by kernel_rfl) (fun _ => by kernel_rfl) (fun r10 => ?_)
    exact ke_end (.id) [] [] krf krf krf krf
   ·refine sq_p ?_
    refine dq_p ?_
    refine sc_heap [(1001, 2000)] [] [] (g_bill_caught_2_ok n e9 0) krf krf krf (fun _ => by kernel_rfl) (fun _ => by kernel_rfl) (fun r11 => ?_)
    exact ke_end (.agg [.agg [.sl 2, .id, .id, .id], .id]) [] [] krf krf krf krf
theorem g_bill_Bill_ok (n : Nat) (a0t : GTf) (a1c : GCl) (a2s : GSs) : ∀ r, g_bill_Bill n a0t a1c a2s = some r → PCall Tryz.prog 22 [ag (GTf.cs a0t), ag (GCl.cs a1c), ag (GSs.cs a2s)] (.ret (.tup [ag (GBill.cs r.1), I r.2])) := fun r h => pcall_of (g_bill_Bill_okH n a0t a1c a2s r h) rfl
def g_l_Price_j5 (j5 : Int) : Option (Int × Int) :=
 cond (ltI 1000000000 j5)
  (some (0, 3))
  (some (j5, 0))
def g_l_Price_l6 (n : Nat) (a0t : GTf) (a1c : GCl) (a2s : GSs) (a3cuts : List Int) (recl6 : (Int × Int × Int) → Option (Int × Int)) (l6_1 : Int) (l6_2 : Int) (l6_3 : Int) : Option (Int × Int) :=
 cond (ltI l6_3 (wi ((lenI (List.map ci a3cuts)) + 1)))
  ((cond (ltI l6_3 (lenI (List.map ci a3cuts)))
   ((getI a3cuts l6_3).bind fun x8 =>
   some x8)
   (some a2s.To)).bind fun j7 =>
  (g_l_part n a2s l6_2 j7).bind fun r9 =>
  (g_bill_Bill n a0t a1c r9).bind fun r10 =>
  cond (!eqI r10.2 0)
   (some (0, r10.2))
   (recl6 (wi (l6_1 + r10.1.Total), j7, wi (l6_3 + 1))))
  (g_l_Price_j5 l6_1)
def g_l_Price (n : Nat) (a0t : GTf) (a1c : GCl) (a2s : GSs) (a3cuts : List Int) : Option (Int × Int) :=
 ((g_l_valid n a0t a1c a2s).bind fun r2 =>
 cond (!r2)
  (some true)
  ((g_l_validCuts n a2s a3cuts).bind fun r4 =>
  some (!r4))).bind fun j1 =>
 cond j1
  (some (0, 1))
  (loopN (fun recl6 (l6_1, l6_2, l6_3) => g_l_Price_l6 n a0t a1c a2s a3cuts recl6 l6_1 l6_2 l6_3) n (0, a2s.From, 0))
theorem g_l_Price_ok (n : Nat) (a0t : GTf) (a1c : GCl) (a2s : GSs) (a3cuts : List Int) : ∀ r, g_l_Price n a0t a1c a2s a3cuts = some r → PCall Tryz.prog 8 [ag (GTf.cs a0t), ag (GCl.cs a1c), ag (GSs.cs a2s), .p (.sl 1 (List.map ci a3cuts))] (.ret (.tup [I r.1, I r.2])) := by
 refine pcall_sim (X := fun r : Int × Int => AEnd.ret (.tup [I r.1, I r.2])) Tryz.func8 rfl Tryz.ntmps8 rfl ?_
 unfold g_l_Price
 refine sR tfm ⟨[3, 4, 5, 6], [4, 5, 6], [], []⟩ ⟨[(3, .p (.sl 1 (List.map ci a3cuts))), (4, .ptr 4 0), (5, .ptr 5 0), (6, .ptr 6 0)], [(4, .box 24 (bxc (GTf.cs a0t))), (5, .box 28 (bxc (GCl.cs a1c))), (6, .box 31 (bxc (GSs.cs a2s)))]⟩ krf ?_
 refine sS ?_
 refine sim_bind (fun j1 => ⟨[(3, .p (.sl 1 (List.map ci a3cuts))), (4, .ptr 4 0), (5, .ptr 5 0), (6, .ptr 6 0), (26, B j1)], [(4, .box 24 (bxc (GTf.cs a0t))), (5, .box 28 (bxc (GCl.cs a1c))), (6, .box 31 (bxc (GSs.cs a2s)))]⟩ : Bool → St) ?_ ?_
 ·refine sG ?_
  refine xR 3 krf ?_
  refine xC [] krf (g_l_valid_ok n a0t a1c a2s) krf krf (fun _ => by kernel_rfl) (fun r2 => ?_)
  refine xR 2 krf ?_
  refine xS (!r2) (fun h3 => ?_) (fun h3 => ?_)
  ·refine xN (want_ft krf h3) krf ?_
   refine xR 4 krf ?_
   refine xE ?_
   exact nq_n true ⟨[3, 4, 5, 6, 26], [4, 5, 6], [], []⟩ krf
  ·refine xO (want_ff krf h3) krf ?_
   refine xR 1 krf ?_
   refine xC [] krf (g_l_validCuts_ok n a2s a3cuts) krf krf (fun _ => by kernel_rfl) (fun r4 => ?_)
   refine xR 2 krf ?_
   refine xE ?_
   exact nq_n (!r4) ⟨[3, 4, 5, 6, 26], [4, 5, 6], [], []⟩ krf
 ·rintro j1
  refine sC j1 krf ?_ ?_
  ·refine sR tfm ⟨[8, 9], [], [], []⟩ ⟨[(8, I 0), (9, I 1)], []⟩ krf ?_
   refine sT ?_
   refine sq_r ?_
   exact qR (.id) krf krf krf
  ·refine sK ?_
   refine sN ⟨[3, 4, 5, 6], [4, 5, 6], [], []⟩ ⟨[(3, .p (.sl 1 (List.map ci a3cuts))), (4, .ptr 4 0), (5, .ptr 5 0), (6, .ptr 6 0)], [(4, .box 24 (bxc (GTf.cs a0t))), (5, .box 28 (bxc (GCl.cs a1c))), (6, .box 31 (bxc (GSs.cs a2s)))]⟩ krf ?_
   refine sR tfm ⟨[3, 4, 5, 6, 10, 11], [4, 5, 6], [], []⟩ ⟨[(3, .p (.sl 1 (List.map ci a3cuts))), (4, .ptr 4 0), (5, .ptr 5 0), (6, .ptr 6 0), (10, I 0), (11, I a2s.From)], [(4, .box 24 (bxc (GTf.cs a0t))), (5, .box 28 (bxc (GCl.cs a1c))), (6, .box 31 (bxc (GSs.cs a2s)))]⟩ krf ?_
   refine sim_cps (fun j5 => ⟨[(10, I j5)], []⟩ : Int → St) (fun j5 => g_l_Price_j5 j5) ?_ ?_
   ·rintro j5
    show SimE (g_l_Price_j5 j5) _ _ _ _ _ _
    unfold g_l_Price_j5
    refine sS ?_
    refine sR tfm ⟨[10, 65], [], [], []⟩ ⟨[(10, I j5), (65, B (ltI 1000000000 j5))], []⟩ krf ?_
    refine sC (ltI 1000000000 j5) krf ?_ ?_
    ·refine sR tfm ⟨[8, 9], [], [], []⟩ ⟨[(8, I 0), (9, I 3)], []⟩ krf ?_
     refine sT ?_
     refine sq_r ?_
     exact qR (.id) krf krf krf
    ·refine sK ?_
     refine sN ⟨[10], [], [], []⟩ ⟨[(10, I j5)], []⟩ krf ?_
     refine sR tfm ⟨[8, 9], [], [], []⟩ ⟨[(8, I j5), (9, I 0)], []⟩ krf ?_
     refine sT ?_
     exact qR (.id) krf krf krf
   ·refine sR tfm ⟨[3, 4, 5, 6, 10, 11, 31, 32], [4, 5, 6], [], []⟩ ⟨[(3, .p (.sl 1 (List.map ci a3cuts))), (4, .ptr 4 0), (5, .ptr 5 0), (6, .ptr 6 0), (10, I 0), (11, I a2s.From), (31, I (wi ((lenI (List.map ci a3cuts)) + 1))), (32, I 0)], [(4, .box 24 (bxc (GTf.cs a0t))), (5, .box 28 (bxc (GCl.cs a1c))), (6, .box 31 (bxc (GSs.cs a2s)))]⟩ krf ?_
    refine sB ?_
    refine sim_loop (fun (l6_1, l6_2, l6_3) => ⟨[(3, .p (.sl 1 (List.map ci a3cuts))), (4, .ptr 4 0), (5, .ptr 5 0), (6, .ptr 6 0), (10, I l6_1), (11, I l6_2), (31, I (wi ((lenI (List.map ci a3cuts)) + 1))), (32, I l6_3)], [(4, .box 24 (bxc (GTf.cs a0t))), (5, .box 28 (bxc (GCl.cs a1c))), (6, .box 31 (bxc (GSs.cs a2s)))]⟩ : (Int × Int × Int) → St) (weak_shr (K := ⟨[3, 4, 5, 6, 10, 11, 31, 32], [4, 5, 6], [], []⟩) krf) ?_
    rintro recl6 ⟨l6_1, l6_2, l6_3⟩
    show SimE (g_l_Price_l6 n a0t a1c a2s a3cuts recl6 l6_1 l6_2 l6_3) _ _ _ _ _ _
    unfold g_l_Price_l6
    refine sR tfm ⟨[3, 4, 5, 6, 10, 11, 31, 32, 33], [4, 5, 6], [], []⟩ ⟨[(3, .p (.sl 1 (List.map ci a3cuts))), (4, .ptr 4 0), (5, .ptr 5 0), (6, .ptr 6 0), (10, I l6_1), (11, I l6_2), (31, I (wi ((lenI (List.map ci a3cuts)) + 1))), (32, I l6_3), (33, B (ltI l6_3 (wi ((lenI (List.map ci a3cuts)) + 1))))], [(4, .box 24 (bxc (GTf.cs a0t))), (5, .box 28 (bxc (GCl.cs a1c))), (6, .box 31 (bxc (GSs.cs a2s)))]⟩ krf ?_
    refine sS ?_
    refine sC (ltI l6_3 (wi ((lenI (List.map ci a3cuts)) + 1))) krf ?_ ?_
    ·refine sK ?_
     refine sN ⟨[3, 4, 5, 6, 10, 11, 31, 32], [4, 5, 6], [], []⟩ ⟨[(3, .p (.sl 1 (List.map ci a3cuts))), (4, .ptr 4 0), (5, .ptr 5 0), (6, .ptr 6 0), (10, I l6_1), (11, I l6_2), (31, I (wi ((lenI (List.map ci a3cuts)) + 1))), (32, I l6_3)], [(4, .box 24 (bxc (GTf.cs a0t))), (5, .box 28 (bxc (GCl.cs a1c))), (6, .box 31 (bxc (GSs.cs a2s)))]⟩ krf ?_
     refine sS ?_
     refine sB ?_
     refine sR tfm ⟨[3, 4, 5, 6, 10, 11, 12, 31, 32], [4, 5, 6], [], []⟩ ⟨[(3, .p (.sl 1 (List.map ci a3cuts))), (4, .ptr 4 0), (5, .ptr 5 0), (6, .ptr 6 0), (10, I l6_1), (11, I l6_2), (12, I l6_3), (31, I (wi ((lenI (List.map ci a3cuts)) + 1))), (32, I l6_3)], [(4, .box 24 (bxc (GTf.cs a0t))), (5, .box 28 (bxc (GCl.cs a1c))), (6, .box 31 (bxc (GSs.cs a2s)))]⟩ krf ?_
     refine sR tfm ⟨[3, 4, 5, 6, 10, 11, 12, 13, 31, 32], [4, 5, 6], [], []⟩ ⟨[(3, .p (.sl 1 (List.map ci a3cuts))), (4, .ptr 4 0), (5, .ptr 5 0), (6, .ptr 6 0), (10, I l6_1), (11, I l6_2), (12, I l6_3), (13, I a2s.To), (31, I (wi ((lenI (List.map ci a3cuts)) + 1))), (32, I l6_3)], [(4, .box 24 (bxc (GTf.cs a0t))), (5, .box 28 (bxc (GCl.cs a1c))), (6, .box 31 (bxc (GSs.cs a2s)))]⟩ krf ?_
     refine sim_bind (fun j7 => ⟨[(3, .p (.sl 1 (List.map ci a3cuts))), (4, .ptr 4 0), (5, .ptr 5 0), (6, .ptr 6 0), (10, I l6_1), (11, I l6_2), (13, I j7), (31, I (wi ((lenI (List.map ci a3cuts)) + 1))), (32, I l6_3)], [(4, .box 24 (bxc (GTf.cs a0t))), (5, .box 28 (bxc (GCl.cs a1c))), (6, .box 31 (bxc (GSs.cs a2s)))]⟩ : Int → St) ?_ ?_
     ·refine sR tfm ⟨[3, 4, 5, 6, 10, 11, 12, 13, 31, 32, 40], [4, 5, 6], [], []⟩ ⟨[(3, .p (.sl 1 (List.map ci a3cuts))), (4, .ptr 4 0), (5, .ptr 5 0), (6, .ptr 6 0), (10, I l6_1), (11, I l6_2), (12, I l6_3), (13, I a2s.To), (31, I (wi ((lenI (List.map ci a3cuts)) + 1))), (32, I l6_3), (40, B (ltI l6_3 (lenI (List.map ci a3cuts))))], [(4, .box 24 (bxc (GTf.cs a0t))), (5, .box 28 (bxc (GCl.cs a1c))), (6, .box 31 (bxc (GSs.cs a2s)))]⟩ krf ?_
      refine sC (ltI l6_3 (lenI (List.map ci a3cuts))) krf ?_ ?_
      ·refine sG ?_
       refine xR 2 krf ?_
       refine xG krf krf (aop_idx (e := 3) (S := 1) (enc := ci) (l := a3cuts) (k := .i64) (n := l6_3) (sv := .p (.sl 1 (List.map ci a3cuts))) rfl krf krf krf krf krf) (fun x8 => ?_)
       refine xR 2 krf ?_
       refine xE ?_
       exact nq_n x8 ⟨[3, 4, 5, 6, 10, 11, 13, 31, 32], [4, 5, 6], [], []⟩ krf
      ·refine sK ?_
       exact nq_n a2s.To ⟨[3, 4, 5, 6, 10, 11, 13, 31, 32], [4, 5, 6], [], []⟩ krf
     ·rintro j7
      refine sS ?_
      refine sim_drw tfm rfl ?_
      refine xR 5 krf ?_
      refine xC [] krf (g_l_part_ok n a2s l6_2 j7) krf krf (fun _ => by kernel_rfl) (fun r9 => ?_)
      refine xC [] krf (g_bill_Bill_ok n a0t a1c r9) krf krf (fun _ => by kernel_rfl) (fun r10 => ?_)
      refine xR 6 krf ?_
      refine xs_endD krf ?_
      refine sN ⟨[3, 4, 5, 6, 10, 13, 14, 15, 31, 32], [4, 5, 6, 14], [], []⟩ ⟨[(3, .p (.sl 1 (List.map ci a3cuts))), (4, .ptr 4 0), (5, .ptr 5 0), (6, .ptr 6 0), (10, I l6_1), (13, I j7), (14, .ptr 14 0), (15, I r10.2), (31, I (wi ((lenI (List.map ci a3cuts)) + 1))), (32, I l6_3)], [(4, .box 24 (bxc (GTf.cs a0t))), (5, .box 28 (bxc (GCl.cs a1c))), (6, .box 31 (bxc (GSs.cs a2s))), (14, .box 55 (bxc (GBill.cs r10.1)))]⟩ krf ?_
      refine sS ?_
      refine sR tfm ⟨[3, 4, 5, 6, 10, 13, 14, 15, 31, 32, 56], [4, 5, 6, 14], [], []⟩ ⟨[(3, .p (.sl 1 (List.map ci a3cuts))), (4, .ptr 4 0), (5, .ptr 5 0), (6, .ptr 6 0), (10, I l6_1), (13, I j7), (14, .ptr 14 0), (15, I r10.2), (31, I (wi ((lenI (List.map ci a3cuts)) + 1))), (32, I l6_3), (56, B (!eqI r10.2 0))], [(4, .box 24 (bxc (GTf.cs a0t))), (5, .box 28 (bxc (GCl.cs a1c))), (6, .box 31 (bxc (GSs.cs a2s))), (14, .box 55 (bxc (GBill.cs r10.1)))]⟩ krf ?_
      refine sC (!eqI r10.2 0) krf ?_ ?_
      ·refine sR tfm ⟨[8, 9], [], [], []⟩ ⟨[(8, I 0), (9, I r10.2)], []⟩ krf ?_
       refine sT ?_
       refine sq_r ?_
       refine bq_r ?_
       refine sq_r ?_
       refine kq_r ?_
       refine bq_r ?_
       refine kq_r ?_
       exact qR (.id) krf krf krf
      ·refine sK ?_
       refine sN ⟨[3, 4, 5, 6, 10, 13, 14, 31, 32], [4, 5, 6, 14], [], []⟩ ⟨[(3, .p (.sl 1 (List.map ci a3cuts))), (4, .ptr 4 0), (5, .ptr 5 0), (6, .ptr 6 0), (10, I l6_1), (13, I j7), (14, .ptr 14 0), (31, I (wi ((lenI (List.map ci a3cuts)) + 1))), (32, I l6_3)], [(4, .box 24 (bxc (GTf.cs a0t))), (5, .box 28 (bxc (GCl.cs a1c))), (6, .box 31 (bxc (GSs.cs a2s))), (14, .box 55 (bxc (GBill.cs r10.1)))]⟩ krf ?_
       refine sL tfm krf ?_
       refine bq_n ?_
       refine sN ⟨[3, 4, 5, 6, 10, 11, 31, 32], [4, 5, 6], [], []⟩ ⟨[(3, .p (.sl 1 (List.map ci a3cuts))), (4, .ptr 4 0), (5, .ptr 5 0), (6, .ptr 6 0), (10, I (wi (l6_1 + r10.1.Total))), (11, I j7), (31, I (wi ((lenI (List.map ci a3cuts)) + 1))), (32, I l6_3)], [(4, .box 24 (bxc (GTf.cs a0t))), (5, .box 28 (bxc (GCl.cs a1c))), (6, .box 31 (bxc (GSs.cs a2s)))]⟩ krf ?_
       refine sL tfm krf ?_
       exact kq_n (wi (l6_1 + r10.1.Total), j7, wi (l6_3 + 1)) ⟨[3, 4, 5, 6, 10, 11, 31, 32], [4, 5, 6], [], []⟩ krf
    ·refine sim_exit ?_
     refine sq_x ?_
     refine kq_x ?_
     refine bq_hit ?_
     exact kq_n (k := fun j5 => g_l_Price_j5 j5) l6_1 ⟨[10], [], [], []⟩ krf
def g_l_Find_l9 (n : Nat) (a0t : GTf) (a1c : GCl) (a2s : GSs) (r6 : Int × Int) (l8_1 : Int) (recl8 : (Int × (List (GLs × Int))) → Option ((List Int) × Bool × Int)) (recl9 : (Int × (List (GLs × Int))) → Option ((List Int) × Bool × Int)) (l9_1 : Int) (l9_2 : List (GLs × Int)) : Option ((List Int) × Bool × Int) :=
 cond (ltI l9_1 a2s.To)
  ((cond (!(mhas me_mls (⟨a2s.From, l8_1⟩ : GLs) l9_2))
   ((g_l_part n a2s a2s.From l8_1).bind fun r11 =>
   (g_bill_Bill n a0t a1c r11).bind fun r12 =>
   cond (!eqI r12.2 0)
    (some (1000000001, mset me_mls (⟨a2s.From, l8_1⟩ : GLs) 1000000001 l9_2))
    (some (r12.1.Total, mset me_mls (⟨a2s.From, l8_1⟩ : GLs) r12.1.Total l9_2)))
   (some (mgetD me_mls (⟨a2s.From, l8_1⟩ : GLs) 0 l9_2, l9_2))).bind fun (j10_1, j10_2) =>
  (cond (!(mhas me_mls (⟨l8_1, l9_1⟩ : GLs) j10_2))
   ((g_l_part n a2s l8_1 l9_1).bind fun r14 =>
   (g_bill_Bill n a0t a1c r14).bind fun r15 =>
   cond (!eqI r15.2 0)
    (some (1000000001, mset me_mls (⟨l8_1, l9_1⟩ : GLs) 1000000001 j10_2))
    (some (r15.1.Total, mset me_mls (⟨l8_1, l9_1⟩ : GLs) r15.1.Total j10_2)))
   (some (mgetD me_mls (⟨l8_1, l9_1⟩ : GLs) 0 j10_2, j10_2))).bind fun (j13_1, j13_2) =>
  (cond (!(mhas me_mls (⟨l9_1, a2s.To⟩ : GLs) j13_2))
   ((g_l_part n a2s l9_1 a2s.To).bind fun r17 =>
   (g_bill_Bill n a0t a1c r17).bind fun r18 =>
   cond (!eqI r18.2 0)
    (some (1000000001, mset me_mls (⟨l9_1, a2s.To⟩ : GLs) 1000000001 j13_2))
    (some (r18.1.Total, mset me_mls (⟨l9_1, a2s.To⟩ : GLs) r18.1.Total j13_2)))
   (some (mgetD me_mls (⟨l9_1, a2s.To⟩ : GLs) 0 j13_2, j13_2))).bind fun (j16_1, j16_2) =>
  cond (ltI (wi ((wi (j10_1 + j13_1)) + j16_1)) r6.1)
   (some ([l8_1, l9_1], true, 0))
   (recl9 (wi (l9_1 + 1), j16_2)))
  (recl8 (wi (l8_1 + 1), l9_2))
def g_l_Find_l8 (n : Nat) (a0t : GTf) (a1c : GCl) (a2s : GSs) (r6 : Int × Int) (recl8 : (Int × (List (GLs × Int))) → Option ((List Int) × Bool × Int)) (l8_1 : Int) (l8_2 : List (GLs × Int)) : Option ((List Int) × Bool × Int) :=
 cond (ltI l8_1 a2s.To)
  (loopN (fun recl9 (l9_1, l9_2) => g_l_Find_l9 n a0t a1c a2s r6 l8_1 recl8 recl9 l9_1 l9_2) n (wi (l8_1 + 1), l8_2))
  (some ([], false, 0))
def g_l_Find_j7 (n : Nat) (a0t : GTf) (a1c : GCl) (a2s : GSs) (a3most : Int) (r6 : Int × Int) (j7 : List (GLs × Int)) : Option ((List Int) × Bool × Int) :=
 cond (ltI a3most 2)
  (some ([], false, 0))
  (loopN (fun recl8 (l8_1, l8_2) => g_l_Find_l8 n a0t a1c a2s r6 recl8 l8_1 l8_2) n (wi (a2s.From + 1), j7))
def g_l_Find_l19 (n : Nat) (a0t : GTf) (a1c : GCl) (a2s : GSs) (a3most : Int) (r6 : Int × Int) (recl19 : (Int × (List (GLs × Int))) → Option ((List Int) × Bool × Int)) (l19_1 : Int) (l19_2 : List (GLs × Int)) : Option ((List Int) × Bool × Int) :=
 cond (ltI l19_1 a2s.To)
  ((cond (!(mhas me_mls (⟨a2s.From, l19_1⟩ : GLs) l19_2))
   ((g_l_part n a2s a2s.From l19_1).bind fun r21 =>
   (g_bill_Bill n a0t a1c r21).bind fun r22 =>
   cond (!eqI r22.2 0)
    (some (1000000001, mset me_mls (⟨a2s.From, l19_1⟩ : GLs) 1000000001 l19_2))
    (some (r22.1.Total, mset me_mls (⟨a2s.From, l19_1⟩ : GLs) r22.1.Total l19_2)))
   (some (mgetD me_mls (⟨a2s.From, l19_1⟩ : GLs) 0 l19_2, l19_2))).bind fun (j20_1, j20_2) =>
  (cond (!(mhas me_mls (⟨l19_1, a2s.To⟩ : GLs) j20_2))
   ((g_l_part n a2s l19_1 a2s.To).bind fun r24 =>
   (g_bill_Bill n a0t a1c r24).bind fun r25 =>
   cond (!eqI r25.2 0)
    (some (1000000001, mset me_mls (⟨l19_1, a2s.To⟩ : GLs) 1000000001 j20_2))
    (some (r25.1.Total, mset me_mls (⟨l19_1, a2s.To⟩ : GLs) r25.1.Total j20_2)))
   (some (mgetD me_mls (⟨l19_1, a2s.To⟩ : GLs) 0 j20_2, j20_2))).bind fun (j23_1, j23_2) =>
  cond (ltI (wi (j20_1 + j23_1)) r6.1)
   (some ([l19_1], true, 0))
   (recl19 (wi (l19_1 + 1), j23_2)))
  (g_l_Find_j7 n a0t a1c a2s a3most r6 l19_2)
def g_l_Find (n : Nat) (a0t : GTf) (a1c : GCl) (a2s : GSs) (a3most : Int) : Option ((List Int) × Bool × Int) :=
 ((g_l_valid n a0t a1c a2s).bind fun r2 =>
 cond (!r2)
  (some true)
  (cond (ltI 60 (wi (a2s.To - a2s.From)))
   (some true)
   (cond (ltI a3most 1)
    (some true)
    (some (ltI 2 a3most))))).bind fun j1 =>
 cond j1
  (some ([], false, 1))
  ((g_l_Price n a0t a1c a2s []).bind fun r6 =>
  cond (!eqI r6.2 0)
   (some ([], false, r6.2))
   (loopN (fun recl19 (l19_1, l19_2) => g_l_Find_l19 n a0t a1c a2s a3most r6 recl19 l19_1 l19_2) n (wi (a2s.From + 1), [])))
theorem g_l_Find_ok (n : Nat) (a0t : GTf) (a1c : GCl) (a2s : GSs) (a3most : Int) : ∀ r, g_l_Find n a0t a1c a2s a3most = some r → PCall Tryz.prog 10 [ag (GTf.cs a0t), ag (GCl.cs a1c), ag (GSs.cs a2s), I a3most] (.ret (.tup [.p (.sl 1 (List.map ci r.1)), B r.2.1, I r.2.2])) := by
 refine pcall_sim (X := fun r : (List Int) × Bool × Int => AEnd.ret (.tup [.p (.sl 1 (List.map ci r.1)), B r.2.1, I r.2.2])) Tryz.func10 rfl Tryz.ntmps10 rfl ?_
 unfold g_l_Find
 refine sR tfm ⟨[3, 4, 5, 6], [4, 5, 6], [], []⟩ ⟨[(3, I a3most), (4, .ptr 4 0), (5, .ptr 5 0), (6, .ptr 6 0)], [(4, .box 24 (bxc (GTf.cs a0t))), (5, .box 28 (bxc (GCl.cs a1c))), (6, .box 31 (bxc (GSs.cs a2s)))]⟩ krf ?_
 refine sim_scope ?_
 refine sS ?_
 refine sim_bind (fun j1 => ⟨[(3, I a3most), (4, .ptr 4 0), (5, .ptr 5 0), (6, .ptr 6 0), (38, B j1)], [(4, .box 24 (bxc (GTf.cs a0t))), (5, .box 28 (bxc (GCl.cs a1c))), (6, .box 31 (bxc (GSs.cs a2s)))]⟩ : Bool → St) ?_ ?_
 ·refine sG ?_
  refine xR 3 krf ?_
  refine xC [] krf (g_l_valid_ok n a0t a1c a2s) krf krf (fun _ => by kernel_rfl) (fun r2 => ?_)
  refine xR 2 krf ?_
  refine xS (!r2) (fun h3 => ?_) (fun h3 => ?_)
  ·refine xN (want_ft krf h3) krf ?_
   refine xR 14 krf ?_
   refine xE ?_
   exact nq_n true ⟨[3, 4, 5, 6, 38], [4, 5, 6], [], []⟩ krf
  ·refine xO (want_ff krf h3) krf ?_
   refine xR 7 krf ?_
   refine xS (ltI 60 (wi (a2s.To - a2s.From))) (fun h4 => ?_) (fun h4 => ?_)
   ·refine xN (want_ft krf h4) krf ?_
    refine xR 6 krf ?_
    refine xE ?_
    exact nq_n true ⟨[3, 4, 5, 6, 38], [4, 5, 6], [], []⟩ krf
   ·refine xO (want_ff krf h4) krf ?_
    refine xR 3 krf ?_
    refine xS (ltI a3most 1) (fun h5 => ?_) (fun h5 => ?_)
    ·refine xN (want_ft krf h5) krf ?_
     refine xR 2 krf ?_
     refine xE ?_
     exact nq_n true ⟨[3, 4, 5, 6, 38], [4, 5, 6], [], []⟩ krf
    ·refine xO (want_ff krf h5) krf ?_
     refine xR 2 krf ?_
     refine xE ?_
     exact nq_n (ltI 2 a3most) ⟨[3, 4, 5, 6, 38], [4, 5, 6], [], []⟩ krf
 ·rintro j1
  refine sC j1 krf ?_ ?_
  ·refine sR tfm ⟨[8, 9, 10], [], [], []⟩ ⟨[(8, .p (.val (.slice none 0 0))), (9, B false), (10, I 1)], []⟩ krf ?_
   refine sT ?_
   refine sq_r ?_
   exact qR (.agg [.sl 1, .id, .id]) krf krf krf
  ·refine sK ?_
   refine sN ⟨[3, 4, 5, 6], [4, 5, 6], [], []⟩ ⟨[(3, I a3most), (4, .ptr 4 0), (5, .ptr 5 0), (6, .ptr 6 0)], [(4, .box 24 (bxc (GTf.cs a0t))), (5, .box 28 (bxc (GCl.cs a1c))), (6, .box 31 (bxc (GSs.cs a2s)))]⟩ krf ?_
   refine sS ?_
   refine sG ?_
   refine xR 3 krf ?_
   refine xC [.id, .id, .id, .sl 1] krf (g_l_Price_ok n a0t a1c a2s []) krf krf (fun _ => by kernel_rfl) (fun r6 => ?_)
   refine xR 5 krf ?_
   refine xE ?_
   refine sN ⟨[3, 4, 5, 6, 11, 12], [4, 5, 6], [], []⟩ ⟨[(3, I a3most), (4, .ptr 4 0), (5, .ptr 5 0), (6, .ptr 6 0), (11, I r6.1), (12, I r6.2)], [(4, .box 24 (bxc (GTf.cs a0t))), (5, .box 28 (bxc (GCl.cs a1c))), (6, .box 31 (bxc (GSs.cs a2s)))]⟩ krf ?_
   refine sS ?_
   refine sR tfm ⟨[3, 4, 5, 6, 11, 12, 47], [4, 5, 6], [], []⟩ ⟨[(3, I a3most), (4, .ptr 4 0), (5, .ptr 5 0), (6, .ptr 6 0), (11, I r6.1), (12, I r6.2), (47, B (!eqI r6.2 0))], [(4, .box 24 (bxc (GTf.cs a0t))), (5, .box 28 (bxc (GCl.cs a1c))), (6, .box 31 (bxc (GSs.cs a2s)))]⟩ krf ?_
   refine sC (!eqI r6.2 0) krf ?_ ?_
   ·refine sR tfm ⟨[8, 9, 10], [], [], []⟩ ⟨[(8, .p (.val (.slice none 0 0))), (9, B false), (10, I r6.2)], []⟩ krf ?_
    refine sT ?_
    refine sq_r ?_
    exact qR (.agg [.sl 1, .id, .id]) krf krf krf
   ·refine sK ?_
    refine sN ⟨[3, 4, 5, 6, 11], [4, 5, 6], [], []⟩ ⟨[(3, I a3most), (4, .ptr 4 0), (5, .ptr 5 0), (6, .ptr 6 0), (11, I r6.1)], [(4, .box 24 (bxc (GTf.cs a0t))), (5, .box 28 (bxc (GCl.cs a1c))), (6, .box 31 (bxc (GSs.cs a2s)))]⟩ krf ?_
    refine sS ?_
    refine sG ?_
    refine xR 3 krf ?_
    refine xs_inline [] [.agg [S a0t.Name, .p (.sl 7 (List.map GAr.cs a0t.Articles))], .agg [I a1c.Offset, .p (.sl 2 (List.map GCh.cs a1c.Changes)), .p (.sl 1 (List.map ci a1c.Holidays))], .agg [I a2s.From, I a2s.To, I a2s.End, .p (.sl 2 (List.map GSl.cs a2s.Slices))]] [(3, 403), (4, 404), (5, 405), (7, 407), (8, 408)] [] [] krf Tryz.func25 rfl Tryz.ntmps25 rfl krf krf krf ?_
    refine sR tfm ⟨[3, 4, 5], [3, 4, 5], [], []⟩ ⟨[(3, .ptr 3 0), (4, .ptr 4 0), (5, .ptr 5 0)], [(3, .box 24 (bxc (GTf.cs a0t))), (4, .box 28 (bxc (GCl.cs a1c))), (5, .box 31 (bxc (GSs.cs a2s)))]⟩ krf ?_
    refine sS ?_
    refine sG ?_
    refine xs_u krf krf (aop_mk (d := 8) (rsv := none) rfl rfl krf) ?_
    refine xR 2 krf ?_
    refine xE ?_
    refine sN ⟨[3, 4, 5, 7], [3, 4, 5, 7, 8], [], []⟩ ⟨[(3, .ptr 3 0), (4, .ptr 4 0), (5, .ptr 5 0), (7, .ptr 7 0)], [(3, .box 24 (bxc (GTf.cs a0t))), (4, .box 28 (bxc (GCl.cs a1c))), (5, .box 31 (bxc (GSs.cs a2s))), (7, .box 70 [.mv 8]), (8, .mp (mpL mk_mls mv_mls []))]⟩ krf ?_
    refine sR tfm ⟨[6], [3, 4, 5, 7, 8], [], []⟩ ⟨[(6, .fn (.func 36) [] [.ptr 7 0, .ptr 3 0, .ptr 4 0, .ptr 5 0])], [(3, .box 24 (bxc (GTf.cs a0t))), (4, .box 28 (bxc (GCl.cs a1c))), (5, .box 31 (bxc (GSs.cs a2s))), (7, .box 70 [.mv 8]), (8, .mp (mpL mk_mls mv_mls []))]⟩ krf ?_
    refine sT ?_
    refine iq_ret .id [3, 4, 5, 7, 8] [] (.fn (.func 36) [] [.ptr 7 0, .ptr 3 0, .ptr 4 0, .ptr 5 0]) krf krf ?_
    refine kr0 ?_
    refine xR 1 krf ?_
    refine xE ?_
    refine sN ⟨[3, 6, 11, 13], [6, 403, 404, 405, 407, 408], [], []⟩ ⟨[(3, I a3most), (6, .ptr 6 0), (11, I r6.1), (13, .fn (.func 36) [] [.ptr 407 0, .ptr 403 0, .ptr 404 0, .ptr 405 0])], [(6, .box 31 (bxc (GSs.cs a2s))), (403, .box 24 (bxc (GTf.cs a0t))), (404, .box 28 (bxc (GCl.cs a1c))), (405, .box 31 (bxc (GSs.cs a2s))), (407, .box 70 [.mv 408]), (408, .mp (mpL mk_mls mv_mls []))]⟩ krf ?_
    refine sim_cps (fun j7 => ⟨[(3, I a3most), (6, .ptr 6 0), (11, I r6.1), (13, .fn (.func 36) [] [.ptr 407 0, .ptr 403 0, .ptr 404 0, .ptr 405 0])], [(6, .box 31 (bxc (GSs.cs a2s))), (403, .box 24 (bxc (GTf.cs a0t))), (404, .box 28 (bxc (GCl.cs a1c))), (405, .box 31 (bxc (GSs.cs a2s))), (407, .box 70 [.mv 408]), (408, .mp (mpL mk_mls mv_mls j7))]⟩ : (List (GLs × Int)) → St) (fun j7 => g_l_Find_j7 n a0t a1c a2s a3most r6 j7) ?_ ?_
    ·rintro j7
     show SimE (g_l_Find_j7 n a0t a1c a2s a3most r6 j7) _ _ _ _ _ _
     unfold g_l_Find_j7
     refine sS ?_
     refine sR tfm ⟨[6, 11, 13, 78], [6, 403, 404, 405, 407, 408], [], []⟩ ⟨[(6, .ptr 6 0), (11, I r6.1), (13, .fn (.func 36) [] [.ptr 407 0, .ptr 403 0, .ptr 404 0, .ptr 405 0]), (78, B (ltI a3most 2))], [(6, .box 31 (bxc (GSs.cs a2s))), (403, .box 24 (bxc (GTf.cs a0t))), (404, .box 28 (bxc (GCl.cs a1c))), (405, .box 31 (bxc (GSs.cs a2s))), (407, .box 70 [.mv 408]), (408, .mp (mpL mk_mls mv_mls j7))]⟩ krf ?_
     refine sC (ltI a3most 2) krf ?_ ?_
     ·refine sR tfm ⟨[8, 9, 10], [], [], []⟩ ⟨[(8, .p (.val (.slice none 0 0))), (9, B false), (10, I 0)], []⟩ krf ?_
      refine sT ?_
      refine sq_r ?_
      exact qR (.agg [.sl 1, .id, .id]) krf krf krf
     ·refine sK ?_
      refine sN ⟨[6, 11, 13], [6, 403, 404, 405, 407, 408], [], []⟩ ⟨[(6, .ptr 6 0), (11, I r6.1), (13, .fn (.func 36) [] [.ptr 407 0, .ptr 403 0, .ptr 404 0, .ptr 405 0])], [(6, .box 31 (bxc (GSs.cs a2s))), (403, .box 24 (bxc (GTf.cs a0t))), (404, .box 28 (bxc (GCl.cs a1c))), (405, .box 31 (bxc (GSs.cs a2s))), (407, .box 70 [.mv 408]), (408, .mp (mpL mk_mls mv_mls j7))]⟩ krf ?_
      refine sR tfm ⟨[6, 11, 13, 15], [6, 403, 404, 405, 407, 408], [], []⟩ ⟨[(6, .ptr 6 0), (11, I r6.1), (13, .fn (.func 36) [] [.ptr 407 0, .ptr 403 0, .ptr 404 0, .ptr 405 0]), (15, .p (.val (.slice none 0 0)))], [(6, .box 31 (bxc (GSs.cs a2s))), (403, .box 24 (bxc (GTf.cs a0t))), (404, .box 28 (bxc (GCl.cs a1c))), (405, .box 31 (bxc (GSs.cs a2s))), (407, .box 70 [.mv 408]), (408, .mp (mpL mk_mls mv_mls j7))]⟩ krf ?_
      refine sS ?_
      refine sim_label ?_
      refine sN ⟨[6, 11, 13, 15], [6, 403, 404, 405, 407, 408], [], []⟩ ⟨[(6, .ptr 6 0), (11, I r6.1), (13, .fn (.func 36) [] [.ptr 407 0, .ptr 403 0, .ptr 404 0, .ptr 405 0]), (15, .p (.val (.slice none 0 0)))], [(6, .box 31 (bxc (GSs.cs a2s))), (403, .box 24 (bxc (GTf.cs a0t))), (404, .box 28 (bxc (GCl.cs a1c))), (405, .box 31 (bxc (GSs.cs a2s))), (407, .box 70 [.mv 408]), (408, .mp (mpL mk_mls mv_mls j7))]⟩ krf ?_
      refine sS ?_
      refine sR tfm ⟨[6, 11, 13, 15, 16], [6, 403, 404, 405, 407, 408], [], []⟩ ⟨[(6, .ptr 6 0), (11, I r6.1), (13, .fn (.func 36) [] [.ptr 407 0, .ptr 403 0, .ptr 404 0, .ptr 405 0]), (15, .p (.val (.slice none 0 0))), (16, I (wi (a2s.From + 1)))], [(6, .box 31 (bxc (GSs.cs a2s))), (403, .box 24 (bxc (GTf.cs a0t))), (404, .box 28 (bxc (GCl.cs a1c))), (405, .box 31 (bxc (GSs.cs a2s))), (407, .box 70 [.mv 408]), (408, .mp (mpL mk_mls mv_mls j7))]⟩ krf ?_
      refine sB ?_
      refine sim_loop (fun (l8_1, l8_2) => ⟨[(6, .ptr 6 0), (11, I r6.1), (13, .fn (.func 36) [] [.ptr 407 0, .ptr 403 0, .ptr 404 0, .ptr 405 0]), (15, .p (.val (.slice none 0 0))), (16, I l8_1)], [(6, .box 31 (bxc (GSs.cs a2s))), (403, .box 24 (bxc (GTf.cs a0t))), (404, .box 28 (bxc (GCl.cs a1c))), (405, .box 31 (bxc (GSs.cs a2s))), (407, .box 70 [.mv 408]), (408, .mp (mpL mk_mls mv_mls l8_2))]⟩ : (Int × (List (GLs × Int))) → St) (weak_shr (K := ⟨[6, 11, 13, 15, 16], [6, 403, 404, 405, 407, 408], [], []⟩) krf) ?_
      rintro recl8 ⟨l8_1, l8_2⟩
      show SimE (g_l_Find_l8 n a0t a1c a2s r6 recl8 l8_1 l8_2) _ _ _ _ _ _
      unfold g_l_Find_l8
      refine sS ?_
      refine sR tfm ⟨[6, 11, 13, 15, 16, 85], [6, 403, 404, 405, 407, 408], [], []⟩ ⟨[(6, .ptr 6 0), (11, I r6.1), (13, .fn (.func 36) [] [.ptr 407 0, .ptr 403 0, .ptr 404 0, .ptr 405 0]), (15, .p (.val (.slice none 0 0))), (16, I l8_1), (85, B (ltI l8_1 a2s.To))], [(6, .box 31 (bxc (GSs.cs a2s))), (403, .box 24 (bxc (GTf.cs a0t))), (404, .box 28 (bxc (GCl.cs a1c))), (405, .box 31 (bxc (GSs.cs a2s))), (407, .box 70 [.mv 408]), (408, .mp (mpL mk_mls mv_mls l8_2))]⟩ krf ?_
      refine sC (ltI l8_1 a2s.To) krf ?_ ?_
      ·refine sK ?_
       refine sN ⟨[6, 11, 13, 15, 16], [6, 403, 404, 405, 407, 408], [], []⟩ ⟨[(6, .ptr 6 0), (11, I r6.1), (13, .fn (.func 36) [] [.ptr 407 0, .ptr 403 0, .ptr 404 0, .ptr 405 0]), (15, .p (.val (.slice none 0 0))), (16, I l8_1)], [(6, .box 31 (bxc (GSs.cs a2s))), (403, .box 24 (bxc (GTf.cs a0t))), (404, .box 28 (bxc (GCl.cs a1c))), (405, .box 31 (bxc (GSs.cs a2s))), (407, .box 70 [.mv 408]), (408, .mp (mpL mk_mls mv_mls l8_2))]⟩ krf ?_
       refine sS ?_
       refine sB ?_
       refine sR tfm ⟨[6, 11, 13, 15, 16, 17], [6, 403, 404, 405, 407, 408], [], []⟩ ⟨[(6, .ptr 6 0), (11, I r6.1), (13, .fn (.func 36) [] [.ptr 407 0, .ptr 403 0, .ptr 404 0, .ptr 405 0]), (15, .p (.val (.slice none 0 0))), (16, I l8_1), (17, I (wi (l8_1 + 1)))], [(6, .box 31 (bxc (GSs.cs a2s))), (403, .box 24 (bxc (GTf.cs a0t))), (404, .box 28 (bxc (GCl.cs a1c))), (405, .box 31 (bxc (GSs.cs a2s))), (407, .box 70 [.mv 408]), (408, .mp (mpL mk_mls mv_mls l8_2))]⟩ krf ?_
       refine sB ?_
       refine sim_loop (fun (l9_1, l9_2) => ⟨[(6, .ptr 6 0), (11, I r6.1), (13, .fn (.func 36) [] [.ptr 407 0, .ptr 403 0, .ptr 404 0, .ptr 405 0]), (15, .p (.val (.slice none 0 0))), (16, I l8_1), (17, I l9_1)], [(6, .box 31 (bxc (GSs.cs a2s))), (403, .box 24 (bxc (GTf.cs a0t))), (404, .box 28 (bxc (GCl.cs a1c))), (405, .box 31 (bxc (GSs.cs a2s))), (407, .box 70 [.mv 408]), (408, .mp (mpL mk_mls mv_mls l9_2))]⟩ : (Int × (List (GLs × Int))) → St) (weak_shr (K := ⟨[6, 11, 13, 15, 16, 17], [6, 403, 404, 405, 407, 408], [], []⟩) krf) ?_
       rintro recl9 ⟨l9_1, l9_2⟩
       show SimE (g_l_Find_l9 n a0t a1c a2s r6 l8_1 recl8 recl9 l9_1 l9_2) _ _ _ _ _ _
       unfold g_l_Find_l9
       refine sS ?_
       refine sR tfm ⟨[6, 11, 13, 15, 16, 17, 93], [6, 403, 404, 405, 407, 408], [], []⟩ ⟨[(6, .ptr 6 0), (11, I r6.1), (13, .fn (.func 36) [] [.ptr 407 0, .ptr 403 0, .ptr 404 0, .ptr 405 0]), (15, .p (.val (.slice none 0 0))), (16, I l8_1), (17, I l9_1), (93, B (ltI l9_1 a2s.To))], [(6, .box 31 (bxc (GSs.cs a2s))), (403, .box 24 (bxc (GTf.cs a0t))), (404, .box 28 (bxc (GCl.cs a1c))), (405, .box 31 (bxc (GSs.cs a2s))), (407, .box 70 [.mv 408]), (408, .mp (mpL mk_mls mv_mls l9_2))]⟩ krf ?_
       refine sC (ltI l9_1 a2s.To) krf ?_ ?_
       ·refine sK ?_
        refine sN ⟨[6, 11, 13, 15, 16, 17], [6, 403, 404, 405, 407, 408], [], []⟩ ⟨[(6, .ptr 6 0), (11, I r6.1), (13, .fn (.func 36) [] [.ptr 407 0, .ptr 403 0, .ptr 404 0, .ptr 405 0]), (15, .p (.val (.slice none 0 0))), (16, I l8_1), (17, I l9_1)], [(6, .box 31 (bxc (GSs.cs a2s))), (403, .box 24 (bxc (GTf.cs a0t))), (404, .box 28 (bxc (GCl.cs a1c))), (405, .box 31 (bxc (GSs.cs a2s))), (407, .box 70 [.mv 408]), (408, .mp (mpL mk_mls mv_mls l9_2))]⟩ krf ?_
        refine sS ?_
        refine sB ?_
        refine sS ?_
        refine sim_hst [0, 1, 2, 3, 5, 6, 7, 10, 11, 12, 13, 16] [5, 6, 7, 10, 11, 12, 13, 16, 9] [(4, []), (8, [9]), (14, []), (15, []), (17, [])] tfm rfl krf krf ?_
        refine h_enter (f := 36) (args := [I a2s.From, I l8_1, .ptr 407 0, .ptr 403 0, .ptr 404 0, .ptr 405 0]) (dst := some 100) krf krf ?_
        refine sc_inline (hc := [(1403, .box 24 (bxc (GTf.cs a0t))), (1404, .box 28 (bxc (GCl.cs a1c))), (1405, .box 31 (bxc (GSs.cs a2s))), (1407, .box 70 [.mv 1408]), (1408, .mp (mpL mk_mls mv_mls l9_2))]) (args' := [I a2s.From, I l8_1, .ptr 1407 0, .ptr 1403 0, .ptr 1404 0, .ptr 1405 0]) [(1403, 403), (1404, 404), (1405, 405), (1407, 407), (1408, 408)] [] [] Tryz.func36 rfl Tryz.ntmps36 rfl krf krf krf ?_
        refine sR tfm ⟨[0, 1, 2, 3, 4, 5], [1403, 1404, 1405, 1407, 1408], [], []⟩ ⟨[(0, I a2s.From), (1, I l8_1), (2, .ptr 1407 0), (3, .ptr 1403 0), (4, .ptr 1404 0), (5, .ptr 1405 0)], [(1403, .box 24 (bxc (GTf.cs a0t))), (1404, .box 28 (bxc (GCl.cs a1c))), (1405, .box 31 (bxc (GSs.cs a2s))), (1407, .box 70 [.mv 1408]), (1408, .mp (mpL mk_mls mv_mls l9_2))]⟩ krf ?_
        refine sR tfm ⟨[0, 1, 2, 3, 4, 5, 9], [9, 1403, 1404, 1405, 1407, 1408], [], []⟩ ⟨[(0, I a2s.From), (1, I l8_1), (2, .ptr 1407 0), (3, .ptr 1403 0), (4, .ptr 1404 0), (5, .ptr 1405 0), (9, .ptr 9 0)], [(9, .box 72 [I a2s.From, I l8_1]), (1403, .box 24 (bxc (GTf.cs a0t))), (1404, .box 28 (bxc (GCl.cs a1c))), (1405, .box 31 (bxc (GSs.cs a2s))), (1407, .box 70 [.mv 1408]), (1408, .mp (mpL mk_mls mv_mls l9_2))]⟩ krf ?_
        refine sS ?_
        refine sG ?_
        refine xR 2 krf ?_
        refine xs_u krf krf (aop_look (kt := 72) (e := 3) (ke := mk_mls) (ve := mv_mls) (eq := me_mls) (b := 1408) (m := l9_2) (k := (⟨a2s.From, l8_1⟩ : GLs)) (z0 := 0) rfl krf krf krf krf krf (fun _ => by kernel_rfl) (fun _ _ => (eqV2_eq _ _ _ _ _).symm.trans krf) krf) ?_
        refine xR 5 krf ?_
        refine xE ?_
        refine sN ⟨[0, 1, 2, 3, 4, 5, 9, 10, 11], [9, 1403, 1404, 1405, 1407, 1408], [], []⟩ ⟨[(0, I a2s.From), (1, I l8_1), (2, .ptr 1407 0), (3, .ptr 1403 0), (4, .ptr 1404 0), (5, .ptr 1405 0), (9, .ptr 9 0), (10, I (mgetD me_mls (⟨a2s.From, l8_1⟩ : GLs) 0 l9_2)), (11, B (mhas me_mls (⟨a2s.From, l8_1⟩ : GLs) l9_2))], [(9, .box 72 [I a2s.From, I l8_1]), (1403, .box 24 (bxc (GTf.cs a0t))), (1404, .box 28 (bxc (GCl.cs a1c))), (1405, .box 31 (bxc (GSs.cs a2s))), (1407, .box 70 [.mv 1408]), (1408, .mp (mpL mk_mls mv_mls l9_2))]⟩ krf ?_
        refine sim_bind (fun (j10_1, j10_2) => ⟨[(10, I j10_1)], [(1403, .box 24 (bxc (GTf.cs a0t))), (1404, .box 28 (bxc (GCl.cs a1c))), (1405, .box 31 (bxc (GSs.cs a2s))), (1407, .box 70 [.mv 1408]), (1408, .mp (mpL mk_mls mv_mls j10_2))]⟩ : (Int × (List (GLs × Int))) → St) ?_ ?_
        ·refine sR tfm ⟨[0, 1, 2, 3, 4, 5, 9, 10, 24], [9, 1403, 1404, 1405, 1407, 1408], [], []⟩ ⟨[(0, I a2s.From), (1, I l8_1), (2, .ptr 1407 0), (3, .ptr 1403 0), (4, .ptr 1404 0), (5, .ptr 1405 0), (9, .ptr 9 0), (10, I (mgetD me_mls (⟨a2s.From, l8_1⟩ : GLs) 0 l9_2)), (24, B (!(mhas me_mls (⟨a2s.From, l8_1⟩ : GLs) l9_2)))], [(9, .box 72 [I a2s.From, I l8_1]), (1403, .box 24 (bxc (GTf.cs a0t))), (1404, .box 28 (bxc (GCl.cs a1c))), (1405, .box 31 (bxc (GSs.cs a2s))), (1407, .box 70 [.mv 1408]), (1408, .mp (mpL mk_mls mv_mls l9_2))]⟩ krf ?_
         refine sC (!(mhas me_mls (⟨a2s.From, l8_1⟩ : GLs) l9_2)) krf ?_ ?_
         ·refine sS ?_
          refine sim_drw tfm rfl ?_
          refine xR 5 krf ?_
          refine xC [] krf (g_l_part_ok n a2s a2s.From l8_1) krf krf (fun _ => by kernel_rfl) (fun r11 => ?_)
          refine xC [] krf (g_bill_Bill_ok n a0t a1c r11) krf krf (fun _ => by kernel_rfl) (fun r12 => ?_)
          refine xR 6 krf ?_
          refine xs_endD krf ?_
          refine sN ⟨[2, 9, 12, 13], [9, 12, 1403, 1404, 1405, 1407, 1408], [], []⟩ ⟨[(2, .ptr 1407 0), (9, .ptr 9 0), (12, .ptr 12 0), (13, I r12.2)], [(9, .box 72 [I a2s.From, I l8_1]), (12, .box 55 (bxc (GBill.cs r12.1))), (1403, .box 24 (bxc (GTf.cs a0t))), (1404, .box 28 (bxc (GCl.cs a1c))), (1405, .box 31 (bxc (GSs.cs a2s))), (1407, .box 70 [.mv 1408]), (1408, .mp (mpL mk_mls mv_mls l9_2))]⟩ krf ?_
          refine sR tfm ⟨[2, 9, 10, 13], [9, 1403, 1404, 1405, 1407, 1408], [], []⟩ ⟨[(2, .ptr 1407 0), (9, .ptr 9 0), (10, I r12.1.Total), (13, I r12.2)], [(9, .box 72 [I a2s.From, I l8_1]), (1403, .box 24 (bxc (GTf.cs a0t))), (1404, .box 28 (bxc (GCl.cs a1c))), (1405, .box 31 (bxc (GSs.cs a2s))), (1407, .box 70 [.mv 1408]), (1408, .mp (mpL mk_mls mv_mls l9_2))]⟩ krf ?_
          refine sS ?_
          refine sR tfm ⟨[2, 9, 10, 38], [9, 1403, 1404, 1405, 1407, 1408], [], []⟩ ⟨[(2, .ptr 1407 0), (9, .ptr 9 0), (10, I r12.1.Total), (38, B (!eqI r12.2 0))], [(9, .box 72 [I a2s.From, I l8_1]), (1403, .box 24 (bxc (GTf.cs a0t))), (1404, .box 28 (bxc (GCl.cs a1c))), (1405, .box 31 (bxc (GSs.cs a2s))), (1407, .box 70 [.mv 1408]), (1408, .mp (mpL mk_mls mv_mls l9_2))]⟩ krf ?_
          refine sC (!eqI r12.2 0) krf ?_ ?_
          ·refine sL tfm krf ?_
           refine sN ⟨[2, 9, 10], [9, 1403, 1404, 1405, 1407, 1408], [], []⟩ ⟨[(2, .ptr 1407 0), (9, .ptr 9 0), (10, I 1000000001)], [(9, .box 72 [I a2s.From, I l8_1]), (1403, .box 24 (bxc (GTf.cs a0t))), (1404, .box 28 (bxc (GCl.cs a1c))), (1405, .box 31 (bxc (GSs.cs a2s))), (1407, .box 70 [.mv 1408]), (1408, .mp (mpL mk_mls mv_mls l9_2))]⟩ krf ?_
           refine sG ?_
           refine xR 3 krf ?_
           refine xs_u krf krf (aop_mset (kt := 72) (e := 3) (ke := mk_mls) (ve := mv_mls) (eq := me_mls) (b := 1408) (m := l9_2) (k := (⟨a2s.From, l8_1⟩ : GLs)) (v := 1000000001) rfl krf krf krf krf krf krf (fun _ => by kernel_rfl) (fun _ _ => (eqV2_eq _ _ _ _ _).symm.trans krf)) ?_
           refine xE ?_
           exact nq_n (1000000001, mset me_mls (⟨a2s.From, l8_1⟩ : GLs) 1000000001 l9_2) ⟨[10], [1403, 1404, 1405, 1407, 1408], [], []⟩ krf
          ·refine sK ?_
           refine sN ⟨[2, 9, 10], [9, 1403, 1404, 1405, 1407, 1408], [], []⟩ ⟨[(2, .ptr 1407 0), (9, .ptr 9 0), (10, I r12.1.Total)], [(9, .box 72 [I a2s.From, I l8_1]), (1403, .box 24 (bxc (GTf.cs a0t))), (1404, .box 28 (bxc (GCl.cs a1c))), (1405, .box 31 (bxc (GSs.cs a2s))), (1407, .box 70 [.mv 1408]), (1408, .mp (mpL mk_mls mv_mls l9_2))]⟩ krf ?_
           refine sG ?_
           refine xR 3 krf ?_
           refine xs_u krf krf (aop_mset (kt := 72) (e := 3) (ke := mk_mls) (ve := mv_mls) (eq := me_mls) (b := 1408) (m := l9_2) (k := (⟨a2s.From, l8_1⟩ : GLs)) (v := r12.1.Total) rfl krf krf krf krf krf krf (fun _ => by kernel_rfl) (fun _ _ => (eqV2_eq _ _ _ _ _).symm.trans krf)) ?_
           refine xE ?_
           exact nq_n (r12.1.Total, mset me_mls (⟨a2s.From, l8_1⟩ : GLs) r12.1.Total l9_2) ⟨[10], [1403, 1404, 1405, 1407, 1408], [], []⟩ krf
         ·refine sK ?_
          exact nq_n (mgetD me_mls (⟨a2s.From, l8_1⟩ : GLs) 0 l9_2, l9_2) ⟨[10], [1403, 1404, 1405, 1407, 1408], [], []⟩ krf
        ·rintro ⟨j10_1, j10_2⟩
         refine sR tfm ⟨[8], [1403, 1404, 1405, 1407, 1408], [], []⟩ ⟨[(8, I j10_1)], [(1403, .box 24 (bxc (GTf.cs a0t))), (1404, .box 28 (bxc (GCl.cs a1c))), (1405, .box 31 (bxc (GSs.cs a2s))), (1407, .box 70 [.mv 1408]), (1408, .mp (mpL mk_mls mv_mls j10_2))]⟩ krf ?_
         refine sT ?_
         refine iq_ret .id [1403, 1404, 1405, 1407, 1408] [] (I j10_1) krf krf ?_
         refine kh [5, 6, 7, 10, 11, 12, 13, 16] krf (lates_cons (late_move krf) (lates_cons (late_move krf) (lates_cons (late_move krf) (lates_cons (late_move krf) (lates_cons (late_move krf) (lates_cons (late_read (.ptr 6 1) krf rfl) (lates_cons (late_read (I a2s.To) krf rfl) (lates_cons (late_move krf) (lates_nil))))))))) krf ?_
         refine h_enter (f := 36) (args := [I l8_1, I l9_1, .ptr 407 0, .ptr 403 0, .ptr 404 0, .ptr 405 0]) (dst := some 104) krf krf ?_
         refine sc_inline (hc := [(1403, .box 24 (bxc (GTf.cs a0t))), (1404, .box 28 (bxc (GCl.cs a1c))), (1405, .box 31 (bxc (GSs.cs a2s))), (1407, .box 70 [.mv 1408]), (1408, .mp (mpL mk_mls mv_mls j10_2))]) (args' := [I l8_1, I l9_1, .ptr 1407 0, .ptr 1403 0, .ptr 1404 0, .ptr 1405 0]) [(1403, 403), (1404, 404), (1405, 405), (1407, 407), (1408, 408)] [] [] Tryz.func36 rfl Tryz.ntmps36 rfl krf krf krf ?_
         refine sR tfm ⟨[0, 1, 2, 3, 4, 5], [1403, 1404, 1405, 1407, 1408], [], []⟩ ⟨[(0, I l8_1), (1, I l9_1), (2, .ptr 1407 0), (3, .ptr 1403 0), (4, .ptr 1404 0), (5, .ptr 1405 0)], [(1403, .box 24 (bxc (GTf.cs a0t))), (1404, .box 28 (bxc (GCl.cs a1c))), (1405, .box 31 (bxc (GSs.cs a2s))), (1407, .box 70 [.mv 1408]), (1408, .mp (mpL mk_mls mv_mls j10_2))]⟩ krf ?_
         refine sR tfm ⟨[0, 1, 2, 3, 4, 5, 9], [9, 1403, 1404, 1405, 1407, 1408], [], []⟩ ⟨[(0, I l8_1), (1, I l9_1), (2, .ptr 1407 0), (3, .ptr 1403 0), (4, .ptr 1404 0), (5, .ptr 1405 0), (9, .ptr 9 0)], [(9, .box 72 [I l8_1, I l9_1]), (1403, .box 24 (bxc (GTf.cs a0t))), (1404, .box 28 (bxc (GCl.cs a1c))), (1405, .box 31 (bxc (GSs.cs a2s))), (1407, .box 70 [.mv 1408]), (1408, .mp (mpL mk_mls mv_mls j10_2))]⟩ krf ?_
         refine sS ?_
         refine sG ?_
         refine xR 2 krf ?_
         refine xs_u krf krf (aop_look (kt := 72) (e := 3) (ke := mk_mls) (ve := mv_mls) (eq := me_mls) (b := 1408) (m := j10_2) (k := (⟨l8_1, l9_1⟩ : GLs)) (z0 := 0) rfl krf krf krf krf krf (fun _ => by kernel_rfl) (fun _ _ => (eqV2_eq _ _ _ _ _).symm.trans krf) krf) ?_
         refine xR 5 krf ?_
         refine xE ?_
         refine sN ⟨[0, 1, 2, 3, 4, 5, 9, 10, 11], [9, 1403, 1404, 1405, 1407, 1408], [], []⟩ ⟨[(0, I l8_1), (1, I l9_1), (2, .ptr 1407 0), (3, .ptr 1403 0), (4, .ptr 1404 0), (5, .ptr 1405 0), (9, .ptr 9 0), (10, I (mgetD me_mls (⟨l8_1, l9_1⟩ : GLs) 0 j10_2)), (11, B (mhas me_mls (⟨l8_1, l9_1⟩ : GLs) j10_2))], [(9, .box 72 [I l8_1, I l9_1]), (1403, .box 24 (bxc (GTf.cs a0t))), (1404, .box 28 (bxc (GCl.cs a1c))), (1405, .box 31 (bxc (GSs.cs a2s))), (1407, .box 70 [.mv 1408]), (1408, .mp (mpL mk_mls mv_mls j10_2))]⟩ krf ?_
         refine sim_bind (fun (j13_1, j13_2) => ⟨[(10, I j13_1)], [(1403, .box 24 (bxc (GTf.cs a0t))), (1404, .box 28 (bxc (GCl.cs a1c))), (1405, .box 31 (bxc (GSs.cs a2s))), (1407, .box 70 [.mv 1408]), (1408, .mp (mpL mk_mls mv_mls j13_2))]⟩ : (Int × (List (GLs × Int))) → St) ?_ ?_
         ·refine sR tfm ⟨[0, 1, 2, 3, 4, 5, 9, 10, 24], [9, 1403, 1404, 1405, 1407, 1408], [], []⟩ ⟨[(0, I l8_1), (1, I l9_1), (2, .ptr 1407 0), (3, .ptr 1403 0), (4, .ptr 1404 0), (5, .ptr 1405 0), (9, .ptr 9 0), (10, I (mgetD me_mls (⟨l8_1, l9_1⟩ : GLs) 0 j10_2)), (24, B (!(mhas me_mls (⟨l8_1, l9_1⟩ : GLs) j10_2)))], [(9, .box 72 [I l8_1, I l9_1]), (1403, .box 24 (bxc (GTf.cs a0t))), (1404, .box 28 (bxc (GCl.cs a1c))), (1405, .box 31 (bxc (GSs.cs a2s))), (1407, .box 70 [.mv 1408]), (1408, .mp (mpL mk_mls mv_mls j10_2))]⟩ krf ?_
          refine sC (!(mhas me_mls (⟨l8_1, l9_1⟩ : GLs) j10_2)) krf ?_ ?_
          ·refine sS ?_
           refine sim_drw tfm rfl ?_
           refine xR 5 krf ?_
           refine xC [] krf (g_l_part_ok n a2s l8_1 l9_1) krf krf (fun _ => by kernel_rfl) (fun r14 => ?_)
           refine xC [] krf (g_bill_Bill_ok n a0t a1c r14) krf krf (fun _ => by kernel_rfl) (fun r15 => ?_)
           refine xR 6 krf ?_
           refine xs_endD krf ?_
           refine sN ⟨[2, 9, 12, 13], [9, 12, 1403, 1404, 1405, 1407, 1408], [], []⟩ ⟨[(2, .ptr 1407 0), (9, .ptr 9 0), (12, .ptr 12 0), (13, I r15.2)], [(9, .box 72 [I l8_1, I l9_1]), (12, .box 55 (bxc (GBill.cs r15.1))), (1403, .box 24 (bxc (GTf.cs a0t))), (1404, .box 28 (bxc (GCl.cs a1c))), (1405, .box 31 (bxc (GSs.cs a2s))), (1407, .box 70 [.mv 1408]), (1408, .mp (mpL mk_mls mv_mls j10_2))]⟩ krf ?_
           refine sR tfm ⟨[2, 9, 10, 13], [9, 1403, 1404, 1405, 1407, 1408], [], []⟩ ⟨[(2, .ptr 1407 0), (9, .ptr 9 0), (10, I r15.1.Total), (13, I r15.2)], [(9, .box 72 [I l8_1, I l9_1]), (1403, .box 24 (bxc (GTf.cs a0t))), (1404, .box 28 (bxc (GCl.cs a1c))), (1405, .box 31 (bxc (GSs.cs a2s))), (1407, .box 70 [.mv 1408]), (1408, .mp (mpL mk_mls mv_mls j10_2))]⟩ krf ?_
           refine sS ?_
           refine sR tfm ⟨[2, 9, 10, 38], [9, 1403, 1404, 1405, 1407, 1408], [], []⟩ ⟨[(2, .ptr 1407 0), (9, .ptr 9 0), (10, I r15.1.Total), (38, B (!eqI r15.2 0))], [(9, .box 72 [I l8_1, I l9_1]), (1403, .box 24 (bxc (GTf.cs a0t))), (1404, .box 28 (bxc (GCl.cs a1c))), (1405, .box 31 (bxc (GSs.cs a2s))), (1407, .box 70 [.mv 1408]), (1408, .mp (mpL mk_mls mv_mls j10_2))]⟩ krf ?_
           refine sC (!eqI r15.2 0) krf ?_ ?_
           ·refine sL tfm krf ?_
            refine sN ⟨[2, 9, 10], [9, 1403, 1404, 1405, 1407, 1408], [], []⟩ ⟨[(2, .ptr 1407 0), (9, .ptr 9 0), (10, I 1000000001)], [(9, .box 72 [I l8_1, I l9_1]), (1403, .box 24 (bxc (GTf.cs a0t))), (1404, .box 28 (bxc (GCl.cs a1c))), (1405, .box 31 (bxc (GSs.cs a2s))), (1407, .box 70 [.mv 1408]), (1408, .mp (mpL mk_mls mv_mls j10_2))]⟩ krf ?_
            refine sG ?_
            refine xR 3 krf ?_
            refine xs_u krf krf (aop_mset (kt := 72) (e := 3) (ke := mk_mls) (ve := mv_mls) (eq := me_mls) (b := 1408) (m := j10_2) (k := (⟨l8_1, l9_1⟩ : GLs)) (v := 1000000001) rfl krf krf krf krf krf krf (fun _ => by kernel_rfl) (fun _ _ => (eqV2_eq _ _ _ _ _).symm.trans krf)) ?_
            refine xE ?_
            exact nq_n (1000000001, mset me_mls (⟨l8_1, l9_1⟩ : GLs) 1000000001 j10_2) ⟨[10], [1403, 1404, 1405, 1407, 1408], [], []⟩ krf
           ·refine sK ?_
            refine sN ⟨[2, 9, 10], [9, 1403, 1404, 1405, 1407, 1408], [], []⟩ ⟨[(2, .ptr 1407 0), (9, .ptr 9 0), (10, I r15.1.Total)], [(9, .box 72 [I l8_1, I l9_1]), (1403, .box 24 (bxc (GTf.cs a0t))), (1404, .box 28 (bxc (GCl.cs a1c))), (1405, .box 31 (bxc (GSs.cs a2s))), (1407, .box 70 [.mv 1408]), (1408, .mp (mpL mk_mls mv_mls j10_2))]⟩ krf ?_
            refine sG ?_
            refine xR 3 krf ?_
            refine xs_u krf krf (aop_mset (kt := 72) (e := 3) (ke := mk_mls) (ve := mv_mls) (eq := me_mls) (b := 1408) (m := j10_2) (k := (⟨l8_1, l9_1⟩ : GLs)) (v := r15.1.Total) rfl krf krf krf krf krf krf (fun _ => by kernel_rfl) (fun _ _ => (eqV2_eq _ _ _ _ _).symm.trans krf)) ?_
            refine xE ?_
            exact nq_n (r15.1.Total, mset me_mls (⟨l8_1, l9_1⟩ : GLs) r15.1.Total j10_2) ⟨[10], [1403, 1404, 1405, 1407, 1408], [], []⟩ krf
          ·refine sK ?_
           exact nq_n (mgetD me_mls (⟨l8_1, l9_1⟩ : GLs) 0 j10_2, j10_2) ⟨[10], [1403, 1404, 1405, 1407, 1408], [], []⟩ krf
         ·rintro ⟨j13_1, j13_2⟩
          refine sR tfm ⟨[8], [1403, 1404, 1405, 1407, 1408], [], []⟩ ⟨[(8, I j13_1)], [(1403, .box 24 (bxc (GTf.cs a0t))), (1404, .box 28 (bxc (GCl.cs a1c))), (1405, .box 31 (bxc (GSs.cs a2s))), (1407, .box 70 [.mv 1408]), (1408, .mp (mpL mk_mls mv_mls j13_2))]⟩ krf ?_
          refine sT ?_
          refine iq_ret .id [1403, 1404, 1405, 1407, 1408] [] (I j13_1) krf krf ?_
          refine kh [10, 11, 12, 13, 16] krf (lates_cons (late_move krf) (lates_cons (late_move krf) (lates_cons (late_read (.ptr 6 1) krf rfl) (lates_cons (late_read (I a2s.To) krf rfl) (lates_cons (late_move krf) (lates_nil)))))) krf ?_
          refine h_enter (f := 36) (args := [I l9_1, I a2s.To, .ptr 407 0, .ptr 403 0, .ptr 404 0, .ptr 405 0]) (dst := some 110) krf krf ?_
          refine sc_inline (hc := [(1403, .box 24 (bxc (GTf.cs a0t))), (1404, .box 28 (bxc (GCl.cs a1c))), (1405, .box 31 (bxc (GSs.cs a2s))), (1407, .box 70 [.mv 1408]), (1408, .mp (mpL mk_mls mv_mls j13_2))]) (args' := [I l9_1, I a2s.To, .ptr 1407 0, .ptr 1403 0, .ptr 1404 0, .ptr 1405 0]) [(1403, 403), (1404, 404), (1405, 405), (1407, 407), (1408, 408)] [] [] Tryz.func36 rfl Tryz.ntmps36 rfl krf krf krf ?_
          refine sR tfm ⟨[0, 1, 2, 3, 4, 5], [1403, 1404, 1405, 1407, 1408], [], []⟩ ⟨[(0, I l9_1), (1, I a2s.To), (2, .ptr 1407 0), (3, .ptr 1403 0), (4, .ptr 1404 0), (5, .ptr 1405 0)], [(1403, .box 24 (bxc (GTf.cs a0t))), (1404, .box 28 (bxc (GCl.cs a1c))), (1405, .box 31 (bxc (GSs.cs a2s))), (1407, .box 70 [.mv 1408]), (1408, .mp (mpL mk_mls mv_mls j13_2))]⟩ krf ?_
          refine sR tfm ⟨[0, 1, 2, 3, 4, 5, 9], [9, 1403, 1404, 1405, 1407, 1408], [], []⟩ ⟨[(0, I l9_1), (1, I a2s.To), (2, .ptr 1407 0), (3, .ptr 1403 0), (4, .ptr 1404 0), (5, .ptr 1405 0), (9, .ptr 9 0)], [(9, .box 72 [I l9_1, I a2s.To]), (1403, .box 24 (bxc (GTf.cs a0t))), (1404, .box 28 (bxc (GCl.cs a1c))), (1405, .box 31 (bxc (GSs.cs a2s))), (1407, .box 70 [.mv 1408]), (1408, .mp (mpL mk_mls mv_mls j13_2))]⟩ krf ?_
          refine sS ?_
          refine sG ?_
          refine xR 2 krf ?_
          refine xs_u krf krf (aop_look (kt := 72) (e := 3) (ke := mk_mls) (ve := mv_mls) (eq := me_mls) (b := 1408) (m := j13_2) (k := (⟨l9_1, a2s.To⟩ : GLs)) (z0 := 0) rfl krf krf krf krf krf (fun _ => by kernel_rfl) (fun _ _ => (eqV2_eq _ _ _ _ _).symm.trans krf) krf) ?_
          refine xR 5 krf ?_
          refine xE ?_
          refine sN ⟨[0, 1, 2, 3, 4, 5, 9, 10, 11], [9, 1403, 1404, 1405, 1407, 1408], [], []⟩ ⟨[(0, I l9_1), (1, I a2s.To), (2, .ptr 1407 0), (3, .ptr 1403 0), (4, .ptr 1404 0), (5, .ptr 1405 0), (9, .ptr 9 0), (10, I (mgetD me_mls (⟨l9_1, a2s.To⟩ : GLs) 0 j13_2)), (11, B (mhas me_mls (⟨l9_1, a2s.To⟩ : GLs) j13_2))], [(9, .box 72 [I l9_1, I a2s.To]), (1403, .box 24 (bxc (GTf.cs a0t))), (1404, .box 28 (bxc (GCl.cs a1c))), (1405, .box 31 (bxc (GSs.cs a2s))), (1407, .box 70 [.mv 1408]), (1408, .mp (mpL mk_mls mv_mls j13_2))]⟩ krf ?_
          refine sim_bind (fun (j16_1, j16_2) => ⟨[(10, I j16_1)], [(1403, .box 24 (bxc (GTf.cs a0t))), (1404, .box 28 (bxc (GCl.cs a1c))), (1405, .box 31 (bxc (GSs.cs a2s))), (1407, .box 70 [.mv 1408]), (1408, .mp (mpL mk_mls mv_mls j16_2))]⟩ : (Int × (List (GLs × Int))) → St) ?_ ?_
          ·refine sR tfm ⟨[0, 1, 2, 3, 4, 5, 9, 10, 24], [9, 1403, 1404, 1405, 1407, 1408], [], []⟩ ⟨[(0, I l9_1), (1, I a2s.To), (2, .ptr 1407 0), (3, .ptr 1403 0), (4, .ptr 1404 0), (5, .ptr 1405 0), (9, .ptr 9 0), (10, I (mgetD me_mls (⟨l9_1, a2s.To⟩ : GLs) 0 j13_2)), (24, B (!(mhas me_mls (⟨l9_1, a2s.To⟩ : GLs) j13_2)))], [(9, .box 72 [I l9_1, I a2s.To]), (1403, .box 24 (bxc (GTf.cs a0t))), (1404, .box 28 (bxc (GCl.cs a1c))), (1405, .box 31 (bxc (GSs.cs a2s))), (1407, .box 70 [.mv 1408]), (1408, .mp (mpL mk_mls mv_mls j13_2))]⟩ krf ?_
           refine sC (!(mhas me_mls (⟨l9_1, a2s.To⟩ : GLs) j13_2)) krf ?_ ?_
           ·refine sS ?_
            refine sim_drw tfm rfl ?_
            refine xR 5 krf ?_
            refine xC [] krf (g_l_part_ok n a2s l9_1 a2s.To) krf krf (fun _ => by kernel_rfl) (fun r17 => ?_)
            refine xC [] krf (g_bill_Bill_ok n a0t a1c r17) krf krf (fun _ => by kernel_rfl) (fun r18 => ?_)
            refine xR 6 krf ?_
            refine xs_endD krf ?_
            refine sN ⟨[2, 9, 12, 13], [9, 12, 1403, 1404, 1405, 1407, 1408], [], []⟩ ⟨[(2, .ptr 1407 0), (9, .ptr 9 0), (12, .ptr 12 0), (13, I r18.2)], [(9, .box 72 [I l9_1, I a2s.To]), (12, .box 55 (bxc (GBill.cs r18.1))), (1403, .box 24 (bxc (GTf.cs a0t))), (1404, .box 28 (bxc (GCl.cs a1c))), (1405, .box 31 (bxc (GSs.cs a2s))), (1407, .box 70 [.mv 1408]), (1408, .mp (mpL mk_mls mv_mls j13_2))]⟩ krf ?_
            refine sR tfm ⟨[2, 9, 10, 13], [9, 1403, 1404, 1405, 1407, 1408], [], []⟩ ⟨[(2, .ptr 1407 0), (9, .ptr 9 0), (10, I r18.1.Total), (13, I r18.2)], [(9, .box 72 [I l9_1, I a2s.To]), (1403, .box 24 (bxc (GTf.cs a0t))), (1404, .box 28 (bxc (GCl.cs a1c))), (1405, .box 31 (bxc (GSs.cs a2s))), (1407, .box 70 [.mv 1408]), (1408, .mp (mpL mk_mls mv_mls j13_2))]⟩ krf ?_
            refine sS ?_
            refine sR tfm ⟨[2, 9, 10, 38], [9, 1403, 1404, 1405, 1407, 1408], [], []⟩ ⟨[(2, .ptr 1407 0), (9, .ptr 9 0), (10, I r18.1.Total), (38, B (!eqI r18.2 0))], [(9, .box 72 [I l9_1, I a2s.To]), (1403, .box 24 (bxc (GTf.cs a0t))), (1404, .box 28 (bxc (GCl.cs a1c))), (1405, .box 31 (bxc (GSs.cs a2s))), (1407, .box 70 [.mv 1408]), (1408, .mp (mpL mk_mls mv_mls j13_2))]⟩ krf ?_
            refine sC (!eqI r18.2 0) krf ?_ ?_
            ·refine sL tfm krf ?_
             refine sN ⟨[2, 9, 10], [9, 1403, 1404, 1405, 1407, 1408], [], []⟩ ⟨[(2, .ptr 1407 0), (9, .ptr 9 0), (10, I 1000000001)], [(9, .box 72 [I l9_1, I a2s.To]), (1403, .box 24 (bxc (GTf.cs a0t))), (1404, .box 28 (bxc (GCl.cs a1c))), (1405, .box 31 (bxc (GSs.cs a2s))), (1407, .box 70 [.mv 1408]), (1408, .mp (mpL mk_mls mv_mls j13_2))]⟩ krf ?_
             refine sG ?_
             refine xR 3 krf ?_
             refine xs_u krf krf (aop_mset (kt := 72) (e := 3) (ke := mk_mls) (ve := mv_mls) (eq := me_mls) (b := 1408) (m := j13_2) (k := (⟨l9_1, a2s.To⟩ : GLs)) (v := 1000000001) rfl krf krf krf krf krf krf (fun _ => by kernel_rfl) (fun _ _ => (eqV2_eq _ _ _ _ _).symm.trans krf)) ?_
             refine xE ?_
             exact nq_n (1000000001, mset me_mls (⟨l9_1, a2s.To⟩ : GLs) 1000000001 j13_2) ⟨[10], [1403, 1404, 1405, 1407, 1408], [], []⟩ krf
            ·refine sK ?_
             refine sN ⟨[2, 9, 10], [9, 1403, 1404, 1405, 1407, 1408], [], []⟩ ⟨[(2, .ptr 1407 0), (9, .ptr 9 0), (10, I r18.1.Total)], [(9, .box 72 [I l9_1, I a2s.To]), (1403, .box 24 (bxc (GTf.cs a0t))), (1404, .box 28 (bxc (GCl.cs a1c))), (1405, .box 31 (bxc (GSs.cs a2s))), (1407, .box 70 [.mv 1408]), (1408, .mp (mpL mk_mls mv_mls j13_2))]⟩ krf ?_
             refine sG ?_
             refine xR 3 krf ?_
             refine xs_u krf krf (aop_mset (kt := 72) (e := 3) (ke := mk_mls) (ve := mv_mls) (eq := me_mls) (b := 1408) (m := j13_2) (k := (⟨l9_1, a2s.To⟩ : GLs)) (v := r18.1.Total) rfl krf krf krf krf krf krf (fun _ => by kernel_rfl) (fun _ _ => (eqV2_eq _ _ _ _ _).symm.trans krf)) ?_
             refine xE ?_
             exact nq_n (r18.1.Total, mset me_mls (⟨l9_1, a2s.To⟩ : GLs) r18.1.Total j13_2) ⟨[10], [1403, 1404, 1405, 1407, 1408], [], []⟩ krf
           ·refine sK ?_
            exact nq_n (mgetD me_mls (⟨l9_1, a2s.To⟩ : GLs) 0 j13_2, j13_2) ⟨[10], [1403, 1404, 1405, 1407, 1408], [], []⟩ krf
          ·rintro ⟨j16_1, j16_2⟩
           refine sR tfm ⟨[8], [1403, 1404, 1405, 1407, 1408], [], []⟩ ⟨[(8, I j16_1)], [(1403, .box 24 (bxc (GTf.cs a0t))), (1404, .box 28 (bxc (GCl.cs a1c))), (1405, .box 31 (bxc (GSs.cs a2s))), (1407, .box 70 [.mv 1408]), (1408, .mp (mpL mk_mls mv_mls j16_2))]⟩ krf ?_
           refine sT ?_
           refine iq_ret .id [1403, 1404, 1405, 1407, 1408] [] (I j16_1) krf krf ?_
           refine kh [16, 9] krf (lates_cons (late_move krf) (lates_cons (late_read (I (wi (j10_1 + j13_1))) krf rfl) (lates_nil))) krf ?_
           refine h_op [16] krf krf (lates_cons (late_move krf) (lates_nil)) ?_
           refine h_op [] krf krf (lates_nil) ?_
           refine h_end ?_
           refine sN ⟨[6, 11, 13, 15, 16, 17, 113], [6, 403, 404, 405, 407, 408], [], []⟩ ⟨[(6, .ptr 6 0), (11, I r6.1), (13, .fn (.func 36) [] [.ptr 407 0, .ptr 403 0, .ptr 404 0, .ptr 405 0]), (15, .p (.val (.slice none 0 0))), (16, I l8_1), (17, I l9_1), (113, B (ltI (wi ((wi (j10_1 + j13_1)) + j16_1)) r6.1))], [(6, .box 31 (bxc (GSs.cs a2s))), (403, .box 24 (bxc (GTf.cs a0t))), (404, .box 28 (bxc (GCl.cs a1c))), (405, .box 31 (bxc (GSs.cs a2s))), (407, .box 70 [.mv 408]), (408, .mp (mpL mk_mls mv_mls j16_2))]⟩ krf ?_
           refine sC (ltI (wi ((wi (j10_1 + j13_1)) + j16_1)) r6.1) krf ?_ ?_
           ·refine sR tfm ⟨[15], [116], [], []⟩ ⟨[(15, .tsl 1 (List.map ci [l8_1, l9_1]) 116)], [(116, .arr 3 1 (List.map ci [l8_1, l9_1]).length)]⟩ krf ?_
            refine sim_exit ?_
            refine bq_miss rfl ?_
            refine sq_x ?_
            refine kq_x ?_
            refine bq_miss rfl ?_
            refine bq_miss rfl ?_
            refine sq_x ?_
            refine kq_x ?_
            refine bq_hit ?_
            refine sN ⟨[15], [116], [], []⟩ ⟨[(15, .tsl 1 (List.map ci [l8_1, l9_1]) 116)], [(116, .arr 3 1 (List.map ci [l8_1, l9_1]).length)]⟩ krf ?_
            refine sS ?_
            refine sG ?_
            refine xR 2 krf ?_
            refine xs_u krf krf (aop_nilNe (e := 3) (S := 1) (tk := 116) (ta := 0) (te := 3) (enc := ci) (l := [l8_1, l9_1]) rfl krf krf krf krf krf krf) ?_
            refine xR 3 krf ?_
            refine xE ?_
            refine sN ⟨[8, 9, 10], [116], [], []⟩ ⟨[(8, .tsl 1 (List.map ci [l8_1, l9_1]) 116), (9, B true), (10, I 0)], [(116, .arr 3 1 (List.map ci [l8_1, l9_1]).length)]⟩ krf ?_
            refine sT ?_
            exact qR (.agg [.sl 1, .id, .id]) krf krf krf
           ·refine sK ?_
            refine bq_n ?_
            refine sN ⟨[6, 11, 13, 15, 16, 17], [6, 403, 404, 405, 407, 408], [], []⟩ ⟨[(6, .ptr 6 0), (11, I r6.1), (13, .fn (.func 36) [] [.ptr 407 0, .ptr 403 0, .ptr 404 0, .ptr 405 0]), (15, .p (.val (.slice none 0 0))), (16, I l8_1), (17, I l9_1)], [(6, .box 31 (bxc (GSs.cs a2s))), (403, .box 24 (bxc (GTf.cs a0t))), (404, .box 28 (bxc (GCl.cs a1c))), (405, .box 31 (bxc (GSs.cs a2s))), (407, .box 70 [.mv 408]), (408, .mp (mpL mk_mls mv_mls j16_2))]⟩ krf ?_
            refine sL tfm krf ?_
            exact kq_n (wi (l9_1 + 1), j16_2) ⟨[6, 11, 13, 15, 16, 17], [6, 403, 404, 405, 407, 408], [], []⟩ krf
       ·refine sim_exit ?_
        refine sq_x ?_
        refine kq_x ?_
        refine bq_hit ?_
        refine bq_n ?_
        refine sN ⟨[6, 11, 13, 15, 16], [6, 403, 404, 405, 407, 408], [], []⟩ ⟨[(6, .ptr 6 0), (11, I r6.1), (13, .fn (.func 36) [] [.ptr 407 0, .ptr 403 0, .ptr 404 0, .ptr 405 0]), (15, .p (.val (.slice none 0 0))), (16, I l8_1)], [(6, .box 31 (bxc (GSs.cs a2s))), (403, .box 24 (bxc (GTf.cs a0t))), (404, .box 28 (bxc (GCl.cs a1c))), (405, .box 31 (bxc (GSs.cs a2s))), (407, .box 70 [.mv 408]), (408, .mp (mpL mk_mls mv_mls l9_2))]⟩ krf ?_
        refine sL tfm krf ?_
        exact kq_n (wi (l8_1 + 1), l9_2) ⟨[6, 11, 13, 15, 16], [6, 403, 404, 405, 407, 408], [], []⟩ krf
      ·refine sim_exit ?_
       refine sq_x ?_
       refine kq_x ?_
       refine bq_hit ?_
       refine sN ⟨[15], [], [], []⟩ ⟨[(15, .p (.val (.slice none 0 0)))], []⟩ krf ?_
       refine sR tfm ⟨[8, 9, 10], [], [], []⟩ ⟨[(8, .p (.val (.slice none 0 0))), (9, B false), (10, I 0)], []⟩ krf ?_
       refine sT ?_
       exact qR (.agg [.sl 1, .id, .id]) krf krf krf
    ·refine sR tfm ⟨[3, 6, 11, 13, 14], [6, 403, 404, 405, 407, 408], [], []⟩ ⟨[(3, I a3most), (6, .ptr 6 0), (11, I r6.1), (13, .fn (.func 36) [] [.ptr 407 0, .ptr 403 0, .ptr 404 0, .ptr 405 0]), (14, I (wi (a2s.From + 1)))], [(6, .box 31 (bxc (GSs.cs a2s))), (403, .box 24 (bxc (GTf.cs a0t))), (404, .box 28 (bxc (GCl.cs a1c))), (405, .box 31 (bxc (GSs.cs a2s))), (407, .box 70 [.mv 408]), (408, .mp (mpL mk_mls mv_mls []))]⟩ krf ?_
     refine sB ?_
     refine sim_loop (fun (l19_1, l19_2) => ⟨[(3, I a3most), (6, .ptr 6 0), (11, I r6.1), (13, .fn (.func 36) [] [.ptr 407 0, .ptr 403 0, .ptr 404 0, .ptr 405 0]), (14, I l19_1)], [(6, .box 31 (bxc (GSs.cs a2s))), (403, .box 24 (bxc (GTf.cs a0t))), (404, .box 28 (bxc (GCl.cs a1c))), (405, .box 31 (bxc (GSs.cs a2s))), (407, .box 70 [.mv 408]), (408, .mp (mpL mk_mls mv_mls l19_2))]⟩ : (Int × (List (GLs × Int))) → St) (weak_shr (K := ⟨[3, 6, 11, 13, 14], [6, 403, 404, 405, 407, 408], [], []⟩) krf) ?_
     rintro recl19 ⟨l19_1, l19_2⟩
     show SimE (g_l_Find_l19 n a0t a1c a2s a3most r6 recl19 l19_1 l19_2) _ _ _ _ _ _
     unfold g_l_Find_l19
     refine sS ?_
     refine sR tfm ⟨[3, 6, 11, 13, 14, 59], [6, 403, 404, 405, 407, 408], [], []⟩ ⟨[(3, I a3most), (6, .ptr 6 0), (11, I r6.1), (13, .fn (.func 36) [] [.ptr 407 0, .ptr 403 0, .ptr 404 0, .ptr 405 0]), (14, I l19_1), (59, B (ltI l19_1 a2s.To))], [(6, .box 31 (bxc (GSs.cs a2s))), (403, .box 24 (bxc (GTf.cs a0t))), (404, .box 28 (bxc (GCl.cs a1c))), (405, .box 31 (bxc (GSs.cs a2s))), (407, .box 70 [.mv 408]), (408, .mp (mpL mk_mls mv_mls l19_2))]⟩ krf ?_
     refine sC (ltI l19_1 a2s.To) krf ?_ ?_
     ·refine sK ?_
      refine sN ⟨[3, 6, 11, 13, 14], [6, 403, 404, 405, 407, 408], [], []⟩ ⟨[(3, I a3most), (6, .ptr 6 0), (11, I r6.1), (13, .fn (.func 36) [] [.ptr 407 0, .ptr 403 0, .ptr 404 0, .ptr 405 0]), (14, I l19_1)], [(6, .box 31 (bxc (GSs.cs a2s))), (403, .box 24 (bxc (GTf.cs a0t))), (404, .box 28 (bxc (GCl.cs a1c))), (405, .box 31 (bxc (GSs.cs a2s))), (407, .box 70 [.mv 408]), (408, .mp (mpL mk_mls mv_mls l19_2))]⟩ krf ?_
      refine sS ?_
      refine sB ?_
      refine sS ?_
      refine sim_hst [0, 1, 2, 3, 5, 6, 7, 8, 11] [5, 6, 7, 8, 11] [(4, []), (9, []), (10, []), (12, [])] tfm rfl krf krf ?_
      refine h_enter (f := 36) (args := [I a2s.From, I l19_1, .ptr 407 0, .ptr 403 0, .ptr 404 0, .ptr 405 0]) (dst := some 66) krf krf ?_
      refine sc_inline (hc := [(1403, .box 24 (bxc (GTf.cs a0t))), (1404, .box 28 (bxc (GCl.cs a1c))), (1405, .box 31 (bxc (GSs.cs a2s))), (1407, .box 70 [.mv 1408]), (1408, .mp (mpL mk_mls mv_mls l19_2))]) (args' := [I a2s.From, I l19_1, .ptr 1407 0, .ptr 1403 0, .ptr 1404 0, .ptr 1405 0]) [(1403, 403), (1404, 404), (1405, 405), (1407, 407), (1408, 408)] [] [] Tryz.func36 rfl Tryz.ntmps36 rfl krf krf krf ?_
      refine sR tfm ⟨[0, 1, 2, 3, 4, 5], [1403, 1404, 1405, 1407, 1408], [], []⟩ ⟨[(0, I a2s.From), (1, I l19_1), (2, .ptr 1407 0), (3, .ptr 1403 0), (4, .ptr 1404 0), (5, .ptr 1405 0)], [(1403, .box 24 (bxc (GTf.cs a0t))), (1404, .box 28 (bxc (GCl.cs a1c))), (1405, .box 31 (bxc (GSs.cs a2s))), (1407, .box 70 [.mv 1408]), (1408, .mp (mpL mk_mls mv_mls l19_2))]⟩ krf ?_
      refine sR tfm ⟨[0, 1, 2, 3, 4, 5, 9], [9, 1403, 1404, 1405, 1407, 1408], [], []⟩ ⟨[(0, I a2s.From), (1, I l19_1), (2, .ptr 1407 0), (3, .ptr 1403 0), (4, .ptr 1404 0), (5, .ptr 1405 0), (9, .ptr 9 0)], [(9, .box 72 [I a2s.From, I l19_1]), (1403, .box 24 (bxc (GTf.cs a0t))), (1404, .box 28 (bxc (GCl.cs a1c))), (1405, .box 31 (bxc (GSs.cs a2s))), (1407, .box 70 [.mv 1408]), (1408, .mp (mpL mk_mls mv_mls l19_2))]⟩ krf ?_
      refine sS ?_
      refine sG ?_
      refine xR 2 krf ?_
      refine xs_u krf krf (aop_look (kt := 72) (e := 3) (ke := mk_mls) (ve := mv_mls) (eq := me_mls) (b := 1408) (m := l19_2) (k := (⟨a2s.From, l19_1⟩ : GLs)) (z0 := 0) rfl krf krf krf krf krf (fun _ => by kernel_rfl) (fun _ _ => (eqV2_eq _ _ _ _ _).symm.trans krf) krf) ?_
      refine xR 5 krf ?_
      refine xE ?_
      refine sN ⟨[0, 1, 2, 3, 4, 5, 9, 10, 11], [9, 1403, 1404, 1405, 1407, 1408], [], []⟩ ⟨[(0, I a2s.From), (1, I l19_1), (2, .ptr 1407 0), (3, .ptr 1403 0), (4, .ptr 1404 0), (5, .ptr 1405 0), (9, .ptr 9 0), (10, I (mgetD me_mls (⟨a2s.From, l19_1⟩ : GLs) 0 l19_2)), (11, B (mhas me_mls (⟨a2s.From, l19_1⟩ : GLs) l19_2))], [(9, .box 72 [I a2s.From, I l19_1]), (1403, .box 24 (bxc (GTf.cs a0t))), (1404, .box 28 (bxc (GCl.cs a1c))), (1405, .box 31 (bxc (GSs.cs a2s))), (1407, .box 70 [.mv 1408]), (1408, .mp (mpL mk_mls mv_mls l19_2))]⟩ krf ?_
      refine sim_bind (fun (j20_1, j20_2) => ⟨[(10, I j20_1)], [(1403, .box 24 (bxc (GTf.cs a0t))), (1404, .box 28 (bxc (GCl.cs a1c))), (1405, .box 31 (bxc (GSs.cs a2s))), (1407, .box 70 [.mv 1408]), (1408, .mp (mpL mk_mls mv_mls j20_2))]⟩ : (Int × (List (GLs × Int))) → St) ?_ ?_
      ·refine sR tfm ⟨[0, 1, 2, 3, 4, 5, 9, 10, 24], [9, 1403, 1404, 1405, 1407, 1408], [], []⟩ ⟨[(0, I a2s.From), (1, I l19_1), (2, .ptr 1407 0), (3, .ptr 1403 0), (4, .ptr 1404 0), (5, .ptr 1405 0), (9, .ptr 9 0), (10, I (mgetD me_mls (⟨a2s.From, l19_1⟩ : GLs) 0 l19_2)), (24, B (!(mhas me_mls (⟨a2s.From, l19_1⟩ : GLs) l19_2)))], [(9, .box 72 [I a2s.From, I l19_1]), (1403, .box 24 (bxc (GTf.cs a0t))), (1404, .box 28 (bxc (GCl.cs a1c))), (1405, .box 31 (bxc (GSs.cs a2s))), (1407, .box 70 [.mv 1408]), (1408, .mp (mpL mk_mls mv_mls l19_2))]⟩ krf ?_
       refine sC (!(mhas me_mls (⟨a2s.From, l19_1⟩ : GLs) l19_2)) krf ?_ ?_
       ·refine sS ?_
        refine sim_drw tfm rfl ?_
        refine xR 5 krf ?_
        refine xC [] krf (g_l_part_ok n a2s a2s.From l19_1) krf krf (fun _ => by kernel_rfl) (fun r21 => ?_)
        refine xC [] krf (g_bill_Bill_ok n a0t a1c r21) krf krf (fun _ => by kernel_rfl) (fun r22 => ?_)
        refine xR 6 krf ?_
        refine xs_endD krf ?_
        refine sN ⟨[2, 9, 12, 13], [9, 12, 1403, 1404, 1405, 1407, 1408], [], []⟩ ⟨[(2, .ptr 1407 0), (9, .ptr 9 0), (12, .ptr 12 0), (13, I r22.2)], [(9, .box 72 [I a2s.From, I l19_1]), (12, .box 55 (bxc (GBill.cs r22.1))), (1403, .box 24 (bxc (GTf.cs a0t))), (1404, .box 28 (bxc (GCl.cs a1c))), (1405, .box 31 (bxc (GSs.cs a2s))), (1407, .box 70 [.mv 1408]), (1408, .mp (mpL mk_mls mv_mls l19_2))]⟩ krf ?_
        refine sR tfm ⟨[2, 9, 10, 13], [9, 1403, 1404, 1405, 1407, 1408], [], []⟩ ⟨[(2, .ptr 1407 0), (9, .ptr 9 0), (10, I r22.1.Total), (13, I r22.2)], [(9, .box 72 [I a2s.From, I l19_1]), (1403, .box 24 (bxc (GTf.cs a0t))), (1404, .box 28 (bxc (GCl.cs a1c))), (1405, .box 31 (bxc (GSs.cs a2s))), (1407, .box 70 [.mv 1408]), (1408, .mp (mpL mk_mls mv_mls l19_2))]⟩ krf ?_
        refine sS ?_
        refine sR tfm ⟨[2, 9, 10, 38], [9, 1403, 1404, 1405, 1407, 1408], [], []⟩ ⟨[(2, .ptr 1407 0), (9, .ptr 9 0), (10, I r22.1.Total), (38, B (!eqI r22.2 0))], [(9, .box 72 [I a2s.From, I l19_1]), (1403, .box 24 (bxc (GTf.cs a0t))), (1404, .box 28 (bxc (GCl.cs a1c))), (1405, .box 31 (bxc (GSs.cs a2s))), (1407, .box 70 [.mv 1408]), (1408, .mp (mpL mk_mls mv_mls l19_2))]⟩ krf ?_
        refine sC (!eqI r22.2 0) krf ?_ ?_
        ·refine sL tfm krf ?_
         refine sN ⟨[2, 9, 10], [9, 1403, 1404, 1405, 1407, 1408], [], []⟩ ⟨[(2, .ptr 1407 0), (9, .ptr 9 0), (10, I 1000000001)], [(9, .box 72 [I a2s.From, I l19_1]), (1403, .box 24 (bxc (GTf.cs a0t))), (1404, .box 28 (bxc (GCl.cs a1c))), (1405, .box 31 (bxc (GSs.cs a2s))), (1407, .box 70 [.mv 1408]), (1408, .mp (mpL mk_mls mv_mls l19_2))]⟩ krf ?_
         refine sG ?_
         refine xR 3 krf ?_
         refine xs_u krf krf (aop_mset (kt := 72) (e := 3) (ke := mk_mls) (ve := mv_mls) (eq := me_mls) (b := 1408) (m := l19_2) (k := (⟨a2s.From, l19_1⟩ : GLs)) (v := 1000000001) rfl krf krf krf krf krf krf (fun _ => by kernel_rfl) (fun _ _ => (eqV2_eq _ _ _ _ _).symm.trans krf)) ?_
         refine xE ?_
         exact nq_n (1000000001, mset me_mls (⟨a2s.From, l19_1⟩ : GLs) 1000000001 l19_2) ⟨[10], [1403, 1404, 1405, 1407, 1408], [], []⟩ krf
        ·refine sK ?_
         refine sN ⟨[2, 9, 10], [9, 1403, 1404, 1405, 1407, 1408], [], []⟩ ⟨[(2, .ptr 1407 0), (9, .ptr 9 0), (10, I r22.1.Total)], [(9, .box 72 [I a2s.From, I l19_1]), (1403, .box 24 (bxc (GTf.cs a0t))), (1404, .box 28 (bxc (GCl.cs a1c))), (1405, .box 31 (bxc (GSs.cs a2s))), (1407, .box 70 [.mv 1408]), (1408, .mp (mpL mk_mls mv_mls l19_2))]⟩ krf ?_
         refine sG ?_
         refine xR 3 krf ?_
         refine xs_u krf krf (aop_mset (kt := 72) (e := 3) (ke := mk_mls) (ve := mv_mls) (eq := me_mls) (b := 1408) (m := l19_2) (k := (⟨a2s.From, l19_1⟩ : GLs)) (v := r22.1.Total) rfl krf krf krf krf krf krf (fun _ => by kernel_rfl) (fun _ _ => (eqV2_eq _ _ _ _ _).symm.trans krf)) ?_
         refine xE ?_
         exact nq_n (r22.1.Total, mset me_mls (⟨a2s.From, l19_1⟩ : GLs) r22.1.Total l19_2) ⟨[10], [1403, 1404, 1405, 1407, 1408], [], []⟩ krf
       ·refine sK ?_
        exact nq_n (mgetD me_mls (⟨a2s.From, l19_1⟩ : GLs) 0 l19_2, l19_2) ⟨[10], [1403, 1404, 1405, 1407, 1408], [], []⟩ krf
      ·rintro ⟨j20_1, j20_2⟩
       refine sR tfm ⟨[8], [1403, 1404, 1405, 1407, 1408], [], []⟩ ⟨[(8, I j20_1)], [(1403, .box 24 (bxc (GTf.cs a0t))), (1404, .box 28 (bxc (GCl.cs a1c))), (1405, .box 31 (bxc (GSs.cs a2s))), (1407, .box 70 [.mv 1408]), (1408, .mp (mpL mk_mls mv_mls j20_2))]⟩ krf ?_
       refine sT ?_
       refine iq_ret .id [1403, 1404, 1405, 1407, 1408] [] (I j20_1) krf krf ?_
       refine kh [5, 6, 7, 8, 11] krf (lates_cons (late_move krf) (lates_cons (late_move krf) (lates_cons (late_read (.ptr 6 1) krf rfl) (lates_cons (late_read (I a2s.To) krf rfl) (lates_cons (late_move krf) (lates_nil)))))) krf ?_
       refine h_enter (f := 36) (args := [I l19_1, I a2s.To, .ptr 407 0, .ptr 403 0, .ptr 404 0, .ptr 405 0]) (dst := some 71) krf krf ?_
       refine sc_inline (hc := [(1403, .box 24 (bxc (GTf.cs a0t))), (1404, .box 28 (bxc (GCl.cs a1c))), (1405, .box 31 (bxc (GSs.cs a2s))), (1407, .box 70 [.mv 1408]), (1408, .mp (mpL mk_mls mv_mls j20_2))]) (args' := [I l19_1, I a2s.To, .ptr 1407 0, .ptr 1403 0, .ptr 1404 0, .ptr 1405 0]) [(1403, 403), (1404, 404), (1405, 405), (1407, 407), (1408, 408)] [] [] Tryz.func36 rfl Tryz.ntmps36 rfl krf krf krf ?_
       refine sR tfm ⟨[0, 1, 2, 3, 4, 5], [1403, 1404, 1405, 1407, 1408], [], []⟩ ⟨[(0, I l19_1), (1, I a2s.To), (2, .ptr 1407 0), (3, .ptr 1403 0), (4, .ptr 1404 0), (5, .ptr 1405 0)], [(1403, .box 24 (bxc (GTf.cs a0t))), (1404, .box 28 (bxc (GCl.cs a1c))), (1405, .box 31 (bxc (GSs.cs a2s))), (1407, .box 70 [.mv 1408]), (1408, .mp (mpL mk_mls mv_mls j20_2))]⟩ krf ?_
       refine sR tfm ⟨[0, 1, 2, 3, 4, 5, 9], [9, 1403, 1404, 1405, 1407, 1408], [], []⟩ ⟨[(0, I l19_1), (1, I a2s.To), (2, .ptr 1407 0), (3, .ptr 1403 0), (4, .ptr 1404 0), (5, .ptr 1405 0), (9, .ptr 9 0)], [(9, .box 72 [I l19_1, I a2s.To]), (1403, .box 24 (bxc (GTf.cs a0t))), (1404, .box 28 (bxc (GCl.cs a1c))), (1405, .box 31 (bxc (GSs.cs a2s))), (1407, .box 70 [.mv 1408]), (1408, .mp (mpL mk_mls mv_mls j20_2))]⟩ krf ?_
       refine sS ?_
       refine sG ?_
       refine xR 2 krf ?_
       refine xs_u krf krf (aop_look (kt := 72) (e := 3) (ke := mk_mls) (ve := mv_mls) (eq := me_mls) (b := 1408) (m := j20_2) (k := (⟨l19_1, a2s.To⟩ : GLs)) (z0 := 0) rfl krf krf krf krf krf (fun _ => by kernel_rfl) (fun _ _ => (eqV2_eq _ _ _ _ _).symm.trans krf) krf) ?_
       refine xR 5 krf ?_
       refine xE ?_
       refine sN ⟨[0, 1, 2, 3, 4, 5, 9, 10, 11], [9, 1403, 1404, 1405, 1407, 1408], [], []⟩ ⟨[(0, I l19_1), (1, I a2s.To), (2, .ptr 1407 0), (3, .ptr 1403 0), (4, .ptr 1404 0), (5, .ptr 1405 0), (9, .ptr 9 0), (10, I (mgetD me_mls (⟨l19_1, a2s.To⟩ : GLs) 0 j20_2)), (11, B (mhas me_mls (⟨l19_1, a2s.To⟩ : GLs) j20_2))], [(9, .box 72 [I l19_1, I a2s.To]), (1403, .box 24 (bxc (GTf.cs a0t))), (1404, .box 28 (bxc (GCl.cs a1c))), (1405, .box 31 (bxc (GSs.cs a2s))), (1407, .box 70 [.mv 1408]), (1408, .mp (mpL mk_mls mv_mls j20_2))]⟩ krf ?_
       refine sim_bind (fun (j23_1, j23_2) => ⟨[(10, I j23_1)], [(1403, .box 24 (bxc (GTf.cs a0t))), (1404, .box 28 (bxc (GCl.cs a1c))), (1405, .box 31 (bxc (GSs.cs a2s))), (1407, .box 70 [.mv 1408]), (1408, .mp (mpL mk_mls mv_mls j23_2))]⟩ : (Int × (List (GLs × Int))) → St) ?_ ?_
       ·refine sR tfm ⟨[0, 1, 2, 3, 4, 5, 9, 10, 24], [9, 1403, 1404, 1405, 1407, 1408], [], []⟩ ⟨[(0, I l19_1), (1, I a2s.To), (2, .ptr 1407 0), (3, .ptr 1403 0), (4, .ptr 1404 0), (5, .ptr 1405 0), (9, .ptr 9 0), (10, I (mgetD me_mls (⟨l19_1, a2s.To⟩ : GLs) 0 j20_2)), (24, B (!(mhas me_mls (⟨l19_1, a2s.To⟩ : GLs) j20_2)))], [(9, .box 72 [I l19_1, I a2s.To]), (1403, .box 24 (bxc (GTf.cs a0t))), (1404, .box 28 (bxc (GCl.cs a1c))), (1405, .box 31 (bxc (GSs.cs a2s))), (1407, .box 70 [.mv 1408]), (1408, .mp (mpL mk_mls mv_mls j20_2))]⟩ krf ?_
        refine sC (!(mhas me_mls (⟨l19_1, a2s.To⟩ : GLs) j20_2)) krf ?_ ?_
        ·refine sS ?_
         refine sim_drw tfm rfl ?_
         refine xR 5 krf ?_
         refine xC [] krf (g_l_part_ok n a2s l19_1 a2s.To) krf krf (fun _ => by kernel_rfl) (fun r24 => ?_)
         refine xC [] krf (g_bill_Bill_ok n a0t a1c r24) krf krf (fun _ => by kernel_rfl) (fun r25 => ?_)
         refine xR 6 krf ?_
         refine xs_endD krf ?_
         refine sN ⟨[2, 9, 12, 13], [9, 12, 1403, 1404, 1405, 1407, 1408], [], []⟩ ⟨[(2, .ptr 1407 0), (9, .ptr 9 0), (12, .ptr 12 0), (13, I r25.2)], [(9, .box 72 [I l19_1, I a2s.To]), (12, .box 55 (bxc (GBill.cs r25.1))), (1403, .box 24 (bxc (GTf.cs a0t))), (1404, .box 28 (bxc (GCl.cs a1c))), (1405, .box 31 (bxc (GSs.cs a2s))), (1407, .box 70 [.mv 1408]), (1408, .mp (mpL mk_mls mv_mls j20_2))]⟩ krf ?_
         refine sR tfm ⟨[2, 9, 10, 13], [9, 1403, 1404, 1405, 1407, 1408], [], []⟩ ⟨[(2, .ptr 1407 0), (9, .ptr 9 0), (10, I r25.1.Total), (13, I r25.2)], [(9, .box 72 [I l19_1, I a2s.To]), (1403, .box 24 (bxc (GTf.cs a0t))), (1404, .box 28 (bxc (GCl.cs a1c))), (1405, .box 31 (bxc (GSs.cs a2s))), (1407, .box 70 [.mv 1408]), (1408, .mp (mpL mk_mls mv_mls j20_2))]⟩ krf ?_
         refine sS ?_
         refine sR tfm ⟨[2, 9, 10, 38], [9, 1403, 1404, 1405, 1407, 1408], [], []⟩ ⟨[(2, .ptr 1407 0), (9, .ptr 9 0), (10, I r25.1.Total), (38, B (!eqI r25.2 0))], [(9, .box 72 [I l19_1, I a2s.To]), (1403, .box 24 (bxc (GTf.cs a0t))), (1404, .box 28 (bxc (GCl.cs a1c))), (1405, .box 31 (bxc (GSs.cs a2s))), (1407, .box 70 [.mv 1408]), (1408, .mp (mpL mk_mls mv_mls j20_2))]⟩ krf ?_
         refine sC (!eqI r25.2 0) krf ?_ ?_
         ·refine sL tfm krf ?_
          refine sN ⟨[2, 9, 10], [9, 1403, 1404, 1405, 1407, 1408], [], []⟩ ⟨[(2, .ptr 1407 0), (9, .ptr 9 0), (10, I 1000000001)], [(9, .box 72 [I l19_1, I a2s.To]), (1403, .box 24 (bxc (GTf.cs a0t))), (1404, .box 28 (bxc (GCl.cs a1c))), (1405, .box 31 (bxc (GSs.cs a2s))), (1407, .box 70 [.mv 1408]), (1408, .mp (mpL mk_mls mv_mls j20_2))]⟩ krf ?_
          refine sG ?_
          refine xR 3 krf ?_
          refine xs_u krf krf (aop_mset (kt := 72) (e := 3) (ke := mk_mls) (ve := mv_mls) (eq := me_mls) (b := 1408) (m := j20_2) (k := (⟨l19_1, a2s.To⟩ : GLs)) (v := 1000000001) rfl krf krf krf krf krf krf (fun _ => by kernel_rfl) (fun _ _ => (eqV2_eq _ _ _ _ _).symm.trans krf)) ?_
          refine xE ?_
          exact nq_n (1000000001, mset me_mls (⟨l19_1, a2s.To⟩ : GLs) 1000000001 j20_2) ⟨[10], [1403, 1404, 1405, 1407, 1408], [], []⟩ krf
         ·refine sK ?_
          refine sN ⟨[2, 9, 10], [9, 1403, 1404, 1405, 1407, 1408], [], []⟩ ⟨[(2, .ptr 1407 0), (9, .ptr 9 0), (10, I r25.1.Total)], [(9, .box 72 [I l19_1, I a2s.To]), (1403, .box 24 (bxc (GTf.cs a0t))), (1404, .box 28 (bxc (GCl.cs a1c))), (1405, .box 31 (bxc (GSs.cs a2s))), (1407, .box 70 [.mv 1408]), (1408, .mp (mpL mk_mls mv_mls j20_2))]⟩ krf ?_
          refine sG ?_
          refine xR 3 krf ?_
          refine xs_u krf krf (aop_mset (kt := 72) (e := 3) (ke := mk_mls) (ve := mv_mls) (eq := me_mls) (b := 1408) (m := j20_2) (k := (⟨l19_1, a2s.To⟩ : GLs)) (v := r25.1.Total) rfl krf krf krf krf krf krf (fun _ => by kernel_rfl) (fun _ _ => (eqV2_eq _ _ _ _ _).symm.trans krf)) ?_
          refine xE ?_
          exact nq_n (r25.1.Total, mset me_mls (⟨l19_1, a2s.To⟩ : GLs) r25.1.Total j20_2) ⟨[10], [1403, 1404, 1405, 1407, 1408], [], []⟩ krf
        ·refine sK ?_
         exact nq_n (mgetD me_mls (⟨l19_1, a2s.To⟩ : GLs) 0 j20_2, j20_2) ⟨[10], [1403, 1404, 1405, 1407, 1408], [], []⟩ krf
       ·rintro ⟨j23_1, j23_2⟩
        refine sR tfm ⟨[8], [1403, 1404, 1405, 1407, 1408], [], []⟩ ⟨[(8, I j23_1)], [(1403, .box 24 (bxc (GTf.cs a0t))), (1404, .box 28 (bxc (GCl.cs a1c))), (1405, .box 31 (bxc (GSs.cs a2s))), (1407, .box 70 [.mv 1408]), (1408, .mp (mpL mk_mls mv_mls j23_2))]⟩ krf ?_
        refine sT ?_
        refine iq_ret .id [1403, 1404, 1405, 1407, 1408] [] (I j23_1) krf krf ?_
        refine kh [11] krf (lates_cons (late_move krf) (lates_nil)) krf ?_
        refine h_op [11] krf krf (lates_cons (late_move krf) (lates_nil)) ?_
        refine h_op [] krf krf (lates_nil) ?_
        refine h_end ?_
        refine sN ⟨[3, 6, 11, 13, 14, 74], [6, 403, 404, 405, 407, 408], [], []⟩ ⟨[(3, I a3most), (6, .ptr 6 0), (11, I r6.1), (13, .fn (.func 36) [] [.ptr 407 0, .ptr 403 0, .ptr 404 0, .ptr 405 0]), (14, I l19_1), (74, B (ltI (wi (j20_1 + j23_1)) r6.1))], [(6, .box 31 (bxc (GSs.cs a2s))), (403, .box 24 (bxc (GTf.cs a0t))), (404, .box 28 (bxc (GCl.cs a1c))), (405, .box 31 (bxc (GSs.cs a2s))), (407, .box 70 [.mv 408]), (408, .mp (mpL mk_mls mv_mls j23_2))]⟩ krf ?_
        refine sC (ltI (wi (j20_1 + j23_1)) r6.1) krf ?_ ?_
        ·refine sR tfm ⟨[8, 9, 10], [76], [], []⟩ ⟨[(8, .tsl 1 (List.map ci [l19_1]) 76), (9, B true), (10, I 0)], [(76, .arr 3 1 (List.map ci [l19_1]).length)]⟩ krf ?_
         refine sT ?_
         refine bq_r ?_
         refine sq_r ?_
         refine kq_r ?_
         refine bq_r ?_
         refine kq_r ?_
         exact qR (.agg [.sl 1, .id, .id]) krf krf krf
        ·refine sK ?_
         refine bq_n ?_
         refine sN ⟨[3, 6, 11, 13, 14], [6, 403, 404, 405, 407, 408], [], []⟩ ⟨[(3, I a3most), (6, .ptr 6 0), (11, I r6.1), (13, .fn (.func 36) [] [.ptr 407 0, .ptr 403 0, .ptr 404 0, .ptr 405 0]), (14, I l19_1)], [(6, .box 31 (bxc (GSs.cs a2s))), (403, .box 24 (bxc (GTf.cs a0t))), (404, .box 28 (bxc (GCl.cs a1c))), (405, .box 31 (bxc (GSs.cs a2s))), (407, .box 70 [.mv 408]), (408, .mp (mpL mk_mls mv_mls j23_2))]⟩ krf ?_
         refine sL tfm krf ?_
         exact kq_n (wi (l19_1 + 1), j23_2) ⟨[3, 6, 11, 13, 14], [6, 403, 404, 405, 407, 408], [], []⟩ krf
     ·refine sim_exit ?_
      refine sq_x ?_
      refine kq_x ?_
      refine bq_hit ?_
      exact kq_n (k := fun j7 => g_l_Find_j7 n a0t a1c a2s a3most r6 j7) l19_2 ⟨[3, 6, 11, 13], [6, 403, 404, 405, 407, 408], [], []⟩ krf
def g_l_Split (n : Nat) (a0s : GSs) (a1minute : Int) : Option (GSs × GSs × Int) :=
 ((g_bill_Valid n a0s).bind fun r2 =>
 cond (!r2)
  (some true)
  (cond (leI a1minute a0s.From)
   (some true)
   (some (leI a0s.To a1minute)))).bind fun j1 =>
 cond j1
  (some ((⟨0, 0, 0, []⟩ : GSs), (⟨0, 0, 0, []⟩ : GSs), 1))
  ((g_l_part n a0s a0s.From a1minute).bind fun r5 =>
  (g_l_part n a0s a1minute a0s.To).bind fun r6 =>
  some (r5, r6, 0))
theorem g_l_Split_ok (n : Nat) (a0s : GSs) (a1minute : Int) : ∀ r, g_l_Split n a0s a1minute = some r → PCall Tryz.prog 6 [ag (GSs.cs a0s), I a1minute] (.ret (.tup [ag (GSs.cs r.1), ag (GSs.cs r.2.1), I r.2.2])) := by
 refine pcall_sim (X := fun r : GSs × GSs × Int => AEnd.ret (.tup [ag (GSs.cs r.1), ag (GSs.cs r.2.1), I r.2.2])) Tryz.func6 rfl Tryz.ntmps6 rfl ?_
 unfold g_l_Split
 refine sR tfm ⟨[1, 2, 4, 5], [2, 4, 5], [], []⟩ ⟨[(1, I a1minute), (2, .ptr 2 0), (4, .ptr 4 0), (5, .ptr 5 0)], [(2, .box 31 (bxc (GSs.cs a0s))), (4, .box 31 [I 0, I 0, I 0, .p (.val (.slice none 0 0))]), (5, .box 31 [I 0, I 0, I 0, .p (.val (.slice none 0 0))])]⟩ krf ?_
 refine sS ?_
 refine sim_bind (fun j1 => ⟨[(1, I a1minute), (2, .ptr 2 0), (4, .ptr 4 0), (5, .ptr 5 0), (21, B j1)], [(2, .box 31 (bxc (GSs.cs a0s))), (4, .box 31 [I 0, I 0, I 0, .p (.val (.slice none 0 0))]), (5, .box 31 [I 0, I 0, I 0, .p (.val (.slice none 0 0))])]⟩ : Bool → St) ?_ ?_
 ·refine sG ?_
  refine xR 1 krf ?_
  refine xC [] krf (g_bill_Valid_ok n a0s) krf krf (fun _ => by kernel_rfl) (fun r2 => ?_)
  refine xR 2 krf ?_
  refine xS (!r2) (fun h3 => ?_) (fun h3 => ?_)
  ·refine xN (want_ft krf h3) krf ?_
   refine xR 10 krf ?_
   refine xE ?_
   exact nq_n true ⟨[1, 2, 4, 5, 21], [2, 4, 5], [], []⟩ krf
  ·refine xO (want_ff krf h3) krf ?_
   refine xR 5 krf ?_
   refine xS (leI a1minute a0s.From) (fun h4 => ?_) (fun h4 => ?_)
   ·refine xN (want_ft krf h4) krf ?_
    refine xR 4 krf ?_
    refine xE ?_
    exact nq_n true ⟨[1, 2, 4, 5, 21], [2, 4, 5], [], []⟩ krf
   ·refine xO (want_ff krf h4) krf ?_
    refine xR 4 krf ?_
    refine xE ?_
    exact nq_n (leI a0s.To a1minute) ⟨[1, 2, 4, 5, 21], [2, 4, 5], [], []⟩ krf
 ·rintro j1
  refine sC j1 krf ?_ ?_
  ·refine sR tfm ⟨[4, 5, 6], [4, 5], [], []⟩ ⟨[(4, .ptr 4 0), (5, .ptr 5 0), (6, I 1)], [(4, .box 31 [I 0, I 0, I 0, .p (.val (.slice none 0 0))]), (5, .box 31 [I 0, I 0, I 0, .p (.val (.slice none 0 0))])]⟩ krf ?_
   refine sT ?_
   refine sq_r ?_
   exact qR (.agg [.agg [.id, .id, .id, .sl 2], .agg [.id, .id, .id, .sl 2], .id]) krf krf krf
  ·refine sK ?_
   refine sN ⟨[1, 2, 4, 5], [2, 4, 5], [], []⟩ ⟨[(1, I a1minute), (2, .ptr 2 0), (4, .ptr 4 0), (5, .ptr 5 0)], [(2, .box 31 (bxc (GSs.cs a0s))), (4, .box 31 [I 0, I 0, I 0, .p (.val (.slice none 0 0))]), (5, .box 31 [I 0, I 0, I 0, .p (.val (.slice none 0 0))])]⟩ krf ?_
   refine sS ?_
   refine sim_drw tfm rfl ?_
   refine xR 4 krf ?_
   refine xC [] krf (g_l_part_ok n a0s a0s.From a1minute) krf krf (fun _ => by kernel_rfl) (fun r5 => ?_)
   refine xR 4 krf ?_
   refine xC [] krf (g_l_part_ok n a0s a1minute a0s.To) krf krf (fun _ => by kernel_rfl) (fun r6 => ?_)
   refine xR 3 krf ?_
   refine xs_endD krf ?_
   refine sN ⟨[4, 5, 6], [4, 5], [], []⟩ ⟨[(4, .ptr 4 0), (5, .ptr 5 0), (6, I 0)], [(4, .box 31 (bxc (GSs.cs r5))), (5, .box 31 (bxc (GSs.cs r6)))]⟩ krf ?_
   refine sT ?_
   exact qR (.id) krf krf krf
def g_ref34_Ints_l1 (a0a : List Int) (a1b : List Int) (recl1 : Int → Option Bool) (l1 : Int) : Option Bool :=
 cond (ltI l1 (lenI (List.map ci a0a)))
  ((getI a0a l1).bind fun x2 =>
  (getI a1b l1).bind fun x3 =>
  cond (!eqI x2 x3)
   (some false)
   (recl1 (wi (l1 + 1))))
  (some true)
def g_ref34_Ints (n : Nat) (a0a : List Int) (a1b : List Int) : Option Bool :=
 cond (!eqI (lenI (List.map ci a0a)) (lenI (List.map ci a1b)))
  (some false)
  (loopN (fun recl1 l1 => g_ref34_Ints_l1 a0a a1b recl1 l1) n 0)
theorem g_ref34_Ints_ok (n : Nat) (a0a : List Int) (a1b : List Int) : ∀ r, g_ref34_Ints n a0a a1b = some r → PCall Tryz.prog 13 [.p (.sl 1 (List.map ci a0a)), .p (.sl 1 (List.map ci a1b))] (.ret (B r)) := by
 refine pcall_sim (X := fun r : Bool => AEnd.ret (B r)) Tryz.func13 rfl Tryz.ntmps13 rfl ?_
 unfold g_ref34_Ints
 refine sR tfm ⟨[0, 1], [], [], []⟩ ⟨[(0, .p (.sl 1 (List.map ci a0a))), (1, .p (.sl 1 (List.map ci a1b)))], []⟩ krf ?_
 refine sS ?_
 refine sR tfm ⟨[0, 1, 10], [], [], []⟩ ⟨[(0, .p (.sl 1 (List.map ci a0a))), (1, .p (.sl 1 (List.map ci a1b))), (10, B (!eqI (lenI (List.map ci a0a)) (lenI (List.map ci a1b))))], []⟩ krf ?_
 refine sC (!eqI (lenI (List.map ci a0a)) (lenI (List.map ci a1b))) krf ?_ ?_
 ·refine sR tfm ⟨[4], [], [], []⟩ ⟨[(4, B false)], []⟩ krf ?_
  refine sT ?_
  refine sq_r ?_
  exact qR (.id) krf krf krf
 ·refine sK ?_
  refine sN ⟨[0, 1], [], [], []⟩ ⟨[(0, .p (.sl 1 (List.map ci a0a))), (1, .p (.sl 1 (List.map ci a1b)))], []⟩ krf ?_
  refine sS ?_
  refine sR tfm ⟨[0, 1, 5], [], [], []⟩ ⟨[(0, .p (.sl 1 (List.map ci a0a))), (1, .p (.sl 1 (List.map ci a1b))), (5, I 0)], []⟩ krf ?_
  refine sB ?_
  refine sim_loop (fun l1 => ⟨[(0, .p (.sl 1 (List.map ci a0a))), (1, .p (.sl 1 (List.map ci a1b))), (5, I l1)], []⟩ : Int → St) (weak_shr (K := ⟨[0, 1, 5], [], [], []⟩) krf) ?_
  rintro recl1 l1
  show SimE (g_ref34_Ints_l1 a0a a1b recl1 l1) _ _ _ _ _ _
  unfold g_ref34_Ints_l1
  refine sS ?_
  refine sR tfm ⟨[0, 1, 5, 14], [], [], []⟩ ⟨[(0, .p (.sl 1 (List.map ci a0a))), (1, .p (.sl 1 (List.map ci a1b))), (5, I l1), (14, B (ltI l1 (lenI (List.map ci a0a))))], []⟩ krf ?_
  refine sC (ltI l1 (lenI (List.map ci a0a))) krf ?_ ?_
  ·refine sK ?_
   refine sN ⟨[0, 1, 5], [], [], []⟩ ⟨[(0, .p (.sl 1 (List.map ci a0a))), (1, .p (.sl 1 (List.map ci a1b))), (5, I l1)], []⟩ krf ?_
   refine sS ?_
   refine sB ?_
   refine sS ?_
   refine sim_drw tfm rfl ?_
   refine xR 2 krf ?_
   refine xG krf krf (aop_idx (e := 3) (S := 1) (enc := ci) (l := a0a) (k := .i64) (n := l1) (sv := .p (.sl 1 (List.map ci a0a))) rfl krf krf krf krf krf) (fun x2 => ?_)
   refine xR 3 krf ?_
   refine xG krf krf (aop_idx (e := 3) (S := 1) (enc := ci) (l := a1b) (k := .i64) (n := l1) (sv := .p (.sl 1 (List.map ci a1b))) rfl krf krf krf krf krf) (fun x3 => ?_)
   refine xR 2 krf ?_
   refine xs_endD krf ?_
   refine sN ⟨[0, 1, 5, 25], [], [], []⟩ ⟨[(0, .p (.sl 1 (List.map ci a0a))), (1, .p (.sl 1 (List.map ci a1b))), (5, I l1), (25, B (!eqI x2 x3))], []⟩ krf ?_
   refine sC (!eqI x2 x3) krf ?_ ?_
   ·refine sR tfm ⟨[4], [], [], []⟩ ⟨[(4, B false)], []⟩ krf ?_
    refine sT ?_
    refine bq_r ?_
    refine sq_r ?_
    refine kq_r ?_
    refine bq_r ?_
    refine sq_r ?_
    exact qR (.id) krf krf krf
   ·refine sK ?_
    refine bq_n ?_
    refine sN ⟨[0, 1, 5], [], [], []⟩ ⟨[(0, .p (.sl 1 (List.map ci a0a))), (1, .p (.sl 1 (List.map ci a1b))), (5, I l1)], []⟩ krf ?_
    refine sL tfm krf ?_
    exact kq_n (wi (l1 + 1)) ⟨[0, 1, 5], [], [], []⟩ krf
  ·refine sim_exit ?_
   refine sq_x ?_
   refine kq_x ?_
   refine bq_hit ?_
   refine sN ⟨[], [], [], []⟩ ⟨[], []⟩ krf ?_
   refine sR tfm ⟨[4], [], [], []⟩ ⟨[(4, B true)], []⟩ krf ?_
   refine sT ?_
   exact qR (.id) krf krf krf
def g_ref34_Same_l5 (a0a : GSs) (a1b : GSs) (recl5 : Int → Option Bool) (l5 : Int) : Option Bool :=
 cond (ltI l5 (lenI (List.map GSl.cs a0a.Slices)))
  ((getI a0a.Slices l5).bind fun x6 =>
  (getI a1b.Slices l5).bind fun x7 =>
  cond (!opq ((eqI x6.Minute x7.Minute) && ((eqI x6.Energy x7.Energy) && true)))
   (some false)
   (recl5 (wi (l5 + 1))))
  (some true)
def g_ref34_Same (n : Nat) (a0a : GSs) (a1b : GSs) : Option Bool :=
 (cond (!eqI a0a.From a1b.From)
  (some true)
  (cond (!eqI a0a.To a1b.To)
   (some true)
   (cond (!eqI a0a.End a1b.End)
    (some true)
    (some (!eqI (lenI (List.map GSl.cs a0a.Slices)) (lenI (List.map GSl.cs a1b.Slices))))))).bind fun j1 =>
 cond j1
  (some false)
  (loopN (fun recl5 l5 => g_ref34_Same_l5 a0a a1b recl5 l5) n 0)
theorem g_ref34_Same_ok (n : Nat) (a0a : GSs) (a1b : GSs) : ∀ r, g_ref34_Same n a0a a1b = some r → PCall Tryz.prog 12 [ag (GSs.cs a0a), ag (GSs.cs a1b)] (.ret (B r)) := by
 refine pcall_sim (X := fun r : Bool => AEnd.ret (B r)) Tryz.func12 rfl Tryz.ntmps12 rfl ?_
 unfold g_ref34_Same
 refine sR tfm ⟨[2, 3], [2, 3], [], []⟩ ⟨[(2, .ptr 2 0), (3, .ptr 3 0)], [(2, .box 31 (bxc (GSs.cs a0a))), (3, .box 31 (bxc (GSs.cs a1b)))]⟩ krf ?_
 refine sS ?_
 refine sim_bind (fun j1 => ⟨[(2, .ptr 2 0), (3, .ptr 3 0), (33, B j1)], [(2, .box 31 (bxc (GSs.cs a0a))), (3, .box 31 (bxc (GSs.cs a1b)))]⟩ : Bool → St) ?_ ?_
 ·refine sG ?_
  refine xR 6 krf ?_
  refine xS (!eqI a0a.From a1b.From) (fun h2 => ?_) (fun h2 => ?_)
  ·refine xN (want_ft krf h2) krf ?_
   refine xR 21 krf ?_
   refine xE ?_
   exact nq_n true ⟨[2, 3, 33], [2, 3], [], []⟩ krf
  ·refine xO (want_ff krf h2) krf ?_
   refine xR 6 krf ?_
   refine xS (!eqI a0a.To a1b.To) (fun h3 => ?_) (fun h3 => ?_)
   ·refine xN (want_ft krf h3) krf ?_
    refine xR 14 krf ?_
    refine xE ?_
    exact nq_n true ⟨[2, 3, 33], [2, 3], [], []⟩ krf
   ·refine xO (want_ff krf h3) krf ?_
    refine xR 6 krf ?_
    refine xS (!eqI a0a.End a1b.End) (fun h4 => ?_) (fun h4 => ?_)
    ·refine xN (want_ft krf h4) krf ?_
     refine xR 7 krf ?_
     refine xE ?_
     exact nq_n true ⟨[2, 3, 33], [2, 3], [], []⟩ krf
    ·refine xO (want_ff krf h4) krf ?_
     refine xR 7 krf ?_
     refine xE ?_
     exact nq_n (!eqI (lenI (List.map GSl.cs a0a.Slices)) (lenI (List.map GSl.cs a1b.Slices))) ⟨[2, 3, 33], [2, 3], [], []⟩ krf
 ·rintro j1
  refine sC j1 krf ?_ ?_
  ·refine sR tfm ⟨[4], [], [], []⟩ ⟨[(4, B false)], []⟩ krf ?_
   refine sT ?_
   refine sq_r ?_
   exact qR (.id) krf krf krf
  ·refine sK ?_
   refine sN ⟨[2, 3], [2, 3], [], []⟩ ⟨[(2, .ptr 2 0), (3, .ptr 3 0)], [(2, .box 31 (bxc (GSs.cs a0a))), (3, .box 31 (bxc (GSs.cs a1b)))]⟩ krf ?_
   refine sS ?_
   refine sR tfm ⟨[2, 3, 5], [2, 3], [], []⟩ ⟨[(2, .ptr 2 0), (3, .ptr 3 0), (5, I 0)], [(2, .box 31 (bxc (GSs.cs a0a))), (3, .box 31 (bxc (GSs.cs a1b)))]⟩ krf ?_
   refine sB ?_
   refine sim_loop (fun l5 => ⟨[(2, .ptr 2 0), (3, .ptr 3 0), (5, I l5)], [(2, .box 31 (bxc (GSs.cs a0a))), (3, .box 31 (bxc (GSs.cs a1b)))]⟩ : Int → St) (weak_shr (K := ⟨[2, 3, 5], [2, 3], [], []⟩) krf) ?_
   rintro recl5 l5
   show SimE (g_ref34_Same_l5 a0a a1b recl5 l5) _ _ _ _ _ _
   unfold g_ref34_Same_l5
   refine sS ?_
   refine sR tfm ⟨[2, 3, 5, 38], [2, 3], [], []⟩ ⟨[(2, .ptr 2 0), (3, .ptr 3 0), (5, I l5), (38, B (ltI l5 (lenI (List.map GSl.cs a0a.Slices))))], [(2, .box 31 (bxc (GSs.cs a0a))), (3, .box 31 (bxc (GSs.cs a1b)))]⟩ krf ?_
   refine sC (ltI l5 (lenI (List.map GSl.cs a0a.Slices))) krf ?_ ?_
   ·refine sK ?_
    refine sN ⟨[2, 3, 5], [2, 3], [], []⟩ ⟨[(2, .ptr 2 0), (3, .ptr 3 0), (5, I l5)], [(2, .box 31 (bxc (GSs.cs a0a))), (3, .box 31 (bxc (GSs.cs a1b)))]⟩ krf ?_
    refine sS ?_
    refine sB ?_
    refine sS ?_
    refine sim_drw tfm rfl ?_
    refine xR 3 krf ?_
    refine xG krf krf (aop_idx (e := 48) (S := 2) (enc := GSl.cs) (l := a0a.Slices) (k := .i64) (n := l5) (sv := .p (.sl 2 (List.map GSl.cs a0a.Slices))) rfl krf krf krf krf krf) (fun x6 => ?_)
    refine xR 4 krf ?_
    refine xG krf krf (aop_idx (e := 48) (S := 2) (enc := GSl.cs) (l := a1b.Slices) (k := .i64) (n := l5) (sv := .p (.sl 2 (List.map GSl.cs a1b.Slices))) rfl krf krf krf krf krf) (fun x7 => ?_)
    refine xR 1 krf ?_
    refine xs_u krf krf (aop_neq (xs := [I x6.Minute, I x6.Energy]) (ys := [I x7.Minute, I x7.Energy]) (vx := [.int .i64 x6.Minute, .int .i64 x6.Energy]) (vy := [.int .i64 x7.Minute, .int .i64 x7.Energy]) (b := (eqI x6.Minute x7.Minute) && ((eqI x6.Energy x7.Energy) && true)) rfl krf krf krf krf krf krf) ?_
    refine xs_endD krf ?_
    refine sN ⟨[2, 3, 5, 51], [2, 3], [], []⟩ ⟨[(2, .ptr 2 0), (3, .ptr 3 0), (5, I l5), (51, B (!opq ((eqI x6.Minute x7.Minute) && ((eqI x6.Energy x7.Energy) && true))))], [(2, .box 31 (bxc (GSs.cs a0a))), (3, .box 31 (bxc (GSs.cs a1b)))]⟩ krf ?_
    refine sC (!opq ((eqI x6.Minute x7.Minute) && ((eqI x6.Energy x7.Energy) && true))) krf ?_ ?_
    ·refine sR tfm ⟨[4], [], [], []⟩ ⟨[(4, B false)], []⟩ krf ?_
     refine sT ?_
     refine bq_r ?_
     refine sq_r ?_
     refine kq_r ?_
     refine bq_r ?_
     refine sq_r ?_
     exact qR (.id) krf krf krf
    ·refine sK ?_
     refine bq_n ?_
     refine sN ⟨[2, 3, 5], [2, 3], [], []⟩ ⟨[(2, .ptr 2 0), (3, .ptr 3 0), (5, I l5)], [(2, .box 31 (bxc (GSs.cs a0a))), (3, .box 31 (bxc (GSs.cs a1b)))]⟩ krf ?_
     refine sL tfm krf ?_
     exact kq_n (wi (l5 + 1)) ⟨[2, 3, 5], [2, 3], [], []⟩ krf
   ·refine sim_exit ?_
    refine sq_x ?_
    refine kq_x ?_
    refine bq_hit ?_
    refine sN ⟨[], [], [], []⟩ ⟨[], []⟩ krf ?_
    refine sR tfm ⟨[4], [], [], []⟩ ⟨[(4, B true)], []⟩ krf ?_
    refine sT ?_
    exact qR (.id) krf krf krf
def g_law34_head (n : Nat) : Option Bool :=
 (g_law34_always n 3 100 1 10).bind fun r1 =>
 (g_law34_always n 3 100 1 0).bind fun r2 =>
 (g_l_Price n (⟨[116], [r1]⟩ : GTf) (⟨0, [], []⟩ : GCl) (⟨0, 25, 20, [(⟨3, 50⟩ : GSl), (⟨12, 70⟩ : GSl)]⟩ : GSs) []).bind fun r3 =>
 (g_l_Price n (⟨[116], [r1]⟩ : GTf) (⟨0, [], []⟩ : GCl) (⟨0, 25, 20, [(⟨3, 50⟩ : GSl), (⟨12, 70⟩ : GSl)]⟩ : GSs) [10]).bind fun r4 =>
 (g_l_Find n (⟨[116], [r1]⟩ : GTf) (⟨0, [], []⟩ : GCl) (⟨0, 25, 20, [(⟨3, 50⟩ : GSl), (⟨12, 70⟩ : GSl)]⟩ : GSs) 1).bind fun r5 =>
 (g_l_Find n (⟨[116], [r2]⟩ : GTf) (⟨0, [], []⟩ : GCl) (⟨0, 25, 20, [(⟨3, 50⟩ : GSl), (⟨12, 70⟩ : GSl)]⟩ : GSs) 2).bind fun r6 =>
 (g_l_Split n (⟨0, 25, 20, [(⟨3, 50⟩ : GSl), (⟨12, 70⟩ : GSl)]⟩ : GSs) 12).bind fun r7 =>
 (g_l_Price n (⟨[116], [r1]⟩ : GTf) (⟨0, [], []⟩ : GCl) (⟨0, 25, 20, [(⟨3, 50⟩ : GSl), (⟨12, 70⟩ : GSl)]⟩ : GSs) [25]).bind fun r8 =>
 (g_l_Find n (⟨[116], [r1]⟩ : GTf) (⟨0, [], []⟩ : GCl) (⟨0, 25, 20, [(⟨3, 50⟩ : GSl), (⟨12, 70⟩ : GSl)]⟩ : GSs) 3).bind fun r9 =>
 (cond (eqI r3.2 0)
  (cond (eqI r4.2 0)
   (cond (eqI r5.2.2 0)
    (cond (eqI r6.2.2 0)
     (cond (eqI r7.2.2 0)
      (cond (eqI r8.2 1)
       (cond (eqI r9.2.2 1)
        (cond (eqI r3.1 1500)
         (cond (eqI r4.1 500)
          (cond r5.2.1
           ((g_ref34_Ints n r5.1 [1]).bind fun r21 =>
           cond r21
            (cond (!r6.2.1)
             (cond (eqI (lenI (List.map ci r6.1)) 0)
              (cond (sliceB 0 1 (List.length [(⟨3, 50⟩ : GSl), (⟨12, 70⟩ : GSl)])) (
               (g_ref34_Same n r7.1 (⟨0, 12, 12, List.drop (Int.toNat 0) (List.take (Int.toNat 1) [(⟨3, 50⟩ : GSl), (⟨12, 70⟩ : GSl)])⟩ : GSs)).bind fun r25 =>
               cond r25
                (cond (sliceB 1 (lenI (List.map GSl.cs [(⟨3, 50⟩ : GSl), (⟨12, 70⟩ : GSl)])) (List.length [(⟨3, 50⟩ : GSl), (⟨12, 70⟩ : GSl)])) (
                 (g_ref34_Same n r7.2.1 (⟨12, 25, 20, List.drop (Int.toNat 1) (List.take (Int.toNat (lenI (List.map GSl.cs [(⟨3, 50⟩ : GSl), (⟨12, 70⟩ : GSl)]))) [(⟨3, 50⟩ : GSl), (⟨12, 70⟩ : GSl)])⟩ : GSs)).bind fun r27 =>
                 some r27) none)
                (some false)) none)
              (some false))
             (some false))
            (some false))
           (some false))
          (some false))
         (some false))
        (some false))
       (some false))
      (some false))
     (some false))
    (some false))
   (some false))
  (some false)).bind fun j10 =>
 some j10
theorem g_law34_head_ok (n : Nat) : ∀ r, g_law34_head n = some r → PCall Tryz.prog 4 [] (.ret (B r)) := by
 refine pcall_sim (X := fun r : Bool => AEnd.ret (B r)) Tryz.func4 rfl Tryz.ntmps4 rfl ?_
 unfold g_law34_head
 refine sR tfm ⟨[], [], [], []⟩ ⟨[], []⟩ krf ?_
 refine sS ?_
 refine sG ?_
 refine xC [] krf (g_law34_always_ok n 3 100 1 10) krf krf (fun _ => by kernel_rfl) (fun r1 => ?_)
 refine xR 4 krf ?_
 refine xE ?_
 refine sN ⟨[1], [1, 24], [], []⟩ ⟨[(1, .ptr 1 0)], [(1, .box 24 [S [116], .tsl 7 (List.map GAr.cs [r1]) 24]), (24, .arr 45 7 (List.map GAr.cs [r1]).length)]⟩ krf ?_
 refine sS ?_
 refine sG ?_
 refine xC [] krf (g_law34_always_ok n 3 100 1 0) krf krf (fun _ => by kernel_rfl) (fun r2 => ?_)
 refine xR 4 krf ?_
 refine xE ?_
 refine sN ⟨[1, 2], [1, 2, 24, 27], [], []⟩ ⟨[(1, .ptr 1 0), (2, .ptr 2 0)], [(1, .box 24 [S [116], .tsl 7 (List.map GAr.cs [r1]) 24]), (2, .box 24 [S [116], .tsl 7 (List.map GAr.cs [r2]) 27]), (24, .arr 45 7 (List.map GAr.cs [r1]).length), (27, .arr 45 7 (List.map GAr.cs [r2]).length)]⟩ krf ?_
 refine sR tfm ⟨[1, 2, 3], [1, 2, 3, 24, 27, 31], [], []⟩ ⟨[(1, .ptr 1 0), (2, .ptr 2 0), (3, .ptr 3 0)], [(1, .box 24 [S [116], .tsl 7 (List.map GAr.cs [r1]) 24]), (2, .box 24 [S [116], .tsl 7 (List.map GAr.cs [r2]) 27]), (3, .box 31 [I 0, I 25, I 20, .tsl 2 (List.map GSl.cs [(⟨3, 50⟩ : GSl), (⟨12, 70⟩ : GSl)]) 31]), (24, .arr 45 7 (List.map GAr.cs [r1]).length), (27, .arr 45 7 (List.map GAr.cs [r2]).length), (31, .arr 48 2 (List.map GSl.cs [(⟨3, 50⟩ : GSl), (⟨12, 70⟩ : GSl)]).length)]⟩ krf ?_
 refine sR tfm ⟨[1, 2, 3, 4], [1, 2, 3, 4, 24, 27, 31], [], []⟩ ⟨[(1, .ptr 1 0), (2, .ptr 2 0), (3, .ptr 3 0), (4, .ptr 4 0)], [(1, .box 24 [S [116], .tsl 7 (List.map GAr.cs [r1]) 24]), (2, .box 24 [S [116], .tsl 7 (List.map GAr.cs [r2]) 27]), (3, .box 31 [I 0, I 25, I 20, .tsl 2 (List.map GSl.cs [(⟨3, 50⟩ : GSl), (⟨12, 70⟩ : GSl)]) 31]), (4, .box 28 [I 0, .p (.val (.slice none 0 0)), .p (.val (.slice none 0 0))]), (24, .arr 45 7 (List.map GAr.cs [r1]).length), (27, .arr 45 7 (List.map GAr.cs [r2]).length), (31, .arr 48 2 (List.map GSl.cs [(⟨3, 50⟩ : GSl), (⟨12, 70⟩ : GSl)]).length)]⟩ krf ?_
 refine sS ?_
 refine sG ?_
 refine xR 3 krf ?_
 refine xC [.agg [.id, .sl 7], .agg [.id, .sl 2, .sl 1], .agg [.id, .id, .id, .sl 2], .sl 1] krf (g_l_Price_ok n (⟨[116], [r1]⟩ : GTf) (⟨0, [], []⟩ : GCl) (⟨0, 25, 20, [(⟨3, 50⟩ : GSl), (⟨12, 70⟩ : GSl)]⟩ : GSs) []) krf krf (fun _ => by kernel_rfl) (fun r3 => ?_)
 refine xR 5 krf ?_
 refine xE ?_
 refine sN ⟨[1, 2, 3, 4, 5, 6], [1, 2, 3, 4, 24, 27, 31], [], []⟩ ⟨[(1, .ptr 1 0), (2, .ptr 2 0), (3, .ptr 3 0), (4, .ptr 4 0), (5, I r3.1), (6, I r3.2)], [(1, .box 24 [S [116], .tsl 7 (List.map GAr.cs [r1]) 24]), (2, .box 24 [S [116], .tsl 7 (List.map GAr.cs [r2]) 27]), (3, .box 31 [I 0, I 25, I 20, .tsl 2 (List.map GSl.cs [(⟨3, 50⟩ : GSl), (⟨12, 70⟩ : GSl)]) 31]), (4, .box 28 [I 0, .p (.val (.slice none 0 0)), .p (.val (.slice none 0 0))]), (24, .arr 45 7 (List.map GAr.cs [r1]).length), (27, .arr 45 7 (List.map GAr.cs [r2]).length), (31, .arr 48 2 (List.map GSl.cs [(⟨3, 50⟩ : GSl), (⟨12, 70⟩ : GSl)]).length)]⟩ krf ?_
 refine sS ?_
 refine sG ?_
 refine xR 4 krf ?_
 refine xC [.agg [.id, .sl 7], .agg [.id, .sl 2, .sl 1], .agg [.id, .id, .id, .sl 2], .sl 1] krf (g_l_Price_ok n (⟨[116], [r1]⟩ : GTf) (⟨0, [], []⟩ : GCl) (⟨0, 25, 20, [(⟨3, 50⟩ : GSl), (⟨12, 70⟩ : GSl)]⟩ : GSs) [10]) krf krf (fun _ => by kernel_rfl) (fun r4 => ?_)
 refine xR 5 krf ?_
 refine xE ?_
 refine sN ⟨[1, 2, 3, 4, 5, 6, 7, 8], [1, 2, 3, 4, 24, 27, 31], [], []⟩ ⟨[(1, .ptr 1 0), (2, .ptr 2 0), (3, .ptr 3 0), (4, .ptr 4 0), (5, I r3.1), (6, I r3.2), (7, I r4.1), (8, I r4.2)], [(1, .box 24 [S [116], .tsl 7 (List.map GAr.cs [r1]) 24]), (2, .box 24 [S [116], .tsl 7 (List.map GAr.cs [r2]) 27]), (3, .box 31 [I 0, I 25, I 20, .tsl 2 (List.map GSl.cs [(⟨3, 50⟩ : GSl), (⟨12, 70⟩ : GSl)]) 31]), (4, .box 28 [I 0, .p (.val (.slice none 0 0)), .p (.val (.slice none 0 0))]), (24, .arr 45 7 (List.map GAr.cs [r1]).length), (27, .arr 45 7 (List.map GAr.cs [r2]).length), (31, .arr 48 2 (List.map GSl.cs [(⟨3, 50⟩ : GSl), (⟨12, 70⟩ : GSl)]).length)]⟩ krf ?_
 refine sS ?_
 refine sG ?_
 refine xR 3 krf ?_
 refine xC [.agg [.id, .sl 7], .agg [.id, .sl 2, .sl 1], .agg [.id, .id, .id, .sl 2], .id] krf (g_l_Find_ok n (⟨[116], [r1]⟩ : GTf) (⟨0, [], []⟩ : GCl) (⟨0, 25, 20, [(⟨3, 50⟩ : GSl), (⟨12, 70⟩ : GSl)]⟩ : GSs) 1) krf krf (fun _ => by kernel_rfl) (fun r5 => ?_)
 refine xR 7 krf ?_
 refine xE ?_
 refine sN ⟨[1, 2, 3, 4, 5, 6, 7, 8, 9, 10, 11], [1, 2, 3, 4, 24, 27, 31], [], []⟩ ⟨[(1, .ptr 1 0), (2, .ptr 2 0), (3, .ptr 3 0), (4, .ptr 4 0), (5, I r3.1), (6, I r3.2), (7, I r4.1), (8, I r4.2), (9, .p (.sl 1 (List.map ci r5.1))), (10, B r5.2.1), (11, I r5.2.2)], [(1, .box 24 [S [116], .tsl 7 (List.map GAr.cs [r1]) 24]), (2, .box 24 [S [116], .tsl 7 (List.map GAr.cs [r2]) 27]), (3, .box 31 [I 0, I 25, I 20, .tsl 2 (List.map GSl.cs [(⟨3, 50⟩ : GSl), (⟨12, 70⟩ : GSl)]) 31]), (4, .box 28 [I 0, .p (.val (.slice none 0 0)), .p (.val (.slice none 0 0))]), (24, .arr 45 7 (List.map GAr.cs [r1]).length), (27, .arr 45 7 (List.map GAr.cs [r2]).length), (31, .arr 48 2 (List.map GSl.cs [(⟨3, 50⟩ : GSl), (⟨12, 70⟩ : GSl)]).length)]⟩ krf ?_
 refine sS ?_
 refine sG ?_
 refine xR 3 krf ?_
 refine xC [.agg [.id, .sl 7], .agg [.id, .sl 2, .sl 1], .agg [.id, .id, .id, .sl 2], .id] krf (g_l_Find_ok n (⟨[116], [r2]⟩ : GTf) (⟨0, [], []⟩ : GCl) (⟨0, 25, 20, [(⟨3, 50⟩ : GSl), (⟨12, 70⟩ : GSl)]⟩ : GSs) 2) krf krf (fun _ => by kernel_rfl) (fun r6 => ?_)
 refine xR 7 krf ?_
 refine xE ?_
 refine sN ⟨[1, 3, 4, 5, 6, 7, 8, 9, 10, 11, 12, 13, 14], [1, 3, 4, 24, 31], [], []⟩ ⟨[(1, .ptr 1 0), (3, .ptr 3 0), (4, .ptr 4 0), (5, I r3.1), (6, I r3.2), (7, I r4.1), (8, I r4.2), (9, .p (.sl 1 (List.map ci r5.1))), (10, B r5.2.1), (11, I r5.2.2), (12, .p (.sl 1 (List.map ci r6.1))), (13, B r6.2.1), (14, I r6.2.2)], [(1, .box 24 [S [116], .tsl 7 (List.map GAr.cs [r1]) 24]), (3, .box 31 [I 0, I 25, I 20, .tsl 2 (List.map GSl.cs [(⟨3, 50⟩ : GSl), (⟨12, 70⟩ : GSl)]) 31]), (4, .box 28 [I 0, .p (.val (.slice none 0 0)), .p (.val (.slice none 0 0))]), (24, .arr 45 7 (List.map GAr.cs [r1]).length), (31, .arr 48 2 (List.map GSl.cs [(⟨3, 50⟩ : GSl), (⟨12, 70⟩ : GSl)]).length)]⟩ krf ?_
 refine sS ?_
 refine sG ?_
 refine xR 1 krf ?_
 refine xC [.agg [.id, .id, .id, .sl 2], .id] krf (g_l_Split_ok n (⟨0, 25, 20, [(⟨3, 50⟩ : GSl), (⟨12, 70⟩ : GSl)]⟩ : GSs) 12) krf krf (fun _ => by kernel_rfl) (fun r7 => ?_)
 refine xR 9 krf ?_
 refine xE ?_
 refine sN ⟨[1, 3, 4, 5, 6, 7, 8, 9, 10, 11, 12, 13, 14, 15, 16, 17], [1, 3, 4, 15, 16, 24, 31], [], []⟩ ⟨[(1, .ptr 1 0), (3, .ptr 3 0), (4, .ptr 4 0), (5, I r3.1), (6, I r3.2), (7, I r4.1), (8, I r4.2), (9, .p (.sl 1 (List.map ci r5.1))), (10, B r5.2.1), (11, I r5.2.2), (12, .p (.sl 1 (List.map ci r6.1))), (13, B r6.2.1), (14, I r6.2.2), (15, .ptr 15 0), (16, .ptr 16 0), (17, I r7.2.2)], [(1, .box 24 [S [116], .tsl 7 (List.map GAr.cs [r1]) 24]), (3, .box 31 [I 0, I 25, I 20, .tsl 2 (List.map GSl.cs [(⟨3, 50⟩ : GSl), (⟨12, 70⟩ : GSl)]) 31]), (4, .box 28 [I 0, .p (.val (.slice none 0 0)), .p (.val (.slice none 0 0))]), (15, .box 31 (bxc (GSs.cs r7.1))), (16, .box 31 (bxc (GSs.cs r7.2.1))), (24, .arr 45 7 (List.map GAr.cs [r1]).length), (31, .arr 48 2 (List.map GSl.cs [(⟨3, 50⟩ : GSl), (⟨12, 70⟩ : GSl)]).length)]⟩ krf ?_
 refine sS ?_
 refine sG ?_
 refine xR 4 krf ?_
 refine xC [.agg [.id, .sl 7], .agg [.id, .sl 2, .sl 1], .agg [.id, .id, .id, .sl 2], .sl 1] krf (g_l_Price_ok n (⟨[116], [r1]⟩ : GTf) (⟨0, [], []⟩ : GCl) (⟨0, 25, 20, [(⟨3, 50⟩ : GSl), (⟨12, 70⟩ : GSl)]⟩ : GSs) [25]) krf krf (fun _ => by kernel_rfl) (fun r8 => ?_)
 refine xR 5 krf ?_
 refine xE ?_
 refine sN ⟨[1, 3, 4, 5, 6, 7, 8, 9, 10, 11, 12, 13, 14, 15, 16, 17, 19], [1, 3, 4, 15, 16, 24, 31], [], []⟩ ⟨[(1, .ptr 1 0), (3, .ptr 3 0), (4, .ptr 4 0), (5, I r3.1), (6, I r3.2), (7, I r4.1), (8, I r4.2), (9, .p (.sl 1 (List.map ci r5.1))), (10, B r5.2.1), (11, I r5.2.2), (12, .p (.sl 1 (List.map ci r6.1))), (13, B r6.2.1), (14, I r6.2.2), (15, .ptr 15 0), (16, .ptr 16 0), (17, I r7.2.2), (19, I r8.2)], [(1, .box 24 [S [116], .tsl 7 (List.map GAr.cs [r1]) 24]), (3, .box 31 [I 0, I 25, I 20, .tsl 2 (List.map GSl.cs [(⟨3, 50⟩ : GSl), (⟨12, 70⟩ : GSl)]) 31]), (4, .box 28 [I 0, .p (.val (.slice none 0 0)), .p (.val (.slice none 0 0))]), (15, .box 31 (bxc (GSs.cs r7.1))), (16, .box 31 (bxc (GSs.cs r7.2.1))), (24, .arr 45 7 (List.map GAr.cs [r1]).length), (31, .arr 48 2 (List.map GSl.cs [(⟨3, 50⟩ : GSl), (⟨12, 70⟩ : GSl)]).length)]⟩ krf ?_
 refine sS ?_
 refine sG ?_
 refine xR 3 krf ?_
 refine xC [.agg [.id, .sl 7], .agg [.id, .sl 2, .sl 1], .agg [.id, .id, .id, .sl 2], .id] krf (g_l_Find_ok n (⟨[116], [r1]⟩ : GTf) (⟨0, [], []⟩ : GCl) (⟨0, 25, 20, [(⟨3, 50⟩ : GSl), (⟨12, 70⟩ : GSl)]⟩ : GSs) 3) krf krf (fun _ => by kernel_rfl) (fun r9 => ?_)
 refine xR 7 krf ?_
 refine xE ?_
 refine sN ⟨[3, 5, 6, 7, 8, 9, 10, 11, 12, 13, 14, 15, 16, 17, 19, 22], [3, 15, 16, 31], [], []⟩ ⟨[(3, .ptr 3 0), (5, I r3.1), (6, I r3.2), (7, I r4.1), (8, I r4.2), (9, .p (.sl 1 (List.map ci r5.1))), (10, B r5.2.1), (11, I r5.2.2), (12, .p (.sl 1 (List.map ci r6.1))), (13, B r6.2.1), (14, I r6.2.2), (15, .ptr 15 0), (16, .ptr 16 0), (17, I r7.2.2), (19, I r8.2), (22, I r9.2.2)], [(3, .box 31 [I 0, I 25, I 20, .tsl 2 (List.map GSl.cs [(⟨3, 50⟩ : GSl), (⟨12, 70⟩ : GSl)]) 31]), (15, .box 31 (bxc (GSs.cs r7.1))), (16, .box 31 (bxc (GSs.cs r7.2.1))), (31, .arr 48 2 (List.map GSl.cs [(⟨3, 50⟩ : GSl), (⟨12, 70⟩ : GSl)]).length)]⟩ krf ?_
 refine sim_bind (fun j10 => ⟨[(0, B j10)], []⟩ : Bool → St) ?_ ?_
 ·refine sim_drw tfm rfl ?_
  refine xR 3 krf ?_
  refine xS (eqI r3.2 0) (fun h11 => ?_) (fun h11 => ?_)
  ·refine xO (want_tt krf h11) krf ?_
   refine xR 3 krf ?_
   refine xS (eqI r4.2 0) (fun h12 => ?_) (fun h12 => ?_)
   ·refine xO (want_tt krf h12) krf ?_
    refine xR 3 krf ?_
    refine xS (eqI r5.2.2 0) (fun h13 => ?_) (fun h13 => ?_)
    ·refine xO (want_tt krf h13) krf ?_
     refine xR 3 krf ?_
     refine xS (eqI r6.2.2 0) (fun h14 => ?_) (fun h14 => ?_)
     ·refine xO (want_tt krf h14) krf ?_
      refine xR 3 krf ?_
      refine xS (eqI r7.2.2 0) (fun h15 => ?_) (fun h15 => ?_)
      ·refine xO (want_tt krf h15) krf ?_
       refine xR 3 krf ?_
       refine xS (eqI r8.2 1) (fun h16 => ?_) (fun h16 => ?_)
       ·refine xO (want_tt krf h16) krf ?_
        refine xR 3 krf ?_
        refine xS (eqI r9.2.2 1) (fun h17 => ?_) (fun h17 => ?_)
        ·refine xO (want_tt krf h17) krf ?_
         refine xR 3 krf ?_
         refine xS (eqI r3.1 1500) (fun h18 => ?_) (fun h18 => ?_)
         ·refine xO (want_tt krf h18) krf ?_
          refine xR 3 krf ?_
          refine xS (eqI r4.1 500) (fun h19 => ?_) (fun h19 => ?_)
          ·refine xO (want_tt krf h19) krf ?_
           refine xR 2 krf ?_
           refine xS r5.2.1 (fun h20 => ?_) (fun h20 => ?_)
           ·refine xO (want_tt krf h20) krf ?_
            refine xR 1 krf ?_
            refine xC [.id, .sl 1] krf (g_ref34_Ints_ok n r5.1 [1]) krf krf (fun _ => by kernel_rfl) (fun r21 => ?_)
            refine xR 2 krf ?_
            refine xS r21 (fun h22 => ?_) (fun h22 => ?_)
            ·refine xO (want_tt krf h22) krf ?_
             refine xR 3 krf ?_
             refine xS (!r6.2.1) (fun h23 => ?_) (fun h23 => ?_)
             ·refine xO (want_tt krf h23) krf ?_
              refine xR 4 krf ?_
              refine xS (eqI (lenI (List.map ci r6.1)) 0) (fun h24 => ?_) (fun h24 => ?_)
              ·refine xO (want_tt krf h24) krf ?_
               refine xR 2 krf ?_
               refine xF krf krf (aop_slice (e := 48) (S := 2) (enc := GSl.cs) (l := [(⟨3, 50⟩ : GSl), (⟨12, 70⟩ : GSl)]) (sv := .tsl 2 (List.map GSl.cs [(⟨3, 50⟩ : GSl), (⟨12, 70⟩ : GSl)]) 31) (a := 0) (b := 1) rfl krf krf krf krf krf krf) ?_
               refine xR 1 krf ?_
               refine xC [] krf (g_ref34_Same_ok n r7.1 (⟨0, 12, 12, List.drop (Int.toNat 0) (List.take (Int.toNat 1) [(⟨3, 50⟩ : GSl), (⟨12, 70⟩ : GSl)])⟩ : GSs)) krf krf (fun _ => by kernel_rfl) (fun r25 => ?_)
               refine xR 2 krf ?_
               refine xS r25 (fun h26 => ?_) (fun h26 => ?_)
               ·refine xO (want_tt krf h26) krf ?_
                refine xR 2 krf ?_
                refine xF krf krf (aop_slice (e := 48) (S := 2) (enc := GSl.cs) (l := [(⟨3, 50⟩ : GSl), (⟨12, 70⟩ : GSl)]) (sv := .tsl 2 (List.map GSl.cs [(⟨3, 50⟩ : GSl), (⟨12, 70⟩ : GSl)]) 31) (a := 1) (b := lenI (List.map GSl.cs [(⟨3, 50⟩ : GSl), (⟨12, 70⟩ : GSl)])) rfl krf krf krf krf krf krf) ?_
                refine xR 1 krf ?_
                refine xC [] krf (g_ref34_Same_ok n r7.2.1 (⟨12, 25, 20, List.drop (Int.toNat 1) (List.take (Int.toNat (lenI (List.map GSl.cs [(⟨3, 50⟩ : GSl), (⟨12, 70⟩ : GSl)]))) [(⟨3, 50⟩ : GSl), (⟨12, 70⟩ : GSl)])⟩ : GSs)) krf krf (fun _ => by kernel_rfl) (fun r27 => ?_)
                refine xR 2 krf ?_
                refine xs_endD krf ?_
                exact nq_n r27 ⟨[0], [], [], []⟩ krf
               ·refine xN (want_tf krf h26) krf ?_
                refine xR 7 krf ?_
                refine xs_endD krf ?_
                exact nq_n false ⟨[0], [], [], []⟩ krf
              ·refine xN (want_tf krf h24) krf ?_
               refine xR 15 krf ?_
               refine xs_endD krf ?_
               exact nq_n false ⟨[0], [], [], []⟩ krf
             ·refine xN (want_tf krf h23) krf ?_
              refine xR 20 krf ?_
              refine xs_endD krf ?_
              exact nq_n false ⟨[0], [], [], []⟩ krf
            ·refine xN (want_tf krf h22) krf ?_
             refine xR 24 krf ?_
             refine xs_endD krf ?_
             exact nq_n false ⟨[0], [], [], []⟩ krf
           ·refine xN (want_tf krf h20) krf ?_
            refine xR 29 krf ?_
            refine xs_endD krf ?_
            exact nq_n false ⟨[0], [], [], []⟩ krf
          ·refine xN (want_tf krf h19) krf ?_
           refine xR 32 krf ?_
           refine xs_endD krf ?_
           exact nq_n false ⟨[0], [], [], []⟩ krf
         ·refine xN (want_tf krf h18) krf ?_
          refine xR 36 krf ?_
          refine xs_endD krf ?_
          exact nq_n false ⟨[0], [], [], []⟩ krf
        ·refine xN (want_tf krf h17) krf ?_
         refine xR 40 krf ?_
         refine xs_endD krf ?_
         exact nq_n false ⟨[0], [], [], []⟩ krf
       ·refine xN (want_tf krf h16) krf ?_
        refine xR 44 krf ?_
        refine xs_endD krf ?_
        exact nq_n false ⟨[0], [], [], []⟩ krf
      ·refine xN (want_tf krf h15) krf ?_
       refine xR 48 krf ?_
       refine xs_endD krf ?_
       exact nq_n false ⟨[0], [], [], []⟩ krf
     ·refine xN (want_tf krf h14) krf ?_
      refine xR 52 krf ?_
      refine xs_endD krf ?_
      exact nq_n false ⟨[0], [], [], []⟩ krf
    ·refine xN (want_tf krf h13) krf ?_
     refine xR 56 krf ?_
     refine xs_endD krf ?_
     exact nq_n false ⟨[0], [], [], []⟩ krf
   ·refine xN (want_tf krf h12) krf ?_
    refine xR 60 krf ?_
    refine xs_endD krf ?_
    exact nq_n false ⟨[0], [], [], []⟩ krf
  ·refine xN (want_tf krf h11) krf ?_
   refine xR 64 krf ?_
   refine xs_endD krf ?_
   exact nq_n false ⟨[0], [], [], []⟩ krf
 ·rintro j10
  refine sT ?_
  exact qR (.id) krf krf krf
def g_ref26_Few (n : Nat) (a0c : GCl) : Option Bool :=
 cond (leI (lenI (List.map GCh.cs a0c.Changes)) 30)
  (some (leI (lenI (List.map ci a0c.Holidays)) 60))
  (some false)
theorem g_ref26_Few_ok (n : Nat) (a0c : GCl) : ∀ r, g_ref26_Few n a0c = some r → PCall Tryz.prog 15 [ag (GCl.cs a0c)] (.ret (B r)) := by
 refine pcall_sim (X := fun r : Bool => AEnd.ret (B r)) Tryz.func15 rfl Tryz.ntmps15 rfl ?_
 unfold g_ref26_Few
 refine sR tfm ⟨[1], [1], [], []⟩ ⟨[(1, .ptr 1 0)], [(1, .box 28 (bxc (GCl.cs a0c)))]⟩ krf ?_
 refine sS ?_
 refine sG ?_
 refine xR 5 krf ?_
 refine xS (leI (lenI (List.map GCh.cs a0c.Changes)) 30) (fun h1 => ?_) (fun h1 => ?_)
 ·refine xO (want_tt krf h1) krf ?_
  refine xR 5 krf ?_
  refine xE ?_
  refine sN ⟨[2], [], [], []⟩ ⟨[(2, B (leI (lenI (List.map ci a0c.Holidays)) 60))], []⟩ krf ?_
  refine sT ?_
  exact qR (.id) krf krf krf
 ·refine xN (want_tf krf h1) krf ?_
  refine xR 5 krf ?_
  refine xE ?_
  refine sN ⟨[2], [], [], []⟩ ⟨[(2, B false)], []⟩ krf ?_
  refine sT ?_
  exact qR (.id) krf krf krf
def g_ref33_Few (n : Nat) (a0t : GTf) (a1c : GCl) (a2s : GSs) : Option Bool :=
 (g_ref26_Few n a1c).bind fun r1 =>
 cond r1
  (cond (leI (lenI a0t.Name) 50)
   (cond (leI (lenI (List.map GAr.cs a0t.Articles)) 20)
    (some (leI (lenI (List.map GSl.cs a2s.Slices)) 60))
    (some false))
   (some false))
  (some false)
theorem g_ref33_Few_ok (n : Nat) (a0t : GTf) (a1c : GCl) (a2s : GSs) : ∀ r, g_ref33_Few n a0t a1c a2s = some r → PCall Tryz.prog 5 [ag (GTf.cs a0t), ag (GCl.cs a1c), ag (GSs.cs a2s)] (.ret (B r)) := by
 refine pcall_sim (X := fun r : Bool => AEnd.ret (B r)) Tryz.func5 rfl Tryz.ntmps5 rfl ?_
 unfold g_ref33_Few
 refine sR tfm ⟨[3, 4, 5], [3, 4, 5], [], []⟩ ⟨[(3, .ptr 3 0), (4, .ptr 4 0), (5, .ptr 5 0)], [(3, .box 24 (bxc (GTf.cs a0t))), (4, .box 28 (bxc (GCl.cs a1c))), (5, .box 31 (bxc (GSs.cs a2s)))]⟩ krf ?_
 refine sS ?_
 refine sG ?_
 refine xR 1 krf ?_
 refine xC [] krf (g_ref26_Few_ok n a1c) krf krf (fun _ => by kernel_rfl) (fun r1 => ?_)
 refine xR 1 krf ?_
 refine xE ?_
 refine sN ⟨[3, 5, 7], [3, 5], [], []⟩ ⟨[(3, .ptr 3 0), (5, .ptr 5 0), (7, B r1)], [(3, .box 24 (bxc (GTf.cs a0t))), (5, .box 31 (bxc (GSs.cs a2s)))]⟩ krf ?_
 refine sS ?_
 refine sG ?_
 refine xR 2 krf ?_
 refine xS r1 (fun h2 => ?_) (fun h2 => ?_)
 ·refine xO (want_tt krf h2) krf ?_
  refine xR 5 krf ?_
  refine xS (leI (lenI a0t.Name) 50) (fun h3 => ?_) (fun h3 => ?_)
  ·refine xO (want_tt krf h3) krf ?_
   refine xR 5 krf ?_
   refine xS (leI (lenI (List.map GAr.cs a0t.Articles)) 20) (fun h4 => ?_) (fun h4 => ?_)
   ·refine xO (want_tt krf h4) krf ?_
    refine xR 5 krf ?_
    refine xE ?_
    refine sN ⟨[6], [], [], []⟩ ⟨[(6, B (leI (lenI (List.map GSl.cs a2s.Slices)) 60))], []⟩ krf ?_
    refine sT ?_
    exact qR (.id) krf krf krf
   ·refine xN (want_tf krf h4) krf ?_
    refine xR 5 krf ?_
    refine xE ?_
    refine sN ⟨[6], [], [], []⟩ ⟨[(6, B false)], []⟩ krf ?_
    refine sT ?_
    exact qR (.id) krf krf krf
  ·refine xN (want_tf krf h3) krf ?_
   refine xR 11 krf ?_
   refine xE ?_
   refine sN ⟨[6], [], [], []⟩ ⟨[(6, B false)], []⟩ krf ?_
   refine sT ?_
   exact qR (.id) krf krf krf
 ·refine xN (want_tf krf h2) krf ?_
  refine xR 17 krf ?_
  refine xE ?_
  refine sN ⟨[6], [], [], []⟩ ⟨[(6, B false)], []⟩ krf ?_
  refine sT ?_
  exact qR (.id) krf krf krf
def g_ref33_Valid_l8 (a0s : GSs) (recl8 : Int → Option Bool) (l8 : Int) : Option Bool :=
 cond (ltI l8 (lenI (List.map GSl.cs a0s.Slices)))
  ((getI a0s.Slices l8).bind fun x9 =>
  (cond (ltI x9.Minute a0s.From)
   (some true)
   (cond (leI a0s.End x9.Minute)
    (some true)
    (cond (ltI x9.Energy 0)
     (some true)
     (cond (ltI 10000 x9.Energy)
      (some true)
      (cond (ltI 0 l8)
       ((getI a0s.Slices (wi (l8 - 1))).bind fun x16 =>
       some (leI x9.Minute x16.Minute))
       (some false)))))).bind fun j10 =>
  cond j10
   (some false)
   (recl8 (wi (l8 + 1))))
  (some true)
def g_ref33_Valid (n : Nat) (a0s : GSs) : Option Bool :=
 (cond (ltI a0s.From 0)
  (some true)
  (cond (leI a0s.To a0s.From)
   (some true)
   (cond (ltI 52560000 a0s.To)
    (some true)
    (cond (ltI 2880 (wi (a0s.To - a0s.From)))
     (some true)
     (cond (ltI a0s.End a0s.From)
      (some true)
      (cond (ltI a0s.To a0s.End)
       (some true)
       (some (ltI 48 (lenI (List.map GSl.cs a0s.Slices)))))))))).bind fun j1 =>
 cond j1
  (some false)
  (loopN (fun recl8 l8 => g_ref33_Valid_l8 a0s recl8 l8) n 0)
theorem g_ref33_Valid_ok (n : Nat) (a0s : GSs) : ∀ r, g_ref33_Valid n a0s = some r → PCall Tryz.prog 18 [ag (GSs.cs a0s)] (.ret (B r)) := by
 refine pcall_sim (X := fun r : Bool => AEnd.ret (B r)) Tryz.func18 rfl Tryz.ntmps18 rfl ?_
 unfold g_ref33_Valid
 refine sR tfm ⟨[1], [1], [], []⟩ ⟨[(1, .ptr 1 0)], [(1, .box 31 (bxc (GSs.cs a0s)))]⟩ krf ?_
 refine sS ?_
 refine sim_bind (fun j1 => ⟨[(1, .ptr 1 0), (47, B j1)], [(1, .box 31 (bxc (GSs.cs a0s)))]⟩ : Bool → St) ?_ ?_
 ·refine sG ?_
  refine xR 4 krf ?_
  refine xS (ltI a0s.From 0) (fun h2 => ?_) (fun h2 => ?_)
  ·refine xN (want_ft krf h2) krf ?_
   refine xR 38 krf ?_
   refine xE ?_
   exact nq_n true ⟨[1, 47], [1], [], []⟩ krf
  ·refine xO (want_ff krf h2) krf ?_
   refine xR 6 krf ?_
   refine xS (leI a0s.To a0s.From) (fun h3 => ?_) (fun h3 => ?_)
   ·refine xN (want_ft krf h3) krf ?_
    refine xR 31 krf ?_
    refine xE ?_
    exact nq_n true ⟨[1, 47], [1], [], []⟩ krf
   ·refine xO (want_ff krf h3) krf ?_
    refine xR 4 krf ?_
    refine xS (ltI 52560000 a0s.To) (fun h4 => ?_) (fun h4 => ?_)
    ·refine xN (want_ft krf h4) krf ?_
     refine xR 26 krf ?_
     refine xE ?_
     exact nq_n true ⟨[1, 47], [1], [], []⟩ krf
    ·refine xO (want_ff krf h4) krf ?_
     refine xR 7 krf ?_
     refine xS (ltI 2880 (wi (a0s.To - a0s.From))) (fun h5 => ?_) (fun h5 => ?_)
     ·refine xN (want_ft krf h5) krf ?_
      refine xR 18 krf ?_
      refine xE ?_
      exact nq_n true ⟨[1, 47], [1], [], []⟩ krf
     ·refine xO (want_ff krf h5) krf ?_
      refine xR 6 krf ?_
      refine xS (ltI a0s.End a0s.From) (fun h6 => ?_) (fun h6 => ?_)
      ·refine xN (want_ft krf h6) krf ?_
       refine xR 11 krf ?_
       refine xE ?_
       exact nq_n true ⟨[1, 47], [1], [], []⟩ krf
      ·refine xO (want_ff krf h6) krf ?_
       refine xR 6 krf ?_
       refine xS (ltI a0s.To a0s.End) (fun h7 => ?_) (fun h7 => ?_)
       ·refine xN (want_ft krf h7) krf ?_
        refine xR 4 krf ?_
        refine xE ?_
        exact nq_n true ⟨[1, 47], [1], [], []⟩ krf
       ·refine xO (want_ff krf h7) krf ?_
        refine xR 4 krf ?_
        refine xE ?_
        exact nq_n (ltI 48 (lenI (List.map GSl.cs a0s.Slices))) ⟨[1, 47], [1], [], []⟩ krf
 ·rintro j1
  refine sC j1 krf ?_ ?_
  ·refine sR tfm ⟨[2], [], [], []⟩ ⟨[(2, B false)], []⟩ krf ?_
   refine sT ?_
   refine sq_r ?_
   exact qR (.id) krf krf krf
  ·refine sK ?_
   refine sN ⟨[1], [1], [], []⟩ ⟨[(1, .ptr 1 0)], [(1, .box 31 (bxc (GSs.cs a0s)))]⟩ krf ?_
   refine sS ?_
   refine sR tfm ⟨[1, 3], [1], [], []⟩ ⟨[(1, .ptr 1 0), (3, I 0)], [(1, .box 31 (bxc (GSs.cs a0s)))]⟩ krf ?_
   refine sB ?_
   refine sim_loop (fun l8 => ⟨[(1, .ptr 1 0), (3, I l8)], [(1, .box 31 (bxc (GSs.cs a0s)))]⟩ : Int → St) (weak_shr (K := ⟨[1, 3], [1], [], []⟩) krf) ?_
   rintro recl8 l8
   show SimE (g_ref33_Valid_l8 a0s recl8 l8) _ _ _ _ _ _
   unfold g_ref33_Valid_l8
   refine sS ?_
   refine sR tfm ⟨[1, 3, 52], [1], [], []⟩ ⟨[(1, .ptr 1 0), (3, I l8), (52, B (ltI l8 (lenI (List.map GSl.cs a0s.Slices))))], [(1, .box 31 (bxc (GSs.cs a0s)))]⟩ krf ?_
   refine sC (ltI l8 (lenI (List.map GSl.cs a0s.Slices))) krf ?_ ?_
   ·refine sK ?_
    refine sN ⟨[1, 3], [1], [], []⟩ ⟨[(1, .ptr 1 0), (3, I l8)], [(1, .box 31 (bxc (GSs.cs a0s)))]⟩ krf ?_
    refine sS ?_
    refine sB ?_
    refine sS ?_
    refine sG ?_
    refine xR 3 krf ?_
    refine xG krf krf (aop_idx (e := 48) (S := 2) (enc := GSl.cs) (l := a0s.Slices) (k := .i64) (n := l8) (sv := .p (.sl 2 (List.map GSl.cs a0s.Slices))) rfl krf krf krf krf krf) (fun x9 => ?_)
    refine xR 3 krf ?_
    refine xE ?_
    refine sN ⟨[1, 3, 4], [1, 4], [], []⟩ ⟨[(1, .ptr 1 0), (3, I l8), (4, .ptr 4 0)], [(1, .box 31 (bxc (GSs.cs a0s))), (4, .box 48 (bxc (GSl.cs x9)))]⟩ krf ?_
    refine sim_bind (fun j10 => ⟨[(1, .ptr 1 0), (3, I l8), (97, B j10)], [(1, .box 31 (bxc (GSs.cs a0s)))]⟩ : Bool → St) ?_ ?_
    ·refine sim_drw tfm rfl ?_
     refine xR 6 krf ?_
     refine xS (ltI x9.Minute a0s.From) (fun h11 => ?_) (fun h11 => ?_)
     ·refine xN (want_ft krf h11) krf ?_
      refine xR 31 krf ?_
      refine xs_endD krf ?_
      exact nq_n true ⟨[1, 3, 97], [1], [], []⟩ krf
     ·refine xO (want_ff krf h11) krf ?_
      refine xR 6 krf ?_
      refine xS (leI a0s.End x9.Minute) (fun h12 => ?_) (fun h12 => ?_)
      ·refine xN (want_ft krf h12) krf ?_
       refine xR 24 krf ?_
       refine xs_endD krf ?_
       exact nq_n true ⟨[1, 3, 97], [1], [], []⟩ krf
      ·refine xO (want_ff krf h12) krf ?_
       refine xR 4 krf ?_
       refine xS (ltI x9.Energy 0) (fun h13 => ?_) (fun h13 => ?_)
       ·refine xN (want_ft krf h13) krf ?_
        refine xR 19 krf ?_
        refine xs_endD krf ?_
        exact nq_n true ⟨[1, 3, 97], [1], [], []⟩ krf
       ·refine xO (want_ff krf h13) krf ?_
        refine xR 4 krf ?_
        refine xS (ltI 10000 x9.Energy) (fun h14 => ?_) (fun h14 => ?_)
        ·refine xN (want_ft krf h14) krf ?_
         refine xR 14 krf ?_
         refine xs_endD krf ?_
         exact nq_n true ⟨[1, 3, 97], [1], [], []⟩ krf
        ·refine xO (want_ff krf h14) krf ?_
         refine xR 2 krf ?_
         refine xS (ltI 0 l8) (fun h15 => ?_) (fun h15 => ?_)
         ·refine xO (want_tt krf h15) krf ?_
          refine xR 5 krf ?_
          refine xG krf krf (aop_idx (e := 48) (S := 2) (enc := GSl.cs) (l := a0s.Slices) (k := .i64) (n := wi (l8 - 1)) (sv := .p (.sl 2 (List.map GSl.cs a0s.Slices))) rfl krf krf krf krf krf) (fun x16 => ?_)
          refine xR 5 krf ?_
          refine xs_endD krf ?_
          exact nq_n (leI x9.Minute x16.Minute) ⟨[1, 3, 97], [1], [], []⟩ krf
         ·refine xN (want_tf krf h15) krf ?_
          refine xR 11 krf ?_
          refine xs_endD krf ?_
          exact nq_n false ⟨[1, 3, 97], [1], [], []⟩ krf
    ·rintro j10
     refine sC j10 krf ?_ ?_
     ·refine sR tfm ⟨[2], [], [], []⟩ ⟨[(2, B false)], []⟩ krf ?_
      refine sT ?_
      refine bq_r ?_
      refine sq_r ?_
      refine kq_r ?_
      refine bq_r ?_
      refine sq_r ?_
      exact qR (.id) krf krf krf
     ·refine sK ?_
      refine bq_n ?_
      refine sN ⟨[1, 3], [1], [], []⟩ ⟨[(1, .ptr 1 0), (3, I l8)], [(1, .box 31 (bxc (GSs.cs a0s)))]⟩ krf ?_
      refine sL tfm krf ?_
      exact kq_n (wi (l8 + 1)) ⟨[1, 3], [1], [], []⟩ krf
   ·refine sim_exit ?_
    refine sq_x ?_
    refine kq_x ?_
    refine bq_hit ?_
    refine sN ⟨[], [], [], []⟩ ⟨[], []⟩ krf ?_
    refine sR tfm ⟨[2], [], [], []⟩ ⟨[(2, B true)], []⟩ krf ?_
    refine sT ?_
    exact qR (.id) krf krf krf
def g_ref34_Part_l1 (a0s : GSs) (a1from : Int) (a2to : Int) (recl1 : (Int × (OL GSl)) → Option GSs) (l1_1 : Int) (l1_2 : OL GSl) : Option GSs :=
 cond (ltI l1_1 (lenI (List.map GSl.cs a0s.Slices)))
  (((getI a0s.Slices l1_1).bind fun x3 =>
  cond (leI a1from x3.Minute)
   ((getI a0s.Slices l1_1).bind fun x5 =>
   some (ltI x5.Minute a2to))
   (some false)).bind fun j2 =>
  cond j2
   ((getI a0s.Slices l1_1).bind fun x6 =>
   cond (roomB (List.length (l1_2.toL ++ [x6])) 16) (
    recl1 (wi (l1_1 + 1), OL.own (l1_2.toL ++ [x6]))) none)
   (recl1 (wi (l1_1 + 1), l1_2)))
  (some (⟨a1from, a2to, minI a2to (maxI a1from a0s.End), l1_2.toL⟩ : GSs))
def g_ref34_Part (n : Nat) (a0s : GSs) (a1from : Int) (a2to : Int) : Option GSs :=
 loopN (fun recl1 (l1_1, l1_2) => g_ref34_Part_l1 a0s a1from a2to recl1 l1_1 l1_2) n (0, OL.nil)
theorem g_ref34_Part_ok (n : Nat) (a0s : GSs) (a1from : Int) (a2to : Int) : ∀ r, g_ref34_Part n a0s a1from a2to = some r → PCall Tryz.prog 19 [ag (GSs.cs a0s), I a1from, I a2to] (.ret (ag (GSs.cs r))) := by
 refine pcall_sim (X := fun r : GSs => AEnd.ret (ag (GSs.cs r))) Tryz.func19 rfl Tryz.ntmps19 rfl ?_
 unfold g_ref34_Part
 refine sR tfm ⟨[1, 2, 3, 6], [3, 6], [], []⟩ ⟨[(1, I a1from), (2, I a2to), (3, .ptr 3 0), (6, .ptr 6 0)], [(3, .box 31 (bxc (GSs.cs a0s))), (6, .box 31 [I 0, I 0, I 0, .p (.val (.slice none 0 0))])]⟩ krf ?_
 refine sR tfm ⟨[1, 2, 3, 6, 7], [3, 6, 7], [], []⟩ ⟨[(1, I a1from), (2, I a2to), (3, .ptr 3 0), (6, .ptr 6 0), (7, .ptr 7 0)], [(3, .box 31 (bxc (GSs.cs a0s))), (6, .box 31 [I 0, I 0, I 0, .p (.val (.slice none 0 0))]), (7, .box 31 [I a1from, I a2to, I (minI a2to (maxI a1from a0s.End)), .p (.val (.slice none 0 0))])]⟩ krf ?_
 refine sS ?_
 refine sR tfm ⟨[1, 2, 3, 6, 7, 8], [3, 6, 7], [], []⟩ ⟨[(1, I a1from), (2, I a2to), (3, .ptr 3 0), (6, .ptr 6 0), (7, .ptr 7 0), (8, I 0)], [(3, .box 31 (bxc (GSs.cs a0s))), (6, .box 31 [I 0, I 0, I 0, .p (.val (.slice none 0 0))]), (7, .box 31 [I a1from, I a2to, I (minI a2to (maxI a1from a0s.End)), .p (.val (.slice none 0 0))])]⟩ krf ?_
 refine sB ?_
 refine sim_loop (fun (l1_1, l1_2) => ⟨[(1, I a1from), (2, I a2to), (3, .ptr 3 0), (6, .ptr 6 0), (7, .ptr 7 0), (8, I l1_1)], [(3, .box 31 (bxc (GSs.cs a0s))), (6, .box 31 [I 0, I 0, I 0, .p (.val (.slice none 0 0))]), (7, .box 31 [I a1from, I a2to, I (minI a2to (maxI a1from a0s.End)), osl 2 GSl.cs l1_2 51])] ++ oarr 48 2 GSl.cs l1_2 51⟩ : (Int × (OL GSl)) → St) (weak_shr (K := ⟨[1, 2, 3, 6, 7, 8], [3, 6, 7], [], []⟩) krf) ?_
 rintro recl1 ⟨l1_1, l1_2⟩
 show SimE (g_ref34_Part_l1 a0s a1from a2to recl1 l1_1 l1_2) _ _ _ _ _ _
 unfold g_ref34_Part_l1
 rcases l1_2 with _ | ow_l1_2
 ·refine sS ?_
  refine sR tfm ⟨[1, 2, 3, 6, 7, 8, 22], [3, 6, 7], [], []⟩ ⟨[(1, I a1from), (2, I a2to), (3, .ptr 3 0), (6, .ptr 6 0), (7, .ptr 7 0), (8, I l1_1), (22, B (ltI l1_1 (lenI (List.map GSl.cs a0s.Slices))))], [(3, .box 31 (bxc (GSs.cs a0s))), (6, .box 31 [I 0, I 0, I 0, .p (.val (.slice none 0 0))]), (7, .box 31 [I a1from, I a2to, I (minI a2to (maxI a1from a0s.End)), .p (.val (.slice none 0 0))])]⟩ krf ?_
  refine sC (ltI l1_1 (lenI (List.map GSl.cs a0s.Slices))) krf ?_ ?_
  ·refine sK ?_
   refine sN ⟨[1, 2, 3, 6, 7, 8], [3, 6, 7], [], []⟩ ⟨[(1, I a1from), (2, I a2to), (3, .ptr 3 0), (6, .ptr 6 0), (7, .ptr 7 0), (8, I l1_1)], [(3, .box 31 (bxc (GSs.cs a0s))), (6, .box 31 [I 0, I 0, I 0, .p (.val (.slice none 0 0))]), (7, .box 31 [I a1from, I a2to, I (minI a2to (maxI a1from a0s.End)), .p (.val (.slice none 0 0))])]⟩ krf ?_
   refine sS ?_
   refine sB ?_
   refine sim_bind (fun j2 => ⟨[(1, I a1from), (2, I a2to), (3, .ptr 3 0), (6, .ptr 6 0), (7, .ptr 7 0), (8, I l1_1), (42, B j2)], [(3, .box 31 (bxc (GSs.cs a0s))), (6, .box 31 [I 0, I 0, I 0, .p (.val (.slice none 0 0))]), (7, .box 31 [I a1from, I a2to, I (minI a2to (maxI a1from a0s.End)), .p (.val (.slice none 0 0))])]⟩ : Bool → St) ?_ ?_
   ·refine sG ?_
    refine xR 3 krf ?_
    refine xG krf krf (aop_idx (e := 48) (S := 2) (enc := GSl.cs) (l := a0s.Slices) (k := .i64) (n := l1_1) (sv := .p (.sl 2 (List.map GSl.cs a0s.Slices))) rfl krf krf krf krf krf) (fun x3 => ?_)
    refine xR 5 krf ?_
    refine xS (leI a1from x3.Minute) (fun h4 => ?_) (fun h4 => ?_)
    ·refine xO (want_tt krf h4) krf ?_
     refine xR 2 krf ?_
     refine xG krf krf (aop_idx (e := 48) (S := 2) (enc := GSl.cs) (l := a0s.Slices) (k := .i64) (n := l1_1) (sv := .p (.sl 2 (List.map GSl.cs a0s.Slices))) rfl krf krf krf krf krf) (fun x5 => ?_)
     refine xR 5 krf ?_
     refine xE ?_
     exact nq_n (ltI x5.Minute a2to) ⟨[1, 2, 3, 6, 7, 8, 42], [3, 6, 7], [], []⟩ krf
    ·refine xN (want_tf krf h4) krf ?_
     refine xR 8 krf ?_
     refine xE ?_
     exact nq_n false ⟨[1, 2, 3, 6, 7, 8, 42], [3, 6, 7], [], []⟩ krf
   ·rintro j2
    refine sC j2 krf ?_ ?_
    ·refine sim_drw tfm rfl ?_
     refine xR 5 krf ?_
     refine xG krf krf (aop_idx (e := 48) (S := 2) (enc := GSl.cs) (l := a0s.Slices) (k := .i64) (n := l1_1) (sv := .p (.sl 2 (List.map GSl.cs a0s.Slices))) rfl krf krf krf krf krf) (fun x6 => ?_)
     refine xR 2 krf ?_
     refine xF krf krf (aop_app0 (e := 48) (S := 2) (by_ := 16) (enc := GSl.cs) (d := 51) (l2 := [x6]) (xv := .tsl 2 (List.map GSl.cs [x6]) 50) rfl rfl krf krf rfl krf krf krf rfl krf) ?_
     refine xR 2 krf ?_
     refine xs_endD krf ?_
     refine bq_n ?_
     refine sN ⟨[1, 2, 3, 6, 7, 8], [3, 6, 7, 51], [], []⟩ ⟨[(1, I a1from), (2, I a2to), (3, .ptr 3 0), (6, .ptr 6 0), (7, .ptr 7 0), (8, I l1_1)], [(3, .box 31 (bxc (GSs.cs a0s))), (6, .box 31 [I 0, I 0, I 0, .p (.val (.slice none 0 0))]), (7, .box 31 [I a1from, I a2to, I (minI a2to (maxI a1from a0s.End)), .tsl 2 (List.map GSl.cs (OL.nil.toL ++ [x6])) 51]), (51, .arr 48 2 (List.map GSl.cs (OL.nil.toL ++ [x6])).length)]⟩ krf ?_
     refine sL tfm krf ?_
     exact kq_n (wi (l1_1 + 1), OL.own (OL.nil.toL ++ [x6])) ⟨[1, 2, 3, 6, 7, 8], [3, 6, 7, 51], [], []⟩ krf
    ·refine sK ?_
     refine bq_n ?_
     refine sN ⟨[1, 2, 3, 6, 7, 8], [3, 6, 7], [], []⟩ ⟨[(1, I a1from), (2, I a2to), (3, .ptr 3 0), (6, .ptr 6 0), (7, .ptr 7 0), (8, I l1_1)], [(3, .box 31 (bxc (GSs.cs a0s))), (6, .box 31 [I 0, I 0, I 0, .p (.val (.slice none 0 0))]), (7, .box 31 [I a1from, I a2to, I (minI a2to (maxI a1from a0s.End)), .p (.val (.slice none 0 0))])]⟩ krf ?_
     refine sL tfm krf ?_
     exact kq_n (wi (l1_1 + 1), OL.nil) ⟨[1, 2, 3, 6, 7, 8], [3, 6, 7], [], []⟩ krf
  ·refine sim_exit ?_
   refine sq_x ?_
   refine kq_x ?_
   refine bq_hit ?_
   refine sN ⟨[6, 7], [6, 7], [], []⟩ ⟨[(6, .ptr 6 0), (7, .ptr 7 0)], [(6, .box 31 [I 0, I 0, I 0, .p (.val (.slice none 0 0))]), (7, .box 31 [I a1from, I a2to, I (minI a2to (maxI a1from a0s.End)), .p (.val (.slice none 0 0))])]⟩ krf ?_
   refine sR tfm ⟨[6], [6], [], []⟩ ⟨[(6, .ptr 6 0)], [(6, .box 31 [I a1from, I a2to, I (minI a2to (maxI a1from a0s.End)), .p (.val (.slice none 0 0))])]⟩ krf ?_
   refine sT ?_
   exact qR (.agg [.id, .id, .id, .sl 2]) krf krf krf
 ·refine sS ?_
  refine sR tfm ⟨[1, 2, 3, 6, 7, 8, 22], [3, 6, 7, 51], [], []⟩ ⟨[(1, I a1from), (2, I a2to), (3, .ptr 3 0), (6, .ptr 6 0), (7, .ptr 7 0), (8, I l1_1), (22, B (ltI l1_1 (lenI (List.map GSl.cs a0s.Slices))))], [(3, .box 31 (bxc (GSs.cs a0s))), (6, .box 31 [I 0, I 0, I 0, .p (.val (.slice none 0 0))]), (7, .box 31 [I a1from, I a2to, I (minI a2to (maxI a1from a0s.End)), .tsl 2 (List.map GSl.cs (OL.own ow_l1_2).toL) 51]), (51, .arr 48 2 (List.map GSl.cs (OL.own ow_l1_2).toL).length)]⟩ krf ?_
  refine sC (ltI l1_1 (lenI (List.map GSl.cs a0s.Slices))) krf ?_ ?_
  ·refine sK ?_
   refine sN ⟨[1, 2, 3, 6, 7, 8], [3, 6, 7, 51], [], []⟩ ⟨[(1, I a1from), (2, I a2to), (3, .ptr 3 0), (6, .ptr 6 0), (7, .ptr 7 0), (8, I l1_1)], [(3, .box 31 (bxc (GSs.cs a0s))), (6, .box 31 [I 0, I 0, I 0, .p (.val (.slice none 0 0))]), (7, .box 31 [I a1from, I a2to, I (minI a2to (maxI a1from a0s.End)), .tsl 2 (List.map GSl.cs (OL.own ow_l1_2).toL) 51]), (51, .arr 48 2 (List.map GSl.cs (OL.own ow_l1_2).toL).length)]⟩ krf ?_
   refine sS ?_
   refine sB ?_
   refine sim_bind (fun j2 => ⟨[(1, I a1from), (2, I a2to), (3, .ptr 3 0), (6, .ptr 6 0), (7, .ptr 7 0), (8, I l1_1), (42, B j2)], [(3, .box 31 (bxc (GSs.cs a0s))), (6, .box 31 [I 0, I 0, I 0, .p (.val (.slice none 0 0))]), (7, .box 31 [I a1from, I a2to, I (minI a2to (maxI a1from a0s.End)), .tsl 2 (List.map GSl.cs (OL.own ow_l1_2).toL) 51]), (51, .arr 48 2 (List.map GSl.cs (OL.own ow_l1_2).toL).length)]⟩ : Bool → St) ?_ ?_
   ·refine sG ?_
    refine xR 3 krf ?_
    refine xG krf krf (aop_idx (e := 48) (S := 2) (enc := GSl.cs) (l := a0s.Slices) (k := .i64) (n := l1_1) (sv := .p (.sl 2 (List.map GSl.cs a0s.Slices))) rfl krf krf krf krf krf) (fun x3 => ?_)
    refine xR 5 krf ?_
    refine xS (leI a1from x3.Minute) (fun h4 => ?_) (fun h4 => ?_)
    ·refine xO (want_tt krf h4) krf ?_
     refine xR 2 krf ?_
     refine xG krf krf (aop_idx (e := 48) (S := 2) (enc := GSl.cs) (l := a0s.Slices) (k := .i64) (n := l1_1) (sv := .p (.sl 2 (List.map GSl.cs a0s.Slices))) rfl krf krf krf krf krf) (fun x5 => ?_)
     refine xR 5 krf ?_
     refine xE ?_
     exact nq_n (ltI x5.Minute a2to) ⟨[1, 2, 3, 6, 7, 8, 42], [3, 6, 7, 51], [], []⟩ krf
    ·refine xN (want_tf krf h4) krf ?_
     refine xR 8 krf ?_
     refine xE ?_
     exact nq_n false ⟨[1, 2, 3, 6, 7, 8, 42], [3, 6, 7, 51], [], []⟩ krf
   ·rintro j2
    refine sC j2 krf ?_ ?_
    ·refine sim_drw tfm rfl ?_
     refine xR 5 krf ?_
     refine xG krf krf (aop_idx (e := 48) (S := 2) (enc := GSl.cs) (l := a0s.Slices) (k := .i64) (n := l1_1) (sv := .p (.sl 2 (List.map GSl.cs a0s.Slices))) rfl krf krf krf krf krf) (fun x6 => ?_)
     refine xR 2 krf ?_
     refine xF krf krf (aop_app (e := 48) (S := 2) (by_ := 16) (enc := GSl.cs) (tk := 51) (l := (OL.own ow_l1_2).toL) (l2 := [x6]) (xv := .tsl 2 (List.map GSl.cs [x6]) 50) rfl krf krf rfl krf krf krf rfl krf) ?_
     refine xR 2 krf ?_
     refine xs_endD krf ?_
     refine bq_n ?_
     refine sN ⟨[1, 2, 3, 6, 7, 8], [3, 6, 7, 51], [], []⟩ ⟨[(1, I a1from), (2, I a2to), (3, .ptr 3 0), (6, .ptr 6 0), (7, .ptr 7 0), (8, I l1_1)], [(3, .box 31 (bxc (GSs.cs a0s))), (6, .box 31 [I 0, I 0, I 0, .p (.val (.slice none 0 0))]), (7, .box 31 [I a1from, I a2to, I (minI a2to (maxI a1from a0s.End)), .tsl 2 (List.map GSl.cs ((OL.own ow_l1_2).toL ++ [x6])) 51]), (51, .arr 48 2 (List.map GSl.cs ((OL.own ow_l1_2).toL ++ [x6])).length)]⟩ krf ?_
     refine sL tfm krf ?_
     exact kq_n (wi (l1_1 + 1), OL.own ((OL.own ow_l1_2).toL ++ [x6])) ⟨[1, 2, 3, 6, 7, 8], [3, 6, 7, 51], [], []⟩ krf
    ·refine sK ?_
     refine bq_n ?_
     refine sN ⟨[1, 2, 3, 6, 7, 8], [3, 6, 7, 51], [], []⟩ ⟨[(1, I a1from), (2, I a2to), (3, .ptr 3 0), (6, .ptr 6 0), (7, .ptr 7 0), (8, I l1_1)], [(3, .box 31 (bxc (GSs.cs a0s))), (6, .box 31 [I 0, I 0, I 0, .p (.val (.slice none 0 0))]), (7, .box 31 [I a1from, I a2to, I (minI a2to (maxI a1from a0s.End)), .tsl 2 (List.map GSl.cs (OL.own ow_l1_2).toL) 51]), (51, .arr 48 2 (List.map GSl.cs (OL.own ow_l1_2).toL).length)]⟩ krf ?_
     refine sL tfm krf ?_
     exact kq_n (wi (l1_1 + 1), (OL.own ow_l1_2)) ⟨[1, 2, 3, 6, 7, 8], [3, 6, 7, 51], [], []⟩ krf
  ·refine sim_exit ?_
   refine sq_x ?_
   refine kq_x ?_
   refine bq_hit ?_
   refine sN ⟨[6, 7], [6, 7, 51], [], []⟩ ⟨[(6, .ptr 6 0), (7, .ptr 7 0)], [(6, .box 31 [I 0, I 0, I 0, .p (.val (.slice none 0 0))]), (7, .box 31 [I a1from, I a2to, I (minI a2to (maxI a1from a0s.End)), .tsl 2 (List.map GSl.cs (OL.own ow_l1_2).toL) 51]), (51, .arr 48 2 (List.map GSl.cs (OL.own ow_l1_2).toL).length)]⟩ krf ?_
   refine sR tfm ⟨[6], [6, 51], [], []⟩ ⟨[(6, .ptr 6 0)], [(6, .box 31 [I a1from, I a2to, I (minI a2to (maxI a1from a0s.End)), .tsl 2 (List.map GSl.cs (OL.own ow_l1_2).toL) 51]), (51, .arr 48 2 (List.map GSl.cs (OL.own ow_l1_2).toL).length)]⟩ krf ?_
   refine sT ?_
   exact qR (.agg [.id, .id, .id, .sl 2]) krf krf krf
def g_ref34_Split (n : Nat) (a0s : GSs) (a1minute : Int) : Option (GSs × GSs × Int) :=
 ((g_ref33_Valid n a0s).bind fun r2 =>
 cond (!r2)
  (some true)
  (cond (leI a1minute a0s.From)
   (some true)
   (some (leI a0s.To a1minute)))).bind fun j1 =>
 cond j1
  (some ((⟨0, 0, 0, []⟩ : GSs), (⟨0, 0, 0, []⟩ : GSs), 1))
  ((g_ref34_Part n a0s a0s.From a1minute).bind fun r5 =>
  (g_ref34_Part n a0s a1minute a0s.To).bind fun r6 =>
  some (r5, r6, 0))
theorem g_ref34_Split_ok (n : Nat) (a0s : GSs) (a1minute : Int) : ∀ r, g_ref34_Split n a0s a1minute = some r → PCall Tryz.prog 7 [ag (GSs.cs a0s), I a1minute] (.ret (.tup [ag (GSs.cs r.1), ag (GSs.cs r.2.1), I r.2.2])) := by
 refine pcall_sim (X := fun r : GSs × GSs × Int => AEnd.ret (.tup [ag (GSs.cs r.1), ag (GSs.cs r.2.1), I r.2.2])) Tryz.func7 rfl Tryz.ntmps7 rfl ?_
 unfold g_ref34_Split
 refine sR tfm ⟨[1, 2, 4, 5], [2, 4, 5], [], []⟩ ⟨[(1, I a1minute), (2, .ptr 2 0), (4, .ptr 4 0), (5, .ptr 5 0)], [(2, .box 31 (bxc (GSs.cs a0s))), (4, .box 31 [I 0, I 0, I 0, .p (.val (.slice none 0 0))]), (5, .box 31 [I 0, I 0, I 0, .p (.val (.slice none 0 0))])]⟩ krf ?_
 refine sS ?_
 refine sim_bind (fun j1 => ⟨[(1, I a1minute), (2, .ptr 2 0), (4, .ptr 4 0), (5, .ptr 5 0), (21, B j1)], [(2, .box 31 (bxc (GSs.cs a0s))), (4, .box 31 [I 0, I 0, I 0, .p (.val (.slice none 0 0))]), (5, .box 31 [I 0, I 0, I 0, .p (.val (.slice none 0 0))])]⟩ : Bool → St) ?_ ?_
 ·refine sG ?_
  refine xR 1 krf ?_
  refine xC [] krf (g_ref33_Valid_ok n a0s) krf krf (fun _ => by kernel_rfl) (fun r2 => ?_)
  refine xR 2 krf ?_
  refine xS (!r2) (fun h3 => ?_) (fun h3 => ?_)
  ·refine xN (want_ft krf h3) krf ?_
   refine xR 10 krf ?_
   refine xE ?_
   exact nq_n true ⟨[1, 2, 4, 5, 21], [2, 4, 5], [], []⟩ krf
  ·refine xO (want_ff krf h3) krf ?_
   refine xR 5 krf ?_
   refine xS (leI a1minute a0s.From) (fun h4 => ?_) (fun h4 => ?_)
   ·refine xN (want_ft krf h4) krf ?_
    refine xR 4 krf ?_
    refine xE ?_
    exact nq_n true ⟨[1, 2, 4, 5, 21], [2, 4, 5], [], []⟩ krf
   ·refine xO (want_ff krf h4) krf ?_
    refine xR 4 krf ?_
    refine xE ?_
    exact nq_n (leI a0s.To a1minute) ⟨[1, 2, 4, 5, 21], [2, 4, 5], [], []⟩ krf
 ·rintro j1
  refine sC j1 krf ?_ ?_
  ·refine sR tfm ⟨[4, 5, 6], [4, 5], [], []⟩ ⟨[(4, .ptr 4 0), (5, .ptr 5 0), (6, I 1)], [(4, .box 31 [I 0, I 0, I 0, .p (.val (.slice none 0 0))]), (5, .box 31 [I 0, I 0, I 0, .p (.val (.slice none 0 0))])]⟩ krf ?_
   refine sT ?_
   refine sq_r ?_
   exact qR (.agg [.agg [.id, .id, .id, .sl 2], .agg [.id, .id, .id, .sl 2], .id]) krf krf krf
  ·refine sK ?_
   refine sN ⟨[1, 2, 4, 5], [2, 4, 5], [], []⟩ ⟨[(1, I a1minute), (2, .ptr 2 0), (4, .ptr 4 0), (5, .ptr 5 0)], [(2, .box 31 (bxc (GSs.cs a0s))), (4, .box 31 [I 0, I 0, I 0, .p (.val (.slice none 0 0))]), (5, .box 31 [I 0, I 0, I 0, .p (.val (.slice none 0 0))])]⟩ krf ?_
   refine sS ?_
   refine sim_drw tfm rfl ?_
   refine xR 4 krf ?_
   refine xC [] krf (g_ref34_Part_ok n a0s a0s.From a1minute) krf krf (fun _ => by kernel_rfl) (fun r5 => ?_)
   refine xR 4 krf ?_
   refine xC [] krf (g_ref34_Part_ok n a0s a1minute a0s.To) krf krf (fun _ => by kernel_rfl) (fun r6 => ?_)
   refine xR 3 krf ?_
   refine xs_endD krf ?_
   refine sN ⟨[4, 5, 6], [4, 5], [], []⟩ ⟨[(4, .ptr 4 0), (5, .ptr 5 0), (6, I 0)], [(4, .box 31 (bxc (GSs.cs r5))), (5, .box 31 (bxc (GSs.cs r6)))]⟩ krf ?_
   refine sT ?_
   exact qR (.id) krf krf krf
def g_ref02_Kinds (n : Nat) : Option (List (List UInt8)) :=
 some [[102, 101, 101, 100, 101, 114], [99, 97, 98, 108, 101], [111, 119, 110, 101, 114], [99, 111, 110, 116, 114, 97, 99, 116], [99, 104, 97, 114, 103, 101, 114], [98, 97, 121], [116, 97, 114, 105, 102, 102]]
theorem g_ref02_Kinds_ok (n : Nat) : ∀ r, g_ref02_Kinds n = some r → PCall Tryz.prog 75 [] (.ret (.p (.sl 1 (List.map cstr r)))) := by
 refine pcall_sim (X := fun r : List (List UInt8) => AEnd.ret (.p (.sl 1 (List.map cstr r)))) Tryz.func75 rfl Tryz.ntmps75 rfl ?_
 unfold g_ref02_Kinds
 refine sR tfm ⟨[], [], [], []⟩ ⟨[], []⟩ krf ?_
 refine sR tfm ⟨[0], [1], [], []⟩ ⟨[(0, .tsl 1 (List.map cstr [[102, 101, 101, 100, 101, 114], [99, 97, 98, 108, 101], [111, 119, 110, 101, 114], [99, 111, 110, 116, 114, 97, 99, 116], [99, 104, 97, 114, 103, 101, 114], [98, 97, 121], [116, 97, 114, 105, 102, 102]]) 1)], [(1, .arr 9 1 (List.map cstr [[102, 101, 101, 100, 101, 114], [99, 97, 98, 108, 101], [111, 119, 110, 101, 114], [99, 111, 110, 116, 114, 97, 99, 116], [99, 104, 97, 114, 103, 101, 114], [98, 97, 121], [116, 97, 114, 105, 102, 102]]).length)]⟩ krf ?_
 refine sT ?_
 exact qR (.sl 1) krf krf krf
def g_ref02_In_l1 (a0l : List (List UInt8)) (a1s : List UInt8) (recl1 : Int → Option Int) (l1 : Int) : Option Int :=
 cond (ltI l1 (lenI (List.map cstr a0l)))
  ((getI a0l l1).bind fun x2 =>
  cond (eqS x2 a1s)
   (some l1)
   (recl1 (wi (l1 + 1))))
  (some (-1))
def g_ref02_In (n : Nat) (a0l : List (List UInt8)) (a1s : List UInt8) : Option Int :=
 loopN (fun recl1 l1 => g_ref02_In_l1 a0l a1s recl1 l1) n 0
theorem g_ref02_In_ok (n : Nat) (a0l : List (List UInt8)) (a1s : List UInt8) : ∀ r, g_ref02_In n a0l a1s = some r → PCall Tryz.prog 74 [.p (.sl 1 (List.map cstr a0l)), S a1s] (.ret (I r)) := by
 refine pcall_sim (X := fun r : Int => AEnd.ret (I r)) Tryz.func74 rfl Tryz.ntmps74 rfl ?_
 unfold g_ref02_In
 refine sR tfm ⟨[0, 1], [], [], []⟩ ⟨[(0, .p (.sl 1 (List.map cstr a0l))), (1, S a1s)], []⟩ krf ?_
 refine sS ?_
 refine sR tfm ⟨[0, 1, 5], [], [], []⟩ ⟨[(0, .p (.sl 1 (List.map cstr a0l))), (1, S a1s), (5, I 0)], []⟩ krf ?_
 refine sB ?_
 refine sim_loop (fun l1 => ⟨[(0, .p (.sl 1 (List.map cstr a0l))), (1, S a1s), (5, I l1)], []⟩ : Int → St) (weak_shr (K := ⟨[0, 1, 5], [], [], []⟩) krf) ?_
 rintro recl1 l1
 show SimE (g_ref02_In_l1 a0l a1s recl1 l1) _ _ _ _ _ _
 unfold g_ref02_In_l1
 refine sS ?_
 refine sR tfm ⟨[0, 1, 5, 9], [], [], []⟩ ⟨[(0, .p (.sl 1 (List.map cstr a0l))), (1, S a1s), (5, I l1), (9, B (ltI l1 (lenI (List.map cstr a0l))))], []⟩ krf ?_
 refine sC (ltI l1 (lenI (List.map cstr a0l))) krf ?_ ?_
 ·refine sK ?_
  refine sN ⟨[0, 1, 5], [], [], []⟩ ⟨[(0, .p (.sl 1 (List.map cstr a0l))), (1, S a1s), (5, I l1)], []⟩ krf ?_
  refine sS ?_
  refine sB ?_
  refine sS ?_
  refine sG ?_
  refine xR 2 krf ?_
  refine xG krf krf (aop_idx (e := 9) (S := 1) (enc := cstr) (l := a0l) (k := .i64) (n := l1) (sv := .p (.sl 1 (List.map cstr a0l))) rfl krf krf krf krf krf) (fun x2 => ?_)
  refine xR 3 krf ?_
  refine xE ?_
  refine sN ⟨[0, 1, 5, 17], [], [], []⟩ ⟨[(0, .p (.sl 1 (List.map cstr a0l))), (1, S a1s), (5, I l1), (17, B (eqS x2 a1s))], []⟩ krf ?_
  refine sC (eqS x2 a1s) krf ?_ ?_
  ·refine sR tfm ⟨[4], [], [], []⟩ ⟨[(4, I l1)], []⟩ krf ?_
   refine sT ?_
   refine bq_r ?_
   refine sq_r ?_
   refine kq_r ?_
   refine bq_r ?_
   refine sq_r ?_
   exact qR (.id) krf krf krf
  ·refine sK ?_
   refine bq_n ?_
   refine sN ⟨[0, 1, 5], [], [], []⟩ ⟨[(0, .p (.sl 1 (List.map cstr a0l))), (1, S a1s), (5, I l1)], []⟩ krf ?_
   refine sL tfm krf ?_
   exact kq_n (wi (l1 + 1)) ⟨[0, 1, 5], [], [], []⟩ krf
 ·refine sim_exit ?_
  refine sq_x ?_
  refine kq_x ?_
  refine bq_hit ?_
  refine sN ⟨[], [], [], []⟩ ⟨[], []⟩ krf ?_
  refine sR tfm ⟨[4], [], [], []⟩ ⟨[(4, I (-1))], []⟩ krf ?_
  refine sT ?_
  exact qR (.id) krf krf krf
def g_ref02_Attrs (n : Nat) : Option (List (List UInt8)) :=
 some [[108, 105, 109, 105, 116], [110, 101, 117, 116, 114, 97, 108], [102, 117, 115, 101], [116, 104, 101, 114, 109, 97, 108], [102, 114, 111, 109], [97, 116], [112, 104, 97, 115, 101, 115], [97, 109, 112, 115], [102, 97, 108, 108, 98, 97, 99, 107], [111, 119, 110, 101, 114], [99, 97, 114, 100], [114, 97, 110, 107], [99, 104, 97, 114, 103, 101, 114]]
theorem g_ref02_Attrs_ok (n : Nat) : ∀ r, g_ref02_Attrs n = some r → PCall Tryz.prog 76 [] (.ret (.p (.sl 1 (List.map cstr r)))) := by
 refine pcall_sim (X := fun r : List (List UInt8) => AEnd.ret (.p (.sl 1 (List.map cstr r)))) Tryz.func76 rfl Tryz.ntmps76 rfl ?_
 unfold g_ref02_Attrs
 refine sR tfm ⟨[], [], [], []⟩ ⟨[], []⟩ krf ?_
 refine sR tfm ⟨[0], [1], [], []⟩ ⟨[(0, .tsl 1 (List.map cstr [[108, 105, 109, 105, 116], [110, 101, 117, 116, 114, 97, 108], [102, 117, 115, 101], [116, 104, 101, 114, 109, 97, 108], [102, 114, 111, 109], [97, 116], [112, 104, 97, 115, 101, 115], [97, 109, 112, 115], [102, 97, 108, 108, 98, 97, 99, 107], [111, 119, 110, 101, 114], [99, 97, 114, 100], [114, 97, 110, 107], [99, 104, 97, 114, 103, 101, 114]]) 1)], [(1, .arr 9 1 (List.map cstr [[108, 105, 109, 105, 116], [110, 101, 117, 116, 114, 97, 108], [102, 117, 115, 101], [116, 104, 101, 114, 109, 97, 108], [102, 114, 111, 109], [97, 116], [112, 104, 97, 115, 101, 115], [97, 109, 112, 115], [102, 97, 108, 108, 98, 97, 99, 107], [111, 119, 110, 101, 114], [99, 97, 114, 100], [114, 97, 110, 107], [99, 104, 97, 114, 103, 101, 114]]).length)]⟩ krf ?_
 refine sT ?_
 exact qR (.sl 1) krf krf krf
def g_ref02_Articles (n : Nat) : Option (List (List UInt8)) :=
 some [[115, 116, 97, 114, 116], [101, 110, 101, 114, 103, 121], [116, 105, 109, 101], [105, 100, 108, 101], [99, 97, 112], [116, 97, 120]]
theorem g_ref02_Articles_ok (n : Nat) : ∀ r, g_ref02_Articles n = some r → PCall Tryz.prog 77 [] (.ret (.p (.sl 1 (List.map cstr r)))) := by
 refine pcall_sim (X := fun r : List (List UInt8) => AEnd.ret (.p (.sl 1 (List.map cstr r)))) Tryz.func77 rfl Tryz.ntmps77 rfl ?_
 unfold g_ref02_Articles
 refine sR tfm ⟨[], [], [], []⟩ ⟨[], []⟩ krf ?_
 refine sR tfm ⟨[0], [1], [], []⟩ ⟨[(0, .tsl 1 (List.map cstr [[115, 116, 97, 114, 116], [101, 110, 101, 114, 103, 121], [116, 105, 109, 101], [105, 100, 108, 101], [99, 97, 112], [116, 97, 120]]) 1)], [(1, .arr 9 1 (List.map cstr [[115, 116, 97, 114, 116], [101, 110, 101, 114, 103, 121], [116, 105, 109, 101], [105, 100, 108, 101], [99, 97, 112], [116, 97, 120]]).length)]⟩ krf ?_
 refine sT ?_
 exact qR (.sl 1) krf krf krf
def g_ref02_Words (n : Nat) : Option (List (List UInt8)) :=
 some [[111, 110], [119, 111, 114, 107], [115, 97, 116, 117, 114, 100, 97, 121], [115, 117, 110, 100, 97, 121], [98, 101, 116, 119, 101, 101, 110], [112, 101, 114], [102, 114, 101, 101]]
theorem g_ref02_Words_ok (n : Nat) : ∀ r, g_ref02_Words n = some r → PCall Tryz.prog 78 [] (.ret (.p (.sl 1 (List.map cstr r)))) := by
 refine pcall_sim (X := fun r : List (List UInt8) => AEnd.ret (.p (.sl 1 (List.map cstr r)))) Tryz.func78 rfl Tryz.ntmps78 rfl ?_
 unfold g_ref02_Words
 refine sR tfm ⟨[], [], [], []⟩ ⟨[], []⟩ krf ?_
 refine sR tfm ⟨[0], [1], [], []⟩ ⟨[(0, .tsl 1 (List.map cstr [[111, 110], [119, 111, 114, 107], [115, 97, 116, 117, 114, 100, 97, 121], [115, 117, 110, 100, 97, 121], [98, 101, 116, 119, 101, 101, 110], [112, 101, 114], [102, 114, 101, 101]]) 1)], [(1, .arr 9 1 (List.map cstr [[111, 110], [119, 111, 114, 107], [115, 97, 116, 117, 114, 100, 97, 121], [115, 117, 110, 100, 97, 121], [98, 101, 116, 119, 101, 101, 110], [112, 101, 114], [102, 114, 101, 101]]).length)]⟩ krf ?_
 refine sT ?_
 exact qR (.sl 1) krf krf krf
def g_ref02_Name_j1 (n : Nat) (a0s : List UInt8) : Option Bool :=
 ((g_ref02_Kinds n).bind fun r3 =>
 (g_ref02_In n r3 a0s).bind fun r4 =>
 cond (leI 0 r4)
  (some true)
  ((g_ref02_Attrs n).bind fun r6 =>
  (g_ref02_In n r6 a0s).bind fun r7 =>
  cond (leI 0 r7)
   (some true)
   ((g_ref02_Articles n).bind fun r9 =>
   (g_ref02_In n r9 a0s).bind fun r10 =>
   cond (leI 0 r10)
    (some true)
    ((g_ref02_Words n).bind fun r12 =>
    (g_ref02_In n r12 a0s).bind fun r13 =>
    some (leI 0 r13))))).bind fun j2 =>
 cond (leI 1 (lenI a0s))
  (cond (leI (lenI a0s) 12)
   (some (!j2))
   (some false))
  (some false)
def g_ref02_Name_l16 (n : Nat) (a0s : List UInt8) (recl16 : Int → Option Bool) (l16 : Int) : Option Bool :=
 cond (ltI l16 (lenI a0s))
  ((getI a0s l16).bind fun x17 =>
  (cond (ltI (b2i x17) 97)
   (cond (eqI l16 0)
    (some true)
    (cond (ltI (b2i x17) 48)
     (some (!eqI (b2i x17) 95))
     (cond (ltI 57 (b2i x17))
      (some (!eqI (b2i x17) 95))
      (some false))))
   (cond (ltI 122 (b2i x17))
    (cond (eqI l16 0)
     (some true)
     (cond (ltI (b2i x17) 48)
      (some (!eqI (b2i x17) 95))
      (cond (ltI 57 (b2i x17))
       (some (!eqI (b2i x17) 95))
       (some false))))
    (some false))).bind fun j18 =>
  cond j18
   (some false)
   (recl16 (wi (l16 + 1))))
  (g_ref02_Name_j1 n a0s)
def g_ref02_Name (n : Nat) (a0s : List UInt8) : Option Bool :=
 loopN (fun recl16 l16 => g_ref02_Name_l16 n a0s recl16 l16) n 0
theorem g_ref02_Name_ok (n : Nat) (a0s : List UInt8) : ∀ r, g_ref02_Name n a0s = some r → PCall Tryz.prog 46 [S a0s] (.ret (B r)) := by
 refine pcall_sim (X := fun r : Bool => AEnd.ret (B r)) Tryz.func46 rfl Tryz.ntmps46 rfl ?_
 unfold g_ref02_Name
 refine sR tfm ⟨[0], [], [], []⟩ ⟨[(0, S a0s)], []⟩ krf ?_
 refine sim_cps (fun _ => ⟨[(0, S a0s)], []⟩ : Unit → St) (fun _ => g_ref02_Name_j1 n a0s) ?_ ?_
 ·rintro _
  show SimE (g_ref02_Name_j1 n a0s) _ _ _ _ _ _
  unfold g_ref02_Name_j1
  refine sim_bind (fun j2 => ⟨[(0, S a0s), (5, B j2)], []⟩ : Bool → St) ?_ ?_
  ·refine sG ?_
   refine xC [] krf (g_ref02_Kinds_ok n) krf krf (fun _ => by kernel_rfl) (fun r3 => ?_)
   refine xR 1 krf ?_
   refine xC [] krf (g_ref02_In_ok n r3 a0s) krf krf (fun _ => by kernel_rfl) (fun r4 => ?_)
   refine xR 2 krf ?_
   refine xS (leI 0 r4) (fun h5 => ?_) (fun h5 => ?_)
   ·refine xN (want_ft krf h5) krf ?_
    refine xR 17 krf ?_
    refine xE ?_
    exact nq_n true ⟨[0, 5], [], [], []⟩ krf
   ·refine xC [] (want_ff krf h5) (g_ref02_Attrs_ok n) krf krf (fun _ => by kernel_rfl) (fun r6 => ?_)
    refine xR 1 krf ?_
    refine xC [] krf (g_ref02_In_ok n r6 a0s) krf krf (fun _ => by kernel_rfl) (fun r7 => ?_)
    refine xR 3 krf ?_
    refine xS (leI 0 r7) (fun h8 => ?_) (fun h8 => ?_)
    ·refine xN (want_ft krf h8) krf ?_
     refine xR 11 krf ?_
     refine xE ?_
     exact nq_n true ⟨[0, 5], [], [], []⟩ krf
    ·refine xC [] (want_ff krf h8) (g_ref02_Articles_ok n) krf krf (fun _ => by kernel_rfl) (fun r9 => ?_)
     refine xR 1 krf ?_
     refine xC [] krf (g_ref02_In_ok n r9 a0s) krf krf (fun _ => by kernel_rfl) (fun r10 => ?_)
     refine xR 3 krf ?_
     refine xS (leI 0 r10) (fun h11 => ?_) (fun h11 => ?_)
     ·refine xN (want_ft krf h11) krf ?_
      refine xR 5 krf ?_
      refine xE ?_
      exact nq_n true ⟨[0, 5], [], [], []⟩ krf
     ·refine xC [] (want_ff krf h11) (g_ref02_Words_ok n) krf krf (fun _ => by kernel_rfl) (fun r12 => ?_)
      refine xR 1 krf ?_
      refine xC [] krf (g_ref02_In_ok n r12 a0s) krf krf (fun _ => by kernel_rfl) (fun r13 => ?_)
      refine xR 3 krf ?_
      refine xE ?_
      exact nq_n (leI 0 r13) ⟨[0, 5], [], [], []⟩ krf
  ·rintro j2
   refine sS ?_
   refine sG ?_
   refine xR 4 krf ?_
   refine xS (leI 1 (lenI a0s)) (fun h14 => ?_) (fun h14 => ?_)
   ·refine xO (want_tt krf h14) krf ?_
    refine xR 4 krf ?_
    refine xS (leI (lenI a0s) 12) (fun h15 => ?_) (fun h15 => ?_)
    ·refine xO (want_tt krf h15) krf ?_
     refine xR 3 krf ?_
     refine xE ?_
     refine sN ⟨[2], [], [], []⟩ ⟨[(2, B (!j2))], []⟩ krf ?_
     refine sT ?_
     exact qR (.id) krf krf krf
    ·refine xN (want_tf krf h15) krf ?_
     refine xR 3 krf ?_
     refine xE ?_
     refine sN ⟨[2], [], [], []⟩ ⟨[(2, B false)], []⟩ krf ?_
     refine sT ?_
     exact qR (.id) krf krf krf
   ·refine xN (want_tf krf h14) krf ?_
    refine xR 8 krf ?_
    refine xE ?_
    refine sN ⟨[2], [], [], []⟩ ⟨[(2, B false)], []⟩ krf ?_
    refine sT ?_
    exact qR (.id) krf krf krf
 ·refine sR tfm ⟨[0, 3], [], [], []⟩ ⟨[(0, S a0s), (3, I 0)], []⟩ krf ?_
  refine sB ?_
  refine sim_loop (fun l16 => ⟨[(0, S a0s), (3, I l16)], []⟩ : Int → St) (weak_shr (K := ⟨[0, 3], [], [], []⟩) krf) ?_
  rintro recl16 l16
  show SimE (g_ref02_Name_l16 n a0s recl16 l16) _ _ _ _ _ _
  unfold g_ref02_Name_l16
  refine sS ?_
  refine sR tfm ⟨[0, 3, 9], [], [], []⟩ ⟨[(0, S a0s), (3, I l16), (9, B (ltI l16 (lenI a0s)))], []⟩ krf ?_
  refine sC (ltI l16 (lenI a0s)) krf ?_ ?_
  ·refine sK ?_
   refine sN ⟨[0, 3], [], [], []⟩ ⟨[(0, S a0s), (3, I l16)], []⟩ krf ?_
   refine sS ?_
   refine sB ?_
   refine sS ?_
   refine sG ?_
   refine xR 2 krf ?_
   refine xG krf krf (aop_sidx (l := a0s) (k := .i64) (n := l16) rfl krf krf krf) (fun x17 => ?_)
   refine xR 1 krf ?_
   refine xE ?_
   refine sN ⟨[0, 3, 4], [], [], []⟩ ⟨[(0, S a0s), (3, I l16), (4, B8 (b2i x17))], []⟩ krf ?_
   refine sim_bind (fun j18 => ⟨[(0, S a0s), (3, I l16), (36, B j18)], []⟩ : Bool → St) ?_ ?_
   ·refine sG ?_
    refine xR 3 krf ?_
    refine xS (ltI (b2i x17) 97) (fun h19 => ?_) (fun h19 => ?_)
    ·refine xN (want_ft krf h19) krf ?_
     refine xR 6 krf ?_
     refine xS (eqI l16 0) (fun h20 => ?_) (fun h20 => ?_)
     ·refine xN (want_ft krf h20) krf ?_
      refine xR 11 krf ?_
      refine xE ?_
      exact nq_n true ⟨[0, 3, 36], [], [], []⟩ krf
     ·refine xO (want_ff krf h20) krf ?_
      refine xR 2 krf ?_
      refine xS (ltI (b2i x17) 48) (fun h21 => ?_) (fun h21 => ?_)
      ·refine xN (want_ft krf h21) krf ?_
       refine xR 8 krf ?_
       refine xE ?_
       exact nq_n (!eqI (b2i x17) 95) ⟨[0, 3, 36], [], [], []⟩ krf
      ·refine xO (want_ff krf h21) krf ?_
       refine xR 3 krf ?_
       refine xS (ltI 57 (b2i x17)) (fun h22 => ?_) (fun h22 => ?_)
       ·refine xO (want_tt krf h22) krf ?_
        refine xR 4 krf ?_
        refine xE ?_
        exact nq_n (!eqI (b2i x17) 95) ⟨[0, 3, 36], [], [], []⟩ krf
       ·refine xN (want_tf krf h22) krf ?_
        refine xR 4 krf ?_
        refine xE ?_
        exact nq_n false ⟨[0, 3, 36], [], [], []⟩ krf
    ·refine xO (want_ff krf h19) krf ?_
     refine xR 3 krf ?_
     refine xS (ltI 122 (b2i x17)) (fun h23 => ?_) (fun h23 => ?_)
     ·refine xO (want_tt krf h23) krf ?_
      refine xR 2 krf ?_
      refine xS (eqI l16 0) (fun h24 => ?_) (fun h24 => ?_)
      ·refine xN (want_ft krf h24) krf ?_
       refine xR 11 krf ?_
       refine xE ?_
       exact nq_n true ⟨[0, 3, 36], [], [], []⟩ krf
      ·refine xO (want_ff krf h24) krf ?_
       refine xR 2 krf ?_
       refine xS (ltI (b2i x17) 48) (fun h25 => ?_) (fun h25 => ?_)
       ·refine xN (want_ft krf h25) krf ?_
        refine xR 8 krf ?_
        refine xE ?_
        exact nq_n (!eqI (b2i x17) 95) ⟨[0, 3, 36], [], [], []⟩ krf
       ·refine xO (want_ff krf h25) krf ?_
        refine xR 3 krf ?_
        refine xS (ltI 57 (b2i x17)) (fun h26 => ?_) (fun h26 => ?_)
        ·refine xO (want_tt krf h26) krf ?_
         refine xR 4 krf ?_
         refine xE ?_
         exact nq_n (!eqI (b2i x17) 95) ⟨[0, 3, 36], [], [], []⟩ krf
        ·refine xN (want_tf krf h26) krf ?_
         refine xR 4 krf ?_
         refine xE ?_
         exact nq_n false ⟨[0, 3, 36], [], [], []⟩ krf
     ·refine xN (want_tf krf h23) krf ?_
      refine xR 14 krf ?_
      refine xE ?_
      exact nq_n false ⟨[0, 3, 36], [], [], []⟩ krf
   ·rintro j18
    refine sC j18 krf ?_ ?_
    ·refine sR tfm ⟨[2], [], [], []⟩ ⟨[(2, B false)], []⟩ krf ?_
     refine sT ?_
     refine bq_r ?_
     refine sq_r ?_
     refine kq_r ?_
     refine bq_r ?_
     refine kq_r ?_
     exact qR (.id) krf krf krf
    ·refine sK ?_
     refine bq_n ?_
     refine sN ⟨[0, 3], [], [], []⟩ ⟨[(0, S a0s), (3, I l16)], []⟩ krf ?_
     refine sL tfm krf ?_
     exact kq_n (wi (l16 + 1)) ⟨[0, 3], [], [], []⟩ krf
  ·refine sim_exit ?_
   refine sq_x ?_
   refine kq_x ?_
   refine bq_hit ?_
   exact kq_n (k := fun _ => g_ref02_Name_j1 n a0s) () ⟨[0], [], [], []⟩ krf
def g_ref32_Article (n : Nat) (a0a : GAr) : Option Bool :=
 (cond (ltI a0a.Price 0)
  (some true)
  (cond (ltI 1000000 a0a.Price)
   (some true)
   (cond (ltI a0a.From 0)
    (some true)
    (cond (ltI 1439 a0a.From)
     (some true)
     (cond (leI a0a.To a0a.From)
      (some true)
      (cond (ltI 1440 a0a.To)
       (some true)
       (cond (ltI a0a.Days 1)
        (some true)
        (some (ltI 7 a0a.Days))))))))).bind fun j1 =>
 cond j1
  (some false)
  ((cond (eqI a0a.Kind 3)
   (some true)
   (some (eqI a0a.Kind 4))).bind fun j9 =>
  cond j9
   ((cond (leI 1 a0a.Unit)
    (cond (leI a0a.Unit 1440)
     (cond (leI 0 a0a.Free)
      (some (leI a0a.Free 1440))
      (some false))
     (some false))
    (some false)).bind fun j11 =>
   some j11)
   ((cond (!eqI a0a.Unit 0)
    (some true)
    (some (!eqI a0a.Free 0))).bind fun j15 =>
   cond j15
    (some false)
    ((cond (eqI a0a.From 0)
     (cond (eqI a0a.To 1440)
      (some (eqI a0a.Days 7))
      (some false))
     (some false)).bind fun j17 =>
    cond (eqI a0a.Kind 6)
     ((cond j17
      (some (leI a0a.Price 10000))
      (some false)).bind fun j20 =>
     some j20)
     (cond (eqI a0a.Kind 5)
      (some j17)
      (cond (eqI a0a.Kind 1)
       (some true)
       (some (eqI a0a.Kind 2)))))))
theorem g_ref32_Article_ok (n : Nat) (a0a : GAr) : ∀ r, g_ref32_Article n a0a = some r → PCall Tryz.prog 47 [ag (GAr.cs a0a)] (.ret (B r)) := by
 refine pcall_sim (X := fun r : Bool => AEnd.ret (B r)) Tryz.func47 rfl Tryz.ntmps47 rfl ?_
 unfold g_ref32_Article
 refine sR tfm ⟨[1], [1], [], []⟩ ⟨[(1, .ptr 1 0)], [(1, .box 45 (bxc (GAr.cs a0a)))]⟩ krf ?_
 refine sS ?_
 refine sim_bind (fun j1 => ⟨[(1, .ptr 1 0), (43, B j1)], [(1, .box 45 (bxc (GAr.cs a0a)))]⟩ : Bool → St) ?_ ?_
 ·refine sG ?_
  refine xR 4 krf ?_
  refine xS (ltI a0a.Price 0) (fun h2 => ?_) (fun h2 => ?_)
  ·refine xN (want_ft krf h2) krf ?_
   refine xR 35 krf ?_
   refine xE ?_
   exact nq_n true ⟨[1, 43], [1], [], []⟩ krf
  ·refine xO (want_ff krf h2) krf ?_
   refine xR 4 krf ?_
   refine xS (ltI 1000000 a0a.Price) (fun h3 => ?_) (fun h3 => ?_)
   ·refine xN (want_ft krf h3) krf ?_
    refine xR 30 krf ?_
    refine xE ?_
    exact nq_n true ⟨[1, 43], [1], [], []⟩ krf
   ·refine xO (want_ff krf h3) krf ?_
    refine xR 4 krf ?_
    refine xS (ltI a0a.From 0) (fun h4 => ?_) (fun h4 => ?_)
    ·refine xN (want_ft krf h4) krf ?_
     refine xR 25 krf ?_
     refine xE ?_
     exact nq_n true ⟨[1, 43], [1], [], []⟩ krf
    ·refine xO (want_ff krf h4) krf ?_
     refine xR 4 krf ?_
     refine xS (ltI 1439 a0a.From) (fun h5 => ?_) (fun h5 => ?_)
     ·refine xN (want_ft krf h5) krf ?_
      refine xR 20 krf ?_
      refine xE ?_
      exact nq_n true ⟨[1, 43], [1], [], []⟩ krf
     ·refine xO (want_ff krf h5) krf ?_
      refine xR 6 krf ?_
      refine xS (leI a0a.To a0a.From) (fun h6 => ?_) (fun h6 => ?_)
      ·refine xN (want_ft krf h6) krf ?_
       refine xR 13 krf ?_
       refine xE ?_
       exact nq_n true ⟨[1, 43], [1], [], []⟩ krf
      ·refine xO (want_ff krf h6) krf ?_
       refine xR 4 krf ?_
       refine xS (ltI 1440 a0a.To) (fun h7 => ?_) (fun h7 => ?_)
       ·refine xN (want_ft krf h7) krf ?_
        refine xR 8 krf ?_
        refine xE ?_
        exact nq_n true ⟨[1, 43], [1], [], []⟩ krf
       ·refine xO (want_ff krf h7) krf ?_
        refine xR 4 krf ?_
        refine xS (ltI a0a.Days 1) (fun h8 => ?_) (fun h8 => ?_)
        ·refine xN (want_ft krf h8) krf ?_
         refine xR 3 krf ?_
         refine xE ?_
         exact nq_n true ⟨[1, 43], [1], [], []⟩ krf
        ·refine xO (want_ff krf h8) krf ?_
         refine xR 3 krf ?_
         refine xE ?_
         exact nq_n (ltI 7 a0a.Days) ⟨[1, 43], [1], [], []⟩ krf
 ·rintro j1
  refine sC j1 krf ?_ ?_
  ·refine sR tfm ⟨[2], [], [], []⟩ ⟨[(2, B false)], []⟩ krf ?_
   refine sT ?_
   refine sq_r ?_
   exact qR (.id) krf krf krf
  ·refine sK ?_
   refine sN ⟨[1], [1], [], []⟩ ⟨[(1, .ptr 1 0)], [(1, .box 45 (bxc (GAr.cs a0a)))]⟩ krf ?_
   refine sS ?_
   refine sim_bind (fun j9 => ⟨[(1, .ptr 1 0), (51, B j9)], [(1, .box 45 (bxc (GAr.cs a0a)))]⟩ : Bool → St) ?_ ?_
   ·refine sG ?_
    refine xR 4 krf ?_
    refine xS (eqI a0a.Kind 3) (fun h10 => ?_) (fun h10 => ?_)
    ·refine xN (want_ft krf h10) krf ?_
     refine xR 3 krf ?_
     refine xE ?_
     exact nq_n true ⟨[1, 51], [1], [], []⟩ krf
    ·refine xO (want_ff krf h10) krf ?_
     refine xR 3 krf ?_
     refine xE ?_
     exact nq_n (eqI a0a.Kind 4) ⟨[1, 51], [1], [], []⟩ krf
   ·rintro j9
    refine sC j9 krf ?_ ?_
    ·refine sim_bind (fun j11 => ⟨[(2, B j11)], []⟩ : Bool → St) ?_ ?_
     ·refine sG ?_
      refine xR 4 krf ?_
      refine xS (leI 1 a0a.Unit) (fun h12 => ?_) (fun h12 => ?_)
      ·refine xO (want_tt krf h12) krf ?_
       refine xR 4 krf ?_
       refine xS (leI a0a.Unit 1440) (fun h13 => ?_) (fun h13 => ?_)
       ·refine xO (want_tt krf h13) krf ?_
        refine xR 4 krf ?_
        refine xS (leI 0 a0a.Free) (fun h14 => ?_) (fun h14 => ?_)
        ·refine xO (want_tt krf h14) krf ?_
         refine xR 4 krf ?_
         refine xE ?_
         exact nq_n (leI a0a.Free 1440) ⟨[2], [], [], []⟩ krf
        ·refine xN (want_tf krf h14) krf ?_
         refine xR 4 krf ?_
         refine xE ?_
         exact nq_n false ⟨[2], [], [], []⟩ krf
       ·refine xN (want_tf krf h13) krf ?_
        refine xR 9 krf ?_
        refine xE ?_
        exact nq_n false ⟨[2], [], [], []⟩ krf
      ·refine xN (want_tf krf h12) krf ?_
       refine xR 14 krf ?_
       refine xE ?_
       exact nq_n false ⟨[2], [], [], []⟩ krf
     ·rintro j11
      refine sT ?_
      refine sq_r ?_
      exact qR (.id) krf krf krf
    ·refine sK ?_
     refine sN ⟨[1], [1], [], []⟩ ⟨[(1, .ptr 1 0)], [(1, .box 45 (bxc (GAr.cs a0a)))]⟩ krf ?_
     refine sS ?_
     refine sim_bind (fun j15 => ⟨[(1, .ptr 1 0), (77, B j15)], [(1, .box 45 (bxc (GAr.cs a0a)))]⟩ : Bool → St) ?_ ?_
     ·refine sG ?_
      refine xR 4 krf ?_
      refine xS (!eqI a0a.Unit 0) (fun h16 => ?_) (fun h16 => ?_)
      ·refine xN (want_ft krf h16) krf ?_
       refine xR 3 krf ?_
       refine xE ?_
       exact nq_n true ⟨[1, 77], [1], [], []⟩ krf
      ·refine xO (want_ff krf h16) krf ?_
       refine xR 3 krf ?_
       refine xE ?_
       exact nq_n (!eqI a0a.Free 0) ⟨[1, 77], [1], [], []⟩ krf
     ·rintro j15
      refine sC j15 krf ?_ ?_
      ·refine sR tfm ⟨[2], [], [], []⟩ ⟨[(2, B false)], []⟩ krf ?_
       refine sT ?_
       refine sq_r ?_
       exact qR (.id) krf krf krf
      ·refine sK ?_
       refine sN ⟨[1], [1], [], []⟩ ⟨[(1, .ptr 1 0)], [(1, .box 45 (bxc (GAr.cs a0a)))]⟩ krf ?_
       refine sim_bind (fun j17 => ⟨[(1, .ptr 1 0), (3, B j17)], [(1, .box 45 (bxc (GAr.cs a0a)))]⟩ : Bool → St) ?_ ?_
       ·refine sG ?_
        refine xR 4 krf ?_
        refine xS (eqI a0a.From 0) (fun h18 => ?_) (fun h18 => ?_)
        ·refine xO (want_tt krf h18) krf ?_
         refine xR 4 krf ?_
         refine xS (eqI a0a.To 1440) (fun h19 => ?_) (fun h19 => ?_)
         ·refine xO (want_tt krf h19) krf ?_
          refine xR 4 krf ?_
          refine xE ?_
          exact nq_n (eqI a0a.Days 7) ⟨[1, 3], [1], [], []⟩ krf
         ·refine xN (want_tf krf h19) krf ?_
          refine xR 4 krf ?_
          refine xE ?_
          exact nq_n false ⟨[1, 3], [1], [], []⟩ krf
        ·refine xN (want_tf krf h18) krf ?_
         refine xR 9 krf ?_
         refine xE ?_
         exact nq_n false ⟨[1, 3], [1], [], []⟩ krf
       ·rintro j17
        refine sS ?_
        refine sR tfm ⟨[1, 3, 93], [1], [], []⟩ ⟨[(1, .ptr 1 0), (3, B j17), (93, B (eqI a0a.Kind 6))], [(1, .box 45 (bxc (GAr.cs a0a)))]⟩ krf ?_
        refine sC (eqI a0a.Kind 6) krf ?_ ?_
        ·refine sim_bind (fun j20 => ⟨[(2, B j20)], []⟩ : Bool → St) ?_ ?_
         ·refine sG ?_
          refine xR 2 krf ?_
          refine xS j17 (fun h21 => ?_) (fun h21 => ?_)
          ·refine xO (want_tt krf h21) krf ?_
           refine xR 4 krf ?_
           refine xE ?_
           exact nq_n (leI a0a.Price 10000) ⟨[2], [], [], []⟩ krf
          ·refine xN (want_tf krf h21) krf ?_
           refine xR 4 krf ?_
           refine xE ?_
           exact nq_n false ⟨[2], [], [], []⟩ krf
         ·rintro j20
          refine sT ?_
          refine sq_r ?_
          exact qR (.id) krf krf krf
        ·refine sK ?_
         refine sN ⟨[1, 3], [1], [], []⟩ ⟨[(1, .ptr 1 0), (3, B j17)], [(1, .box 45 (bxc (GAr.cs a0a)))]⟩ krf ?_
         refine sS ?_
         refine sR tfm ⟨[1, 3, 102], [1], [], []⟩ ⟨[(1, .ptr 1 0), (3, B j17), (102, B (eqI a0a.Kind 5))], [(1, .box 45 (bxc (GAr.cs a0a)))]⟩ krf ?_
         refine sC (eqI a0a.Kind 5) krf ?_ ?_
         ·refine sR tfm ⟨[2], [], [], []⟩ ⟨[(2, B j17)], []⟩ krf ?_
          refine sT ?_
          refine sq_r ?_
          exact qR (.id) krf krf krf
         ·refine sK ?_
          refine sN ⟨[1], [1], [], []⟩ ⟨[(1, .ptr 1 0)], [(1, .box 45 (bxc (GAr.cs a0a)))]⟩ krf ?_
          refine sS ?_
          refine sG ?_
          refine xR 4 krf ?_
          refine xS (eqI a0a.Kind 1) (fun h22 => ?_) (fun h22 => ?_)
          ·refine xN (want_ft krf h22) krf ?_
           refine xR 4 krf ?_
           refine xE ?_
           refine sN ⟨[2], [], [], []⟩ ⟨[(2, B true)], []⟩ krf ?_
           refine sT ?_
           exact qR (.id) krf krf krf
          ·refine xO (want_ff krf h22) krf ?_
           refine xR 4 krf ?_
           refine xE ?_
           refine sN ⟨[2], [], [], []⟩ ⟨[(2, B (eqI a0a.Kind 2))], []⟩ krf ?_
           refine sT ?_
           exact qR (.id) krf krf krf
def g_ref32_Valid_l4 (n : Nat) (a0t : GTf) (recl4 : (Int × Int) → Option Bool) (l4_1 : Int) (l4_2 : Int) : Option Bool :=
 cond (ltI l4_2 (lenI (List.map GAr.cs a0t.Articles)))
  ((getI a0t.Articles l4_2).bind fun x5 =>
  (g_ref32_Article n x5).bind fun r6 =>
  cond (!r6)
   (some false)
   ((getI a0t.Articles l4_2).bind fun x7 =>
   cond (eqI x7.Kind 6)
    (recl4 (wi (l4_1 + 1), wi (l4_2 + 1)))
    (recl4 (l4_1, wi (l4_2 + 1)))))
  (some (leI l4_1 1))
def g_ref32_Valid (n : Nat) (a0t : GTf) : Option Bool :=
 ((g_ref02_Name n a0t.Name).bind fun r2 =>
 cond (!r2)
  (some true)
  (some (ltI 12 (lenI (List.map GAr.cs a0t.Articles))))).bind fun j1 =>
 cond j1
  (some false)
  (loopN (fun recl4 (l4_1, l4_2) => g_ref32_Valid_l4 n a0t recl4 l4_1 l4_2) n (0, 0))
theorem g_ref32_Valid_ok (n : Nat) (a0t : GTf) : ∀ r, g_ref32_Valid n a0t = some r → PCall Tryz.prog 32 [ag (GTf.cs a0t)] (.ret (B r)) := by
 refine pcall_sim (X := fun r : Bool => AEnd.ret (B r)) Tryz.func32 rfl Tryz.ntmps32 rfl ?_
 unfold g_ref32_Valid
 refine sR tfm ⟨[1], [1], [], []⟩ ⟨[(1, .ptr 1 0)], [(1, .box 24 (bxc (GTf.cs a0t)))]⟩ krf ?_
 refine sS ?_
 refine sim_bind (fun j1 => ⟨[(1, .ptr 1 0), (14, B j1)], [(1, .box 24 (bxc (GTf.cs a0t)))]⟩ : Bool → St) ?_ ?_
 ·refine sG ?_
  refine xR 2 krf ?_
  refine xC [] krf (g_ref02_Name_ok n a0t.Name) krf krf (fun _ => by kernel_rfl) (fun r2 => ?_)
  refine xR 2 krf ?_
  refine xS (!r2) (fun h3 => ?_) (fun h3 => ?_)
  ·refine xN (want_ft krf h3) krf ?_
   refine xR 4 krf ?_
   refine xE ?_
   exact nq_n true ⟨[1, 14], [1], [], []⟩ krf
  ·refine xO (want_ff krf h3) krf ?_
   refine xR 4 krf ?_
   refine xE ?_
   exact nq_n (ltI 12 (lenI (List.map GAr.cs a0t.Articles))) ⟨[1, 14], [1], [], []⟩ krf
 ·rintro j1
  refine sC j1 krf ?_ ?_
  ·refine sR tfm ⟨[2], [], [], []⟩ ⟨[(2, B false)], []⟩ krf ?_
   refine sT ?_
   refine sq_r ?_
   exact qR (.id) krf krf krf
  ·refine sK ?_
   refine sN ⟨[1], [1], [], []⟩ ⟨[(1, .ptr 1 0)], [(1, .box 24 (bxc (GTf.cs a0t)))]⟩ krf ?_
   refine sR tfm ⟨[1, 3], [1], [], []⟩ ⟨[(1, .ptr 1 0), (3, I 0)], [(1, .box 24 (bxc (GTf.cs a0t)))]⟩ krf ?_
   refine sS ?_
   refine sR tfm ⟨[1, 3, 4], [1], [], []⟩ ⟨[(1, .ptr 1 0), (3, I 0), (4, I 0)], [(1, .box 24 (bxc (GTf.cs a0t)))]⟩ krf ?_
   refine sB ?_
   refine sim_loop (fun (l4_1, l4_2) => ⟨[(1, .ptr 1 0), (3, I l4_1), (4, I l4_2)], [(1, .box 24 (bxc (GTf.cs a0t)))]⟩ : (Int × Int) → St) (weak_shr (K := ⟨[1, 3, 4], [1], [], []⟩) krf) ?_
   rintro recl4 ⟨l4_1, l4_2⟩
   show SimE (g_ref32_Valid_l4 n a0t recl4 l4_1 l4_2) _ _ _ _ _ _
   unfold g_ref32_Valid_l4
   refine sS ?_
   refine sR tfm ⟨[1, 3, 4, 19], [1], [], []⟩ ⟨[(1, .ptr 1 0), (3, I l4_1), (4, I l4_2), (19, B (ltI l4_2 (lenI (List.map GAr.cs a0t.Articles))))], [(1, .box 24 (bxc (GTf.cs a0t)))]⟩ krf ?_
   refine sC (ltI l4_2 (lenI (List.map GAr.cs a0t.Articles))) krf ?_ ?_
   ·refine sK ?_
    refine sN ⟨[1, 3, 4], [1], [], []⟩ ⟨[(1, .ptr 1 0), (3, I l4_1), (4, I l4_2)], [(1, .box 24 (bxc (GTf.cs a0t)))]⟩ krf ?_
    refine sS ?_
    refine sB ?_
    refine sS ?_
    refine sS ?_
    refine sG ?_
    refine xR 3 krf ?_
    refine xG krf krf (aop_idx (e := 45) (S := 7) (enc := GAr.cs) (l := a0t.Articles) (k := .i64) (n := l4_2) (sv := .p (.sl 7 (List.map GAr.cs a0t.Articles))) rfl krf krf krf krf krf) (fun x5 => ?_)
    refine xR 1 krf ?_
    refine xC [] krf (g_ref32_Article_ok n x5) krf krf (fun _ => by kernel_rfl) (fun r6 => ?_)
    refine xR 1 krf ?_
    refine xE ?_
    refine sN ⟨[1, 3, 4, 28], [1], [], []⟩ ⟨[(1, .ptr 1 0), (3, I l4_1), (4, I l4_2), (28, B (!r6))], [(1, .box 24 (bxc (GTf.cs a0t)))]⟩ krf ?_
    refine sC (!r6) krf ?_ ?_
    ·refine sR tfm ⟨[2], [], [], []⟩ ⟨[(2, B false)], []⟩ krf ?_
     refine sT ?_
     refine sq_r ?_
     refine bq_r ?_
     refine sq_r ?_
     refine kq_r ?_
     refine bq_r ?_
     refine sq_r ?_
     exact qR (.id) krf krf krf
    ·refine sK ?_
     refine sN ⟨[1, 3, 4], [1], [], []⟩ ⟨[(1, .ptr 1 0), (3, I l4_1), (4, I l4_2)], [(1, .box 24 (bxc (GTf.cs a0t)))]⟩ krf ?_
     refine sS ?_
     refine sG ?_
     refine xR 3 krf ?_
     refine xG krf krf (aop_idx (e := 45) (S := 7) (enc := GAr.cs) (l := a0t.Articles) (k := .i64) (n := l4_2) (sv := .p (.sl 7 (List.map GAr.cs a0t.Articles))) rfl krf krf krf krf krf) (fun x7 => ?_)
     refine xR 3 krf ?_
     refine xE ?_
     refine sN ⟨[1, 3, 4, 35], [1], [], []⟩ ⟨[(1, .ptr 1 0), (3, I l4_1), (4, I l4_2), (35, B (eqI x7.Kind 6))], [(1, .box 24 (bxc (GTf.cs a0t)))]⟩ krf ?_
     refine sC (eqI x7.Kind 6) krf ?_ ?_
     ·refine sL tfm krf ?_
      refine bq_n ?_
      refine sN ⟨[1, 3, 4], [1], [], []⟩ ⟨[(1, .ptr 1 0), (3, I (wi (l4_1 + 1))), (4, I l4_2)], [(1, .box 24 (bxc (GTf.cs a0t)))]⟩ krf ?_
      refine sL tfm krf ?_
      exact kq_n (wi (l4_1 + 1), wi (l4_2 + 1)) ⟨[1, 3, 4], [1], [], []⟩ krf
     ·refine sK ?_
      refine bq_n ?_
      refine sN ⟨[1, 3, 4], [1], [], []⟩ ⟨[(1, .ptr 1 0), (3, I l4_1), (4, I l4_2)], [(1, .box 24 (bxc (GTf.cs a0t)))]⟩ krf ?_
      refine sL tfm krf ?_
      exact kq_n (l4_1, wi (l4_2 + 1)) ⟨[1, 3, 4], [1], [], []⟩ krf
   ·refine sim_exit ?_
    refine sq_x ?_
    refine kq_x ?_
    refine bq_hit ?_
    refine sN ⟨[3], [], [], []⟩ ⟨[(3, I l4_1)], []⟩ krf ?_
    refine sR tfm ⟨[2], [], [], []⟩ ⟨[(2, B (leI l4_1 1))], []⟩ krf ?_
    refine sT ?_
    exact qR (.id) krf krf krf
def g_ref26_offset (n : Nat) (a0n : Int) : Option Bool :=
 cond (leI (-1440) a0n)
  (some (leI a0n 1440))
  (some false)
theorem g_ref26_offset_ok (n : Nat) (a0n : Int) : ∀ r, g_ref26_offset n a0n = some r → PCall Tryz.prog 48 [I a0n] (.ret (B r)) := by
 refine pcall_sim (X := fun r : Bool => AEnd.ret (B r)) Tryz.func48 rfl Tryz.ntmps48 rfl ?_
 unfold g_ref26_offset
 refine sR tfm ⟨[0], [], [], []⟩ ⟨[(0, I a0n)], []⟩ krf ?_
 refine sS ?_
 refine sG ?_
 refine xR 3 krf ?_
 refine xS (leI (-1440) a0n) (fun h1 => ?_) (fun h1 => ?_)
 ·refine xO (want_tt krf h1) krf ?_
  refine xR 3 krf ?_
  refine xE ?_
  refine sN ⟨[2], [], [], []⟩ ⟨[(2, B (leI a0n 1440))], []⟩ krf ?_
  refine sT ?_
  exact qR (.id) krf krf krf
 ·refine xN (want_tf krf h1) krf ?_
  refine xR 3 krf ?_
  refine xE ?_
  refine sN ⟨[2], [], [], []⟩ ⟨[(2, B false)], []⟩ krf ?_
  refine sT ?_
  exact qR (.id) krf krf krf
def g_ref26_Valid_l6 (a0c : GCl) (recl6 : Int → Option Bool) (l6 : Int) : Option Bool :=
 cond (ltI l6 (lenI (List.map ci a0c.Holidays)))
  ((getI a0c.Holidays l6).bind fun x7 =>
  (cond (ltI x7 0)
   (some true)
   (cond (ltI 36500 x7)
    (some true)
    (cond (ltI 0 l6)
     ((getI a0c.Holidays (wi (l6 - 1))).bind fun x12 =>
     some (leI x7 x12))
     (some false)))).bind fun j8 =>
  cond j8
   (some false)
   (recl6 (wi (l6 + 1))))
  (some true)
def g_ref26_Valid_j5 (n : Nat) (a0c : GCl) : Option Bool :=
 loopN (fun recl6 l6 => g_ref26_Valid_l6 a0c recl6 l6) n 0
def g_ref26_Valid_l13 (n : Nat) (a0c : GCl) (recl13 : Int → Option Bool) (l13 : Int) : Option Bool :=
 cond (ltI l13 (lenI (List.map GCh.cs a0c.Changes)))
  ((getI a0c.Changes l13).bind fun x14 =>
  ((g_ref26_offset n x14.Offset).bind fun r16 =>
  cond (!r16)
   (some true)
   (cond (ltI x14.At 0)
    (some true)
    (cond (ltI 52560000 x14.At)
     (some true)
     (cond (ltI 0 l13)
      ((getI a0c.Changes (wi (l13 - 1))).bind fun x21 =>
      some (leI x14.At x21.At))
      (some false))))).bind fun j15 =>
  cond j15
   (some false)
   (recl13 (wi (l13 + 1))))
  (g_ref26_Valid_j5 n a0c)
def g_ref26_Valid (n : Nat) (a0c : GCl) : Option Bool :=
 ((g_ref26_offset n a0c.Offset).bind fun r2 =>
 cond (!r2)
  (some true)
  (cond (ltI 16 (lenI (List.map GCh.cs a0c.Changes)))
   (some true)
   (some (ltI 32 (lenI (List.map ci a0c.Holidays)))))).bind fun j1 =>
 cond j1
  (some false)
  (loopN (fun recl13 l13 => g_ref26_Valid_l13 n a0c recl13 l13) n 0)
theorem g_ref26_Valid_ok (n : Nat) (a0c : GCl) : ∀ r, g_ref26_Valid n a0c = some r → PCall Tryz.prog 33 [ag (GCl.cs a0c)] (.ret (B r)) := by
 refine pcall_sim (X := fun r : Bool => AEnd.ret (B r)) Tryz.func33 rfl Tryz.ntmps33 rfl ?_
 unfold g_ref26_Valid
 refine sR tfm ⟨[1], [1], [], []⟩ ⟨[(1, .ptr 1 0)], [(1, .box 28 (bxc (GCl.cs a0c)))]⟩ krf ?_
 refine sS ?_
 refine sim_bind (fun j1 => ⟨[(1, .ptr 1 0), (22, B j1)], [(1, .box 28 (bxc (GCl.cs a0c)))]⟩ : Bool → St) ?_ ?_
 ·refine sG ?_
  refine xR 2 krf ?_
  refine xC [] krf (g_ref26_offset_ok n a0c.Offset) krf krf (fun _ => by kernel_rfl) (fun r2 => ?_)
  refine xR 2 krf ?_
  refine xS (!r2) (fun h3 => ?_) (fun h3 => ?_)
  ·refine xN (want_ft krf h3) krf ?_
   refine xR 10 krf ?_
   refine xE ?_
   exact nq_n true ⟨[1, 22], [1], [], []⟩ krf
  ·refine xO (want_ff krf h3) krf ?_
   refine xR 5 krf ?_
   refine xS (ltI 16 (lenI (List.map GCh.cs a0c.Changes))) (fun h4 => ?_) (fun h4 => ?_)
   ·refine xN (want_ft krf h4) krf ?_
    refine xR 4 krf ?_
    refine xE ?_
    exact nq_n true ⟨[1, 22], [1], [], []⟩ krf
   ·refine xO (want_ff krf h4) krf ?_
    refine xR 4 krf ?_
    refine xE ?_
    exact nq_n (ltI 32 (lenI (List.map ci a0c.Holidays))) ⟨[1, 22], [1], [], []⟩ krf
 ·rintro j1
  refine sC j1 krf ?_ ?_
  ·refine sR tfm ⟨[2], [], [], []⟩ ⟨[(2, B false)], []⟩ krf ?_
   refine sT ?_
   refine sq_r ?_
   exact qR (.id) krf krf krf
  ·refine sK ?_
   refine sN ⟨[1], [1], [], []⟩ ⟨[(1, .ptr 1 0)], [(1, .box 28 (bxc (GCl.cs a0c)))]⟩ krf ?_
   refine sim_cps (fun _ => ⟨[(1, .ptr 1 0)], [(1, .box 28 (bxc (GCl.cs a0c)))]⟩ : Unit → St) (fun _ => g_ref26_Valid_j5 n a0c) ?_ ?_
   ·rintro _
    show SimE (g_ref26_Valid_j5 n a0c) _ _ _ _ _ _
    unfold g_ref26_Valid_j5
    refine sS ?_
    refine sR tfm ⟨[1, 5], [1], [], []⟩ ⟨[(1, .ptr 1 0), (5, I 0)], [(1, .box 28 (bxc (GCl.cs a0c)))]⟩ krf ?_
    refine sB ?_
    refine sim_loop (fun l6 => ⟨[(1, .ptr 1 0), (5, I l6)], [(1, .box 28 (bxc (GCl.cs a0c)))]⟩ : Int → St) (weak_shr (K := ⟨[1, 5], [1], [], []⟩) krf) ?_
    rintro recl6 l6
    show SimE (g_ref26_Valid_l6 a0c recl6 l6) _ _ _ _ _ _
    unfold g_ref26_Valid_l6
    refine sS ?_
    refine sR tfm ⟨[1, 5, 69], [1], [], []⟩ ⟨[(1, .ptr 1 0), (5, I l6), (69, B (ltI l6 (lenI (List.map ci a0c.Holidays))))], [(1, .box 28 (bxc (GCl.cs a0c)))]⟩ krf ?_
    refine sC (ltI l6 (lenI (List.map ci a0c.Holidays))) krf ?_ ?_
    ·refine sK ?_
     refine sN ⟨[1, 5], [1], [], []⟩ ⟨[(1, .ptr 1 0), (5, I l6)], [(1, .box 28 (bxc (GCl.cs a0c)))]⟩ krf ?_
     refine sS ?_
     refine sB ?_
     refine sS ?_
     refine sG ?_
     refine xR 3 krf ?_
     refine xG krf krf (aop_idx (e := 3) (S := 1) (enc := ci) (l := a0c.Holidays) (k := .i64) (n := l6) (sv := .p (.sl 1 (List.map ci a0c.Holidays))) rfl krf krf krf krf krf) (fun x7 => ?_)
     refine xR 2 krf ?_
     refine xE ?_
     refine sN ⟨[1, 5, 6], [1], [], []⟩ ⟨[(1, .ptr 1 0), (5, I l6), (6, I x7)], [(1, .box 28 (bxc (GCl.cs a0c)))]⟩ krf ?_
     refine sim_bind (fun j8 => ⟨[(1, .ptr 1 0), (5, I l6), (96, B j8)], [(1, .box 28 (bxc (GCl.cs a0c)))]⟩ : Bool → St) ?_ ?_
     ·refine sG ?_
      refine xR 3 krf ?_
      refine xS (ltI x7 0) (fun h9 => ?_) (fun h9 => ?_)
      ·refine xN (want_ft krf h9) krf ?_
       refine xR 16 krf ?_
       refine xE ?_
       exact nq_n true ⟨[1, 5, 96], [1], [], []⟩ krf
      ·refine xO (want_ff krf h9) krf ?_
       refine xR 3 krf ?_
       refine xS (ltI 36500 x7) (fun h10 => ?_) (fun h10 => ?_)
       ·refine xN (want_ft krf h10) krf ?_
        refine xR 12 krf ?_
        refine xE ?_
        exact nq_n true ⟨[1, 5, 96], [1], [], []⟩ krf
       ·refine xO (want_ff krf h10) krf ?_
        refine xR 2 krf ?_
        refine xS (ltI 0 l6) (fun h11 => ?_) (fun h11 => ?_)
        ·refine xO (want_tt krf h11) krf ?_
         refine xR 4 krf ?_
         refine xG krf krf (aop_idx (e := 3) (S := 1) (enc := ci) (l := a0c.Holidays) (k := .i64) (n := wi (l6 - 1)) (sv := .p (.sl 1 (List.map ci a0c.Holidays))) rfl krf krf krf krf krf) (fun x12 => ?_)
         refine xR 4 krf ?_
         refine xE ?_
         exact nq_n (leI x7 x12) ⟨[1, 5, 96], [1], [], []⟩ krf
        ·refine xN (want_tf krf h11) krf ?_
         refine xR 9 krf ?_
         refine xE ?_
         exact nq_n false ⟨[1, 5, 96], [1], [], []⟩ krf
     ·rintro j8
      refine sC j8 krf ?_ ?_
      ·refine sR tfm ⟨[2], [], [], []⟩ ⟨[(2, B false)], []⟩ krf ?_
       refine sT ?_
       refine bq_r ?_
       refine sq_r ?_
       refine kq_r ?_
       refine bq_r ?_
       refine sq_r ?_
       exact qR (.id) krf krf krf
      ·refine sK ?_
       refine bq_n ?_
       refine sN ⟨[1, 5], [1], [], []⟩ ⟨[(1, .ptr 1 0), (5, I l6)], [(1, .box 28 (bxc (GCl.cs a0c)))]⟩ krf ?_
       refine sL tfm krf ?_
       exact kq_n (wi (l6 + 1)) ⟨[1, 5], [1], [], []⟩ krf
    ·refine sim_exit ?_
     refine sq_x ?_
     refine kq_x ?_
     refine bq_hit ?_
     refine sN ⟨[], [], [], []⟩ ⟨[], []⟩ krf ?_
     refine sR tfm ⟨[2], [], [], []⟩ ⟨[(2, B true)], []⟩ krf ?_
     refine sT ?_
     exact qR (.id) krf krf krf
   ·refine sR tfm ⟨[1, 3], [1], [], []⟩ ⟨[(1, .ptr 1 0), (3, I 0)], [(1, .box 28 (bxc (GCl.cs a0c)))]⟩ krf ?_
    refine sB ?_
    refine sim_loop (fun l13 => ⟨[(1, .ptr 1 0), (3, I l13)], [(1, .box 28 (bxc (GCl.cs a0c)))]⟩ : Int → St) (weak_shr (K := ⟨[1, 3], [1], [], []⟩) krf) ?_
    rintro recl13 l13
    show SimE (g_ref26_Valid_l13 n a0c recl13 l13) _ _ _ _ _ _
    unfold g_ref26_Valid_l13
    refine sS ?_
    refine sR tfm ⟨[1, 3, 27], [1], [], []⟩ ⟨[(1, .ptr 1 0), (3, I l13), (27, B (ltI l13 (lenI (List.map GCh.cs a0c.Changes))))], [(1, .box 28 (bxc (GCl.cs a0c)))]⟩ krf ?_
    refine sC (ltI l13 (lenI (List.map GCh.cs a0c.Changes))) krf ?_ ?_
    ·refine sK ?_
     refine sN ⟨[1, 3], [1], [], []⟩ ⟨[(1, .ptr 1 0), (3, I l13)], [(1, .box 28 (bxc (GCl.cs a0c)))]⟩ krf ?_
     refine sS ?_
     refine sB ?_
     refine sS ?_
     refine sG ?_
     refine xR 3 krf ?_
     refine xG krf krf (aop_idx (e := 81) (S := 2) (enc := GCh.cs) (l := a0c.Changes) (k := .i64) (n := l13) (sv := .p (.sl 2 (List.map GCh.cs a0c.Changes))) rfl krf krf krf krf krf) (fun x14 => ?_)
     refine xR 3 krf ?_
     refine xE ?_
     refine sN ⟨[1, 3, 4], [1, 4], [], []⟩ ⟨[(1, .ptr 1 0), (3, I l13), (4, .ptr 4 0)], [(1, .box 28 (bxc (GCl.cs a0c))), (4, .box 81 (bxc (GCh.cs x14)))]⟩ krf ?_
     refine sim_bind (fun j15 => ⟨[(1, .ptr 1 0), (3, I l13), (64, B j15)], [(1, .box 28 (bxc (GCl.cs a0c)))]⟩ : Bool → St) ?_ ?_
     ·refine sim_drw tfm rfl ?_
      refine xR 2 krf ?_
      refine xC [] krf (g_ref26_offset_ok n x14.Offset) krf krf (fun _ => by kernel_rfl) (fun r16 => ?_)
      refine xR 2 krf ?_
      refine xS (!r16) (fun h17 => ?_) (fun h17 => ?_)
      ·refine xN (want_ft krf h17) krf ?_
       refine xR 24 krf ?_
       refine xs_endD krf ?_
       exact nq_n true ⟨[1, 3, 64], [1], [], []⟩ krf
      ·refine xO (want_ff krf h17) krf ?_
       refine xR 4 krf ?_
       refine xS (ltI x14.At 0) (fun h18 => ?_) (fun h18 => ?_)
       ·refine xN (want_ft krf h18) krf ?_
        refine xR 19 krf ?_
        refine xs_endD krf ?_
        exact nq_n true ⟨[1, 3, 64], [1], [], []⟩ krf
       ·refine xO (want_ff krf h18) krf ?_
        refine xR 4 krf ?_
        refine xS (ltI 52560000 x14.At) (fun h19 => ?_) (fun h19 => ?_)
        ·refine xN (want_ft krf h19) krf ?_
         refine xR 14 krf ?_
         refine xs_endD krf ?_
         exact nq_n true ⟨[1, 3, 64], [1], [], []⟩ krf
        ·refine xO (want_ff krf h19) krf ?_
         refine xR 2 krf ?_
         refine xS (ltI 0 l13) (fun h20 => ?_) (fun h20 => ?_)
         ·refine xO (want_tt krf h20) krf ?_
          refine xR 5 krf ?_
          refine xG krf krf (aop_idx (e := 81) (S := 2) (enc := GCh.cs) (l := a0c.Changes) (k := .i64) (n := wi (l13 - 1)) (sv := .p (.sl 2 (List.map GCh.cs a0c.Changes))) rfl krf krf krf krf krf) (fun x21 => ?_)
          refine xR 5 krf ?_
          refine xs_endD krf ?_
          exact nq_n (leI x14.At x21.At) ⟨[1, 3, 64], [1], [], []⟩ krf
         ·refine xN (want_tf krf h20) krf ?_
          refine xR 11 krf ?_
          refine xs_endD krf ?_
          exact nq_n false ⟨[1, 3, 64], [1], [], []⟩ krf
     ·rintro j15
      refine sC j15 krf ?_ ?_
      ·refine sR tfm ⟨[2], [], [], []⟩ ⟨[(2, B false)], []⟩ krf ?_
       refine sT ?_
       refine bq_r ?_
       refine sq_r ?_
       refine kq_r ?_
       refine bq_r ?_
       refine kq_r ?_
       exact qR (.id) krf krf krf
      ·refine sK ?_
       refine bq_n ?_
       refine sN ⟨[1, 3], [1], [], []⟩ ⟨[(1, .ptr 1 0), (3, I l13)], [(1, .box 28 (bxc (GCl.cs a0c)))]⟩ krf ?_
       refine sL tfm krf ?_
       exact kq_n (wi (l13 + 1)) ⟨[1, 3], [1], [], []⟩ krf
    ·refine sim_exit ?_
     refine sq_x ?_
     refine kq_x ?_
     refine bq_hit ?_
     exact kq_n (k := fun _ => g_ref26_Valid_j5 n a0c) () ⟨[1], [1], [], []⟩ krf
def g_ref34_valid (n : Nat) (a0t : GTf) (a1c : GCl) (a2s : GSs) : Option Bool :=
 (g_ref32_Valid n a0t).bind fun r1 =>
 cond r1
  ((g_ref26_Valid n a1c).bind fun r3 =>
  cond r3
   ((g_ref33_Valid n a2s).bind fun r5 =>
   some r5)
   (some false))
  (some false)
theorem g_ref34_valid_ok (n : Nat) (a0t : GTf) (a1c : GCl) (a2s : GSs) : ∀ r, g_ref34_valid n a0t a1c a2s = some r → PCall Tryz.prog 23 [ag (GTf.cs a0t), ag (GCl.cs a1c), ag (GSs.cs a2s)] (.ret (B r)) := by
 refine pcall_sim (X := fun r : Bool => AEnd.ret (B r)) Tryz.func23 rfl Tryz.ntmps23 rfl ?_
 unfold g_ref34_valid
 refine sR tfm ⟨[3, 4, 5], [3, 4, 5], [], []⟩ ⟨[(3, .ptr 3 0), (4, .ptr 4 0), (5, .ptr 5 0)], [(3, .box 24 (bxc (GTf.cs a0t))), (4, .box 28 (bxc (GCl.cs a1c))), (5, .box 31 (bxc (GSs.cs a2s)))]⟩ krf ?_
 refine sS ?_
 refine sG ?_
 refine xR 1 krf ?_
 refine xC [] krf (g_ref32_Valid_ok n a0t) krf krf (fun _ => by kernel_rfl) (fun r1 => ?_)
 refine xR 1 krf ?_
 refine xS r1 (fun h2 => ?_) (fun h2 => ?_)
 ·refine xO (want_tt krf h2) krf ?_
  refine xC [] krf (g_ref26_Valid_ok n a1c) krf krf (fun _ => by kernel_rfl) (fun r3 => ?_)
  refine xR 2 krf ?_
  refine xS r3 (fun h4 => ?_) (fun h4 => ?_)
  ·refine xO (want_tt krf h4) krf ?_
   refine xC [] krf (g_ref33_Valid_ok n a2s) krf krf (fun _ => by kernel_rfl) (fun r5 => ?_)
   refine xR 2 krf ?_
   refine xE ?_
   refine sN ⟨[6], [], [], []⟩ ⟨[(6, B r5)], []⟩ krf ?_
   refine sT ?_
   exact qR (.id) krf krf krf
  ·refine xN (want_tf krf h4) krf ?_
   refine xR 3 krf ?_
   refine xE ?_
   refine sN ⟨[6], [], [], []⟩ ⟨[(6, B false)], []⟩ krf ?_
   refine sT ?_
   exact qR (.id) krf krf krf
 ·refine xN (want_tf krf h2) krf ?_
  refine xR 7 krf ?_
  refine xE ?_
  refine sN ⟨[6], [], [], []⟩ ⟨[(6, B false)], []⟩ krf ?_
  refine sT ?_
  exact qR (.id) krf krf krf
def g_ref26_Offset_l1 (a0c : GCl) (a1minute : Int) (recl1 : (Int × Int) → Option Int) (l1_1 : Int) (l1_2 : Int) : Option Int :=
 cond (ltI l1_2 (lenI (List.map GCh.cs a0c.Changes)))
  ((getI a0c.Changes l1_2).bind fun x2 =>
  cond (leI x2.At a1minute)
   ((getI a0c.Changes l1_2).bind fun x3 =>
   recl1 (x3.Offset, wi (l1_2 + 1)))
   (recl1 (l1_1, wi (l1_2 + 1))))
  (some l1_1)
def g_ref26_Offset (n : Nat) (a0c : GCl) (a1minute : Int) : Option Int :=
 loopN (fun recl1 (l1_1, l1_2) => g_ref26_Offset_l1 a0c a1minute recl1 l1_1 l1_2) n (a0c.Offset, 0)
theorem g_ref26_Offset_ok (n : Nat) (a0c : GCl) (a1minute : Int) : ∀ r, g_ref26_Offset n a0c a1minute = some r → PCall Tryz.prog 96 [ag (GCl.cs a0c), I a1minute] (.ret (I r)) := by
 refine pcall_sim (X := fun r : Int => AEnd.ret (I r)) Tryz.func96 rfl Tryz.ntmps96 rfl ?_
 unfold g_ref26_Offset
 refine sR tfm ⟨[1, 2], [2], [], []⟩ ⟨[(1, I a1minute), (2, .ptr 2 0)], [(2, .box 28 (bxc (GCl.cs a0c)))]⟩ krf ?_
 refine sR tfm ⟨[1, 2, 5], [2], [], []⟩ ⟨[(1, I a1minute), (2, .ptr 2 0), (5, I a0c.Offset)], [(2, .box 28 (bxc (GCl.cs a0c)))]⟩ krf ?_
 refine sS ?_
 refine sR tfm ⟨[1, 2, 5, 6], [2], [], []⟩ ⟨[(1, I a1minute), (2, .ptr 2 0), (5, I a0c.Offset), (6, I 0)], [(2, .box 28 (bxc (GCl.cs a0c)))]⟩ krf ?_
 refine sB ?_
 refine sim_loop (fun (l1_1, l1_2) => ⟨[(1, I a1minute), (2, .ptr 2 0), (5, I l1_1), (6, I l1_2)], [(2, .box 28 (bxc (GCl.cs a0c)))]⟩ : (Int × Int) → St) (weak_shr (K := ⟨[1, 2, 5, 6], [2], [], []⟩) krf) ?_
 rintro recl1 ⟨l1_1, l1_2⟩
 show SimE (g_ref26_Offset_l1 a0c a1minute recl1 l1_1 l1_2) _ _ _ _ _ _
 unfold g_ref26_Offset_l1
 refine sS ?_
 refine sR tfm ⟨[1, 2, 5, 6, 13], [2], [], []⟩ ⟨[(1, I a1minute), (2, .ptr 2 0), (5, I l1_1), (6, I l1_2), (13, B (ltI l1_2 (lenI (List.map GCh.cs a0c.Changes))))], [(2, .box 28 (bxc (GCl.cs a0c)))]⟩ krf ?_
 refine sC (ltI l1_2 (lenI (List.map GCh.cs a0c.Changes))) krf ?_ ?_
 ·refine sK ?_
  refine sN ⟨[1, 2, 5, 6], [2], [], []⟩ ⟨[(1, I a1minute), (2, .ptr 2 0), (5, I l1_1), (6, I l1_2)], [(2, .box 28 (bxc (GCl.cs a0c)))]⟩ krf ?_
  refine sS ?_
  refine sB ?_
  refine sS ?_
  refine sG ?_
  refine xR 3 krf ?_
  refine xG krf krf (aop_idx (e := 81) (S := 2) (enc := GCh.cs) (l := a0c.Changes) (k := .i64) (n := l1_2) (sv := .p (.sl 2 (List.map GCh.cs a0c.Changes))) rfl krf krf krf krf krf) (fun x2 => ?_)
  refine xR 4 krf ?_
  refine xE ?_
  refine sN ⟨[1, 2, 5, 6, 23], [2], [], []⟩ ⟨[(1, I a1minute), (2, .ptr 2 0), (5, I l1_1), (6, I l1_2), (23, B (leI x2.At a1minute))], [(2, .box 28 (bxc (GCl.cs a0c)))]⟩ krf ?_
  refine sC (leI x2.At a1minute) krf ?_ ?_
  ·refine sG ?_
   refine xR 3 krf ?_
   refine xG krf krf (aop_idx (e := 81) (S := 2) (enc := GCh.cs) (l := a0c.Changes) (k := .i64) (n := l1_2) (sv := .p (.sl 2 (List.map GCh.cs a0c.Changes))) rfl krf krf krf krf krf) (fun x3 => ?_)
   refine xR 3 krf ?_
   refine xE ?_
   refine bq_n ?_
   refine sN ⟨[1, 2, 5, 6], [2], [], []⟩ ⟨[(1, I a1minute), (2, .ptr 2 0), (5, I x3.Offset), (6, I l1_2)], [(2, .box 28 (bxc (GCl.cs a0c)))]⟩ krf ?_
   refine sL tfm krf ?_
   exact kq_n (x3.Offset, wi (l1_2 + 1)) ⟨[1, 2, 5, 6], [2], [], []⟩ krf
  ·refine sK ?_
   refine bq_n ?_
   refine sN ⟨[1, 2, 5, 6], [2], [], []⟩ ⟨[(1, I a1minute), (2, .ptr 2 0), (5, I l1_1), (6, I l1_2)], [(2, .box 28 (bxc (GCl.cs a0c)))]⟩ krf ?_
   refine sL tfm krf ?_
   exact kq_n (l1_1, wi (l1_2 + 1)) ⟨[1, 2, 5, 6], [2], [], []⟩ krf
 ·refine sim_exit ?_
  refine sq_x ?_
  refine kq_x ?_
  refine bq_hit ?_
  refine sN ⟨[5], [], [], []⟩ ⟨[(5, I l1_1)], []⟩ krf ?_
  refine sR tfm ⟨[4], [], [], []⟩ ⟨[(4, I l1_1)], []⟩ krf ?_
  refine sT ?_
  exact qR (.id) krf krf krf
def g_ref26_Local (n : Nat) (a0c : GCl) (a1minute : Int) : Option (Int × Int × Int) :=
 ((g_ref26_Valid n a0c).bind fun r2 =>
 cond (!r2)
  (some true)
  (cond (ltI a1minute 0)
   (some true)
   (some (ltI 52560000 a1minute)))).bind fun j1 =>
 cond j1
  (some (0, 0, 1))
  ((g_ref26_Offset n a0c a1minute).bind fun r5 =>
  cond (ltI (wi (a1minute + r5)) 0)
   (some ((-1), wi ((wi (a1minute + r5)) - (-1440)), 0))
   (some (wi (Int.tdiv (wi (a1minute + r5)) 1440), wi ((wi (a1minute + r5)) - (wi (1440 * (wi (Int.tdiv (wi (a1minute + r5)) 1440))))), 0)))
theorem g_ref26_Local_ok (n : Nat) (a0c : GCl) (a1minute : Int) : ∀ r, g_ref26_Local n a0c a1minute = some r → PCall Tryz.prog 85 [ag (GCl.cs a0c), I a1minute] (.ret (.tup [I r.1, I r.2.1, I r.2.2])) := by
 refine pcall_sim (X := fun r : Int × Int × Int => AEnd.ret (.tup [I r.1, I r.2.1, I r.2.2])) Tryz.func85 rfl Tryz.ntmps85 rfl ?_
 unfold g_ref26_Local
 refine sR tfm ⟨[1, 2], [2], [], []⟩ ⟨[(1, I a1minute), (2, .ptr 2 0)], [(2, .box 28 (bxc (GCl.cs a0c)))]⟩ krf ?_
 refine sS ?_
 refine sim_bind (fun j1 => ⟨[(1, I a1minute), (2, .ptr 2 0), (19, B j1)], [(2, .box 28 (bxc (GCl.cs a0c)))]⟩ : Bool → St) ?_ ?_
 ·refine sG ?_
  refine xR 1 krf ?_
  refine xC [] krf (g_ref26_Valid_ok n a0c) krf krf (fun _ => by kernel_rfl) (fun r2 => ?_)
  refine xR 2 krf ?_
  refine xS (!r2) (fun h3 => ?_) (fun h3 => ?_)
  ·refine xN (want_ft krf h3) krf ?_
   refine xR 6 krf ?_
   refine xE ?_
   exact nq_n true ⟨[1, 2, 19], [2], [], []⟩ krf
  ·refine xO (want_ff krf h3) krf ?_
   refine xR 3 krf ?_
   refine xS (ltI a1minute 0) (fun h4 => ?_) (fun h4 => ?_)
   ·refine xN (want_ft krf h4) krf ?_
    refine xR 2 krf ?_
    refine xE ?_
    exact nq_n true ⟨[1, 2, 19], [2], [], []⟩ krf
   ·refine xO (want_ff krf h4) krf ?_
    refine xR 2 krf ?_
    refine xE ?_
    exact nq_n (ltI 52560000 a1minute) ⟨[1, 2, 19], [2], [], []⟩ krf
 ·rintro j1
  refine sC j1 krf ?_ ?_
  ·refine sR tfm ⟨[4, 5, 6], [], [], []⟩ ⟨[(4, I 0), (5, I 0), (6, I 1)], []⟩ krf ?_
   refine sT ?_
   refine sq_r ?_
   exact qR (.id) krf krf krf
  ·refine sK ?_
   refine sN ⟨[1, 2], [2], [], []⟩ ⟨[(1, I a1minute), (2, .ptr 2 0)], [(2, .box 28 (bxc (GCl.cs a0c)))]⟩ krf ?_
   refine sS ?_
   refine sG ?_
   refine xR 3 krf ?_
   refine xC [] krf (g_ref26_Offset_ok n a0c a1minute) krf krf (fun _ => by kernel_rfl) (fun r5 => ?_)
   refine xR 2 krf ?_
   refine xE ?_
   refine sN ⟨[7], [], [], []⟩ ⟨[(7, I (wi (a1minute + r5)))], []⟩ krf ?_
   refine sR tfm ⟨[7], [], [], []⟩ ⟨[(7, I (wi (a1minute + r5)))], []⟩ krf ?_
   refine sS ?_
   refine sR tfm ⟨[7, 26], [], [], []⟩ ⟨[(7, I (wi (a1minute + r5))), (26, B (ltI (wi (a1minute + r5)) 0))], []⟩ krf ?_
   refine sC (ltI (wi (a1minute + r5)) 0) krf ?_ ?_
   ·refine sL tfm krf ?_
    refine sN ⟨[7, 8], [], [], []⟩ ⟨[(7, I (wi (a1minute + r5))), (8, I (-1))], []⟩ krf ?_
    refine sR tfm ⟨[4, 5, 6], [], [], []⟩ ⟨[(4, I (-1)), (5, I (wi ((wi (a1minute + r5)) - (-1440)))), (6, I 0)], []⟩ krf ?_
    refine sT ?_
    exact qR (.id) krf krf krf
   ·refine sL tfm krf ?_
    refine sN ⟨[7, 8], [], [], []⟩ ⟨[(7, I (wi (a1minute + r5))), (8, I (wi (Int.tdiv (wi (a1minute + r5)) 1440)))], []⟩ krf ?_
    refine sR tfm ⟨[4, 5, 6], [], [], []⟩ ⟨[(4, I (wi (Int.tdiv (wi (a1minute + r5)) 1440))), (5, I (wi ((wi (a1minute + r5)) - (wi (1440 * (wi (Int.tdiv (wi (a1minute + r5)) 1440))))))), (6, I 0)], []⟩ krf ?_
    refine sT ?_
    exact qR (.id) krf krf krf
def g_ref26_Type_j5 (a1day : Int) : Option (Int × Int) :=
 cond (eqI (Int.tmod (wi (a1day + 7)) 7) 6)
  (some (2, 0))
  (cond (eqI (Int.tmod (wi (a1day + 7)) 7) 5)
   (some (1, 0))
   (some (0, 0)))
def g_ref26_Type_l6 (a0c : GCl) (a1day : Int) (recl6 : Int → Option (Int × Int)) (l6 : Int) : Option (Int × Int) :=
 cond (ltI l6 (lenI (List.map ci a0c.Holidays)))
  ((getI a0c.Holidays l6).bind fun x7 =>
  cond (eqI x7 a1day)
   (some (2, 0))
   (recl6 (wi (l6 + 1))))
  (g_ref26_Type_j5 a1day)
def g_ref26_Type (n : Nat) (a0c : GCl) (a1day : Int) : Option (Int × Int) :=
 ((g_ref26_Valid n a0c).bind fun r2 =>
 cond (!r2)
  (some true)
  (cond (ltI a1day (-1))
   (some true)
   (some (ltI 36501 a1day)))).bind fun j1 =>
 cond j1
  (some (0, 1))
  (loopN (fun recl6 l6 => g_ref26_Type_l6 a0c a1day recl6 l6) n 0)
theorem g_ref26_Type_ok (n : Nat) (a0c : GCl) (a1day : Int) : ∀ r, g_ref26_Type n a0c a1day = some r → PCall Tryz.prog 86 [ag (GCl.cs a0c), I a1day] (.ret (.tup [I r.1, I r.2])) := by
 refine pcall_sim (X := fun r : Int × Int => AEnd.ret (.tup [I r.1, I r.2])) Tryz.func86 rfl Tryz.ntmps86 rfl ?_
 unfold g_ref26_Type
 refine sR tfm ⟨[1, 2], [2], [], []⟩ ⟨[(1, I a1day), (2, .ptr 2 0)], [(2, .box 28 (bxc (GCl.cs a0c)))]⟩ krf ?_
 refine sS ?_
 refine sim_bind (fun j1 => ⟨[(1, I a1day), (2, .ptr 2 0), (18, B j1)], [(2, .box 28 (bxc (GCl.cs a0c)))]⟩ : Bool → St) ?_ ?_
 ·refine sG ?_
  refine xR 1 krf ?_
  refine xC [] krf (g_ref26_Valid_ok n a0c) krf krf (fun _ => by kernel_rfl) (fun r2 => ?_)
  refine xR 2 krf ?_
  refine xS (!r2) (fun h3 => ?_) (fun h3 => ?_)
  ·refine xN (want_ft krf h3) krf ?_
   refine xR 6 krf ?_
   refine xE ?_
   exact nq_n true ⟨[1, 2, 18], [2], [], []⟩ krf
  ·refine xO (want_ff krf h3) krf ?_
   refine xR 3 krf ?_
   refine xS (ltI a1day (-1)) (fun h4 => ?_) (fun h4 => ?_)
   ·refine xN (want_ft krf h4) krf ?_
    refine xR 2 krf ?_
    refine xE ?_
    exact nq_n true ⟨[1, 2, 18], [2], [], []⟩ krf
   ·refine xO (want_ff krf h4) krf ?_
    refine xR 2 krf ?_
    refine xE ?_
    exact nq_n (ltI 36501 a1day) ⟨[1, 2, 18], [2], [], []⟩ krf
 ·rintro j1
  refine sC j1 krf ?_ ?_
  ·refine sR tfm ⟨[4, 5], [], [], []⟩ ⟨[(4, I 0), (5, I 1)], []⟩ krf ?_
   refine sT ?_
   refine sq_r ?_
   exact qR (.id) krf krf krf
  ·refine sK ?_
   refine sN ⟨[1, 2], [2], [], []⟩ ⟨[(1, I a1day), (2, .ptr 2 0)], [(2, .box 28 (bxc (GCl.cs a0c)))]⟩ krf ?_
   refine sim_cps (fun _ => ⟨[(1, I a1day)], []⟩ : Unit → St) (fun _ => g_ref26_Type_j5 a1day) ?_ ?_
   ·rintro _
    show SimE (g_ref26_Type_j5 a1day) _ _ _ _ _ _
    unfold g_ref26_Type_j5
    refine sR tfm ⟨[7], [], [], []⟩ ⟨[(7, I (Int.tmod (wi (a1day + 7)) 7))], []⟩ krf ?_
    refine sS ?_
    refine sR tfm ⟨[7, 37], [], [], []⟩ ⟨[(7, I (Int.tmod (wi (a1day + 7)) 7)), (37, B (eqI (Int.tmod (wi (a1day + 7)) 7) 6))], []⟩ krf ?_
    refine sC (eqI (Int.tmod (wi (a1day + 7)) 7) 6) krf ?_ ?_
    ·refine sR tfm ⟨[4, 5], [], [], []⟩ ⟨[(4, I 2), (5, I 0)], []⟩ krf ?_
     refine sT ?_
     refine sq_r ?_
     exact qR (.id) krf krf krf
    ·refine sK ?_
     refine sN ⟨[7], [], [], []⟩ ⟨[(7, I (Int.tmod (wi (a1day + 7)) 7))], []⟩ krf ?_
     refine sS ?_
     refine sR tfm ⟨[39], [], [], []⟩ ⟨[(39, B (eqI (Int.tmod (wi (a1day + 7)) 7) 5))], []⟩ krf ?_
     refine sC (eqI (Int.tmod (wi (a1day + 7)) 7) 5) krf ?_ ?_
     ·refine sR tfm ⟨[4, 5], [], [], []⟩ ⟨[(4, I 1), (5, I 0)], []⟩ krf ?_
      refine sT ?_
      refine sq_r ?_
      exact qR (.id) krf krf krf
     ·refine sK ?_
      refine sN ⟨[], [], [], []⟩ ⟨[], []⟩ krf ?_
      refine sR tfm ⟨[4, 5], [], [], []⟩ ⟨[(4, I 0), (5, I 0)], []⟩ krf ?_
      refine sT ?_
      exact qR (.id) krf krf krf
   ·refine sR tfm ⟨[1, 2, 6], [2], [], []⟩ ⟨[(1, I a1day), (2, .ptr 2 0), (6, I 0)], [(2, .box 28 (bxc (GCl.cs a0c)))]⟩ krf ?_
    refine sB ?_
    refine sim_loop (fun l6 => ⟨[(1, I a1day), (2, .ptr 2 0), (6, I l6)], [(2, .box 28 (bxc (GCl.cs a0c)))]⟩ : Int → St) (weak_shr (K := ⟨[1, 2, 6], [2], [], []⟩) krf) ?_
    rintro recl6 l6
    show SimE (g_ref26_Type_l6 a0c a1day recl6 l6) _ _ _ _ _ _
    unfold g_ref26_Type_l6
    refine sS ?_
    refine sR tfm ⟨[1, 2, 6, 23], [2], [], []⟩ ⟨[(1, I a1day), (2, .ptr 2 0), (6, I l6), (23, B (ltI l6 (lenI (List.map ci a0c.Holidays))))], [(2, .box 28 (bxc (GCl.cs a0c)))]⟩ krf ?_
    refine sC (ltI l6 (lenI (List.map ci a0c.Holidays))) krf ?_ ?_
    ·refine sK ?_
     refine sN ⟨[1, 2, 6], [2], [], []⟩ ⟨[(1, I a1day), (2, .ptr 2 0), (6, I l6)], [(2, .box 28 (bxc (GCl.cs a0c)))]⟩ krf ?_
     refine sS ?_
     refine sB ?_
     refine sS ?_
     refine sG ?_
     refine xR 3 krf ?_
     refine xG krf krf (aop_idx (e := 3) (S := 1) (enc := ci) (l := a0c.Holidays) (k := .i64) (n := l6) (sv := .p (.sl 1 (List.map ci a0c.Holidays))) rfl krf krf krf krf krf) (fun x7 => ?_)
     refine xR 3 krf ?_
     refine xE ?_
     refine sN ⟨[1, 2, 6, 32], [2], [], []⟩ ⟨[(1, I a1day), (2, .ptr 2 0), (6, I l6), (32, B (eqI x7 a1day))], [(2, .box 28 (bxc (GCl.cs a0c)))]⟩ krf ?_
     refine sC (eqI x7 a1day) krf ?_ ?_
     ·refine sR tfm ⟨[4, 5], [], [], []⟩ ⟨[(4, I 2), (5, I 0)], []⟩ krf ?_
      refine sT ?_
      refine bq_r ?_
      refine sq_r ?_
      refine kq_r ?_
      refine bq_r ?_
      refine kq_r ?_
      exact qR (.id) krf krf krf
     ·refine sK ?_
      refine bq_n ?_
      refine sN ⟨[1, 2, 6], [2], [], []⟩ ⟨[(1, I a1day), (2, .ptr 2 0), (6, I l6)], [(2, .box 28 (bxc (GCl.cs a0c)))]⟩ krf ?_
      refine sL tfm krf ?_
      exact kq_n (wi (l6 + 1)) ⟨[1, 2, 6], [2], [], []⟩ krf
    ·refine sim_exit ?_
     refine sq_x ?_
     refine kq_x ?_
     refine bq_hit ?_
     exact kq_n (k := fun _ => g_ref26_Type_j5 a1day) () ⟨[1], [], [], []⟩ krf
def g_ref32_Applies (n : Nat) (a0a : GAr) (a1c : GCl) (a2minute : Int) : Option Bool :=
 (g_ref32_Article n a0a).bind fun r1 =>
 cond (!r1)
  (some false)
  ((g_ref26_Local n a1c a2minute).bind fun r2 =>
  cond (!eqI r2.2.2 0)
   (some false)
   ((g_ref26_Type n a1c r2.1).bind fun r3 =>
   (cond (eqI r3.1 1)
    (some (eqI (Int.tmod (wi (Int.tdiv a0a.Days 2)) 2) 1))
    (some (eqI (Int.tmod a0a.Days 2) 1))).bind fun j4 =>
   (cond (eqI r3.1 2)
    (some (eqI (Int.tmod (wi (Int.tdiv a0a.Days 4)) 2) 1))
    (some j4)).bind fun j5 =>
   cond j5
    (cond (leI a0a.From r2.2.1)
     (some (ltI r2.2.1 a0a.To))
     (some false))
    (some false)))
theorem g_ref32_Applies_ok (n : Nat) (a0a : GAr) (a1c : GCl) (a2minute : Int) : ∀ r, g_ref32_Applies n a0a a1c a2minute = some r → PCall Tryz.prog 79 [ag (GAr.cs a0a), ag (GCl.cs a1c), I a2minute] (.ret (B r)) := by
 refine pcall_sim (X := fun r : Bool => AEnd.ret (B r)) Tryz.func79 rfl Tryz.ntmps79 rfl ?_
 unfold g_ref32_Applies
 refine sR tfm ⟨[2, 3, 4], [3, 4], [], []⟩ ⟨[(2, I a2minute), (3, .ptr 3 0), (4, .ptr 4 0)], [(3, .box 45 (bxc (GAr.cs a0a))), (4, .box 28 (bxc (GCl.cs a1c)))]⟩ krf ?_
 refine sS ?_
 refine sS ?_
 refine sG ?_
 refine xR 1 krf ?_
 refine xC [] krf (g_ref32_Article_ok n a0a) krf krf (fun _ => by kernel_rfl) (fun r1 => ?_)
 refine xR 1 krf ?_
 refine xE ?_
 refine sN ⟨[2, 3, 4, 15], [3, 4], [], []⟩ ⟨[(2, I a2minute), (3, .ptr 3 0), (4, .ptr 4 0), (15, B (!r1))], [(3, .box 45 (bxc (GAr.cs a0a))), (4, .box 28 (bxc (GCl.cs a1c)))]⟩ krf ?_
 refine sC (!r1) krf ?_ ?_
 ·refine sR tfm ⟨[6], [], [], []⟩ ⟨[(6, B false)], []⟩ krf ?_
  refine sT ?_
  refine sq_r ?_
  exact qR (.id) krf krf krf
 ·refine sK ?_
  refine sN ⟨[2, 3, 4], [3, 4], [], []⟩ ⟨[(2, I a2minute), (3, .ptr 3 0), (4, .ptr 4 0)], [(3, .box 45 (bxc (GAr.cs a0a))), (4, .box 28 (bxc (GCl.cs a1c)))]⟩ krf ?_
  refine sS ?_
  refine sG ?_
  refine xR 2 krf ?_
  refine xC [] krf (g_ref26_Local_ok n a1c a2minute) krf krf (fun _ => by kernel_rfl) (fun r2 => ?_)
  refine xR 7 krf ?_
  refine xE ?_
  refine sN ⟨[3, 4, 7, 8, 9], [3, 4], [], []⟩ ⟨[(3, .ptr 3 0), (4, .ptr 4 0), (7, I r2.1), (8, I r2.2.1), (9, I r2.2.2)], [(3, .box 45 (bxc (GAr.cs a0a))), (4, .box 28 (bxc (GCl.cs a1c)))]⟩ krf ?_
  refine sS ?_
  refine sR tfm ⟨[3, 4, 7, 8, 24], [3, 4], [], []⟩ ⟨[(3, .ptr 3 0), (4, .ptr 4 0), (7, I r2.1), (8, I r2.2.1), (24, B (!eqI r2.2.2 0))], [(3, .box 45 (bxc (GAr.cs a0a))), (4, .box 28 (bxc (GCl.cs a1c)))]⟩ krf ?_
  refine sC (!eqI r2.2.2 0) krf ?_ ?_
  ·refine sR tfm ⟨[6], [], [], []⟩ ⟨[(6, B false)], []⟩ krf ?_
   refine sT ?_
   refine sq_r ?_
   exact qR (.id) krf krf krf
  ·refine sK ?_
   refine sN ⟨[3, 4, 7, 8], [3, 4], [], []⟩ ⟨[(3, .ptr 3 0), (4, .ptr 4 0), (7, I r2.1), (8, I r2.2.1)], [(3, .box 45 (bxc (GAr.cs a0a))), (4, .box 28 (bxc (GCl.cs a1c)))]⟩ krf ?_
   refine sS ?_
   refine sG ?_
   refine xR 2 krf ?_
   refine xC [] krf (g_ref26_Type_ok n a1c r2.1) krf krf (fun _ => by kernel_rfl) (fun r3 => ?_)
   refine xR 5 krf ?_
   refine xE ?_
   refine sN ⟨[3, 8, 10], [3], [], []⟩ ⟨[(3, .ptr 3 0), (8, I r2.2.1), (10, I r3.1)], [(3, .box 45 (bxc (GAr.cs a0a)))]⟩ krf ?_
   refine sR tfm ⟨[3, 8, 10, 12], [3], [], []⟩ ⟨[(3, .ptr 3 0), (8, I r2.2.1), (10, I r3.1), (12, B (eqI (Int.tmod a0a.Days 2) 1))], [(3, .box 45 (bxc (GAr.cs a0a)))]⟩ krf ?_
   refine sim_bind (fun j4 => ⟨[(3, .ptr 3 0), (8, I r2.2.1), (10, I r3.1), (12, B j4)], [(3, .box 45 (bxc (GAr.cs a0a)))]⟩ : Bool → St) ?_ ?_
   ·refine sR tfm ⟨[3, 8, 10, 12, 36], [3], [], []⟩ ⟨[(3, .ptr 3 0), (8, I r2.2.1), (10, I r3.1), (12, B (eqI (Int.tmod a0a.Days 2) 1)), (36, B (eqI r3.1 1))], [(3, .box 45 (bxc (GAr.cs a0a)))]⟩ krf ?_
    refine sC (eqI r3.1 1) krf ?_ ?_
    ·refine sL tfm krf ?_
     exact nq_n (eqI (Int.tmod (wi (Int.tdiv a0a.Days 2)) 2) 1) ⟨[3, 8, 10, 12], [3], [], []⟩ krf
    ·refine sK ?_
     exact nq_n (eqI (Int.tmod a0a.Days 2) 1) ⟨[3, 8, 10, 12], [3], [], []⟩ krf
   ·rintro j4
    refine sim_bind (fun j5 => ⟨[(3, .ptr 3 0), (8, I r2.2.1), (12, B j5)], [(3, .box 45 (bxc (GAr.cs a0a)))]⟩ : Bool → St) ?_ ?_
    ·refine sR tfm ⟨[3, 8, 12, 43], [3], [], []⟩ ⟨[(3, .ptr 3 0), (8, I r2.2.1), (12, B j4), (43, B (eqI r3.1 2))], [(3, .box 45 (bxc (GAr.cs a0a)))]⟩ krf ?_
     refine sC (eqI r3.1 2) krf ?_ ?_
     ·refine sL tfm krf ?_
      exact nq_n (eqI (Int.tmod (wi (Int.tdiv a0a.Days 4)) 2) 1) ⟨[3, 8, 12], [3], [], []⟩ krf
     ·refine sK ?_
      exact nq_n j4 ⟨[3, 8, 12], [3], [], []⟩ krf
    ·rintro j5
     refine sS ?_
     refine sG ?_
     refine xR 2 krf ?_
     refine xS j5 (fun h6 => ?_) (fun h6 => ?_)
     ·refine xO (want_tt krf h6) krf ?_
      refine xR 5 krf ?_
      refine xS (leI a0a.From r2.2.1) (fun h7 => ?_) (fun h7 => ?_)
      ·refine xO (want_tt krf h7) krf ?_
       refine xR 5 krf ?_
       refine xE ?_
       refine sN ⟨[6], [], [], []⟩ ⟨[(6, B (ltI r2.2.1 a0a.To))], []⟩ krf ?_
       refine sT ?_
       exact qR (.id) krf krf krf
      ·refine xN (want_tf krf h7) krf ?_
       refine xR 5 krf ?_
       refine xE ?_
       refine sN ⟨[6], [], [], []⟩ ⟨[(6, B false)], []⟩ krf ?_
       refine sT ?_
       exact qR (.id) krf krf krf
     ·refine xN (want_tf krf h6) krf ?_
      refine xR 11 krf ?_
      refine xE ?_
      refine sN ⟨[6], [], [], []⟩ ⟨[(6, B false)], []⟩ krf ?_
      refine sT ?_
      exact qR (.id) krf krf krf
def g_ref33_Minutes_l1 (n : Nat) (a0a : GAr) (a1c : GCl) (a3to : Int) (recl1 : (Int × Int) → Option Int) (l1_1 : Int) (l1_2 : Int) : Option Int :=
 cond (ltI l1_2 a3to)
  ((g_ref32_Applies n a0a a1c l1_2).bind fun r2 =>
  cond r2
   (recl1 (wi (l1_1 + 1), wi (l1_2 + 1)))
   (recl1 (l1_1, wi (l1_2 + 1))))
  (some l1_1)
def g_ref33_Minutes (n : Nat) (a0a : GAr) (a1c : GCl) (a2from : Int) (a3to : Int) : Option Int :=
 loopN (fun recl1 (l1_1, l1_2) => g_ref33_Minutes_l1 n a0a a1c a3to recl1 l1_1 l1_2) n (0, a2from)
theorem g_ref33_Minutes_ok (n : Nat) (a0a : GAr) (a1c : GCl) (a2from : Int) (a3to : Int) : ∀ r, g_ref33_Minutes n a0a a1c a2from a3to = some r → PCall Tryz.prog 49 [ag (GAr.cs a0a), ag (GCl.cs a1c), I a2from, I a3to] (.ret (I r)) := by
 refine pcall_sim (X := fun r : Int => AEnd.ret (I r)) Tryz.func49 rfl Tryz.ntmps49 rfl ?_
 unfold g_ref33_Minutes
 refine sR tfm ⟨[2, 3, 4, 5], [4, 5], [], []⟩ ⟨[(2, I a2from), (3, I a3to), (4, .ptr 4 0), (5, .ptr 5 0)], [(4, .box 45 (bxc (GAr.cs a0a))), (5, .box 28 (bxc (GCl.cs a1c)))]⟩ krf ?_
 refine sR tfm ⟨[2, 3, 4, 5, 9], [4, 5], [], []⟩ ⟨[(2, I a2from), (3, I a3to), (4, .ptr 4 0), (5, .ptr 5 0), (9, I 0)], [(4, .box 45 (bxc (GAr.cs a0a))), (5, .box 28 (bxc (GCl.cs a1c)))]⟩ krf ?_
 refine sS ?_
 refine sR tfm ⟨[3, 4, 5, 9, 10], [4, 5], [], []⟩ ⟨[(3, I a3to), (4, .ptr 4 0), (5, .ptr 5 0), (9, I 0), (10, I a2from)], [(4, .box 45 (bxc (GAr.cs a0a))), (5, .box 28 (bxc (GCl.cs a1c)))]⟩ krf ?_
 refine sB ?_
 refine sim_loop (fun (l1_1, l1_2) => ⟨[(3, I a3to), (4, .ptr 4 0), (5, .ptr 5 0), (9, I l1_1), (10, I l1_2)], [(4, .box 45 (bxc (GAr.cs a0a))), (5, .box 28 (bxc (GCl.cs a1c)))]⟩ : (Int × Int) → St) (weak_shr (K := ⟨[3, 4, 5, 9, 10], [4, 5], [], []⟩) krf) ?_
 rintro recl1 ⟨l1_1, l1_2⟩
 show SimE (g_ref33_Minutes_l1 n a0a a1c a3to recl1 l1_1 l1_2) _ _ _ _ _ _
 unfold g_ref33_Minutes_l1
 refine sS ?_
 refine sR tfm ⟨[3, 4, 5, 9, 10, 15], [4, 5], [], []⟩ ⟨[(3, I a3to), (4, .ptr 4 0), (5, .ptr 5 0), (9, I l1_1), (10, I l1_2), (15, B (ltI l1_2 a3to))], [(4, .box 45 (bxc (GAr.cs a0a))), (5, .box 28 (bxc (GCl.cs a1c)))]⟩ krf ?_
 refine sC (ltI l1_2 a3to) krf ?_ ?_
 ·refine sK ?_
  refine sN ⟨[3, 4, 5, 9, 10], [4, 5], [], []⟩ ⟨[(3, I a3to), (4, .ptr 4 0), (5, .ptr 5 0), (9, I l1_1), (10, I l1_2)], [(4, .box 45 (bxc (GAr.cs a0a))), (5, .box 28 (bxc (GCl.cs a1c)))]⟩ krf ?_
  refine sS ?_
  refine sB ?_
  refine sS ?_
  refine sG ?_
  refine xR 3 krf ?_
  refine xC [] krf (g_ref32_Applies_ok n a0a a1c l1_2) krf krf (fun _ => by kernel_rfl) (fun r2 => ?_)
  refine xR 1 krf ?_
  refine xE ?_
  refine sN ⟨[3, 4, 5, 9, 10, 11], [4, 5], [], []⟩ ⟨[(3, I a3to), (4, .ptr 4 0), (5, .ptr 5 0), (9, I l1_1), (10, I l1_2), (11, B r2)], [(4, .box 45 (bxc (GAr.cs a0a))), (5, .box 28 (bxc (GCl.cs a1c)))]⟩ krf ?_
  refine sR tfm ⟨[3, 4, 5, 9, 10, 22], [4, 5], [], []⟩ ⟨[(3, I a3to), (4, .ptr 4 0), (5, .ptr 5 0), (9, I l1_1), (10, I l1_2), (22, B r2)], [(4, .box 45 (bxc (GAr.cs a0a))), (5, .box 28 (bxc (GCl.cs a1c)))]⟩ krf ?_
  refine sC r2 krf ?_ ?_
  ·refine sL tfm krf ?_
   refine bq_n ?_
   refine sN ⟨[3, 4, 5, 9, 10], [4, 5], [], []⟩ ⟨[(3, I a3to), (4, .ptr 4 0), (5, .ptr 5 0), (9, I (wi (l1_1 + 1))), (10, I l1_2)], [(4, .box 45 (bxc (GAr.cs a0a))), (5, .box 28 (bxc (GCl.cs a1c)))]⟩ krf ?_
   refine sL tfm krf ?_
   exact kq_n (wi (l1_1 + 1), wi (l1_2 + 1)) ⟨[3, 4, 5, 9, 10], [4, 5], [], []⟩ krf
  ·refine sK ?_
   refine bq_n ?_
   refine sN ⟨[3, 4, 5, 9, 10], [4, 5], [], []⟩ ⟨[(3, I a3to), (4, .ptr 4 0), (5, .ptr 5 0), (9, I l1_1), (10, I l1_2)], [(4, .box 45 (bxc (GAr.cs a0a))), (5, .box 28 (bxc (GCl.cs a1c)))]⟩ krf ?_
   refine sL tfm krf ?_
   exact kq_n (l1_1, wi (l1_2 + 1)) ⟨[3, 4, 5, 9, 10], [4, 5], [], []⟩ krf
 ·refine sim_exit ?_
  refine sq_x ?_
  refine kq_x ?_
  refine bq_hit ?_
  refine sN ⟨[9], [], [], []⟩ ⟨[(9, I l1_1)], []⟩ krf ?_
  refine sR tfm ⟨[8], [], [], []⟩ ⟨[(8, I l1_1)], []⟩ krf ?_
  refine sT ?_
  exact qR (.id) krf krf krf
def g_ref33_Energy_l1 (n : Nat) (a0a : GAr) (a1c : GCl) (a2s : GSs) (recl1 : (Int × Int) → Option Int) (l1_1 : Int) (l1_2 : Int) : Option Int :=
 cond (ltI l1_2 (lenI (List.map GSl.cs a2s.Slices)))
  ((getI a2s.Slices l1_2).bind fun x2 =>
  (g_ref32_Applies n a0a a1c x2.Minute).bind fun r3 =>
  cond r3
   ((getI a2s.Slices l1_2).bind fun x4 =>
   recl1 (wi (l1_1 + x4.Energy), wi (l1_2 + 1)))
   (recl1 (l1_1, wi (l1_2 + 1))))
  (some l1_1)
def g_ref33_Energy (n : Nat) (a0a : GAr) (a1c : GCl) (a2s : GSs) : Option Int :=
 loopN (fun recl1 (l1_1, l1_2) => g_ref33_Energy_l1 n a0a a1c a2s recl1 l1_1 l1_2) n (0, 0)
theorem g_ref33_Energy_ok (n : Nat) (a0a : GAr) (a1c : GCl) (a2s : GSs) : ∀ r, g_ref33_Energy n a0a a1c a2s = some r → PCall Tryz.prog 51 [ag (GAr.cs a0a), ag (GCl.cs a1c), ag (GSs.cs a2s)] (.ret (I r)) := by
 refine pcall_sim (X := fun r : Int => AEnd.ret (I r)) Tryz.func51 rfl Tryz.ntmps51 rfl ?_
 unfold g_ref33_Energy
 refine sR tfm ⟨[3, 4, 5], [3, 4, 5], [], []⟩ ⟨[(3, .ptr 3 0), (4, .ptr 4 0), (5, .ptr 5 0)], [(3, .box 45 (bxc (GAr.cs a0a))), (4, .box 28 (bxc (GCl.cs a1c))), (5, .box 31 (bxc (GSs.cs a2s)))]⟩ krf ?_
 refine sR tfm ⟨[3, 4, 5, 7], [3, 4, 5], [], []⟩ ⟨[(3, .ptr 3 0), (4, .ptr 4 0), (5, .ptr 5 0), (7, I 0)], [(3, .box 45 (bxc (GAr.cs a0a))), (4, .box 28 (bxc (GCl.cs a1c))), (5, .box 31 (bxc (GSs.cs a2s)))]⟩ krf ?_
 refine sS ?_
 refine sR tfm ⟨[3, 4, 5, 7, 8], [3, 4, 5], [], []⟩ ⟨[(3, .ptr 3 0), (4, .ptr 4 0), (5, .ptr 5 0), (7, I 0), (8, I 0)], [(3, .box 45 (bxc (GAr.cs a0a))), (4, .box 28 (bxc (GCl.cs a1c))), (5, .box 31 (bxc (GSs.cs a2s)))]⟩ krf ?_
 refine sB ?_
 refine sim_loop (fun (l1_1, l1_2) => ⟨[(3, .ptr 3 0), (4, .ptr 4 0), (5, .ptr 5 0), (7, I l1_1), (8, I l1_2)], [(3, .box 45 (bxc (GAr.cs a0a))), (4, .box 28 (bxc (GCl.cs a1c))), (5, .box 31 (bxc (GSs.cs a2s)))]⟩ : (Int × Int) → St) (weak_shr (K := ⟨[3, 4, 5, 7, 8], [3, 4, 5], [], []⟩) krf) ?_
 rintro recl1 ⟨l1_1, l1_2⟩
 show SimE (g_ref33_Energy_l1 n a0a a1c a2s recl1 l1_1 l1_2) _ _ _ _ _ _
 unfold g_ref33_Energy_l1
 refine sS ?_
 refine sR tfm ⟨[3, 4, 5, 7, 8, 14], [3, 4, 5], [], []⟩ ⟨[(3, .ptr 3 0), (4, .ptr 4 0), (5, .ptr 5 0), (7, I l1_1), (8, I l1_2), (14, B (ltI l1_2 (lenI (List.map GSl.cs a2s.Slices))))], [(3, .box 45 (bxc (GAr.cs a0a))), (4, .box 28 (bxc (GCl.cs a1c))), (5, .box 31 (bxc (GSs.cs a2s)))]⟩ krf ?_
 refine sC (ltI l1_2 (lenI (List.map GSl.cs a2s.Slices))) krf ?_ ?_
 ·refine sK ?_
  refine sN ⟨[3, 4, 5, 7, 8], [3, 4, 5], [], []⟩ ⟨[(3, .ptr 3 0), (4, .ptr 4 0), (5, .ptr 5 0), (7, I l1_1), (8, I l1_2)], [(3, .box 45 (bxc (GAr.cs a0a))), (4, .box 28 (bxc (GCl.cs a1c))), (5, .box 31 (bxc (GSs.cs a2s)))]⟩ krf ?_
  refine sS ?_
  refine sB ?_
  refine sS ?_
  refine sim_drw tfm rfl ?_
  refine xR 5 krf ?_
  refine xG krf krf (aop_idx (e := 48) (S := 2) (enc := GSl.cs) (l := a2s.Slices) (k := .i64) (n := l1_2) (sv := .p (.sl 2 (List.map GSl.cs a2s.Slices))) rfl krf krf krf krf krf) (fun x2 => ?_)
  refine xR 2 krf ?_
  refine xC [] krf (g_ref32_Applies_ok n a0a a1c x2.Minute) krf krf (fun _ => by kernel_rfl) (fun r3 => ?_)
  refine xR 1 krf ?_
  refine xs_endD krf ?_
  refine sN ⟨[3, 4, 5, 7, 8, 9], [3, 4, 5], [], []⟩ ⟨[(3, .ptr 3 0), (4, .ptr 4 0), (5, .ptr 5 0), (7, I l1_1), (8, I l1_2), (9, B r3)], [(3, .box 45 (bxc (GAr.cs a0a))), (4, .box 28 (bxc (GCl.cs a1c))), (5, .box 31 (bxc (GSs.cs a2s)))]⟩ krf ?_
  refine sR tfm ⟨[3, 4, 5, 7, 8, 26], [3, 4, 5], [], []⟩ ⟨[(3, .ptr 3 0), (4, .ptr 4 0), (5, .ptr 5 0), (7, I l1_1), (8, I l1_2), (26, B r3)], [(3, .box 45 (bxc (GAr.cs a0a))), (4, .box 28 (bxc (GCl.cs a1c))), (5, .box 31 (bxc (GSs.cs a2s)))]⟩ krf ?_
  refine sC r3 krf ?_ ?_
  ·refine sG ?_
   refine xR 4 krf ?_
   refine xG krf krf (aop_idx (e := 48) (S := 2) (enc := GSl.cs) (l := a2s.Slices) (k := .i64) (n := l1_2) (sv := .p (.sl 2 (List.map GSl.cs a2s.Slices))) rfl krf krf krf krf krf) (fun x4 => ?_)
   refine xR 4 krf ?_
   refine xE ?_
   refine bq_n ?_
   refine sN ⟨[3, 4, 5, 7, 8], [3, 4, 5], [], []⟩ ⟨[(3, .ptr 3 0), (4, .ptr 4 0), (5, .ptr 5 0), (7, I (wi (l1_1 + x4.Energy))), (8, I l1_2)], [(3, .box 45 (bxc (GAr.cs a0a))), (4, .box 28 (bxc (GCl.cs a1c))), (5, .box 31 (bxc (GSs.cs a2s)))]⟩ krf ?_
   refine sL tfm krf ?_
   exact kq_n (wi (l1_1 + x4.Energy), wi (l1_2 + 1)) ⟨[3, 4, 5, 7, 8], [3, 4, 5], [], []⟩ krf
  ·refine sK ?_
   refine bq_n ?_
   refine sN ⟨[3, 4, 5, 7, 8], [3, 4, 5], [], []⟩ ⟨[(3, .ptr 3 0), (4, .ptr 4 0), (5, .ptr 5 0), (7, I l1_1), (8, I l1_2)], [(3, .box 45 (bxc (GAr.cs a0a))), (4, .box 28 (bxc (GCl.cs a1c))), (5, .box 31 (bxc (GSs.cs a2s)))]⟩ krf ?_
   refine sL tfm krf ?_
   exact kq_n (l1_1, wi (l1_2 + 1)) ⟨[3, 4, 5, 7, 8], [3, 4, 5], [], []⟩ krf
 ·refine sim_exit ?_
  refine sq_x ?_
  refine kq_x ?_
  refine bq_hit ?_
  refine sN ⟨[7], [], [], []⟩ ⟨[(7, I l1_1)], []⟩ krf ?_
  refine sR tfm ⟨[6], [], [], []⟩ ⟨[(6, I l1_1)], []⟩ krf ?_
  refine sT ?_
  exact qR (.id) krf krf krf
def g_ref31_amount (n : Nat) (a0n : Int) : Option Bool :=
 cond (leI 0 a0n)
  (some (leI a0n 1000000000))
  (some false)
theorem g_ref31_amount_ok (n : Nat) (a0n : Int) : ∀ r, g_ref31_amount n a0n = some r → PCall Tryz.prog 53 [I a0n] (.ret (B r)) := by
 refine pcall_sim (X := fun r : Bool => AEnd.ret (B r)) Tryz.func53 rfl Tryz.ntmps53 rfl ?_
 unfold g_ref31_amount
 refine sR tfm ⟨[0], [], [], []⟩ ⟨[(0, I a0n)], []⟩ krf ?_
 refine sS ?_
 refine sG ?_
 refine xR 3 krf ?_
 refine xS (leI 0 a0n) (fun h1 => ?_) (fun h1 => ?_)
 ·refine xO (want_tt krf h1) krf ?_
  refine xR 3 krf ?_
  refine xE ?_
  refine sN ⟨[2], [], [], []⟩ ⟨[(2, B (leI a0n 1000000000))], []⟩ krf ?_
  refine sT ?_
  exact qR (.id) krf krf krf
 ·refine xN (want_tf krf h1) krf ?_
  refine xR 3 krf ?_
  refine xE ?_
  refine sN ⟨[2], [], [], []⟩ ⟨[(2, B false)], []⟩ krf ?_
  refine sT ?_
  exact qR (.id) krf krf krf
def g_ref31_divided (n : Nat) (a0n : Int) (a1d : Int) : Option Int :=
 cond (!eqI (wi (2 * a1d)) 0) (
  some (wi (Int.tdiv (wi ((wi (2 * a0n)) + a1d)) (wi (2 * a1d))))) none
theorem g_ref31_divided_ok (n : Nat) (a0n : Int) (a1d : Int) : ∀ r, g_ref31_divided n a0n a1d = some r → PCall Tryz.prog 55 [I a0n, I a1d] (.ret (I r)) := by
 refine pcall_sim (X := fun r : Int => AEnd.ret (I r)) Tryz.func55 rfl Tryz.ntmps55 rfl ?_
 unfold g_ref31_divided
 refine sR tfm ⟨[0, 1], [], [], []⟩ ⟨[(0, I a0n), (1, I a1d)], []⟩ krf ?_
 refine sS ?_
 refine sG ?_
 refine xR 6 krf ?_
 refine xF krf krf (aop_quo (k := .i64) (a := wi ((wi (2 * a0n)) + a1d)) (b := wi (2 * a1d)) rfl krf krf) ?_
 refine xR 1 krf ?_
 refine xE ?_
 refine sN ⟨[4], [], [], []⟩ ⟨[(4, I (wi (Int.tdiv (wi ((wi (2 * a0n)) + a1d)) (wi (2 * a1d)))))], []⟩ krf ?_
 refine sT ?_
 exact qR (.id) krf krf krf
def g_ref31_checked (n : Nat) (a0n : Int) : Option (Int × Int) :=
 (g_ref31_amount n a0n).bind fun r1 =>
 cond (!r1)
  (some (0, 3))
  (some (a0n, 0))
theorem g_ref31_checked_ok (n : Nat) (a0n : Int) : ∀ r, g_ref31_checked n a0n = some r → PCall Tryz.prog 54 [I a0n] (.ret (.tup [I r.1, I r.2])) := by
 refine pcall_sim (X := fun r : Int × Int => AEnd.ret (.tup [I r.1, I r.2])) Tryz.func54 rfl Tryz.ntmps54 rfl ?_
 unfold g_ref31_checked
 refine sR tfm ⟨[0], [], [], []⟩ ⟨[(0, I a0n)], []⟩ krf ?_
 refine sS ?_
 refine sS ?_
 refine sG ?_
 refine xR 1 krf ?_
 refine xC [] krf (g_ref31_amount_ok n a0n) krf krf (fun _ => by kernel_rfl) (fun r1 => ?_)
 refine xR 1 krf ?_
 refine xE ?_
 refine sN ⟨[0, 6], [], [], []⟩ ⟨[(0, I a0n), (6, B (!r1))], []⟩ krf ?_
 refine sC (!r1) krf ?_ ?_
 ·refine sR tfm ⟨[2, 3], [], [], []⟩ ⟨[(2, I 0), (3, I 3)], []⟩ krf ?_
  refine sT ?_
  refine sq_r ?_
  exact qR (.id) krf krf krf
 ·refine sK ?_
  refine sN ⟨[0], [], [], []⟩ ⟨[(0, I a0n)], []⟩ krf ?_
  refine sR tfm ⟨[2, 3], [], [], []⟩ ⟨[(2, I a0n), (3, I 0)], []⟩ krf ?_
  refine sT ?_
  exact qR (.id) krf krf krf
def g_ref31_Times (n : Nat) (a0price : Int) (a1quantity : Int) (a2per : Int) : Option (Int × Int) :=
 ((g_ref31_amount n a0price).bind fun r2 =>
 cond (!r2)
  (some true)
  ((g_ref31_amount n a1quantity).bind fun r4 =>
  cond (!r4)
   (some true)
   (cond (ltI a2per 1)
    (some true)
    (some (ltI 1000000000 a2per))))).bind fun j1 =>
 cond j1
  (some (0, 1))
  ((g_ref31_divided n (wi (a0price * a1quantity)) a2per).bind fun r7 =>
  (g_ref31_checked n r7).bind fun r8 =>
  some (r8.1, r8.2))
theorem g_ref31_Times_ok (n : Nat) (a0price : Int) (a1quantity : Int) (a2per : Int) : ∀ r, g_ref31_Times n a0price a1quantity a2per = some r → PCall Tryz.prog 50 [I a0price, I a1quantity, I a2per] (.ret (.tup [I r.1, I r.2])) := by
 refine pcall_sim (X := fun r : Int × Int => AEnd.ret (.tup [I r.1, I r.2])) Tryz.func50 rfl Tryz.ntmps50 rfl ?_
 unfold g_ref31_Times
 refine sR tfm ⟨[0, 1, 2], [], [], []⟩ ⟨[(0, I a0price), (1, I a1quantity), (2, I a2per)], []⟩ krf ?_
 refine sS ?_
 refine sim_bind (fun j1 => ⟨[(0, I a0price), (1, I a1quantity), (2, I a2per), (23, B j1)], []⟩ : Bool → St) ?_ ?_
 ·refine sG ?_
  refine xR 1 krf ?_
  refine xC [] krf (g_ref31_amount_ok n a0price) krf krf (fun _ => by kernel_rfl) (fun r2 => ?_)
  refine xR 2 krf ?_
  refine xS (!r2) (fun h3 => ?_) (fun h3 => ?_)
  ·refine xN (want_ft krf h3) krf ?_
   refine xR 11 krf ?_
   refine xE ?_
   exact nq_n true ⟨[0, 1, 2, 23], [], [], []⟩ krf
  ·refine xO (want_ff krf h3) krf ?_
   refine xC [] krf (g_ref31_amount_ok n a1quantity) krf krf (fun _ => by kernel_rfl) (fun r4 => ?_)
   refine xR 3 krf ?_
   refine xS (!r4) (fun h5 => ?_) (fun h5 => ?_)
   ·refine xN (want_ft krf h5) krf ?_
    refine xR 6 krf ?_
    refine xE ?_
    exact nq_n true ⟨[0, 1, 2, 23], [], [], []⟩ krf
   ·refine xO (want_ff krf h5) krf ?_
    refine xR 3 krf ?_
    refine xS (ltI a2per 1) (fun h6 => ?_) (fun h6 => ?_)
    ·refine xN (want_ft krf h6) krf ?_
     refine xR 2 krf ?_
     refine xE ?_
     exact nq_n true ⟨[0, 1, 2, 23], [], [], []⟩ krf
    ·refine xO (want_ff krf h6) krf ?_
     refine xR 2 krf ?_
     refine xE ?_
     exact nq_n (ltI 1000000000 a2per) ⟨[0, 1, 2, 23], [], [], []⟩ krf
 ·rintro j1
  refine sC j1 krf ?_ ?_
  ·refine sR tfm ⟨[6, 7], [], [], []⟩ ⟨[(6, I 0), (7, I 1)], []⟩ krf ?_
   refine sT ?_
   refine sq_r ?_
   exact qR (.id) krf krf krf
  ·refine sK ?_
   refine sN ⟨[0, 1, 2], [], [], []⟩ ⟨[(0, I a0price), (1, I a1quantity), (2, I a2per)], []⟩ krf ?_
   refine sS ?_
   refine sG ?_
   refine xR 4 krf ?_
   refine xC [] krf (g_ref31_divided_ok n (wi (a0price * a1quantity)) a2per) krf krf (fun _ => by kernel_rfl) (fun r7 => ?_)
   refine xC [] krf (g_ref31_checked_ok n r7) krf krf (fun _ => by kernel_rfl) (fun r8 => ?_)
   refine xR 4 krf ?_
   refine xE ?_
   refine sN ⟨[6, 7], [], [], []⟩ ⟨[(6, I r8.1), (7, I r8.2)], []⟩ krf ?_
   refine sT ?_
   exact qR (.id) krf krf krf
def g_ref31_Started (n : Nat) (a0price : Int) (a1quantity : Int) (a2unit : Int) : Option (Int × Int) :=
 ((g_ref31_amount n a0price).bind fun r2 =>
 cond (!r2)
  (some true)
  ((g_ref31_amount n a1quantity).bind fun r4 =>
  cond (!r4)
   (some true)
   (cond (ltI a2unit 1)
    (some true)
    (some (ltI 1000000000 a2unit))))).bind fun j1 =>
 cond j1
  (some (0, 1))
  (cond (!eqI a2unit 0) (
   (g_ref31_checked n (wi (a0price * (wi (Int.tdiv (wi ((wi (a1quantity + a2unit)) - 1)) a2unit))))).bind fun r7 =>
   some (r7.1, r7.2)) none)
theorem g_ref31_Started_ok (n : Nat) (a0price : Int) (a1quantity : Int) (a2unit : Int) : ∀ r, g_ref31_Started n a0price a1quantity a2unit = some r → PCall Tryz.prog 52 [I a0price, I a1quantity, I a2unit] (.ret (.tup [I r.1, I r.2])) := by
 refine pcall_sim (X := fun r : Int × Int => AEnd.ret (.tup [I r.1, I r.2])) Tryz.func52 rfl Tryz.ntmps52 rfl ?_
 unfold g_ref31_Started
 refine sR tfm ⟨[0, 1, 2], [], [], []⟩ ⟨[(0, I a0price), (1, I a1quantity), (2, I a2unit)], []⟩ krf ?_
 refine sS ?_
 refine sim_bind (fun j1 => ⟨[(0, I a0price), (1, I a1quantity), (2, I a2unit), (23, B j1)], []⟩ : Bool → St) ?_ ?_
 ·refine sG ?_
  refine xR 1 krf ?_
  refine xC [] krf (g_ref31_amount_ok n a0price) krf krf (fun _ => by kernel_rfl) (fun r2 => ?_)
  refine xR 2 krf ?_
  refine xS (!r2) (fun h3 => ?_) (fun h3 => ?_)
  ·refine xN (want_ft krf h3) krf ?_
   refine xR 11 krf ?_
   refine xE ?_
   exact nq_n true ⟨[0, 1, 2, 23], [], [], []⟩ krf
  ·refine xO (want_ff krf h3) krf ?_
   refine xC [] krf (g_ref31_amount_ok n a1quantity) krf krf (fun _ => by kernel_rfl) (fun r4 => ?_)
   refine xR 3 krf ?_
   refine xS (!r4) (fun h5 => ?_) (fun h5 => ?_)
   ·refine xN (want_ft krf h5) krf ?_
    refine xR 6 krf ?_
    refine xE ?_
    exact nq_n true ⟨[0, 1, 2, 23], [], [], []⟩ krf
   ·refine xO (want_ff krf h5) krf ?_
    refine xR 3 krf ?_
    refine xS (ltI a2unit 1) (fun h6 => ?_) (fun h6 => ?_)
    ·refine xN (want_ft krf h6) krf ?_
     refine xR 2 krf ?_
     refine xE ?_
     exact nq_n true ⟨[0, 1, 2, 23], [], [], []⟩ krf
    ·refine xO (want_ff krf h6) krf ?_
     refine xR 2 krf ?_
     refine xE ?_
     exact nq_n (ltI 1000000000 a2unit) ⟨[0, 1, 2, 23], [], [], []⟩ krf
 ·rintro j1
  refine sC j1 krf ?_ ?_
  ·refine sR tfm ⟨[6, 7], [], [], []⟩ ⟨[(6, I 0), (7, I 1)], []⟩ krf ?_
   refine sT ?_
   refine sq_r ?_
   exact qR (.id) krf krf krf
  ·refine sK ?_
   refine sN ⟨[0, 1, 2], [], [], []⟩ ⟨[(0, I a0price), (1, I a1quantity), (2, I a2unit)], []⟩ krf ?_
   refine sS ?_
   refine sG ?_
   refine xR 6 krf ?_
   refine xF krf krf (aop_quo (k := .i64) (a := wi ((wi (a1quantity + a2unit)) - 1)) (b := a2unit) rfl krf krf) ?_
   refine xR 1 krf ?_
   refine xC [] krf (g_ref31_checked_ok n (wi (a0price * (wi (Int.tdiv (wi ((wi (a1quantity + a2unit)) - 1)) a2unit))))) krf krf (fun _ => by kernel_rfl) (fun r7 => ?_)
   refine xR 4 krf ?_
   refine xE ?_
   refine sN ⟨[6, 7], [], [], []⟩ ⟨[(6, I r7.1), (7, I r7.2)], []⟩ krf ?_
   refine sT ?_
   exact qR (.id) krf krf krf
def g_ref33_Line (n : Nat) (a0a : GAr) (a1c : GCl) (a2s : GSs) : Option (Int × Int) :=
 (g_ref32_Article n a0a).bind fun r1 =>
 (g_ref26_Valid n a1c).bind fun r2 =>
 (g_ref33_Valid n a2s).bind fun r3 =>
 (cond (!r1)
  (some true)
  (cond (!r2)
   (some true)
   (some (!r3)))).bind fun j4 =>
 cond j4
  (some (0, 1))
  (cond (eqI a0a.Kind 1)
   ((g_ref33_Minutes n a0a a1c a2s.From (wi (a2s.From + 1))).bind fun r7 =>
   some (wi (a0a.Price * r7), 0))
   (cond (eqI a0a.Kind 2)
    ((g_ref33_Energy n a0a a1c a2s).bind fun r8 =>
    (g_ref31_Times n a0a.Price r8 1000).bind fun r9 =>
    some (r9.1, r9.2))
    (cond (eqI a0a.Kind 3)
     ((g_ref33_Minutes n a0a a1c a2s.From a2s.To).bind fun r10 =>
     (g_ref31_Started n a0a.Price (maxI 0 (wi (r10 - a0a.Free))) a0a.Unit).bind fun r11 =>
     some (r11.1, r11.2))
     (cond (eqI a0a.Kind 4)
      ((g_ref33_Minutes n a0a a1c a2s.End a2s.To).bind fun r12 =>
      (g_ref31_Started n a0a.Price (maxI 0 (wi (r12 - a0a.Free))) a0a.Unit).bind fun r13 =>
      some (r13.1, r13.2))
      (some (0, 0))))))
end Go.Proofs
