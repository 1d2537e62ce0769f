/-
  Proved: LoopholeParts. For any valid session and minute within it, both parts are valid, follow each other, have together its idle minutes, and all its slices, in order; for every session and minute. No conditions beyond those of the given statement.
-/
import Derived.Test.YtfkhnaogcahcoaaPar03
namespace Go.Proofs
open Go Go.Abs
set_option maxRecDepth 100000
set_option linter.unusedVariables false
theorem g_money_Tax_okH (n : Nat) (a0amount : Int) (a1rate : Int) : ∀ r, g_money_Tax n a0amount a1rate = some r → ACall Try.prog 41 [I a0amount, I a1rate] (Go.Abs.look []) (heapR (fun r : Int × Int => ((.ret (.tup [I r.1, I r.2]), []) : AEnd × List (Nat × Blk))) r) := by
 refine defer_sim (X := fun r : Int × Int => ((.ret (.tup [I r.1, I r.2]), []) : AEnd × List (Nat × Blk))) [] (⟨Try.f53, _, _, _, 1, _, _, Try.func53, rfl, rfl, rfl, rfl, rfl, rfl, by decide, by decide, rfl, by kernel_rfl⟩ : Catcher Try.prog 53 54) (⟨_, _, _, _, _, 5, 6, _, rfl, rfl, rfl, rfl, rfl, rfl, rfl, by decide⟩ : Deferrer Try.f41 53) 5 Try.func41 Try.ntmps41 rfl krf rfl Try.fm rfl krf krf krf ?_
 unfold g_money_Tax
 refine sim_keep ⟨[0, 1, 4, 5], [2000], [], []⟩ ⟨[(0, I a0amount), (1, I a1rate), (4, I 0), (5, .ptr 2000 0)], [(2000, .box 26 [I 0])]⟩ krf ?_
 refine sim_cps (fun _ => ⟨[(0, I a0amount), (1, I a1rate), (4, I 0), (5, .ptr 2000 0)], [(2000, .box 26 [I 0])]⟩ : Unit → St) (fun _ => g_money_Tax_j1 n a0amount a1rate) ?_ ?_
 ·rintro _
  show SimE (g_money_Tax_j1 n a0amount a1rate) _ _ _ _ _ _
  unfold g_money_Tax_j1
  refine sim_seq ?_
  refine sim_reg ?_
  refine xs_run 3 krf ?_
  refine xs_call [] krf (g_money_half_ok n (wi (a0amount * a1rate)) 10000) krf krf (fun _ => by kernel_rfl) (fun r2 => ?_)
  refine xs_exc [] krf (g_money_checked_ok n r2) krf krf (fun _ => by kernel_rfl) (fun _ => by kernel_rfl) (fun r3 => ?_) (fun e4 => ?_)
  ·refine xs_run 2 krf ?_
   refine xs_end ?_
   refine sq_nk ⟨[4, 5], [2000], [], []⟩ ⟨[(4, I r3), (5, .ptr 2000 0)], [(2000, .box 26 [I 0])]⟩ krf ?_
   refine sim_ret ?_
   refine dq_ret ?_
   refine sc_heap [(1001, 2000)] [] [] (g_money_caught_ok n 0) krf krf krf (fun _ => by kernel_rfl) (fun _ => by kernel_rfl) (fun r5 => ?_)
   exact ke_end (.id) [] [] krf krf krf krf
  ·refine sq_p ?_
   refine dq_p ?_
   refine sc_heap [(1001, 2000)] [] [] (g_money_caught_2_ok n e4 0) krf krf krf (fun _ => by kernel_rfl) (fun _ => by kernel_rfl) (fun r6 => ?_)
   exact ke_end (.id) [] [] krf krf krf krf
 ·refine sim_reg ?_
  refine xs_run 1 krf ?_
  refine xs_call [] krf (g_money_isAmount_ok n a0amount) krf krf (fun _ => by kernel_rfl) (fun r7 => ?_)
  refine xs_run 1 krf ?_
  refine xs_split r7 (fun h8 => ?_) (fun h8 => ?_)
  ·refine xs_one (want_tt krf h8) krf ?_
   refine xs_call [] krf (g_money_inside_ok n a1rate 0 100000) krf krf (fun _ => by kernel_rfl) (fun r9 => ?_)
   refine xs_run 1 krf ?_
   refine xs_exc [] krf (g_money_need_ok n r9 1) krf krf (fun _ => by kernel_rfl) (fun _ => by kernel_rfl) (fun r10 => ?_) (fun e11 => ?_)
   ·refine xs_end ?_
    exact kq_n (k := fun _ => g_money_Tax_j1 n a0amount a1rate) () ⟨[0, 1, 4, 5], [2000], [], []⟩ krf
   ·refine kq_p ?_
    refine dq_p ?_
    refine sc_heap [(1001, 2000)] [] [] (g_money_caught_2_ok n e11 0) krf krf krf (fun _ => by kernel_rfl) (fun _ => by kernel_rfl) (fun r12 => ?_)
    exact ke_end (.id) [] [] krf krf krf krf
  ·refine xs_no (want_tf krf h8) krf ?_
   refine xs_run 2 krf ?_
   refine xs_exc [] krf (g_money_need_ok n false 1) krf krf (fun _ => by kernel_rfl) (fun _ => by kernel_rfl) (fun r13 => ?_) (fun e14 => ?_)
   ·refine xs_end ?_
    exact kq_n (k := fun _ => g_money_Tax_j1 n a0amount a1rate) () ⟨[0, 1, 4, 5], [2000], [], []⟩ krf
   ·refine kq_p ?_
    refine dq_p ?_
    refine sc_heap [(1001, 2000)] [] [] (g_money_caught_2_ok n e14 0) krf krf krf (fun _ => by kernel_rfl) (fun _ => by kernel_rfl) (fun r15 => ?_)
    exact ke_end (.id) [] [] krf krf krf krf
theorem g_money_Tax_ok (n : Nat) (a0amount : Int) (a1rate : Int) : ∀ r, g_money_Tax n a0amount a1rate = some r → PCall Try.prog 41 [I a0amount, I a1rate] (.ret (.tup [I r.1, I r.2])) := fun r h => pcall_of (g_money_Tax_okH n a0amount a1rate r h) rfl
def g_bill_sum_j1 (n : Nat) (j1_1 : Int) (j1_2 : Int) (j1_3 : OL GLine) (j1_4 : Int) : Option (Except Int GBill) :=
 (cond (leI 0 j1_2)
  (some (minI j1_4 j1_2))
  (some j1_4)).bind fun j2 =>
 (g_money_Tax n j2 j1_1).bind fun r3 =>
 (g_bill_must n r3.1 r3.2).bind (exc (fun r4 =>
  cond (ltI 1000000000 (wi (j2 + r4)))
   (some (.error 3))
   (some (.ok (⟨j1_3.toL, j2, r4, wi (j2 + r4)⟩ : GBill)))) fun e5 => some (.error e5))
def g_bill_sum_j10 (l6_1 : Int) (l6_2 : Int) (l6_3 : Int) (l6_4 : OL GLine) (l6_5 : Int) (recl6 : (Int × Int × Int × (OL GLine) × Int) → Option (Except Int GBill)) (j10 : Int) : Option (Except Int GBill) :=
 cond (roomB (List.length (l6_4.toL ++ [(⟨l6_3, j10⟩ : GLine)])) 16) (
  recl6 (l6_1, l6_2, wi (l6_3 + 1), OL.own (l6_4.toL ++ [(⟨l6_3, j10⟩ : GLine)]), wi (l6_5 + j10))) none
def g_bill_sum_l13 (n : Nat) (a1c : GCalendar) (a2s : GSession) (x7 : GArticle) (recl13 : (Int × Int) → Option Int) (l13_1 : Int) (l13_2 : Int) : Option Int :=
 cond (ltI l13_2 (lenI (List.map GSlice.cs a2s.Slices)))
  ((getI a2s.Slices l13_2).bind fun x14 =>
  (g_bb_applies n (⟨x7, a1c, a2s⟩ : GBB) x14.Minute).bind fun r15 =>
  cond r15
   (recl13 (wi (l13_1 + x14.Energy), wi (l13_2 + 1)))
   (recl13 (l13_1, wi (l13_2 + 1))))
  (some l13_1)
def g_bill_sum_l6 (n : Nat) (a0t : GTariff) (a1c : GCalendar) (a2s : GSession) (recl6 : (Int × Int × Int × (OL GLine) × Int) → Option (Except Int GBill)) (l6_1 : Int) (l6_2 : Int) (l6_3 : Int) (l6_4 : OL GLine) (l6_5 : Int) : Option (Except Int GBill) :=
 cond (ltI l6_3 (lenI (List.map GArticle.cs a0t.Articles)))
  ((getI a0t.Articles l6_3).bind fun x7 =>
  cond (eqI x7.Kind 5)
   ((cond (ltI l6_2 0)
    (some true)
    (some (ltI x7.Price l6_2))).bind fun j8 =>
   cond j8
    (recl6 (l6_1, x7.Price, wi (l6_3 + 1), l6_4, l6_5))
    (recl6 (l6_1, l6_2, wi (l6_3 + 1), l6_4, l6_5)))
   (cond (eqI x7.Kind 6)
    (recl6 (x7.Price, l6_2, wi (l6_3 + 1), l6_4, l6_5))
    (cond (eqI x7.Kind 1)
     ((g_bb_applies n (⟨x7, a1c, a2s⟩ : GBB) a2s.From).bind fun r11 =>
     cond r11
      (g_bill_sum_j10 l6_1 l6_2 l6_3 l6_4 l6_5 recl6 x7.Price)
      (g_bill_sum_j10 l6_1 l6_2 l6_3 l6_4 l6_5 recl6 0))
     (cond (eqI x7.Kind 2)
      ((loopN (fun recl13 (l13_1, l13_2) => g_bill_sum_l13 n a1c a2s x7 recl13 l13_1 l13_2) n (0, 0)).bind fun j12 =>
      (g_money_Times n x7.Price j12 1000).bind fun r16 =>
      (g_bill_must n r16.1 r16.2).bind (exc (fun r17 =>
       g_bill_sum_j10 l6_1 l6_2 l6_3 l6_4 l6_5 recl6 r17) fun e18 => some (.error e18)))
      (cond (eqI x7.Kind 3)
       ((g_bb_stretch n (⟨x7, a1c, a2s⟩ : GBB) a2s.From a2s.To).bind (exc (fun r19 =>
        g_bill_sum_j10 l6_1 l6_2 l6_3 l6_4 l6_5 recl6 r19) fun e20 => some (.error e20)))
       (cond (eqI x7.Kind 4)
        ((g_bb_stretch n (⟨x7, a1c, a2s⟩ : GBB) a2s.End a2s.To).bind (exc (fun r21 =>
         g_bill_sum_j10 l6_1 l6_2 l6_3 l6_4 l6_5 recl6 r21) fun e22 => some (.error e22)))
        (g_bill_sum_j10 l6_1 l6_2 l6_3 l6_4 l6_5 recl6 0)))))))
  (g_bill_sum_j1 n l6_1 l6_2 l6_4 l6_5)
def g_bill_sum (n : Nat) (a0t : GTariff) (a1c : GCalendar) (a2s : GSession) : Option (Except Int GBill) :=
 loopN (fun recl6 (l6_1, l6_2, l6_3, l6_4, l6_5) => g_bill_sum_l6 n a0t a1c a2s recl6 l6_1 l6_2 l6_3 l6_4 l6_5) n (0, (-1), 0, OL.nil, 0)
theorem g_bill_sum_ok (n : Nat) (a0t : GTariff) (a1c : GCalendar) (a2s : GSession) : ∀ r, g_bill_sum n a0t a1c a2s = some r → PCall Try.prog 32 [ag (GTariff.cs a0t), ag (GCalendar.cs a1c), ag (GSession.cs a2s)] (excE (fun r : GBill => (ag (GBill.cs r) : AV)) (fun e : Int => (.ifc 88 (.agg [I e]) : AV)) r) := by
 refine pcall_sim (X := excE (fun r : GBill => (ag (GBill.cs r) : AV)) (fun e : Int => (.ifc 88 (.agg [I e]) : AV))) Try.func32 rfl Try.ntmps32 rfl ?_
 unfold g_bill_sum
 refine sim_run Try.fm ⟨[3, 4, 5, 6], [3, 4, 5, 6], [], []⟩ ⟨[(3, .ptr 3 0), (4, .ptr 4 0), (5, .ptr 5 0), (6, .ptr 6 0)], [(3, .box 34 (bxc (GTariff.cs a0t))), (4, .box 38 (bxc (GCalendar.cs a1c))), (5, .box 24 (bxc (GSession.cs a2s))), (6, .box 62 [.p (.val (.slice none 0 0)), I 0, I 0, I 0])]⟩ krf ?_
 refine sim_run Try.fm ⟨[3, 4, 5, 6, 7], [3, 4, 5, 6, 7], [], []⟩ ⟨[(3, .ptr 3 0), (4, .ptr 4 0), (5, .ptr 5 0), (6, .ptr 6 0), (7, .ptr 7 0)], [(3, .box 34 (bxc (GTariff.cs a0t))), (4, .box 38 (bxc (GCalendar.cs a1c))), (5, .box 24 (bxc (GSession.cs a2s))), (6, .box 62 [.p (.val (.slice none 0 0)), I 0, I 0, I 0]), (7, .box 62 [.p (.val (.slice none 0 0)), I 0, I 0, I 0])]⟩ krf ?_
 refine sim_run Try.fm ⟨[3, 4, 5, 6, 7, 8, 9], [3, 4, 5, 6, 7], [], []⟩ ⟨[(3, .ptr 3 0), (4, .ptr 4 0), (5, .ptr 5 0), (6, .ptr 6 0), (7, .ptr 7 0), (8, I 0), (9, I (-1))], [(3, .box 34 (bxc (GTariff.cs a0t))), (4, .box 38 (bxc (GCalendar.cs a1c))), (5, .box 24 (bxc (GSession.cs a2s))), (6, .box 62 [.p (.val (.slice none 0 0)), I 0, I 0, I 0]), (7, .box 62 [.p (.val (.slice none 0 0)), I 0, I 0, I 0])]⟩ krf ?_
 refine sim_cps (fun (j1_1, j1_2, j1_3, j1_4) => ⟨[(6, .ptr 6 0), (7, .ptr 7 0), (8, I j1_1), (9, I j1_2)], [(6, .box 62 [.p (.val (.slice none 0 0)), I 0, I 0, I 0]), (7, .box 62 [osl 2 GLine.cs j1_3 38, I j1_4, I 0, I 0])] ++ oarr 96 2 GLine.cs j1_3 38⟩ : (Int × Int × (OL GLine) × Int) → St) (fun (j1_1, j1_2, j1_3, j1_4) => g_bill_sum_j1 n j1_1 j1_2 j1_3 j1_4) ?_ ?_
 ·rintro ⟨j1_1, j1_2, j1_3, j1_4⟩
  show SimE (g_bill_sum_j1 n j1_1 j1_2 j1_3 j1_4) _ _ _ _ _ _
  unfold g_bill_sum_j1
  rcases j1_3 with _ | ow_j1_3
  ·refine sim_bind (fun j2 => ⟨[(6, .ptr 6 0), (7, .ptr 7 0), (8, I j1_1)], [(6, .box 62 [.p (.val (.slice none 0 0)), I 0, I 0, I 0]), (7, .box 62 [.p (.val (.slice none 0 0)), I j2, I 0, I 0])]⟩ : Int → St) ?_ ?_
   ·refine sim_run Try.fm ⟨[6, 7, 8, 9, 63], [6, 7], [], []⟩ ⟨[(6, .ptr 6 0), (7, .ptr 7 0), (8, I j1_1), (9, I j1_2), (63, B (leI 0 j1_2))], [(6, .box 62 [.p (.val (.slice none 0 0)), I 0, I 0, I 0]), (7, .box 62 [.p (.val (.slice none 0 0)), I j1_4, I 0, I 0])]⟩ krf ?_
    refine sim_cond (leI 0 j1_2) krf ?_ ?_
    ·refine sim_last Try.fm krf ?_
     exact nq_n (minI j1_4 j1_2) ⟨[6, 7, 8], [6, 7], [], []⟩ krf
    ·refine sim_skip ?_
     exact nq_n j1_4 ⟨[6, 7, 8], [6, 7], [], []⟩ krf
   ·rintro j2
    refine sim_seq ?_
    refine sim_reg ?_
    refine xs_run 3 krf ?_
    refine xs_call [] krf (g_money_Tax_ok n j2 j1_1) krf krf (fun _ => by kernel_rfl) (fun r3 => ?_)
    refine xs_run 2 krf ?_
    refine xs_exc [] krf (g_bill_must_ok n r3.1 r3.2) krf krf (fun _ => by kernel_rfl) (fun _ => by kernel_rfl) (fun r4 => ?_) (fun e5 => ?_)
    ·refine xs_run 2 krf ?_
     refine xs_end ?_
     refine sq_nk ⟨[6, 7], [6, 7], [], []⟩ ⟨[(6, .ptr 6 0), (7, .ptr 7 0)], [(6, .box 62 [.p (.val (.slice none 0 0)), I 0, I 0, I 0]), (7, .box 62 [.p (.val (.slice none 0 0)), I j2, I r4, I 0])]⟩ krf ?_
     refine sim_run Try.fm ⟨[6, 7], [6, 7], [], []⟩ ⟨[(6, .ptr 6 0), (7, .ptr 7 0)], [(6, .box 62 [.p (.val (.slice none 0 0)), I 0, I 0, I 0]), (7, .box 62 [.p (.val (.slice none 0 0)), I j2, I r4, I (wi (j2 + r4))])]⟩ krf ?_
     refine sim_seq ?_
     refine sim_run Try.fm ⟨[6, 7, 85], [6, 7], [], []⟩ ⟨[(6, .ptr 6 0), (7, .ptr 7 0), (85, B (ltI 1000000000 (wi (j2 + r4))))], [(6, .box 62 [.p (.val (.slice none 0 0)), I 0, I 0, I 0]), (7, .box 62 [.p (.val (.slice none 0 0)), I j2, I r4, I (wi (j2 + r4))])]⟩ krf ?_
     refine sim_cond (ltI 1000000000 (wi (j2 + r4))) krf ?_ ?_
     ·refine sim_reg ?_
      refine xs_run 2 krf ?_
      refine xs_panic 88 (.agg [I 3]) krf rfl krf ?_
      refine sq_p ?_
      exact rq_p krf krf
     ·refine sim_skip ?_
      refine sq_nk ⟨[6, 7], [6, 7], [], []⟩ ⟨[(6, .ptr 6 0), (7, .ptr 7 0)], [(6, .box 62 [.p (.val (.slice none 0 0)), I 0, I 0, I 0]), (7, .box 62 [.p (.val (.slice none 0 0)), I j2, I r4, I (wi (j2 + r4))])]⟩ krf ?_
      refine sim_run Try.fm ⟨[6], [6], [], []⟩ ⟨[(6, .ptr 6 0)], [(6, .box 62 [.p (.val (.slice none 0 0)), I j2, I r4, I (wi (j2 + r4))])]⟩ krf ?_
      refine sim_ret ?_
      exact rq_ret (.agg [.sl 2, .id, .id, .id]) krf krf krf
    ·refine sq_p ?_
     exact rq_p krf krf
  ·refine sim_bind (fun j2 => ⟨[(6, .ptr 6 0), (7, .ptr 7 0), (8, I j1_1)], [(6, .box 62 [.p (.val (.slice none 0 0)), I 0, I 0, I 0]), (7, .box 62 [.tsl 2 (List.map GLine.cs (OL.own ow_j1_3).toL) 38, I j2, I 0, I 0]), (38, .arr 96 2 (List.map GLine.cs (OL.own ow_j1_3).toL).length)]⟩ : Int → St) ?_ ?_
   ·refine sim_run Try.fm ⟨[6, 7, 8, 9, 63], [6, 7, 38], [], []⟩ ⟨[(6, .ptr 6 0), (7, .ptr 7 0), (8, I j1_1), (9, I j1_2), (63, B (leI 0 j1_2))], [(6, .box 62 [.p (.val (.slice none 0 0)), I 0, I 0, I 0]), (7, .box 62 [.tsl 2 (List.map GLine.cs (OL.own ow_j1_3).toL) 38, I j1_4, I 0, I 0]), (38, .arr 96 2 (List.map GLine.cs (OL.own ow_j1_3).toL).length)]⟩ krf ?_
    refine sim_cond (leI 0 j1_2) krf ?_ ?_
    ·refine sim_last Try.fm krf ?_
     exact nq_n (minI j1_4 j1_2) ⟨[6, 7, 8], [6, 7, 38], [], []⟩ krf
    ·refine sim_skip ?_
     exact nq_n j1_4 ⟨[6, 7, 8], [6, 7, 38], [], []⟩ krf
   ·rintro j2
    refine sim_seq ?_
    refine sim_reg ?_
    refine xs_run 3 krf ?_
    refine xs_call [] krf (g_money_Tax_ok n j2 j1_1) krf krf (fun _ => by kernel_rfl) (fun r3 => ?_)
    refine xs_run 2 krf ?_
    refine xs_exc [] krf (g_bill_must_ok n r3.1 r3.2) krf krf (fun _ => by kernel_rfl) (fun _ => by kernel_rfl) (fun r4 => ?_) (fun e5 => ?_)
    ·refine xs_run 2 krf ?_
     refine xs_end ?_
     refine sq_nk ⟨[6, 7], [6, 7, 38], [], []⟩ ⟨[(6, .ptr 6 0), (7, .ptr 7 0)], [(6, .box 62 [.p (.val (.slice none 0 0)), I 0, I 0, I 0]), (7, .box 62 [.tsl 2 (List.map GLine.cs (OL.own ow_j1_3).toL) 38, I j2, I r4, I 0]), (38, .arr 96 2 (List.map GLine.cs (OL.own ow_j1_3).toL).length)]⟩ krf ?_
     refine sim_run Try.fm ⟨[6, 7], [6, 7, 38], [], []⟩ ⟨[(6, .ptr 6 0), (7, .ptr 7 0)], [(6, .box 62 [.p (.val (.slice none 0 0)), I 0, I 0, I 0]), (7, .box 62 [.tsl 2 (List.map GLine.cs (OL.own ow_j1_3).toL) 38, I j2, I r4, I (wi (j2 + r4))]), (38, .arr 96 2 (List.map GLine.cs (OL.own ow_j1_3).toL).length)]⟩ krf ?_
     refine sim_seq ?_
     refine sim_run Try.fm ⟨[6, 7, 85], [6, 7, 38], [], []⟩ ⟨[(6, .ptr 6 0), (7, .ptr 7 0), (85, B (ltI 1000000000 (wi (j2 + r4))))], [(6, .box 62 [.p (.val (.slice none 0 0)), I 0, I 0, I 0]), (7, .box 62 [.tsl 2 (List.map GLine.cs (OL.own ow_j1_3).toL) 38, I j2, I r4, I (wi (j2 + r4))]), (38, .arr 96 2 (List.map GLine.cs (OL.own ow_j1_3).toL).length)]⟩ krf ?_
     refine sim_cond (ltI 1000000000 (wi (j2 + r4))) krf ?_ ?_
     ·refine sim_reg ?_
      refine xs_run 2 krf ?_
      refine xs_panic 88 (.agg [I 3]) krf rfl krf ?_
      refine sq_p ?_
      exact rq_p krf krf
     ·refine sim_skip ?_
      refine sq_nk ⟨[6, 7], [6, 7, 38], [], []⟩ ⟨[(6, .ptr 6 0), (7, .ptr 7 0)], [(6, .box 62 [.p (.val (.slice none 0 0)), I 0, I 0, I 0]), (7, .box 62 [.tsl 2 (List.map GLine.cs (OL.own ow_j1_3).toL) 38, I j2, I r4, I (wi (j2 + r4))]), (38, .arr 96 2 (List.map GLine.cs (OL.own ow_j1_3).toL).length)]⟩ krf ?_
      refine sim_run Try.fm ⟨[6], [6, 38], [], []⟩ ⟨[(6, .ptr 6 0)], [(6, .box 62 [.tsl 2 (List.map GLine.cs (OL.own ow_j1_3).toL) 38, I j2, I r4, I (wi (j2 + r4))]), (38, .arr 96 2 (List.map GLine.cs (OL.own ow_j1_3).toL).length)]⟩ krf ?_
      refine sim_ret ?_
      exact rq_ret (.agg [.sl 2, .id, .id, .id]) krf krf krf
    ·refine sq_p ?_
     exact rq_p krf krf
 ·refine sim_run Try.fm ⟨[4, 5, 6, 7, 8, 9, 15, 16, 17], [4, 5, 6, 7], [], []⟩ ⟨[(4, .ptr 4 0), (5, .ptr 5 0), (6, .ptr 6 0), (7, .ptr 7 0), (8, I 0), (9, I (-1)), (15, .p (.sl 7 (List.map GArticle.cs a0t.Articles))), (16, I (lenI (List.map GArticle.cs a0t.Articles))), (17, I 0)], [(4, .box 38 (bxc (GCalendar.cs a1c))), (5, .box 24 (bxc (GSession.cs a2s))), (6, .box 62 [.p (.val (.slice none 0 0)), I 0, I 0, I 0]), (7, .box 62 [.p (.val (.slice none 0 0)), I 0, I 0, I 0])]⟩ krf ?_
  refine sim_block ?_
  refine sim_loop (fun (l6_1, l6_2, l6_3, l6_4, l6_5) => ⟨[(4, .ptr 4 0), (5, .ptr 5 0), (6, .ptr 6 0), (7, .ptr 7 0), (8, I l6_1), (9, I l6_2), (15, .p (.sl 7 (List.map GArticle.cs a0t.Articles))), (16, I (lenI (List.map GArticle.cs a0t.Articles))), (17, I l6_3)], [(4, .box 38 (bxc (GCalendar.cs a1c))), (5, .box 24 (bxc (GSession.cs a2s))), (6, .box 62 [.p (.val (.slice none 0 0)), I 0, I 0, I 0]), (7, .box 62 [osl 2 GLine.cs l6_4 38, I l6_5, I 0, I 0])] ++ oarr 96 2 GLine.cs l6_4 38⟩ : (Int × Int × Int × (OL GLine) × Int) → St) (weak_shr (K := ⟨[4, 5, 6, 7, 8, 9, 15, 16, 17], [4, 5, 6, 7], [], []⟩) krf) ?_
  rintro recl6 ⟨l6_1, l6_2, l6_3, l6_4, l6_5⟩
  show SimE (g_bill_sum_l6 n a0t a1c a2s recl6 l6_1 l6_2 l6_3 l6_4 l6_5) _ _ _ _ _ _
  unfold g_bill_sum_l6
  rcases l6_4 with _ | ow_l6_4
  ·refine sim_run Try.fm ⟨[4, 5, 6, 7, 8, 9, 15, 16, 17, 18], [4, 5, 6, 7], [], []⟩ ⟨[(4, .ptr 4 0), (5, .ptr 5 0), (6, .ptr 6 0), (7, .ptr 7 0), (8, I l6_1), (9, I l6_2), (15, .p (.sl 7 (List.map GArticle.cs a0t.Articles))), (16, I (lenI (List.map GArticle.cs a0t.Articles))), (17, I l6_3), (18, B (ltI l6_3 (lenI (List.map GArticle.cs a0t.Articles))))], [(4, .box 38 (bxc (GCalendar.cs a1c))), (5, .box 24 (bxc (GSession.cs a2s))), (6, .box 62 [.p (.val (.slice none 0 0)), I 0, I 0, I 0]), (7, .box 62 [.p (.val (.slice none 0 0)), I l6_5, I 0, I 0])]⟩ krf ?_
   refine sim_seq ?_
   refine sim_cond (ltI l6_3 (lenI (List.map GArticle.cs a0t.Articles))) krf ?_ ?_
   ·refine sim_skip ?_
    refine sq_nk ⟨[4, 5, 6, 7, 8, 9, 15, 16, 17], [4, 5, 6, 7], [], []⟩ ⟨[(4, .ptr 4 0), (5, .ptr 5 0), (6, .ptr 6 0), (7, .ptr 7 0), (8, I l6_1), (9, I l6_2), (15, .p (.sl 7 (List.map GArticle.cs a0t.Articles))), (16, I (lenI (List.map GArticle.cs a0t.Articles))), (17, I l6_3)], [(4, .box 38 (bxc (GCalendar.cs a1c))), (5, .box 24 (bxc (GSession.cs a2s))), (6, .box 62 [.p (.val (.slice none 0 0)), I 0, I 0, I 0]), (7, .box 62 [.p (.val (.slice none 0 0)), I l6_5, I 0, I 0])]⟩ krf ?_
    refine sim_seq ?_
    refine sim_block ?_
    refine sim_seq ?_
    refine sim_reg ?_
    refine xs_run 1 krf ?_
    refine xs_get krf krf (aop_idx (e := 47) (S := 7) (enc := GArticle.cs) (l := a0t.Articles) (k := .i64) (n := l6_3) (sv := .p (.sl 7 (List.map GArticle.cs a0t.Articles))) rfl krf krf krf krf krf) (fun x7 => ?_)
    refine xs_run 4 krf ?_
    refine xs_end ?_
    refine sq_nk ⟨[4, 5, 6, 7, 8, 9, 10, 11, 15, 16, 17], [4, 5, 6, 7, 11], [], []⟩ ⟨[(4, .ptr 4 0), (5, .ptr 5 0), (6, .ptr 6 0), (7, .ptr 7 0), (8, I l6_1), (9, I l6_2), (10, I l6_3), (11, .ptr 11 0), (15, .p (.sl 7 (List.map GArticle.cs a0t.Articles))), (16, I (lenI (List.map GArticle.cs a0t.Articles))), (17, I l6_3)], [(4, .box 38 (bxc (GCalendar.cs a1c))), (5, .box 24 (bxc (GSession.cs a2s))), (6, .box 62 [.p (.val (.slice none 0 0)), I 0, I 0, I 0]), (7, .box 62 [.p (.val (.slice none 0 0)), I l6_5, I 0, I 0]), (11, .box 47 (bxc (GArticle.cs x7)))]⟩ krf ?_
    refine sim_run Try.fm ⟨[4, 5, 6, 7, 8, 9, 10, 11, 15, 16, 17, 23], [4, 5, 6, 7, 11], [], []⟩ ⟨[(4, .ptr 4 0), (5, .ptr 5 0), (6, .ptr 6 0), (7, .ptr 7 0), (8, I l6_1), (9, I l6_2), (10, I l6_3), (11, .ptr 11 0), (15, .p (.sl 7 (List.map GArticle.cs a0t.Articles))), (16, I (lenI (List.map GArticle.cs a0t.Articles))), (17, I l6_3), (23, I x7.Kind)], [(4, .box 38 (bxc (GCalendar.cs a1c))), (5, .box 24 (bxc (GSession.cs a2s))), (6, .box 62 [.p (.val (.slice none 0 0)), I 0, I 0, I 0]), (7, .box 62 [.p (.val (.slice none 0 0)), I l6_5, I 0, I 0]), (11, .box 47 (bxc (GArticle.cs x7)))]⟩ krf ?_
    refine sim_block ?_
    refine sim_run Try.fm ⟨[4, 5, 6, 7, 8, 9, 10, 11, 15, 16, 17, 23, 45], [4, 5, 6, 7, 11], [], []⟩ ⟨[(4, .ptr 4 0), (5, .ptr 5 0), (6, .ptr 6 0), (7, .ptr 7 0), (8, I l6_1), (9, I l6_2), (10, I l6_3), (11, .ptr 11 0), (15, .p (.sl 7 (List.map GArticle.cs a0t.Articles))), (16, I (lenI (List.map GArticle.cs a0t.Articles))), (17, I l6_3), (23, I x7.Kind), (45, B (eqI x7.Kind 5))], [(4, .box 38 (bxc (GCalendar.cs a1c))), (5, .box 24 (bxc (GSession.cs a2s))), (6, .box 62 [.p (.val (.slice none 0 0)), I 0, I 0, I 0]), (7, .box 62 [.p (.val (.slice none 0 0)), I l6_5, I 0, I 0]), (11, .box 47 (bxc (GArticle.cs x7)))]⟩ krf ?_
    refine sim_cond (eqI x7.Kind 5) krf ?_ ?_
    ·refine sim_bind (fun j8 => ⟨[(4, .ptr 4 0), (5, .ptr 5 0), (6, .ptr 6 0), (7, .ptr 7 0), (8, I l6_1), (9, I l6_2), (11, .ptr 11 0), (15, .p (.sl 7 (List.map GArticle.cs a0t.Articles))), (16, I (lenI (List.map GArticle.cs a0t.Articles))), (17, I l6_3), (54, B j8)], [(4, .box 38 (bxc (GCalendar.cs a1c))), (5, .box 24 (bxc (GSession.cs a2s))), (6, .box 62 [.p (.val (.slice none 0 0)), I 0, I 0, I 0]), (7, .box 62 [.p (.val (.slice none 0 0)), I l6_5, I 0, I 0]), (11, .box 47 (bxc (GArticle.cs x7)))]⟩ : Bool → St) ?_ ?_
     ·refine sim_reg ?_
      refine xs_run 3 krf ?_
      refine xs_split (ltI l6_2 0) (fun h9 => ?_) (fun h9 => ?_)
      ·refine xs_no (want_ft krf h9) krf ?_
       refine xs_run 4 krf ?_
       refine xs_end ?_
       exact nq_n true ⟨[4, 5, 6, 7, 8, 9, 11, 15, 16, 17, 54], [4, 5, 6, 7, 11], [], []⟩ krf
      ·refine xs_one (want_ff krf h9) krf ?_
       refine xs_run 4 krf ?_
       refine xs_end ?_
       exact nq_n (ltI x7.Price l6_2) ⟨[4, 5, 6, 7, 8, 9, 11, 15, 16, 17, 54], [4, 5, 6, 7, 11], [], []⟩ krf
     ·rintro j8
      refine sim_cond j8 krf ?_ ?_
      ·refine sim_last Try.fm krf ?_
       refine bq_n ?_
       refine bq_n ?_
       refine sq_nk ⟨[4, 5, 6, 7, 8, 9, 15, 16, 17], [4, 5, 6, 7], [], []⟩ ⟨[(4, .ptr 4 0), (5, .ptr 5 0), (6, .ptr 6 0), (7, .ptr 7 0), (8, I l6_1), (9, I x7.Price), (15, .p (.sl 7 (List.map GArticle.cs a0t.Articles))), (16, I (lenI (List.map GArticle.cs a0t.Articles))), (17, I l6_3)], [(4, .box 38 (bxc (GCalendar.cs a1c))), (5, .box 24 (bxc (GSession.cs a2s))), (6, .box 62 [.p (.val (.slice none 0 0)), I 0, I 0, I 0]), (7, .box 62 [.p (.val (.slice none 0 0)), I l6_5, I 0, I 0])]⟩ krf ?_
       refine sim_last Try.fm krf ?_
       exact kq_n (l6_1, x7.Price, wi (l6_3 + 1), OL.nil, l6_5) ⟨[4, 5, 6, 7, 8, 9, 15, 16, 17], [4, 5, 6, 7], [], []⟩ krf
      ·refine sim_skip ?_
       refine bq_n ?_
       refine bq_n ?_
       refine sq_nk ⟨[4, 5, 6, 7, 8, 9, 15, 16, 17], [4, 5, 6, 7], [], []⟩ ⟨[(4, .ptr 4 0), (5, .ptr 5 0), (6, .ptr 6 0), (7, .ptr 7 0), (8, I l6_1), (9, I l6_2), (15, .p (.sl 7 (List.map GArticle.cs a0t.Articles))), (16, I (lenI (List.map GArticle.cs a0t.Articles))), (17, I l6_3)], [(4, .box 38 (bxc (GCalendar.cs a1c))), (5, .box 24 (bxc (GSession.cs a2s))), (6, .box 62 [.p (.val (.slice none 0 0)), I 0, I 0, I 0]), (7, .box 62 [.p (.val (.slice none 0 0)), I l6_5, I 0, I 0])]⟩ krf ?_
       refine sim_last Try.fm krf ?_
       exact kq_n (l6_1, l6_2, wi (l6_3 + 1), OL.nil, l6_5) ⟨[4, 5, 6, 7, 8, 9, 15, 16, 17], [4, 5, 6, 7], [], []⟩ krf
    ·refine sim_run Try.fm ⟨[4, 5, 6, 7, 8, 9, 10, 11, 15, 16, 17, 57], [4, 5, 6, 7, 11], [], []⟩ ⟨[(4, .ptr 4 0), (5, .ptr 5 0), (6, .ptr 6 0), (7, .ptr 7 0), (8, I l6_1), (9, I l6_2), (10, I l6_3), (11, .ptr 11 0), (15, .p (.sl 7 (List.map GArticle.cs a0t.Articles))), (16, I (lenI (List.map GArticle.cs a0t.Articles))), (17, I l6_3), (57, B (eqI x7.Kind 6))], [(4, .box 38 (bxc (GCalendar.cs a1c))), (5, .box 24 (bxc (GSession.cs a2s))), (6, .box 62 [.p (.val (.slice none 0 0)), I 0, I 0, I 0]), (7, .box 62 [.p (.val (.slice none 0 0)), I l6_5, I 0, I 0]), (11, .box 47 (bxc (GArticle.cs x7)))]⟩ krf ?_
     refine sim_cond (eqI x7.Kind 6) krf ?_ ?_
     ·refine sim_last Try.fm krf ?_
      refine bq_n ?_
      refine bq_n ?_
      refine sq_nk ⟨[4, 5, 6, 7, 8, 9, 15, 16, 17], [4, 5, 6, 7], [], []⟩ ⟨[(4, .ptr 4 0), (5, .ptr 5 0), (6, .ptr 6 0), (7, .ptr 7 0), (8, I x7.Price), (9, I l6_2), (15, .p (.sl 7 (List.map GArticle.cs a0t.Articles))), (16, I (lenI (List.map GArticle.cs a0t.Articles))), (17, I l6_3)], [(4, .box 38 (bxc (GCalendar.cs a1c))), (5, .box 24 (bxc (GSession.cs a2s))), (6, .box 62 [.p (.val (.slice none 0 0)), I 0, I 0, I 0]), (7, .box 62 [.p (.val (.slice none 0 0)), I l6_5, I 0, I 0])]⟩ krf ?_
      refine sim_last Try.fm krf ?_
      exact kq_n (x7.Price, l6_2, wi (l6_3 + 1), OL.nil, l6_5) ⟨[4, 5, 6, 7, 8, 9, 15, 16, 17], [4, 5, 6, 7], [], []⟩ krf
     ·refine sim_run Try.fm ⟨[4, 5, 6, 7, 8, 9, 10, 12, 15, 16, 17], [4, 5, 6, 7, 28], [], []⟩ ⟨[(4, .ptr 4 0), (5, .ptr 5 0), (6, .ptr 6 0), (7, .ptr 7 0), (8, I l6_1), (9, I l6_2), (10, I l6_3), (12, .ptr 28 0), (15, .p (.sl 7 (List.map GArticle.cs a0t.Articles))), (16, I (lenI (List.map GArticle.cs a0t.Articles))), (17, I l6_3)], [(4, .box 38 (bxc (GCalendar.cs a1c))), (5, .box 24 (bxc (GSession.cs a2s))), (6, .box 62 [.p (.val (.slice none 0 0)), I 0, I 0, I 0]), (7, .box 62 [.p (.val (.slice none 0 0)), I l6_5, I 0, I 0]), (28, .box 92 (bxc (GBB.cs ⟨x7, a1c, a2s⟩)))]⟩ krf ?_
      refine sim_cps (fun j10 => ⟨[(4, .ptr 4 0), (5, .ptr 5 0), (6, .ptr 6 0), (7, .ptr 7 0), (8, I l6_1), (9, I l6_2), (10, I l6_3), (13, I j10), (15, .p (.sl 7 (List.map GArticle.cs a0t.Articles))), (16, I (lenI (List.map GArticle.cs a0t.Articles))), (17, I l6_3)], [(4, .box 38 (bxc (GCalendar.cs a1c))), (5, .box 24 (bxc (GSession.cs a2s))), (6, .box 62 [.p (.val (.slice none 0 0)), I 0, I 0, I 0]), (7, .box 62 [.p (.val (.slice none 0 0)), I l6_5, I 0, I 0])]⟩ : Int → St) (fun j10 => g_bill_sum_j10 l6_1 l6_2 l6_3 OL.nil l6_5 recl6 j10) ?_ ?_
      ·rintro j10
       show SimE (g_bill_sum_j10 l6_1 l6_2 l6_3 OL.nil l6_5 recl6 j10) _ _ _ _ _ _
       unfold g_bill_sum_j10
       refine sim_seq ?_
       refine sim_reg ?_
       refine xs_run 6 krf ?_
       refine xs_if krf krf (aop_app0 (e := 96) (S := 2) (by_ := 16) (enc := GLine.cs) (d := 38) (l2 := [(⟨l6_3, j10⟩ : GLine)]) (xv := .tsl 2 (List.map GLine.cs [(⟨l6_3, j10⟩ : GLine)]) 37) rfl rfl krf krf rfl krf krf krf rfl krf) ?_
       refine xs_run 2 krf ?_
       refine xs_end ?_
       refine sq_nk ⟨[4, 5, 6, 7, 8, 9, 13, 15, 16, 17], [4, 5, 6, 7, 38], [], []⟩ ⟨[(4, .ptr 4 0), (5, .ptr 5 0), (6, .ptr 6 0), (7, .ptr 7 0), (8, I l6_1), (9, I l6_2), (13, I j10), (15, .p (.sl 7 (List.map GArticle.cs a0t.Articles))), (16, I (lenI (List.map GArticle.cs a0t.Articles))), (17, I l6_3)], [(4, .box 38 (bxc (GCalendar.cs a1c))), (5, .box 24 (bxc (GSession.cs a2s))), (6, .box 62 [.p (.val (.slice none 0 0)), I 0, I 0, I 0]), (7, .box 62 [.tsl 2 (List.map GLine.cs (OL.nil.toL ++ [(⟨l6_3, j10⟩ : GLine)])) 38, I l6_5, I 0, I 0]), (38, .arr 96 2 (List.map GLine.cs (OL.nil.toL ++ [(⟨l6_3, j10⟩ : GLine)])).length)]⟩ krf ?_
       refine sim_last Try.fm krf ?_
       refine bq_n ?_
       refine bq_n ?_
       refine sq_nk ⟨[4, 5, 6, 7, 8, 9, 15, 16, 17], [4, 5, 6, 7, 38], [], []⟩ ⟨[(4, .ptr 4 0), (5, .ptr 5 0), (6, .ptr 6 0), (7, .ptr 7 0), (8, I l6_1), (9, I l6_2), (15, .p (.sl 7 (List.map GArticle.cs a0t.Articles))), (16, I (lenI (List.map GArticle.cs a0t.Articles))), (17, I l6_3)], [(4, .box 38 (bxc (GCalendar.cs a1c))), (5, .box 24 (bxc (GSession.cs a2s))), (6, .box 62 [.p (.val (.slice none 0 0)), I 0, I 0, I 0]), (7, .box 62 [.tsl 2 (List.map GLine.cs (OL.nil.toL ++ [(⟨l6_3, j10⟩ : GLine)])) 38, I (wi (l6_5 + j10)), I 0, I 0]), (38, .arr 96 2 (List.map GLine.cs (OL.nil.toL ++ [(⟨l6_3, j10⟩ : GLine)])).length)]⟩ krf ?_
       refine sim_last Try.fm krf ?_
       exact kq_n (l6_1, l6_2, wi (l6_3 + 1), OL.own (OL.nil.toL ++ [(⟨l6_3, j10⟩ : GLine)]), wi (l6_5 + j10)) ⟨[4, 5, 6, 7, 8, 9, 15, 16, 17], [4, 5, 6, 7, 38], [], []⟩ krf
      ·refine sim_reg ?_
       refine xs_run 1 krf ?_
       refine xs_inline [(1028, .box 92 (bxc (GBB.cs ⟨x7, a1c, a2s⟩)))] [.ptr 1028 0] [(1028, 28)] [] [] krf Try.func39 rfl Try.ntmps39 rfl krf krf krf ?_
       refine sim_run Try.fm ⟨[0], [1028], [], []⟩ ⟨[(0, .ptr 1028 0)], [(1028, .box 92 (bxc (GBB.cs ⟨x7, a1c, a2s⟩)))]⟩ krf ?_
       refine sim_seq ?_
       refine sim_run Try.fm ⟨[0, 6, 7], [1028], [], []⟩ ⟨[(0, .ptr 1028 0), (6, .ptr 1028 0), (7, I x7.Kind)], [(1028, .box 92 (bxc (GBB.cs ⟨x7, a1c, a2s⟩)))]⟩ krf ?_
       refine sim_block ?_
       refine sim_run Try.fm ⟨[0, 6, 7, 8], [1028], [], []⟩ ⟨[(0, .ptr 1028 0), (6, .ptr 1028 0), (7, I x7.Kind), (8, B (eqI x7.Kind 1))], [(1028, .box 92 (bxc (GBB.cs ⟨x7, a1c, a2s⟩)))]⟩ krf ?_
       refine sim_cond (eqI x7.Kind 1) krf ?_ ?_
       ·refine sim_run Try.fm ⟨[2], [1028], [], []⟩ ⟨[(2, .fn (.func 48) [.ptr 1028 0] [])], [(1028, .box 92 (bxc (GBB.cs ⟨x7, a1c, a2s⟩)))]⟩ krf ?_
        refine sim_ret ?_
        refine bq_r ?_
        refine sq_r ?_
        refine iq_ret .id [1028] [] (.fn (.func 48) [.ptr 1028 0] []) krf krf ?_
        refine kr0 ?_
        refine xs_inline [(1028, .box 92 (bxc (GBB.cs ⟨x7, a1c, a2s⟩)))] [.ptr 1028 0] [(1028, 28)] [] [] krf Try.func48 rfl Try.ntmps48 rfl krf krf krf ?_
        refine sim_run Try.fm ⟨[0], [1028], [], []⟩ ⟨[(0, .ptr 1028 0)], [(1028, .box 92 (bxc (GBB.cs ⟨x7, a1c, a2s⟩)))]⟩ krf ?_
        refine sim_seq ?_
        refine sim_seq ?_
        refine sim_reg ?_
        refine xs_run 6 krf ?_
        refine xs_ro [.ro [], .cv (.id)] krf (g_bb_applies_ok n (⟨x7, a1c, a2s⟩ : GBB) a2s.From) krf krf (fun _ => by kernel_rfl) (fun r11 => ?_)
        refine xs_end ?_
        refine sq_nk ⟨[0, 6, 7, 9], [1028], [], []⟩ ⟨[(0, .ptr 1028 0), (6, .ptr 1028 10), (7, .ptr 1028 10), (9, B r11)], [(1028, .box 92 (bxc (GBB.cs ⟨x7, a1c, a2s⟩)))]⟩ krf ?_
        refine sim_cond r11 krf ?_ ?_
        ·refine sim_run Try.fm ⟨[2], [1028], [], []⟩ ⟨[(2, I x7.Price)], [(1028, .box 92 (bxc (GBB.cs ⟨x7, a1c, a2s⟩)))]⟩ krf ?_
         refine sim_ret ?_
         refine sq_r ?_
         refine iq_ret .id [1028] [] (I x7.Price) krf krf ?_
         refine kr0 ?_
         refine xs_run 1 krf ?_
         refine xs_end ?_
         exact kq_n (k := fun j10 => g_bill_sum_j10 l6_1 l6_2 l6_3 OL.nil l6_5 recl6 j10) x7.Price ⟨[4, 5, 6, 7, 8, 9, 10, 13, 15, 16, 17], [4, 5, 6, 7], [], []⟩ krf
        ·refine sim_skip ?_
         refine sq_nk ⟨[6, 7], [1028], [], []⟩ ⟨[(6, .ptr 1028 10), (7, .ptr 1028 10)], [(1028, .box 92 (bxc (GBB.cs ⟨x7, a1c, a2s⟩)))]⟩ krf ?_
         refine sim_run Try.fm ⟨[2], [1028], [], []⟩ ⟨[(2, I 0)], [(1028, .box 92 (bxc (GBB.cs ⟨x7, a1c, a2s⟩)))]⟩ krf ?_
         refine sim_ret ?_
         refine iq_ret .id [1028] [] (I 0) krf krf ?_
         refine kr0 ?_
         refine xs_run 1 krf ?_
         refine xs_end ?_
         exact kq_n (k := fun j10 => g_bill_sum_j10 l6_1 l6_2 l6_3 OL.nil l6_5 recl6 j10) 0 ⟨[4, 5, 6, 7, 8, 9, 10, 13, 15, 16, 17], [4, 5, 6, 7], [], []⟩ krf
       ·refine sim_run Try.fm ⟨[0, 6, 7, 12], [1028], [], []⟩ ⟨[(0, .ptr 1028 0), (6, .ptr 1028 0), (7, I x7.Kind), (12, B (eqI x7.Kind 2))], [(1028, .box 92 (bxc (GBB.cs ⟨x7, a1c, a2s⟩)))]⟩ krf ?_
        refine sim_cond (eqI x7.Kind 2) krf ?_ ?_
        ·refine sim_run Try.fm ⟨[2], [1028], [], []⟩ ⟨[(2, .fn (.func 49) [.ptr 1028 0] [])], [(1028, .box 92 (bxc (GBB.cs ⟨x7, a1c, a2s⟩)))]⟩ krf ?_
         refine sim_ret ?_
         refine bq_r ?_
         refine sq_r ?_
         refine iq_ret .id [1028] [] (.fn (.func 49) [.ptr 1028 0] []) krf krf ?_
         refine kr0 ?_
         refine xs_inline [(1028, .box 92 (bxc (GBB.cs ⟨x7, a1c, a2s⟩)))] [.ptr 1028 0] [(1028, 28)] [] [] krf Try.func49 rfl Try.ntmps49 rfl krf krf krf ?_
         refine sim_run Try.fm ⟨[0], [1028], [], []⟩ ⟨[(0, .ptr 1028 0)], [(1028, .box 92 (bxc (GBB.cs ⟨x7, a1c, a2s⟩)))]⟩ krf ?_
         refine sim_run Try.fm ⟨[0, 3], [1028], [], []⟩ ⟨[(0, .ptr 1028 0), (3, I 0)], [(1028, .box 92 (bxc (GBB.cs ⟨x7, a1c, a2s⟩)))]⟩ krf ?_
         refine sim_bind (fun j12 => ⟨[(0, .ptr 1028 0), (3, I j12), (6, .ptr 1028 0), (7, .ptr 1028 0)], [(1028, .box 92 (bxc (GBB.cs ⟨x7, a1c, a2s⟩)))]⟩ : Int → St) ?_ ?_
         ·refine sim_run Try.fm ⟨[0, 3, 6, 7, 10, 11, 12], [1028], [], []⟩ ⟨[(0, .ptr 1028 0), (3, I 0), (6, .ptr 1028 0), (7, .ptr 1028 0), (10, .p (.sl 2 (List.map GSlice.cs a2s.Slices))), (11, I (lenI (List.map GSlice.cs a2s.Slices))), (12, I 0)], [(1028, .box 92 (bxc (GBB.cs ⟨x7, a1c, a2s⟩)))]⟩ krf ?_
          refine sim_block ?_
          refine sim_loop (fun (l13_1, l13_2) => ⟨[(0, .ptr 1028 0), (3, I l13_1), (6, .ptr 1028 0), (7, .ptr 1028 0), (10, .p (.sl 2 (List.map GSlice.cs a2s.Slices))), (11, I (lenI (List.map GSlice.cs a2s.Slices))), (12, I l13_2)], [(1028, .box 92 (bxc (GBB.cs ⟨x7, a1c, a2s⟩)))]⟩ : (Int × Int) → St) (weak_shr (K := ⟨[0, 3, 6, 7, 10, 11, 12], [1028], [], []⟩) krf) ?_
          rintro recl13 ⟨l13_1, l13_2⟩
          show SimE (g_bill_sum_l13 n a1c a2s x7 recl13 l13_1 l13_2) _ _ _ _ _ _
          unfold g_bill_sum_l13
          refine sim_run Try.fm ⟨[0, 3, 6, 7, 10, 11, 12, 13], [1028], [], []⟩ ⟨[(0, .ptr 1028 0), (3, I l13_1), (6, .ptr 1028 0), (7, .ptr 1028 0), (10, .p (.sl 2 (List.map GSlice.cs a2s.Slices))), (11, I (lenI (List.map GSlice.cs a2s.Slices))), (12, I l13_2), (13, B (ltI l13_2 (lenI (List.map GSlice.cs a2s.Slices))))], [(1028, .box 92 (bxc (GBB.cs ⟨x7, a1c, a2s⟩)))]⟩ krf ?_
          refine sim_seq ?_
          refine sim_cond (ltI l13_2 (lenI (List.map GSlice.cs a2s.Slices))) krf ?_ ?_
          ·refine sim_skip ?_
           refine sq_nk ⟨[0, 3, 6, 7, 10, 11, 12], [1028], [], []⟩ ⟨[(0, .ptr 1028 0), (3, I l13_1), (6, .ptr 1028 0), (7, .ptr 1028 0), (10, .p (.sl 2 (List.map GSlice.cs a2s.Slices))), (11, I (lenI (List.map GSlice.cs a2s.Slices))), (12, I l13_2)], [(1028, .box 92 (bxc (GBB.cs ⟨x7, a1c, a2s⟩)))]⟩ krf ?_
           refine sim_seq ?_
           refine sim_block ?_
           refine sim_seq ?_
           refine sim_reg ?_
           refine xs_get krf krf (aop_idx (e := 54) (S := 2) (enc := GSlice.cs) (l := a2s.Slices) (k := .i64) (n := l13_2) (sv := .p (.sl 2 (List.map GSlice.cs a2s.Slices))) rfl krf krf krf krf krf) (fun x14 => ?_)
           refine xs_run 3 krf ?_
           refine xs_end ?_
           refine sq_nk ⟨[0, 3, 5, 6, 7, 10, 11, 12], [5, 1028], [], []⟩ ⟨[(0, .ptr 1028 0), (3, I l13_1), (5, .ptr 5 0), (6, .ptr 1028 0), (7, .ptr 1028 0), (10, .p (.sl 2 (List.map GSlice.cs a2s.Slices))), (11, I (lenI (List.map GSlice.cs a2s.Slices))), (12, I l13_2)], [(5, .box 54 (bxc (GSlice.cs x14))), (1028, .box 92 (bxc (GBB.cs ⟨x7, a1c, a2s⟩)))]⟩ krf ?_
           refine sim_seq ?_
           refine sim_reg ?_
           refine xs_run 3 krf ?_
           refine xs_ro [.ro [], .cv (.id)] krf (g_bb_applies_ok n (⟨x7, a1c, a2s⟩ : GBB) x14.Minute) krf krf (fun _ => by kernel_rfl) (fun r15 => ?_)
           refine xs_end ?_
           refine sq_nk ⟨[0, 3, 5, 6, 7, 10, 11, 12, 19], [5, 1028], [], []⟩ ⟨[(0, .ptr 1028 0), (3, I l13_1), (5, .ptr 5 0), (6, .ptr 1028 0), (7, .ptr 1028 0), (10, .p (.sl 2 (List.map GSlice.cs a2s.Slices))), (11, I (lenI (List.map GSlice.cs a2s.Slices))), (12, I l13_2), (19, B r15)], [(5, .box 54 (bxc (GSlice.cs x14))), (1028, .box 92 (bxc (GBB.cs ⟨x7, a1c, a2s⟩)))]⟩ krf ?_
           refine sim_cond r15 krf ?_ ?_
           ·refine sim_last Try.fm krf ?_
            refine bq_n ?_
            refine sq_nk ⟨[0, 3, 6, 7, 10, 11, 12], [1028], [], []⟩ ⟨[(0, .ptr 1028 0), (3, I (wi (l13_1 + x14.Energy))), (6, .ptr 1028 0), (7, .ptr 1028 0), (10, .p (.sl 2 (List.map GSlice.cs a2s.Slices))), (11, I (lenI (List.map GSlice.cs a2s.Slices))), (12, I l13_2)], [(1028, .box 92 (bxc (GBB.cs ⟨x7, a1c, a2s⟩)))]⟩ krf ?_
            refine sim_last Try.fm krf ?_
            exact kq_n (wi (l13_1 + x14.Energy), wi (l13_2 + 1)) ⟨[0, 3, 6, 7, 10, 11, 12], [1028], [], []⟩ krf
           ·refine sim_skip ?_
            refine bq_n ?_
            refine sq_nk ⟨[0, 3, 6, 7, 10, 11, 12], [1028], [], []⟩ ⟨[(0, .ptr 1028 0), (3, I l13_1), (6, .ptr 1028 0), (7, .ptr 1028 0), (10, .p (.sl 2 (List.map GSlice.cs a2s.Slices))), (11, I (lenI (List.map GSlice.cs a2s.Slices))), (12, I l13_2)], [(1028, .box 92 (bxc (GBB.cs ⟨x7, a1c, a2s⟩)))]⟩ krf ?_
            refine sim_last Try.fm krf ?_
            exact kq_n (l13_1, wi (l13_2 + 1)) ⟨[0, 3, 6, 7, 10, 11, 12], [1028], [], []⟩ krf
          ·refine sim_exit ?_
           refine sq_x ?_
           refine kq_x ?_
           refine bq_hit ?_
           exact nq_n l13_1 ⟨[0, 3, 6, 7], [1028], [], []⟩ krf
         ·rintro j12
          refine sim_seq ?_
          refine sim_reg ?_
          refine xs_run 6 krf ?_
          refine xs_call [] krf (g_money_Times_ok n x7.Price j12 1000) krf krf (fun _ => by kernel_rfl) (fun r16 => ?_)
          refine xs_run 2 krf ?_
          refine xs_exc [] krf (g_bill_must_ok n r16.1 r16.2) krf krf (fun _ => by kernel_rfl) (fun _ => by kernel_rfl) (fun r17 => ?_) (fun e18 => ?_)
          ·refine xs_run 1 krf ?_
           refine xs_end ?_
           refine sq_nk ⟨[2], [1028], [], []⟩ ⟨[(2, I r17)], [(1028, .box 92 (bxc (GBB.cs ⟨x7, a1c, a2s⟩)))]⟩ krf ?_
           refine sim_ret ?_
           refine iq_ret .id [1028] [] (I r17) krf krf ?_
           refine kr0 ?_
           refine xs_run 1 krf ?_
           refine xs_end ?_
           exact kq_n (k := fun j10 => g_bill_sum_j10 l6_1 l6_2 l6_3 OL.nil l6_5 recl6 j10) r17 ⟨[4, 5, 6, 7, 8, 9, 10, 13, 15, 16, 17], [4, 5, 6, 7], [], []⟩ krf
          ·refine sq_p ?_
           refine iq_p [1028] [] krf ?_
           refine kq_p ?_
           refine bq_p ?_
           refine bq_p ?_
           refine sq_p ?_
           refine kq_p ?_
           refine bq_p ?_
           refine kq_p ?_
           exact rq_p krf krf
        ·refine sim_run Try.fm ⟨[0, 6, 7, 16], [1028], [], []⟩ ⟨[(0, .ptr 1028 0), (6, .ptr 1028 0), (7, I x7.Kind), (16, B (eqI x7.Kind 3))], [(1028, .box 92 (bxc (GBB.cs ⟨x7, a1c, a2s⟩)))]⟩ krf ?_
         refine sim_cond (eqI x7.Kind 3) krf ?_ ?_
         ·refine sim_run Try.fm ⟨[2], [1028], [], []⟩ ⟨[(2, .fn (.func 50) [.ptr 1028 0] [])], [(1028, .box 92 (bxc (GBB.cs ⟨x7, a1c, a2s⟩)))]⟩ krf ?_
          refine sim_ret ?_
          refine bq_r ?_
          refine sq_r ?_
          refine iq_ret .id [1028] [] (.fn (.func 50) [.ptr 1028 0] []) krf krf ?_
          refine kr0 ?_
          refine xs_inline [(1028, .box 92 (bxc (GBB.cs ⟨x7, a1c, a2s⟩)))] [.ptr 1028 0] [(1028, 28)] [] [] krf Try.func50 rfl Try.ntmps50 rfl krf krf krf ?_
          refine sim_run Try.fm ⟨[0], [1028], [], []⟩ ⟨[(0, .ptr 1028 0)], [(1028, .box 92 (bxc (GBB.cs ⟨x7, a1c, a2s⟩)))]⟩ krf ?_
          refine sim_seq ?_
          refine sim_drw Try.fm rfl ?_
          refine xs_run 11 krf ?_
          refine xs_seqL rfl krf krf ?_
          refine xs_roE [.ro [], .cv (.id), .cv (.id)] krf (g_bb_stretch_ok n (⟨x7, a1c, a2s⟩ : GBB) a2s.From a2s.To) krf krf (fun _ => by kernel_rfl) (fun _ => by kernel_rfl) (fun r19 => ?_) (fun e20 => ?_)
          ·refine xs_run 1 krf ?_
           refine xs_end ?_
           refine sq_nk ⟨[2], [1028], [], []⟩ ⟨[(2, I r19)], [(1028, .box 92 (bxc (GBB.cs ⟨x7, a1c, a2s⟩)))]⟩ krf ?_
           refine sim_ret ?_
           refine iq_ret .id [1028] [] (I r19) krf krf ?_
           refine kr0 ?_
           refine xs_run 1 krf ?_
           refine xs_end ?_
           exact kq_n (k := fun j10 => g_bill_sum_j10 l6_1 l6_2 l6_3 OL.nil l6_5 recl6 j10) r19 ⟨[4, 5, 6, 7, 8, 9, 10, 13, 15, 16, 17], [4, 5, 6, 7], [], []⟩ krf
          ·refine sq_p ?_
           refine iq_p [1028] [] krf ?_
           refine kq_p ?_
           refine bq_p ?_
           refine bq_p ?_
           refine sq_p ?_
           refine kq_p ?_
           refine bq_p ?_
           refine kq_p ?_
           exact rq_p krf krf
         ·refine sim_run Try.fm ⟨[0, 6, 7, 20], [1028], [], []⟩ ⟨[(0, .ptr 1028 0), (6, .ptr 1028 0), (7, I x7.Kind), (20, B (eqI x7.Kind 4))], [(1028, .box 92 (bxc (GBB.cs ⟨x7, a1c, a2s⟩)))]⟩ krf ?_
          refine sim_cond (eqI x7.Kind 4) krf ?_ ?_
          ·refine sim_run Try.fm ⟨[2], [1028], [], []⟩ ⟨[(2, .fn (.func 51) [.ptr 1028 0] [])], [(1028, .box 92 (bxc (GBB.cs ⟨x7, a1c, a2s⟩)))]⟩ krf ?_
           refine sim_ret ?_
           refine bq_r ?_
           refine sq_r ?_
           refine iq_ret .id [1028] [] (.fn (.func 51) [.ptr 1028 0] []) krf krf ?_
           refine kr0 ?_
           refine xs_inline [(1028, .box 92 (bxc (GBB.cs ⟨x7, a1c, a2s⟩)))] [.ptr 1028 0] [(1028, 28)] [] [] krf Try.func51 rfl Try.ntmps51 rfl krf krf krf ?_
           refine sim_run Try.fm ⟨[0], [1028], [], []⟩ ⟨[(0, .ptr 1028 0)], [(1028, .box 92 (bxc (GBB.cs ⟨x7, a1c, a2s⟩)))]⟩ krf ?_
           refine sim_seq ?_
           refine sim_drw Try.fm rfl ?_
           refine xs_run 11 krf ?_
           refine xs_seqL rfl krf krf ?_
           refine xs_roE [.ro [], .cv (.id), .cv (.id)] krf (g_bb_stretch_ok n (⟨x7, a1c, a2s⟩ : GBB) a2s.End a2s.To) krf krf (fun _ => by kernel_rfl) (fun _ => by kernel_rfl) (fun r21 => ?_) (fun e22 => ?_)
           ·refine xs_run 1 krf ?_
            refine xs_end ?_
            refine sq_nk ⟨[2], [1028], [], []⟩ ⟨[(2, I r21)], [(1028, .box 92 (bxc (GBB.cs ⟨x7, a1c, a2s⟩)))]⟩ krf ?_
            refine sim_ret ?_
            refine iq_ret .id [1028] [] (I r21) krf krf ?_
            refine kr0 ?_
            refine xs_run 1 krf ?_
            refine xs_end ?_
            exact kq_n (k := fun j10 => g_bill_sum_j10 l6_1 l6_2 l6_3 OL.nil l6_5 recl6 j10) r21 ⟨[4, 5, 6, 7, 8, 9, 10, 13, 15, 16, 17], [4, 5, 6, 7], [], []⟩ krf
           ·refine sq_p ?_
            refine iq_p [1028] [] krf ?_
            refine kq_p ?_
            refine bq_p ?_
            refine bq_p ?_
            refine sq_p ?_
            refine kq_p ?_
            refine bq_p ?_
            refine kq_p ?_
            exact rq_p krf krf
          ·refine sim_skip ?_
           refine bq_n ?_
           refine sq_nk ⟨[0, 6, 7], [1028], [], []⟩ ⟨[(0, .ptr 1028 0), (6, .ptr 1028 0), (7, I x7.Kind)], [(1028, .box 92 (bxc (GBB.cs ⟨x7, a1c, a2s⟩)))]⟩ krf ?_
           refine sim_run Try.fm ⟨[2], [1028], [], []⟩ ⟨[(2, .fn (.func 52) [.ptr 1028 0] [])], [(1028, .box 92 (bxc (GBB.cs ⟨x7, a1c, a2s⟩)))]⟩ krf ?_
           refine sim_ret ?_
           refine iq_ret .id [1028] [] (.fn (.func 52) [.ptr 1028 0] []) krf krf ?_
           refine kr0 ?_
           refine xs_inline [(1028, .box 92 (bxc (GBB.cs ⟨x7, a1c, a2s⟩)))] [.ptr 1028 0] [(1028, 28)] [] [] krf Try.func52 rfl Try.ntmps52 rfl krf krf krf ?_
           refine sim_run Try.fm ⟨[], [1028], [], []⟩ ⟨[], [(1028, .box 92 (bxc (GBB.cs ⟨x7, a1c, a2s⟩)))]⟩ krf ?_
           refine sim_run Try.fm ⟨[2], [1028], [], []⟩ ⟨[(2, I 0)], [(1028, .box 92 (bxc (GBB.cs ⟨x7, a1c, a2s⟩)))]⟩ krf ?_
           refine sim_ret ?_
           refine iq_ret .id [1028] [] (I 0) krf krf ?_
           refine kr0 ?_
           refine xs_run 1 krf ?_
           refine xs_end ?_
           exact kq_n (k := fun j10 => g_bill_sum_j10 l6_1 l6_2 l6_3 OL.nil l6_5 recl6 j10) 0 ⟨[4, 5, 6, 7, 8, 9, 10, 13, 15, 16, 17], [4, 5, 6, 7], [], []⟩ krf
   ·refine sim_exit ?_
    refine sq_x ?_
    refine kq_x ?_
    refine bq_hit ?_
    exact kq_n (k := fun (j1_1, j1_2, j1_3, j1_4) => g_bill_sum_j1 n j1_1 j1_2 j1_3 j1_4) (l6_1, l6_2, OL.nil, l6_5) ⟨[6, 7, 8, 9], [6, 7], [], []⟩ krf
  ·refine sim_run Try.fm ⟨[4, 5, 6, 7, 8, 9, 15, 16, 17, 18], [4, 5, 6, 7, 38], [], []⟩ ⟨[(4, .ptr 4 0), (5, .ptr 5 0), (6, .ptr 6 0), (7, .ptr 7 0), (8, I l6_1), (9, I l6_2), (15, .p (.sl 7 (List.map GArticle.cs a0t.Articles))), (16, I (lenI (List.map GArticle.cs a0t.Articles))), (17, I l6_3), (18, B (ltI l6_3 (lenI (List.map GArticle.cs a0t.Articles))))], [(4, .box 38 (bxc (GCalendar.cs a1c))), (5, .box 24 (bxc (GSession.cs a2s))), (6, .box 62 [.p (.val (.slice none 0 0)), I 0, I 0, I 0]), (7, .box 62 [.tsl 2 (List.map GLine.cs (OL.own ow_l6_4).toL) 38, I l6_5, I 0, I 0]), (38, .arr 96 2 (List.map GLine.cs (OL.own ow_l6_4).toL).length)]⟩ krf ?_
   refine sim_seq ?_
   refine sim_cond (ltI l6_3 (lenI (List.map GArticle.cs a0t.Articles))) krf ?_ ?_
   ·refine sim_skip ?_
    refine sq_nk ⟨[4, 5, 6, 7, 8, 9, 15, 16, 17], [4, 5, 6, 7, 38], [], []⟩ ⟨[(4, .ptr 4 0), (5, .ptr 5 0), (6, .ptr 6 0), (7, .ptr 7 0), (8, I l6_1), (9, I l6_2), (15, .p (.sl 7 (List.map GArticle.cs a0t.Articles))), (16, I (lenI (List.map GArticle.cs a0t.Articles))), (17, I l6_3)], [(4, .box 38 (bxc (GCalendar.cs a1c))), (5, .box 24 (bxc (GSession.cs a2s))), (6, .box 62 [.p (.val (.slice none 0 0)), I 0, I 0, I 0]), (7, .box 62 [.tsl 2 (List.map GLine.cs (OL.own ow_l6_4).toL) 38, I l6_5, I 0, I 0]), (38, .arr 96 2 (List.map GLine.cs (OL.own ow_l6_4).toL).length)]⟩ krf ?_
    refine sim_seq ?_
    refine sim_block ?_
    refine sim_seq ?_
    refine sim_reg ?_
    refine xs_run 1 krf ?_
    refine xs_get krf krf (aop_idx (e := 47) (S := 7) (enc := GArticle.cs) (l := a0t.Articles) (k := .i64) (n := l6_3) (sv := .p (.sl 7 (List.map GArticle.cs a0t.Articles))) rfl krf krf krf krf krf) (fun x7 => ?_)
    refine xs_run 4 krf ?_
    refine xs_end ?_
    refine sq_nk ⟨[4, 5, 6, 7, 8, 9, 10, 11, 15, 16, 17], [4, 5, 6, 7, 11, 38], [], []⟩ ⟨[(4, .ptr 4 0), (5, .ptr 5 0), (6, .ptr 6 0), (7, .ptr 7 0), (8, I l6_1), (9, I l6_2), (10, I l6_3), (11, .ptr 11 0), (15, .p (.sl 7 (List.map GArticle.cs a0t.Articles))), (16, I (lenI (List.map GArticle.cs a0t.Articles))), (17, I l6_3)], [(4, .box 38 (bxc (GCalendar.cs a1c))), (5, .box 24 (bxc (GSession.cs a2s))), (6, .box 62 [.p (.val (.slice none 0 0)), I 0, I 0, I 0]), (7, .box 62 [.tsl 2 (List.map GLine.cs (OL.own ow_l6_4).toL) 38, I l6_5, I 0, I 0]), (11, .box 47 (bxc (GArticle.cs x7))), (38, .arr 96 2 (List.map GLine.cs (OL.own ow_l6_4).toL).length)]⟩ krf ?_
    refine sim_run Try.fm ⟨[4, 5, 6, 7, 8, 9, 10, 11, 15, 16, 17, 23], [4, 5, 6, 7, 11, 38], [], []⟩ ⟨[(4, .ptr 4 0), (5, .ptr 5 0), (6, .ptr 6 0), (7, .ptr 7 0), (8, I l6_1), (9, I l6_2), (10, I l6_3), (11, .ptr 11 0), (15, .p (.sl 7 (List.map GArticle.cs a0t.Articles))), (16, I (lenI (List.map GArticle.cs a0t.Articles))), (17, I l6_3), (23, I x7.Kind)], [(4, .box 38 (bxc (GCalendar.cs a1c))), (5, .box 24 (bxc (GSession.cs a2s))), (6, .box 62 [.p (.val (.slice none 0 0)), I 0, I 0, I 0]), (7, .box 62 [.tsl 2 (List.map GLine.cs (OL.own ow_l6_4).toL) 38, I l6_5, I 0, I 0]), (11, .box 47 (bxc (GArticle.cs x7))), (38, .arr 96 2 (List.map GLine.cs (OL.own ow_l6_4).toL).length)]⟩ krf ?_
    refine sim_block ?_
    refine sim_run Try.fm ⟨[4, 5, 6, 7, 8, 9, 10, 11, 15, 16, 17, 23, 45], [4, 5, 6, 7, 11, 38], [], []⟩ ⟨[(4, .ptr 4 0), (5, .ptr 5 0), (6, .ptr 6 0), (7, .ptr 7 0), (8, I l6_1), (9, I l6_2), (10, I l6_3), (11, .ptr 11 0), (15, .p (.sl 7 (List.map GArticle.cs a0t.Articles))), (16, I (lenI (List.map GArticle.cs a0t.Articles))), (17, I l6_3), (23, I x7.Kind), (45, B (eqI x7.Kind 5))], [(4, .box 38 (bxc (GCalendar.cs a1c))), (5, .box 24 (bxc (GSession.cs a2s))), (6, .box 62 [.p (.val (.slice none 0 0)), I 0, I 0, I 0]), (7, .box 62 [.tsl 2 (List.map GLine.cs (OL.own ow_l6_4).toL) 38, I l6_5, I 0, I 0]), (11, .box 47 (bxc (GArticle.cs x7))), (38, .arr 96 2 (List.map GLine.cs (OL.own ow_l6_4).toL).length)]⟩ krf ?_
    refine sim_cond (eqI x7.Kind 5) krf ?_ ?_
    ·refine sim_bind (fun j8 => ⟨[(4, .ptr 4 0), (5, .ptr 5 0), (6, .ptr 6 0), (7, .ptr 7 0), (8, I l6_1), (9, I l6_2), (11, .ptr 11 0), (15, .p (.sl 7 (List.map GArticle.cs a0t.Articles))), (16, I (lenI (List.map GArticle.cs a0t.Articles))), (17, I l6_3), (54, B j8)], [(4, .box 38 (bxc (GCalendar.cs a1c))), (5, .box 24 (bxc (GSession.cs a2s))), (6, .box 62 [.p (.val (.slice none 0 0)), I 0, I 0, I 0]), (7, .box 62 [.tsl 2 (List.map GLine.cs (OL.own ow_l6_4).toL) 38, I l6_5, I 0, I 0]), (11, .box 47 (bxc (GArticle.cs x7))), (38, .arr 96 2 (List.map GLine.cs (OL.own ow_l6_4).toL).length)]⟩ : Bool → St) ?_ ?_
     ·refine sim_reg ?_
      refine xs_run 3 krf ?_
      refine xs_split (ltI l6_2 0) (fun h9 => ?_) (fun h9 => ?_)
      ·refine xs_no (want_ft krf h9) krf ?_
       refine xs_run 4 krf ?_
       refine xs_end ?_
       exact nq_n true ⟨[4, 5, 6, 7, 8, 9, 11, 15, 16, 17, 54], [4, 5, 6, 7, 11, 38], [], []⟩ krf
      ·refine xs_one (want_ff krf h9) krf ?_
       refine xs_run 4 krf ?_
       refine xs_end ?_
       exact nq_n (ltI x7.Price l6_2) ⟨[4, 5, 6, 7, 8, 9, 11, 15, 16, 17, 54], [4, 5, 6, 7, 11, 38], [], []⟩ krf
     ·rintro j8
      refine sim_cond j8 krf ?_ ?_
      ·refine sim_last Try.fm krf ?_
       refine bq_n ?_
       refine bq_n ?_
       refine sq_nk ⟨[4, 5, 6, 7, 8, 9, 15, 16, 17], [4, 5, 6, 7, 38], [], []⟩ ⟨[(4, .ptr 4 0), (5, .ptr 5 0), (6, .ptr 6 0), (7, .ptr 7 0), (8, I l6_1), (9, I x7.Price), (15, .p (.sl 7 (List.map GArticle.cs a0t.Articles))), (16, I (lenI (List.map GArticle.cs a0t.Articles))), (17, I l6_3)], [(4, .box 38 (bxc (GCalendar.cs a1c))), (5, .box 24 (bxc (GSession.cs a2s))), (6, .box 62 [.p (.val (.slice none 0 0)), I 0, I 0, I 0]), (7, .box 62 [.tsl 2 (List.map GLine.cs (OL.own ow_l6_4).toL) 38, I l6_5, I 0, I 0]), (38, .arr 96 2 (List.map GLine.cs (OL.own ow_l6_4).toL).length)]⟩ krf ?_
       refine sim_last Try.fm krf ?_
       exact kq_n (l6_1, x7.Price, wi (l6_3 + 1), (OL.own ow_l6_4), l6_5) ⟨[4, 5, 6, 7, 8, 9, 15, 16, 17], [4, 5, 6, 7, 38], [], []⟩ krf
      ·refine sim_skip ?_
       refine bq_n ?_
       refine bq_n ?_
       refine sq_nk ⟨[4, 5, 6, 7, 8, 9, 15, 16, 17], [4, 5, 6, 7, 38], [], []⟩ ⟨[(4, .ptr 4 0), (5, .ptr 5 0), (6, .ptr 6 0), (7, .ptr 7 0), (8, I l6_1), (9, I l6_2), (15, .p (.sl 7 (List.map GArticle.cs a0t.Articles))), (16, I (lenI (List.map GArticle.cs a0t.Articles))), (17, I l6_3)], [(4, .box 38 (bxc (GCalendar.cs a1c))), (5, .box 24 (bxc (GSession.cs a2s))), (6, .box 62 [.p (.val (.slice none 0 0)), I 0, I 0, I 0]), (7, .box 62 [.tsl 2 (List.map GLine.cs (OL.own ow_l6_4).toL) 38, I l6_5, I 0, I 0]), (38, .arr 96 2 (List.map GLine.cs (OL.own ow_l6_4).toL).length)]⟩ krf ?_
       refine sim_last Try.fm krf ?_
       exact kq_n (l6_1, l6_2, wi (l6_3 + 1), (OL.own ow_l6_4), l6_5) ⟨[4, 5, 6, 7, 8, 9, 15, 16, 17], [4, 5, 6, 7, 38], [], []⟩ krf
    ·refine sim_run Try.fm ⟨[4, 5, 6, 7, 8, 9, 10, 11, 15, 16, 17, 57], [4, 5, 6, 7, 11, 38], [], []⟩ ⟨[(4, .ptr 4 0), (5, .ptr 5 0), (6, .ptr 6 0), (7, .ptr 7 0), (8, I l6_1), (9, I l6_2), (10, I l6_3), (11, .ptr 11 0), (15, .p (.sl 7 (List.map GArticle.cs a0t.Articles))), (16, I (lenI (List.map GArticle.cs a0t.Articles))), (17, I l6_3), (57, B (eqI x7.Kind 6))], [(4, .box 38 (bxc (GCalendar.cs a1c))), (5, .box 24 (bxc (GSession.cs a2s))), (6, .box 62 [.p (.val (.slice none 0 0)), I 0, I 0, I 0]), (7, .box 62 [.tsl 2 (List.map GLine.cs (OL.own ow_l6_4).toL) 38, I l6_5, I 0, I 0]), (11, .box 47 (bxc (GArticle.cs x7))), (38, .arr 96 2 (List.map GLine.cs (OL.own ow_l6_4).toL).length)]⟩ krf ?_
     refine sim_cond (eqI x7.Kind 6) krf ?_ ?_
     ·refine sim_last Try.fm krf ?_
      refine bq_n ?_
      refine bq_n ?_
      refine sq_nk ⟨[4, 5, 6, 7, 8, 9, 15, 16, 17], [4, 5, 6, 7, 38], [], []⟩ ⟨[(4, .ptr 4 0), (5, .ptr 5 0), (6, .ptr 6 0), (7, .ptr 7 0), (8, I x7.Price), (9, I l6_2), (15, .p (.sl 7 (List.map GArticle.cs a0t.Articles))), (16, I (lenI (List.map GArticle.cs a0t.Articles))), (17, I l6_3)], [(4, .box 38 (bxc (GCalendar.cs a1c))), (5, .box 24 (bxc (GSession.cs a2s))), (6, .box 62 [.p (.val (.slice none 0 0)), I 0, I 0, I 0]), (7, .box 62 [.tsl 2 (List.map GLine.cs (OL.own ow_l6_4).toL) 38, I l6_5, I 0, I 0]), (38, .arr 96 2 (List.map GLine.cs (OL.own ow_l6_4).toL).length)]⟩ krf ?_
      refine sim_last Try.fm krf ?_
      exact kq_n (x7.Price, l6_2, wi (l6_3 + 1), (OL.own ow_l6_4), l6_5) ⟨[4, 5, 6, 7, 8, 9, 15, 16, 17], [4, 5, 6, 7, 38], [], []⟩ krf
     ·refine sim_run Try.fm ⟨[4, 5, 6, 7, 8, 9, 10, 12, 15, 16, 17], [4, 5, 6, 7, 28, 38], [], []⟩ ⟨[(4, .ptr 4 0), (5, .ptr 5 0), (6, .ptr 6 0), (7, .ptr 7 0), (8, I l6_1), (9, I l6_2), (10, I l6_3), (12, .ptr 28 0), (15, .p (.sl 7 (List.map GArticle.cs a0t.Articles))), (16, I (lenI (List.map GArticle.cs a0t.Articles))), (17, I l6_3)], [(4, .box 38 (bxc (GCalendar.cs a1c))), (5, .box 24 (bxc (GSession.cs a2s))), (6, .box 62 [.p (.val (.slice none 0 0)), I 0, I 0, I 0]), (7, .box 62 [.tsl 2 (List.map GLine.cs (OL.own ow_l6_4).toL) 38, I l6_5, I 0, I 0]), (28, .box 92 (bxc (GBB.cs ⟨x7, a1c, a2s⟩))), (38, .arr 96 2 (List.map GLine.cs (OL.own ow_l6_4).toL).length)]⟩ krf ?_
      refine sim_cps (fun j10 => ⟨[(4, .ptr 4 0), (5, .ptr 5 0), (6, .ptr 6 0), (7, .ptr 7 0), (8, I l6_1), (9, I l6_2), (10, I l6_3), (13, I j10), (15, .p (.sl 7 (List.map GArticle.cs a0t.Articles))), (16, I (lenI (List.map GArticle.cs a0t.Articles))), (17, I l6_3)], [(4, .box 38 (bxc (GCalendar.cs a1c))), (5, .box 24 (bxc (GSession.cs a2s))), (6, .box 62 [.p (.val (.slice none 0 0)), I 0, I 0, I 0]), (7, .box 62 [.tsl 2 (List.map GLine.cs (OL.own ow_l6_4).toL) 38, I l6_5, I 0, I 0]), (38, .arr 96 2 (List.map GLine.cs (OL.own ow_l6_4).toL).length)]⟩ : Int → St) (fun j10 => g_bill_sum_j10 l6_1 l6_2 l6_3 (OL.own ow_l6_4) l6_5 recl6 j10) ?_ ?_
      ·rintro j10
       show SimE (g_bill_sum_j10 l6_1 l6_2 l6_3 (OL.own ow_l6_4) l6_5 recl6 j10) _ _ _ _ _ _
       unfold g_bill_sum_j10
       refine sim_seq ?_
       refine sim_reg ?_
       refine xs_run 6 krf ?_
       refine xs_if krf krf (aop_app (e := 96) (S := 2) (by_ := 16) (enc := GLine.cs) (tk := 38) (l := (OL.own ow_l6_4).toL) (l2 := [(⟨l6_3, j10⟩ : GLine)]) (xv := .tsl 2 (List.map GLine.cs [(⟨l6_3, j10⟩ : GLine)]) 37) rfl krf krf rfl krf krf krf rfl krf) ?_
       refine xs_run 2 krf ?_
       refine xs_end ?_
       refine sq_nk ⟨[4, 5, 6, 7, 8, 9, 13, 15, 16, 17], [4, 5, 6, 7, 38], [], []⟩ ⟨[(4, .ptr 4 0), (5, .ptr 5 0), (6, .ptr 6 0), (7, .ptr 7 0), (8, I l6_1), (9, I l6_2), (13, I j10), (15, .p (.sl 7 (List.map GArticle.cs a0t.Articles))), (16, I (lenI (List.map GArticle.cs a0t.Articles))), (17, I l6_3)], [(4, .box 38 (bxc (GCalendar.cs a1c))), (5, .box 24 (bxc (GSession.cs a2s))), (6, .box 62 [.p (.val (.slice none 0 0)), I 0, I 0, I 0]), (7, .box 62 [.tsl 2 (List.map GLine.cs ((OL.own ow_l6_4).toL ++ [(⟨l6_3, j10⟩ : GLine)])) 38, I l6_5, I 0, I 0]), (38, .arr 96 2 (List.map GLine.cs ((OL.own ow_l6_4).toL ++ [(⟨l6_3, j10⟩ : GLine)])).length)]⟩ krf ?_
       refine sim_last Try.fm krf ?_
       refine bq_n ?_
       refine bq_n ?_
       refine sq_nk ⟨[4, 5, 6, 7, 8, 9, 15, 16, 17], [4, 5, 6, 7, 38], [], []⟩ ⟨[(4, .ptr 4 0), (5, .ptr 5 0), (6, .ptr 6 0), (7, .ptr 7 0), (8, I l6_1), (9, I l6_2), (15, .p (.sl 7 (List.map GArticle.cs a0t.Articles))), (16, I (lenI (List.map GArticle.cs a0t.Articles))), (17, I l6_3)], [(4, .box 38 (bxc (GCalendar.cs a1c))), (5, .box 24 (bxc (GSession.cs a2s))), (6, .box 62 [.p (.val (.slice none 0 0)), I 0, I 0, I 0]), (7, .box 62 [.tsl 2 (List.map GLine.cs ((OL.own ow_l6_4).toL ++ [(⟨l6_3, j10⟩ : GLine)])) 38, I (wi (l6_5 + j10)), I 0, I 0]), (38, .arr 96 2 (List.map GLine.cs ((OL.own ow_l6_4).toL ++ [(⟨l6_3, j10⟩ : GLine)])).length)]⟩ krf ?_
       refine sim_last Try.fm krf ?_
       exact kq_n (l6_1, l6_2, wi (l6_3 + 1), OL.own ((OL.own ow_l6_4).toL ++ [(⟨l6_3, j10⟩ : GLine)]), wi (l6_5 + j10)) ⟨[4, 5, 6, 7, 8, 9, 15, 16, 17], [4, 5, 6, 7, 38], [], []⟩ krf
      ·refine sim_reg ?_
       refine xs_run 1 krf ?_
       refine xs_inline [(1028, .box 92 (bxc (GBB.cs ⟨x7, a1c, a2s⟩)))] [.ptr 1028 0] [(1028, 28)] [] [] krf Try.func39 rfl Try.ntmps39 rfl krf krf krf ?_
       refine sim_run Try.fm ⟨[0], [1028], [], []⟩ ⟨[(0, .ptr 1028 0)], [(1028, .box 92 (bxc (GBB.cs ⟨x7, a1c, a2s⟩)))]⟩ krf ?_
       refine sim_seq ?_
       refine sim_run Try.fm ⟨[0, 6, 7], [1028], [], []⟩ ⟨[(0, .ptr 1028 0), (6, .ptr 1028 0), (7, I x7.Kind)], [(1028, .box 92 (bxc (GBB.cs ⟨x7, a1c, a2s⟩)))]⟩ krf ?_
       refine sim_block ?_
       refine sim_run Try.fm ⟨[0, 6, 7, 8], [1028], [], []⟩ ⟨[(0, .ptr 1028 0), (6, .ptr 1028 0), (7, I x7.Kind), (8, B (eqI x7.Kind 1))], [(1028, .box 92 (bxc (GBB.cs ⟨x7, a1c, a2s⟩)))]⟩ krf ?_
       refine sim_cond (eqI x7.Kind 1) krf ?_ ?_
       ·refine sim_run Try.fm ⟨[2], [1028], [], []⟩ ⟨[(2, .fn (.func 48) [.ptr 1028 0] [])], [(1028, .box 92 (bxc (GBB.cs ⟨x7, a1c, a2s⟩)))]⟩ krf ?_
        refine sim_ret ?_
        refine bq_r ?_
        refine sq_r ?_
        refine iq_ret .id [1028] [] (.fn (.func 48) [.ptr 1028 0] []) krf krf ?_
        refine kr0 ?_
        refine xs_inline [(1028, .box 92 (bxc (GBB.cs ⟨x7, a1c, a2s⟩)))] [.ptr 1028 0] [(1028, 28)] [] [] krf Try.func48 rfl Try.ntmps48 rfl krf krf krf ?_
        refine sim_run Try.fm ⟨[0], [1028], [], []⟩ ⟨[(0, .ptr 1028 0)], [(1028, .box 92 (bxc (GBB.cs ⟨x7, a1c, a2s⟩)))]⟩ krf ?_
        refine sim_seq ?_
        refine sim_seq ?_
        refine sim_reg ?_
        refine xs_run 6 krf ?_
        refine xs_ro [.ro [], .cv (.id)] krf (g_bb_applies_ok n (⟨x7, a1c, a2s⟩ : GBB) a2s.From) krf krf (fun _ => by kernel_rfl) (fun r11 => ?_)
        refine xs_end ?_
        refine sq_nk ⟨[0, 6, 7, 9], [1028], [], []⟩ ⟨[(0, .ptr 1028 0), (6, .ptr 1028 10), (7, .ptr 1028 10), (9, B r11)], [(1028, .box 92 (bxc (GBB.cs ⟨x7, a1c, a2s⟩)))]⟩ krf ?_
        refine sim_cond r11 krf ?_ ?_
        ·refine sim_run Try.fm ⟨[2], [1028], [], []⟩ ⟨[(2, I x7.Price)], [(1028, .box 92 (bxc (GBB.cs ⟨x7, a1c, a2s⟩)))]⟩ krf ?_
         refine sim_ret ?_
         refine sq_r ?_
         refine iq_ret .id [1028] [] (I x7.Price) krf krf ?_
         refine kr0 ?_
         refine xs_run 1 krf ?_
         refine xs_end ?_
         exact kq_n (k := fun j10 => g_bill_sum_j10 l6_1 l6_2 l6_3 (OL.own ow_l6_4) l6_5 recl6 j10) x7.Price ⟨[4, 5, 6, 7, 8, 9, 10, 13, 15, 16, 17], [4, 5, 6, 7, 38], [], []⟩ krf
        ·refine sim_skip ?_
         refine sq_nk ⟨[6, 7], [1028], [], []⟩ ⟨[(6, .ptr 1028 10), (7, .ptr 1028 10)], [(1028, .box 92 (bxc (GBB.cs ⟨x7, a1c, a2s⟩)))]⟩ krf ?_
         refine sim_run Try.fm ⟨[2], [1028], [], []⟩ ⟨[(2, I 0)], [(1028, .box 92 (bxc (GBB.cs ⟨x7, a1c, a2s⟩)))]⟩ krf ?_
         refine sim_ret ?_
         refine iq_ret .id [1028] [] (I 0) krf krf ?_
         refine kr0 ?_
         refine xs_run 1 krf ?_
         refine xs_end ?_
         exact kq_n (k := fun j10 => g_bill_sum_j10 l6_1 l6_2 l6_3 (OL.own ow_l6_4) l6_5 recl6 j10) 0 ⟨[4, 5, 6, 7, 8, 9, 10, 13, 15, 16, 17], [4, 5, 6, 7, 38], [], []⟩ krf
       ·refine sim_run Try.fm ⟨[0, 6, 7, 12], [1028], [], []⟩ ⟨[(0, .ptr 1028 0), (6, .ptr 1028 0), (7, I x7.Kind), (12, B (eqI x7.Kind 2))], [(1028, .box 92 (bxc (GBB.cs ⟨x7, a1c, a2s⟩)))]⟩ krf ?_
        refine sim_cond (eqI x7.Kind 2) krf ?_ ?_
        ·refine sim_run Try.fm ⟨[2], [1028], [], []⟩ ⟨[(2, .fn (.func 49) [.ptr 1028 0] [])], [(1028, .box 92 (bxc (GBB.cs ⟨x7, a1c, a2s⟩)))]⟩ krf ?_
         refine sim_ret ?_
         refine bq_r ?_
         refine sq_r ?_
         refine iq_ret .id [1028] [] (.fn (.func 49) [.ptr 1028 0] []) krf krf ?_
         refine kr0 ?_
         refine xs_inline [(1028, .box 92 (bxc (GBB.cs ⟨x7, a1c, a2s⟩)))] [.ptr 1028 0] [(1028, 28)] [] [] krf Try.func49 rfl Try.ntmps49 rfl krf krf krf ?_
         refine sim_run Try.fm ⟨[0], [1028], [], []⟩ ⟨[(0, .ptr 1028 0)], [(1028, .box 92 (bxc (GBB.cs ⟨x7, a1c, a2s⟩)))]⟩ krf ?_
         refine sim_run Try.fm ⟨[0, 3], [1028], [], []⟩ ⟨[(0, .ptr 1028 0), (3, I 0)], [(1028, .box 92 (bxc (GBB.cs ⟨x7, a1c, a2s⟩)))]⟩ krf ?_
         refine sim_bind (fun j12 => ⟨[(0, .ptr 1028 0), (3, I j12), (6, .ptr 1028 0), (7, .ptr 1028 0)], [(1028, .box 92 (bxc (GBB.cs ⟨x7, a1c, a2s⟩)))]⟩ : Int → St) ?_ ?_
         ·refine sim_run Try.fm ⟨[0, 3, 6, 7, 10, 11, 12], [1028], [], []⟩ ⟨[(0, .ptr 1028 0), (3, I 0), (6, .ptr 1028 0), (7, .ptr 1028 0), (10, .p (.sl 2 (List.map GSlice.cs a2s.Slices))), (11, I (lenI (List.map GSlice.cs a2s.Slices))), (12, I 0)], [(1028, .box 92 (bxc (GBB.cs ⟨x7, a1c, a2s⟩)))]⟩ krf ?_
          refine sim_block ?_
          refine sim_loop (fun (l13_1, l13_2) => ⟨[(0, .ptr 1028 0), (3, I l13_1), (6, .ptr 1028 0), (7, .ptr 1028 0), (10, .p (.sl 2 (List.map GSlice.cs a2s.Slices))), (11, I (lenI (List.map GSlice.cs a2s.Slices))), (12, I l13_2)], [(1028, .box 92 (bxc (GBB.cs ⟨x7, a1c, a2s⟩)))]⟩ : (Int × Int) → St) (weak_shr (K := ⟨[0, 3, 6, 7, 10, 11, 12], [1028], [], []⟩) krf) ?_
          rintro recl13 ⟨l13_1, l13_2⟩
          show SimE (g_bill_sum_l13 n a1c a2s x7 recl13 l13_1 l13_2) _ _ _ _ _ _
          unfold g_bill_sum_l13
          refine sim_run Try.fm ⟨[0, 3, 6, 7, 10, 11, 12, 13], [1028], [], []⟩ ⟨[(0, .ptr 1028 0), (3, I l13_1), (6, .ptr 1028 0), (7, .ptr 1028 0), (10, .p (.sl 2 (List.map GSlice.cs a2s.Slices))), (11, I (lenI (List.map GSlice.cs a2s.Slices))), (12, I l13_2), (13, B (ltI l13_2 (lenI (List.map GSlice.cs a2s.Slices))))], [(1028, .box 92 (bxc (GBB.cs ⟨x7, a1c, a2s⟩)))]⟩ krf ?_
          refine sim_seq ?_
          refine sim_cond (ltI l13_2 (lenI (List.map GSlice.cs a2s.Slices))) krf ?_ ?_
          ·refine sim_skip ?_
           refine sq_nk ⟨[0, 3, 6, 7, 10, 11, 12], [1028], [], []⟩ ⟨[(0, .ptr 1028 0), (3, I l13_1), (6, .ptr 1028 0), (7, .ptr 1028 0), (10, .p (.sl 2 (List.map GSlice.cs a2s.Slices))), (11, I (lenI (List.map GSlice.cs a2s.Slices))), (12, I l13_2)], [(1028, .box 92 (bxc (GBB.cs ⟨x7, a1c, a2s⟩)))]⟩ krf ?_
           refine sim_seq ?_
           refine sim_block ?_
           refine sim_seq ?_
           refine sim_reg ?_
           refine xs_get krf krf (aop_idx (e := 54) (S := 2) (enc := GSlice.cs) (l := a2s.Slices) (k := .i64) (n := l13_2) (sv := .p (.sl 2 (List.map GSlice.cs a2s.Slices))) rfl krf krf krf krf krf) (fun x14 => ?_)
           refine xs_run 3 krf ?_
           refine xs_end ?_
           refine sq_nk ⟨[0, 3, 5, 6, 7, 10, 11, 12], [5, 1028], [], []⟩ ⟨[(0, .ptr 1028 0), (3, I l13_1), (5, .ptr 5 0), (6, .ptr 1028 0), (7, .ptr 1028 0), (10, .p (.sl 2 (List.map GSlice.cs a2s.Slices))), (11, I (lenI (List.map GSlice.cs a2s.Slices))), (12, I l13_2)], [(5, .box 54 (bxc (GSlice.cs x14))), (1028, .box 92 (bxc (GBB.cs ⟨x7, a1c, a2s⟩)))]⟩ krf ?_
           refine sim_seq ?_
           refine sim_reg ?_
           refine xs_run 3 krf ?_
           refine xs_ro [.ro [], .cv (.id)] krf (g_bb_applies_ok n (⟨x7, a1c, a2s⟩ : GBB) x14.Minute) krf krf (fun _ => by kernel_rfl) (fun r15 => ?_)
           refine xs_end ?_
           refine sq_nk ⟨[0, 3, 5, 6, 7, 10, 11, 12, 19], [5, 1028], [], []⟩ ⟨[(0, .ptr 1028 0), (3, I l13_1), (5, .ptr 5 0), (6, .ptr 1028 0), (7, .ptr 1028 0), (10, .p (.sl 2 (List.map GSlice.cs a2s.Slices))), (11, I (lenI (List.map GSlice.cs a2s.Slices))), (12, I l13_2), (19, B r15)], [(5, .box 54 (bxc (GSlice.cs x14))), (1028, .box 92 (bxc (GBB.cs ⟨x7, a1c, a2s⟩)))]⟩ krf ?_
           refine sim_cond r15 krf ?_ ?_
           ·refine sim_last Try.fm krf ?_
            refine bq_n ?_
            refine sq_nk ⟨[0, 3, 6, 7, 10, 11, 12], [1028], [], []⟩ ⟨[(0, .ptr 1028 0), (3, I (wi (l13_1 + x14.Energy))), (6, .ptr 1028 0), (7, .ptr 1028 0), (10, .p (.sl 2 (List.map GSlice.cs a2s.Slices))), (11, I (lenI (List.map GSlice.cs a2s.Slices))), (12, I l13_2)], [(1028, .box 92 (bxc (GBB.cs ⟨x7, a1c, a2s⟩)))]⟩ krf ?_
            refine sim_last Try.fm krf ?_
            exact kq_n (wi (l13_1 + x14.Energy), wi (l13_2 + 1)) ⟨[0, 3, 6, 7, 10, 11, 12], [1028], [], []⟩ krf
           ·refine sim_skip ?_
            refine bq_n ?_
            refine sq_nk ⟨[0, 3, 6, 7, 10, 11, 12], [1028], [], []⟩ ⟨[(0, .ptr 1028 0), (3, I l13_1), (6, .ptr 1028 0), (7, .ptr 1028 0), (10, .p (.sl 2 (List.map GSlice.cs a2s.Slices))), (11, I (lenI (List.map GSlice.cs a2s.Slices))), (12, I l13_2)], [(1028, .box 92 (bxc (GBB.cs ⟨x7, a1c, a2s⟩)))]⟩ krf ?_
            refine sim_last Try.fm krf ?_
            exact kq_n (l13_1, wi (l13_2 + 1)) ⟨[0, 3, 6, 7, 10, 11, 12], [1028], [], []⟩ krf
          ·refine sim_exit ?_
           refine sq_x ?_
           refine kq_x ?_
           refine bq_hit ?_
           exact nq_n l13_1 ⟨[0, 3, 6, 7], [1028], [], []⟩ krf
         ·rintro j12
          refine sim_seq ?_
          refine sim_reg ?_
          refine xs_run 6 krf ?_
          refine xs_call [] krf (g_money_Times_ok n x7.Price j12 1000) krf krf (fun _ => by kernel_rfl) (fun r16 => ?_)
          refine xs_run 2 krf ?_
          refine xs_exc [] krf (g_bill_must_ok n r16.1 r16.2) krf krf (fun _ => by kernel_rfl) (fun _ => by kernel_rfl) (fun r17 => ?_) (fun e18 => ?_)
          ·refine xs_run 1 krf ?_
           refine xs_end ?_
           refine sq_nk ⟨[2], [1028], [], []⟩ ⟨[(2, I r17)], [(1028, .box 92 (bxc (GBB.cs ⟨x7, a1c, a2s⟩)))]⟩ krf ?_
           refine sim_ret ?_
           refine iq_ret .id [1028] [] (I r17) krf krf ?_
           refine kr0 ?_
           refine xs_run 1 krf ?_
           refine xs_end ?_
           exact kq_n (k := fun j10 => g_bill_sum_j10 l6_1 l6_2 l6_3 (OL.own ow_l6_4) l6_5 recl6 j10) r17 ⟨[4, 5, 6, 7, 8, 9, 10, 13, 15, 16, 17], [4, 5, 6, 7, 38], [], []⟩ krf
          ·refine sq_p ?_
           refine iq_p [1028] [] krf ?_
           refine kq_p ?_
           refine bq_p ?_
           refine bq_p ?_
           refine sq_p ?_
           refine kq_p ?_
           refine bq_p ?_
           refine kq_p ?_
           exact rq_p krf krf
        ·refine sim_run Try.fm ⟨[0, 6, 7, 16], [1028], [], []⟩ ⟨[(0, .ptr 1028 0), (6, .ptr 1028 0), (7, I x7.Kind), (16, B (eqI x7.Kind 3))], [(1028, .box 92 (bxc (GBB.cs ⟨x7, a1c, a2s⟩)))]⟩ krf ?_
         refine sim_cond (eqI x7.Kind 3) krf ?_ ?_
         ·refine sim_run Try.fm ⟨[2], [1028], [], []⟩ ⟨[(2, .fn (.func 50) [.ptr 1028 0] [])], [(1028, .box 92 (bxc (GBB.cs ⟨x7, a1c, a2s⟩)))]⟩ krf ?_
          refine sim_ret ?_
          refine bq_r ?_
          refine sq_r ?_
          refine iq_ret .id [1028] [] (.fn (.func 50) [.ptr 1028 0] []) krf krf ?_
          refine kr0 ?_
          refine xs_inline [(1028, .box 92 (bxc (GBB.cs ⟨x7, a1c, a2s⟩)))] [.ptr 1028 0] [(1028, 28)] [] [] krf Try.func50 rfl Try.ntmps50 rfl krf krf krf ?_
          refine sim_run Try.fm ⟨[0], [1028], [], []⟩ ⟨[(0, .ptr 1028 0)], [(1028, .box 92 (bxc (GBB.cs ⟨x7, a1c, a2s⟩)))]⟩ krf ?_
          refine sim_seq ?_
          refine sim_drw Try.fm rfl ?_
          refine xs_run 11 krf ?_
          refine xs_seqL rfl krf krf ?_
          refine xs_roE [.ro [], .cv (.id), .cv (.id)] krf (g_bb_stretch_ok n (⟨x7, a1c, a2s⟩ : GBB) a2s.From a2s.To) krf krf (fun _ => by kernel_rfl) (fun _ => by kernel_rfl) (fun r19 => ?_) (fun e20 => ?_)
          ·refine xs_run 1 krf ?_
           refine xs_end ?_
           refine sq_nk ⟨[2], [1028], [], []⟩ ⟨[(2, I r19)], [(1028, .box 92 (bxc (GBB.cs ⟨x7, a1c, a2s⟩)))]⟩ krf ?_
           refine sim_ret ?_
           refine iq_ret .id [1028] [] (I r19) krf krf ?_
           refine kr0 ?_
           refine xs_run 1 krf ?_
           refine xs_end ?_
           exact kq_n (k := fun j10 => g_bill_sum_j10 l6_1 l6_2 l6_3 (OL.own ow_l6_4) l6_5 recl6 j10) r19 ⟨[4, 5, 6, 7, 8, 9, 10, 13, 15, 16, 17], [4, 5, 6, 7, 38], [], []⟩ krf
          ·refine sq_p ?_
           refine iq_p [1028] [] krf ?_
           refine kq_p ?_
           refine bq_p ?_
           refine bq_p ?_
           refine sq_p ?_
           refine kq_p ?_
           refine bq_p ?_
           refine kq_p ?_
           exact rq_p krf krf
         ·refine sim_run Try.fm ⟨[0, 6, 7, 20], [1028], [], []⟩ ⟨[(0, .ptr 1028 0), (6, .ptr 1028 0), (7, I x7.Kind), (20, B (eqI x7.Kind 4))], [(1028, .box 92 (bxc (GBB.cs ⟨x7, a1c, a2s⟩)))]⟩ krf ?_
          refine sim_cond (eqI x7.Kind 4) krf ?_ ?_
          ·refine sim_run Try.fm ⟨[2], [1028], [], []⟩ ⟨[(2, .fn (.func 51) [.ptr 1028 0] [])], [(1028, .box 92 (bxc (GBB.cs ⟨x7, a1c, a2s⟩)))]⟩ krf ?_
           refine sim_ret ?_
           refine bq_r ?_
           refine sq_r ?_
           refine iq_ret .id [1028] [] (.fn (.func 51) [.ptr 1028 0] []) krf krf ?_
           refine kr0 ?_
           refine xs_inline [(1028, .box 92 (bxc (GBB.cs ⟨x7, a1c, a2s⟩)))] [.ptr 1028 0] [(1028, 28)] [] [] krf Try.func51 rfl Try.ntmps51 rfl krf krf krf ?_
           refine sim_run Try.fm ⟨[0], [1028], [], []⟩ ⟨[(0, .ptr 1028 0)], [(1028, .box 92 (bxc (GBB.cs ⟨x7, a1c, a2s⟩)))]⟩ krf ?_
           refine sim_seq ?_
           refine sim_drw Try.fm rfl ?_
           refine xs_run 11 krf ?_
           refine xs_seqL rfl krf krf ?_
           refine xs_roE [.ro [], .cv (.id), .cv (.id)] krf (g_bb_stretch_ok n (⟨x7, a1c, a2s⟩ : GBB) a2s.End a2s.To) krf krf (fun _ => by kernel_rfl) (fun _ => by kernel_rfl) (fun r21 => ?_) (fun e22 => ?_)
           ·refine xs_run 1 krf ?_
            refine xs_end ?_
            refine sq_nk ⟨[2], [1028], [], []⟩ ⟨[(2, I r21)], [(1028, .box 92 (bxc (GBB.cs ⟨x7, a1c, a2s⟩)))]⟩ krf ?_
            refine sim_ret ?_
            refine iq_ret .id [1028] [] (I r21) krf krf ?_
            refine kr0 ?_
            refine xs_run 1 krf ?_
            refine xs_end ?_
            exact kq_n (k := fun j10 => g_bill_sum_j10 l6_1 l6_2 l6_3 (OL.own ow_l6_4) l6_5 recl6 j10) r21 ⟨[4, 5, 6, 7, 8, 9, 10, 13, 15, 16, 17], [4, 5, 6, 7, 38], [], []⟩ krf
           ·refine sq_p ?_
            refine iq_p [1028] [] krf ?_
            refine kq_p ?_
            refine bq_p ?_
            refine bq_p ?_
            refine sq_p ?_
            refine kq_p ?_
            refine bq_p ?_
            refine kq_p ?_
            exact rq_p krf krf
          ·refine sim_skip ?_
           refine bq_n ?_
           refine sq_nk ⟨[0, 6, 7], [1028], [], []⟩ ⟨[(0, .ptr 1028 0), (6, .ptr 1028 0), (7, I x7.Kind)], [(1028, .box 92 (bxc (GBB.cs ⟨x7, a1c, a2s⟩)))]⟩ krf ?_
           refine sim_run Try.fm ⟨[2], [1028], [], []⟩ ⟨[(2, .fn (.func 52) [.ptr 1028 0] [])], [(1028, .box 92 (bxc (GBB.cs ⟨x7, a1c, a2s⟩)))]⟩ krf ?_
           refine sim_ret ?_
           refine iq_ret .id [1028] [] (.fn (.func 52) [.ptr 1028 0] []) krf krf ?_
           refine kr0 ?_
           refine xs_inline [(1028, .box 92 (bxc (GBB.cs ⟨x7, a1c, a2s⟩)))] [.ptr 1028 0] [(1028, 28)] [] [] krf Try.func52 rfl Try.ntmps52 rfl krf krf krf ?_
           refine sim_run Try.fm ⟨[], [1028], [], []⟩ ⟨[], [(1028, .box 92 (bxc (GBB.cs ⟨x7, a1c, a2s⟩)))]⟩ krf ?_
           refine sim_run Try.fm ⟨[2], [1028], [], []⟩ ⟨[(2, I 0)], [(1028, .box 92 (bxc (GBB.cs ⟨x7, a1c, a2s⟩)))]⟩ krf ?_
           refine sim_ret ?_
           refine iq_ret .id [1028] [] (I 0) krf krf ?_
           refine kr0 ?_
           refine xs_run 1 krf ?_
           refine xs_end ?_
           exact kq_n (k := fun j10 => g_bill_sum_j10 l6_1 l6_2 l6_3 (OL.own ow_l6_4) l6_5 recl6 j10) 0 ⟨[4, 5, 6, 7, 8, 9, 10, 13, 15, 16, 17], [4, 5, 6, 7, 38], [], []⟩ krf
   ·refine sim_exit ?_
    refine sq_x ?_
    refine kq_x ?_
    refine bq_hit ?_
    exact kq_n (k := fun (j1_1, j1_2, j1_3, j1_4) => g_bill_sum_j1 n j1_1 j1_2 j1_3 j1_4) (l6_1, l6_2, (OL.own ow_l6_4), l6_5) ⟨[6, 7, 8, 9], [6, 7, 38], [], []⟩ krf
def g_bill_caught_2 (n : Nat) (a0x_0 : Int) (a1err : Int) : Option Int :=
 some a0x_0
theorem g_bill_caught_2_ok (n : Nat) (a0x_0 : Int) (a1err : Int) : ∀ r, g_bill_caught_2 n a0x_0 a1err = some r → ACall Try.prog 31 [.ifc 88 (.agg [I a0x_0]), .ptr 1001 0] (Go.Abs.look [(1001, .box 26 [I a1err])]) (heapR (fun r : Int => ((.ret (.tup []), [(1001, .box 26 [I r])]) : AEnd × List (Nat × Blk))) r) := by
 refine acall_sim (X := fun r : Int => ((.ret (.tup []), [(1001, .box 26 [I r])]) : AEnd × List (Nat × Blk))) [(1001, .box 26 [I a1err])] Try.func31 rfl Try.ntmps31 rfl ?_
 unfold g_bill_caught_2
 refine sim_seq ?_
 refine sim_run Try.fm ⟨[0, 1, 6, 7], [1001], [], []⟩ ⟨[(0, .ifc 88 (.agg [I a0x_0])), (1, .ptr 1001 0), (6, .ifc 88 (.agg [I a0x_0])), (7, B false)], [(1001, .box 26 [I a1err])]⟩ krf ?_
 refine sim_condF krf ?_
 refine sim_skip ?_
 refine sq_nk ⟨[0, 1, 6, 7], [1001], [], []⟩ ⟨[(0, .ifc 88 (.agg [I a0x_0])), (1, .ptr 1001 0), (6, .ifc 88 (.agg [I a0x_0])), (7, B false)], [(1001, .box 26 [I a1err])]⟩ krf ?_
 refine sim_run Try.fm ⟨[0, 1, 4, 5, 6, 7], [4, 1001], [], []⟩ ⟨[(0, .ifc 88 (.agg [I a0x_0])), (1, .ptr 1001 0), (4, .ptr 4 0), (5, B true), (6, .ifc 88 (.agg [I a0x_0])), (7, B false)], [(4, .box 88 [I a0x_0]), (1001, .box 26 [I a1err])]⟩ krf ?_
 refine sim_seq ?_
 refine sim_run Try.fm ⟨[0, 1, 4, 6, 7, 14], [4, 1001], [], []⟩ ⟨[(0, .ifc 88 (.agg [I a0x_0])), (1, .ptr 1001 0), (4, .ptr 4 0), (6, .ifc 88 (.agg [I a0x_0])), (7, B false), (14, B false)], [(4, .box 88 [I a0x_0]), (1001, .box 26 [I a1err])]⟩ krf ?_
 refine sim_condF krf ?_
 refine sim_skip ?_
 refine sq_nk ⟨[1, 4, 6, 7], [4, 1001], [], []⟩ ⟨[(1, .ptr 1001 0), (4, .ptr 4 0), (6, .ifc 88 (.agg [I a0x_0])), (7, B false)], [(4, .box 88 [I a0x_0]), (1001, .box 26 [I a1err])]⟩ krf ?_
 refine sim_last Try.fm krf ?_
 exact hq_n (.id) [1001] [] krf krf krf krf
def g_bill_Bill (n : Nat) (a0t : GTariff) (a1c : GCalendar) (a2s : GSession) : Option (GBill × Int) :=
 ((g_tariff_Valid n a0t).bind fun r2 =>
 cond (!r2)
  (some true)
  ((g_days_Valid n a1c).bind fun r4 =>
  cond (!r4)
   (some true)
   ((g_bill_Valid n a2s).bind fun r6 =>
   some (!r6)))).bind fun j1 =>
 cond j1
  ((g_bill_caught n 1).bind fun r7 =>
  some ((⟨[], 0, 0, 0⟩ : GBill), r7))
  ((g_bill_sum n a0t a1c a2s).bind (exc (fun r8 =>
   (g_bill_caught n 0).bind fun r10 =>
   some (r8, r10)) fun e9 => (g_bill_caught_2 n e9 0).bind fun r11 =>
  some ((⟨[], 0, 0, 0⟩ : GBill), r11)))
theorem g_bill_Bill_okH (n : Nat) (a0t : GTariff) (a1c : GCalendar) (a2s : GSession) : ∀ r, g_bill_Bill n a0t a1c a2s = some r → ACall Try.prog 26 [ag (GTariff.cs a0t), ag (GCalendar.cs a1c), ag (GSession.cs a2s)] (Go.Abs.look []) (heapR (fun r : GBill × Int => ((.ret (.tup [ag (GBill.cs r.1), I r.2]), []) : AEnd × List (Nat × Blk))) r) := by
 refine defer_sim (X := fun r : GBill × Int => ((.ret (.tup [ag (GBill.cs r.1), I r.2]), []) : AEnd × List (Nat × Blk))) [] (⟨Try.f30, _, _, _, 1, _, _, Try.func30, rfl, rfl, rfl, rfl, rfl, rfl, by decide, by decide, rfl, by kernel_rfl⟩ : Catcher Try.prog 30 31) (⟨_, _, _, _, _, 7, 8, _, rfl, rfl, rfl, rfl, rfl, rfl, rfl, by decide⟩ : Deferrer Try.f26 30) 7 Try.func26 Try.ntmps26 rfl krf rfl Try.fm rfl krf krf krf ?_
 unfold g_bill_Bill
 refine sim_keep ⟨[3, 4, 5, 6, 7], [3, 4, 5, 6, 2000], [], []⟩ ⟨[(3, .ptr 3 0), (4, .ptr 4 0), (5, .ptr 5 0), (6, .ptr 6 0), (7, .ptr 2000 0)], [(3, .box 34 (bxc (GTariff.cs a0t))), (4, .box 38 (bxc (GCalendar.cs a1c))), (5, .box 24 (bxc (GSession.cs a2s))), (6, .box 62 [.p (.val (.slice none 0 0)), I 0, I 0, I 0]), (2000, .box 26 [I 0])]⟩ krf ?_
 refine sim_seq ?_
 refine sim_bind (fun j1 => ⟨[(3, .ptr 3 0), (4, .ptr 4 0), (5, .ptr 5 0), (6, .ptr 6 0), (7, .ptr 2000 0), (21, B j1)], [(3, .box 34 (bxc (GTariff.cs a0t))), (4, .box 38 (bxc (GCalendar.cs a1c))), (5, .box 24 (bxc (GSession.cs a2s))), (6, .box 62 [.p (.val (.slice none 0 0)), I 0, I 0, I 0]), (2000, .box 26 [I 0])]⟩ : Bool → St) ?_ ?_
 ·refine sim_reg ?_
  refine xs_run 1 krf ?_
  refine xs_call [] krf (g_tariff_Valid_ok n a0t) krf krf (fun _ => by kernel_rfl) (fun r2 => ?_)
  refine xs_run 2 krf ?_
  refine xs_split (!r2) (fun h3 => ?_) (fun h3 => ?_)
  ·refine xs_no (want_ft krf h3) krf ?_
   refine xs_run 8 krf ?_
   refine xs_end ?_
   exact nq_n true ⟨[3, 4, 5, 6, 7, 21], [3, 4, 5, 6, 2000], [], []⟩ krf
  ·refine xs_one (want_ff krf h3) krf ?_
   refine xs_call [] krf (g_days_Valid_ok n a1c) krf krf (fun _ => by kernel_rfl) (fun r4 => ?_)
   refine xs_run 3 krf ?_
   refine xs_split (!r4) (fun h5 => ?_) (fun h5 => ?_)
   ·refine xs_no (want_ft krf h5) krf ?_
    refine xs_run 3 krf ?_
    refine xs_end ?_
    exact nq_n true ⟨[3, 4, 5, 6, 7, 21], [3, 4, 5, 6, 2000], [], []⟩ krf
   ·refine xs_one (want_ff krf h5) krf ?_
    refine xs_call [] krf (g_bill_Valid_ok n a2s) krf krf (fun _ => by kernel_rfl) (fun r6 => ?_)
    refine xs_run 2 krf ?_
    refine xs_end ?_
    exact nq_n (!r6) ⟨[3, 4, 5, 6, 7, 21], [3, 4, 5, 6, 2000], [], []⟩ krf
 ·rintro j1
  refine sim_cond j1 krf ?_ ?_
  ·refine sim_run Try.fm ⟨[6, 7], [6, 2000], [], []⟩ ⟨[(6, .ptr 6 0), (7, .ptr 2000 0)], [(6, .box 62 [.p (.val (.slice none 0 0)), I 0, I 0, I 0]), (2000, .box 26 [I 1])]⟩ krf ?_
   refine sim_ret ?_
   refine sq_r ?_
   refine dq_ret ?_
   refine sc_heap [(1001, 2000)] [] [] (g_bill_caught_ok n 1) krf krf krf (fun _ => by kernel_rfl) (fun _ => by kernel_rfl) (fun r7 => ?_)
   exact ke_end (.agg [.agg [.sl 2, .id, .id, .id], .id]) [] [] krf krf krf krf
  ·refine sim_skip ?_
   refine sq_nk ⟨[3, 4, 5, 6, 7], [3, 4, 5, 6, 2000], [], []⟩ ⟨[(3, .ptr 3 0), (4, .ptr 4 0), (5, .ptr 5 0), (6, .ptr 6 0), (7, .ptr 2000 0)], [(3, .box 34 (bxc (GTariff.cs a0t))), (4, .box 38 (bxc (GCalendar.cs a1c))), (5, .box 24 (bxc (GSession.cs a2s))), (6, .box 62 [.p (.val (.slice none 0 0)), I 0, I 0, I 0]), (2000, .box 26 [I 0])]⟩ krf ?_
   refine sim_seq ?_
   refine sim_reg ?_
   refine xs_run 3 krf ?_
   refine xs_exc [] krf (g_bill_sum_ok n a0t a1c a2s) krf krf (fun _ => by kernel_rfl) (fun _ => by kernel_rfl) (fun r8 => ?_) (fun e9 => ?_)
   ·refine xs_run 2 krf ?_
    refine xs_end ?_
    refine sq_nk ⟨[6, 7], [6, 2000], [], []⟩ ⟨[(6, .ptr 6 0), (7, .ptr 2000 0)], [(6, .box 62 (bxc (GBill.cs r8))), (2000, .box 26 [I 0])]⟩ krf ?_
    refine sim_ret ?_
    refine dq_ret ?_
    refine sc_heap [(1001, 2000)] [] [] (g_bill_caught_ok n 0) krf krf krf (fun _ => by kernel_rfl) (fun _ => by kernel_rfl) (fun r10 => ?_)
    exact ke_end (.id) [] [] krf krf krf krf
   ·refine sq_p ?_
    refine dq_p ?_
    refine sc_heap [(1001, 2000)] [] [] (g_bill_caught_2_ok n e9 0) krf krf krf (fun _ => by kernel_rfl) (fun _ => by kernel_rfl) (fun r11 => ?_)
    exact ke_end (.agg [.agg [.sl 2, .id, .id, .id], .id]) [] [] krf krf krf krf
theorem g_bill_Bill_ok (n : Nat) (a0t : GTariff) (a1c : GCalendar) (a2s : GSession) : ∀ r, g_bill_Bill n a0t a1c a2s = some r → PCall Try.prog 26 [ag (GTariff.cs a0t), ag (GCalendar.cs a1c), ag (GSession.cs a2s)] (.ret (.tup [ag (GBill.cs r.1), I r.2])) := fun r h => pcall_of (g_bill_Bill_okH n a0t a1c a2s r h) rfl
def g_loophole_Price_j5 (j5 : Int) : Option (Int × Int) :=
 cond (ltI 1000000000 j5)
  (some (0, 3))
  (some (j5, 0))
def g_loophole_Price_l6 (n : Nat) (a0t : GTariff) (a1c : GCalendar) (a2s : GSession) (a3cuts : List Int) (recl6 : (Int × Int × Int) → Option (Int × Int)) (l6_1 : Int) (l6_2 : Int) (l6_3 : Int) : Option (Int × Int) :=
 cond (ltI l6_3 (wi ((lenI (List.map ci a3cuts)) + 1)))
  ((cond (ltI l6_3 (lenI (List.map ci a3cuts)))
   ((getI a3cuts l6_3).bind fun x8 =>
   some x8)
   (some a2s.To)).bind fun j7 =>
  (g_loophole_part n a2s l6_2 j7).bind fun r9 =>
  (g_bill_Bill n a0t a1c r9).bind fun r10 =>
  cond (!eqI r10.2 0)
   (some (0, r10.2))
   (recl6 (wi (l6_1 + r10.1.Total), j7, wi (l6_3 + 1))))
  (g_loophole_Price_j5 l6_1)
def g_loophole_Price (n : Nat) (a0t : GTariff) (a1c : GCalendar) (a2s : GSession) (a3cuts : List Int) : Option (Int × Int) :=
 ((g_loophole_valid n a0t a1c a2s).bind fun r2 =>
 cond (!r2)
  (some true)
  ((g_loophole_validCuts n a2s a3cuts).bind fun r4 =>
  some (!r4))).bind fun j1 =>
 cond j1
  (some (0, 1))
  (loopN (fun recl6 (l6_1, l6_2, l6_3) => g_loophole_Price_l6 n a0t a1c a2s a3cuts recl6 l6_1 l6_2 l6_3) n (0, a2s.From, 0))
theorem g_loophole_Price_ok (n : Nat) (a0t : GTariff) (a1c : GCalendar) (a2s : GSession) (a3cuts : List Int) : ∀ r, g_loophole_Price n a0t a1c a2s a3cuts = some r → PCall Try.prog 16 [ag (GTariff.cs a0t), ag (GCalendar.cs a1c), ag (GSession.cs a2s), .p (.sl 1 (List.map ci a3cuts))] (.ret (.tup [I r.1, I r.2])) := by
 refine pcall_sim (X := fun r : Int × Int => AEnd.ret (.tup [I r.1, I r.2])) Try.func16 rfl Try.ntmps16 rfl ?_
 unfold g_loophole_Price
 refine sim_run Try.fm ⟨[3, 4, 5, 6], [4, 5, 6], [], []⟩ ⟨[(3, .p (.sl 1 (List.map ci a3cuts))), (4, .ptr 4 0), (5, .ptr 5 0), (6, .ptr 6 0)], [(4, .box 34 (bxc (GTariff.cs a0t))), (5, .box 38 (bxc (GCalendar.cs a1c))), (6, .box 24 (bxc (GSession.cs a2s)))]⟩ krf ?_
 refine sim_seq ?_
 refine sim_bind (fun j1 => ⟨[(3, .p (.sl 1 (List.map ci a3cuts))), (4, .ptr 4 0), (5, .ptr 5 0), (6, .ptr 6 0), (26, B j1)], [(4, .box 34 (bxc (GTariff.cs a0t))), (5, .box 38 (bxc (GCalendar.cs a1c))), (6, .box 24 (bxc (GSession.cs a2s)))]⟩ : Bool → St) ?_ ?_
 ·refine sim_reg ?_
  refine xs_run 3 krf ?_
  refine xs_call [] krf (g_loophole_valid_ok n a0t a1c a2s) krf krf (fun _ => by kernel_rfl) (fun r2 => ?_)
  refine xs_run 2 krf ?_
  refine xs_split (!r2) (fun h3 => ?_) (fun h3 => ?_)
  ·refine xs_no (want_ft krf h3) krf ?_
   refine xs_run 4 krf ?_
   refine xs_end ?_
   exact nq_n true ⟨[3, 4, 5, 6, 26], [4, 5, 6], [], []⟩ krf
  ·refine xs_one (want_ff krf h3) krf ?_
   refine xs_run 1 krf ?_
   refine xs_call [] krf (g_loophole_validCuts_ok n a2s a3cuts) krf krf (fun _ => by kernel_rfl) (fun r4 => ?_)
   refine xs_run 2 krf ?_
   refine xs_end ?_
   exact nq_n (!r4) ⟨[3, 4, 5, 6, 26], [4, 5, 6], [], []⟩ krf
 ·rintro j1
  refine sim_cond j1 krf ?_ ?_
  ·refine sim_run Try.fm ⟨[8, 9], [], [], []⟩ ⟨[(8, I 0), (9, I 1)], []⟩ krf ?_
   refine sim_ret ?_
   refine sq_r ?_
   exact rq_ret (.id) krf krf krf
  ·refine sim_skip ?_
   refine sq_nk ⟨[3, 4, 5, 6], [4, 5, 6], [], []⟩ ⟨[(3, .p (.sl 1 (List.map ci a3cuts))), (4, .ptr 4 0), (5, .ptr 5 0), (6, .ptr 6 0)], [(4, .box 34 (bxc (GTariff.cs a0t))), (5, .box 38 (bxc (GCalendar.cs a1c))), (6, .box 24 (bxc (GSession.cs a2s)))]⟩ krf ?_
   refine sim_run Try.fm ⟨[3, 4, 5, 6, 10, 11], [4, 5, 6], [], []⟩ ⟨[(3, .p (.sl 1 (List.map ci a3cuts))), (4, .ptr 4 0), (5, .ptr 5 0), (6, .ptr 6 0), (10, I 0), (11, I a2s.From)], [(4, .box 34 (bxc (GTariff.cs a0t))), (5, .box 38 (bxc (GCalendar.cs a1c))), (6, .box 24 (bxc (GSession.cs a2s)))]⟩ krf ?_
   refine sim_cps (fun j5 => ⟨[(10, I j5)], []⟩ : Int → St) (fun j5 => g_loophole_Price_j5 j5) ?_ ?_
   ·rintro j5
    show SimE (g_loophole_Price_j5 j5) _ _ _ _ _ _
    unfold g_loophole_Price_j5
    refine sim_seq ?_
    refine sim_run Try.fm ⟨[10, 65], [], [], []⟩ ⟨[(10, I j5), (65, B (ltI 1000000000 j5))], []⟩ krf ?_
    refine sim_cond (ltI 1000000000 j5) krf ?_ ?_
    ·refine sim_run Try.fm ⟨[8, 9], [], [], []⟩ ⟨[(8, I 0), (9, I 3)], []⟩ krf ?_
     refine sim_ret ?_
     refine sq_r ?_
     exact rq_ret (.id) krf krf krf
    ·refine sim_skip ?_
     refine sq_nk ⟨[10], [], [], []⟩ ⟨[(10, I j5)], []⟩ krf ?_
     refine sim_run Try.fm ⟨[8, 9], [], [], []⟩ ⟨[(8, I j5), (9, I 0)], []⟩ krf ?_
     refine sim_ret ?_
     exact rq_ret (.id) krf krf krf
   ·refine sim_run Try.fm ⟨[3, 4, 5, 6, 10, 11, 31, 32], [4, 5, 6], [], []⟩ ⟨[(3, .p (.sl 1 (List.map ci a3cuts))), (4, .ptr 4 0), (5, .ptr 5 0), (6, .ptr 6 0), (10, I 0), (11, I a2s.From), (31, I (wi ((lenI (List.map ci a3cuts)) + 1))), (32, I 0)], [(4, .box 34 (bxc (GTariff.cs a0t))), (5, .box 38 (bxc (GCalendar.cs a1c))), (6, .box 24 (bxc (GSession.cs a2s)))]⟩ krf ?_
    refine sim_block ?_
    refine sim_loop (fun (l6_1, l6_2, l6_3) => ⟨[(3, .p (.sl 1 (List.map ci a3cuts))), (4, .ptr 4 0), (5, .ptr 5 0), (6, .ptr 6 0), (10, I l6_1), (11, I l6_2), (31, I (wi ((lenI (List.map ci a3cuts)) + 1))), (32, I l6_3)], [(4, .box 34 (bxc (GTariff.cs a0t))), (5, .box 38 (bxc (GCalendar.cs a1c))), (6, .box 24 (bxc (GSession.cs a2s)))]⟩ : (Int × Int × Int) → St) (weak_shr (K := ⟨[3, 4, 5, 6, 10, 11, 31, 32], [4, 5, 6], [], []⟩) krf) ?_
    rintro recl6 ⟨l6_1, l6_2, l6_3⟩
    show SimE (g_loophole_Price_l6 n a0t a1c a2s a3cuts recl6 l6_1 l6_2 l6_3) _ _ _ _ _ _
    unfold g_loophole_Price_l6
    refine sim_run Try.fm ⟨[3, 4, 5, 6, 10, 11, 31, 32, 33], [4, 5, 6], [], []⟩ ⟨[(3, .p (.sl 1 (List.map ci a3cuts))), (4, .ptr 4 0), (5, .ptr 5 0), (6, .ptr 6 0), (10, I l6_1), (11, I l6_2), (31, I (wi ((lenI (List.map ci a3cuts)) + 1))), (32, I l6_3), (33, B (ltI l6_3 (wi ((lenI (List.map ci a3cuts)) + 1))))], [(4, .box 34 (bxc (GTariff.cs a0t))), (5, .box 38 (bxc (GCalendar.cs a1c))), (6, .box 24 (bxc (GSession.cs a2s)))]⟩ krf ?_
    refine sim_seq ?_
    refine sim_cond (ltI l6_3 (wi ((lenI (List.map ci a3cuts)) + 1))) krf ?_ ?_
    ·refine sim_skip ?_
     refine sq_nk ⟨[3, 4, 5, 6, 10, 11, 31, 32], [4, 5, 6], [], []⟩ ⟨[(3, .p (.sl 1 (List.map ci a3cuts))), (4, .ptr 4 0), (5, .ptr 5 0), (6, .ptr 6 0), (10, I l6_1), (11, I l6_2), (31, I (wi ((lenI (List.map ci a3cuts)) + 1))), (32, I l6_3)], [(4, .box 34 (bxc (GTariff.cs a0t))), (5, .box 38 (bxc (GCalendar.cs a1c))), (6, .box 24 (bxc (GSession.cs a2s)))]⟩ krf ?_
     refine sim_seq ?_
     refine sim_block ?_
     refine sim_run Try.fm ⟨[3, 4, 5, 6, 10, 11, 12, 31, 32], [4, 5, 6], [], []⟩ ⟨[(3, .p (.sl 1 (List.map ci a3cuts))), (4, .ptr 4 0), (5, .ptr 5 0), (6, .ptr 6 0), (10, I l6_1), (11, I l6_2), (12, I l6_3), (31, I (wi ((lenI (List.map ci a3cuts)) + 1))), (32, I l6_3)], [(4, .box 34 (bxc (GTariff.cs a0t))), (5, .box 38 (bxc (GCalendar.cs a1c))), (6, .box 24 (bxc (GSession.cs a2s)))]⟩ krf ?_
     refine sim_run Try.fm ⟨[3, 4, 5, 6, 10, 11, 12, 13, 31, 32], [4, 5, 6], [], []⟩ ⟨[(3, .p (.sl 1 (List.map ci a3cuts))), (4, .ptr 4 0), (5, .ptr 5 0), (6, .ptr 6 0), (10, I l6_1), (11, I l6_2), (12, I l6_3), (13, I a2s.To), (31, I (wi ((lenI (List.map ci a3cuts)) + 1))), (32, I l6_3)], [(4, .box 34 (bxc (GTariff.cs a0t))), (5, .box 38 (bxc (GCalendar.cs a1c))), (6, .box 24 (bxc (GSession.cs a2s)))]⟩ krf ?_
     refine sim_bind (fun j7 => ⟨[(3, .p (.sl 1 (List.map ci a3cuts))), (4, .ptr 4 0), (5, .ptr 5 0), (6, .ptr 6 0), (10, I l6_1), (11, I l6_2), (13, I j7), (31, I (wi ((lenI (List.map ci a3cuts)) + 1))), (32, I l6_3)], [(4, .box 34 (bxc (GTariff.cs a0t))), (5, .box 38 (bxc (GCalendar.cs a1c))), (6, .box 24 (bxc (GSession.cs a2s)))]⟩ : Int → St) ?_ ?_
     ·refine sim_run Try.fm ⟨[3, 4, 5, 6, 10, 11, 12, 13, 31, 32, 40], [4, 5, 6], [], []⟩ ⟨[(3, .p (.sl 1 (List.map ci a3cuts))), (4, .ptr 4 0), (5, .ptr 5 0), (6, .ptr 6 0), (10, I l6_1), (11, I l6_2), (12, I l6_3), (13, I a2s.To), (31, I (wi ((lenI (List.map ci a3cuts)) + 1))), (32, I l6_3), (40, B (ltI l6_3 (lenI (List.map ci a3cuts))))], [(4, .box 34 (bxc (GTariff.cs a0t))), (5, .box 38 (bxc (GCalendar.cs a1c))), (6, .box 24 (bxc (GSession.cs a2s)))]⟩ krf ?_
      refine sim_cond (ltI l6_3 (lenI (List.map ci a3cuts))) krf ?_ ?_
      ·refine sim_reg ?_
       refine xs_run 2 krf ?_
       refine xs_get krf krf (aop_idx (e := 3) (S := 1) (enc := ci) (l := a3cuts) (k := .i64) (n := l6_3) (sv := .p (.sl 1 (List.map ci a3cuts))) rfl krf krf krf krf krf) (fun x8 => ?_)
       refine xs_run 2 krf ?_
       refine xs_end ?_
       exact nq_n x8 ⟨[3, 4, 5, 6, 10, 11, 13, 31, 32], [4, 5, 6], [], []⟩ krf
      ·refine sim_skip ?_
       exact nq_n a2s.To ⟨[3, 4, 5, 6, 10, 11, 13, 31, 32], [4, 5, 6], [], []⟩ krf
     ·rintro j7
      refine sim_seq ?_
      refine sim_drw Try.fm rfl ?_
      refine xs_run 5 krf ?_
      refine xs_call [] krf (g_loophole_part_ok n a2s l6_2 j7) krf krf (fun _ => by kernel_rfl) (fun r9 => ?_)
      refine xs_call [] krf (g_bill_Bill_ok n a0t a1c r9) krf krf (fun _ => by kernel_rfl) (fun r10 => ?_)
      refine xs_run 6 krf ?_
      refine xs_endD krf ?_
      refine sq_nk ⟨[3, 4, 5, 6, 10, 13, 14, 15, 31, 32], [4, 5, 6, 14], [], []⟩ ⟨[(3, .p (.sl 1 (List.map ci a3cuts))), (4, .ptr 4 0), (5, .ptr 5 0), (6, .ptr 6 0), (10, I l6_1), (13, I j7), (14, .ptr 14 0), (15, I r10.2), (31, I (wi ((lenI (List.map ci a3cuts)) + 1))), (32, I l6_3)], [(4, .box 34 (bxc (GTariff.cs a0t))), (5, .box 38 (bxc (GCalendar.cs a1c))), (6, .box 24 (bxc (GSession.cs a2s))), (14, .box 62 (bxc (GBill.cs r10.1)))]⟩ krf ?_
      refine sim_seq ?_
      refine sim_run Try.fm ⟨[3, 4, 5, 6, 10, 13, 14, 15, 31, 32, 56], [4, 5, 6, 14], [], []⟩ ⟨[(3, .p (.sl 1 (List.map ci a3cuts))), (4, .ptr 4 0), (5, .ptr 5 0), (6, .ptr 6 0), (10, I l6_1), (13, I j7), (14, .ptr 14 0), (15, I r10.2), (31, I (wi ((lenI (List.map ci a3cuts)) + 1))), (32, I l6_3), (56, B (!eqI r10.2 0))], [(4, .box 34 (bxc (GTariff.cs a0t))), (5, .box 38 (bxc (GCalendar.cs a1c))), (6, .box 24 (bxc (GSession.cs a2s))), (14, .box 62 (bxc (GBill.cs r10.1)))]⟩ krf ?_
      refine sim_cond (!eqI r10.2 0) krf ?_ ?_
      ·refine sim_run Try.fm ⟨[8, 9], [], [], []⟩ ⟨[(8, I 0), (9, I r10.2)], []⟩ krf ?_
       refine sim_ret ?_
       refine sq_r ?_
       refine bq_r ?_
       refine sq_r ?_
       refine kq_r ?_
       refine bq_r ?_
       refine kq_r ?_
       exact rq_ret (.id) krf krf krf
      ·refine sim_skip ?_
       refine sq_nk ⟨[3, 4, 5, 6, 10, 13, 14, 31, 32], [4, 5, 6, 14], [], []⟩ ⟨[(3, .p (.sl 1 (List.map ci a3cuts))), (4, .ptr 4 0), (5, .ptr 5 0), (6, .ptr 6 0), (10, I l6_1), (13, I j7), (14, .ptr 14 0), (31, I (wi ((lenI (List.map ci a3cuts)) + 1))), (32, I l6_3)], [(4, .box 34 (bxc (GTariff.cs a0t))), (5, .box 38 (bxc (GCalendar.cs a1c))), (6, .box 24 (bxc (GSession.cs a2s))), (14, .box 62 (bxc (GBill.cs r10.1)))]⟩ krf ?_
       refine sim_last Try.fm krf ?_
       refine bq_n ?_
       refine sq_nk ⟨[3, 4, 5, 6, 10, 11, 31, 32], [4, 5, 6], [], []⟩ ⟨[(3, .p (.sl 1 (List.map ci a3cuts))), (4, .ptr 4 0), (5, .ptr 5 0), (6, .ptr 6 0), (10, I (wi (l6_1 + r10.1.Total))), (11, I j7), (31, I (wi ((lenI (List.map ci a3cuts)) + 1))), (32, I l6_3)], [(4, .box 34 (bxc (GTariff.cs a0t))), (5, .box 38 (bxc (GCalendar.cs a1c))), (6, .box 24 (bxc (GSession.cs a2s)))]⟩ krf ?_
       refine sim_last Try.fm krf ?_
       exact kq_n (wi (l6_1 + r10.1.Total), j7, wi (l6_3 + 1)) ⟨[3, 4, 5, 6, 10, 11, 31, 32], [4, 5, 6], [], []⟩ krf
    ·refine sim_exit ?_
     refine sq_x ?_
     refine kq_x ?_
     refine bq_hit ?_
     exact kq_n (k := fun j5 => g_loophole_Price_j5 j5) l6_1 ⟨[10], [], [], []⟩ krf
def g_loophole_Find_l9 (n : Nat) (a0t : GTariff) (a1c : GCalendar) (a2s : GSession) (r6 : Int × Int) (l8_1 : Int) (recl8 : (Int × (List (GLoopholeStretch × Int))) → Option ((List Int) × Bool × Int)) (recl9 : (Int × (List (GLoopholeStretch × Int))) → Option ((List Int) × Bool × Int)) (l9_1 : Int) (l9_2 : List (GLoopholeStretch × Int)) : Option ((List Int) × Bool × Int) :=
 cond (ltI l9_1 a2s.To)
  ((cond (!(mhas me_map_loophole_stretch_int (⟨a2s.From, l8_1⟩ : GLoopholeStretch) l9_2))
   ((g_loophole_part n a2s a2s.From l8_1).bind fun r11 =>
   (g_bill_Bill n a0t a1c r11).bind fun r12 =>
   cond (!eqI r12.2 0)
    (some (1000000001, mset me_map_loophole_stretch_int (⟨a2s.From, l8_1⟩ : GLoopholeStretch) 1000000001 l9_2))
    (some (r12.1.Total, mset me_map_loophole_stretch_int (⟨a2s.From, l8_1⟩ : GLoopholeStretch) r12.1.Total l9_2)))
   (some (mgetD me_map_loophole_stretch_int (⟨a2s.From, l8_1⟩ : GLoopholeStretch) 0 l9_2, l9_2))).bind fun (j10_1, j10_2) =>
  (cond (!(mhas me_map_loophole_stretch_int (⟨l8_1, l9_1⟩ : GLoopholeStretch) j10_2))
   ((g_loophole_part n a2s l8_1 l9_1).bind fun r14 =>
   (g_bill_Bill n a0t a1c r14).bind fun r15 =>
   cond (!eqI r15.2 0)
    (some (1000000001, mset me_map_loophole_stretch_int (⟨l8_1, l9_1⟩ : GLoopholeStretch) 1000000001 j10_2))
    (some (r15.1.Total, mset me_map_loophole_stretch_int (⟨l8_1, l9_1⟩ : GLoopholeStretch) r15.1.Total j10_2)))
   (some (mgetD me_map_loophole_stretch_int (⟨l8_1, l9_1⟩ : GLoopholeStretch) 0 j10_2, j10_2))).bind fun (j13_1, j13_2) =>
  (cond (!(mhas me_map_loophole_stretch_int (⟨l9_1, a2s.To⟩ : GLoopholeStretch) j13_2))
   ((g_loophole_part n a2s l9_1 a2s.To).bind fun r17 =>
   (g_bill_Bill n a0t a1c r17).bind fun r18 =>
   cond (!eqI r18.2 0)
    (some (1000000001, mset me_map_loophole_stretch_int (⟨l9_1, a2s.To⟩ : GLoopholeStretch) 1000000001 j13_2))
    (some (r18.1.Total, mset me_map_loophole_stretch_int (⟨l9_1, a2s.To⟩ : GLoopholeStretch) r18.1.Total j13_2)))
   (some (mgetD me_map_loophole_stretch_int (⟨l9_1, a2s.To⟩ : GLoopholeStretch) 0 j13_2, j13_2))).bind fun (j16_1, j16_2) =>
  cond (ltI (wi ((wi (j10_1 + j13_1)) + j16_1)) r6.1)
   (some ([l8_1, l9_1], true, 0))
   (recl9 (wi (l9_1 + 1), j16_2)))
  (recl8 (wi (l8_1 + 1), l9_2))
def g_loophole_Find_l8 (n : Nat) (a0t : GTariff) (a1c : GCalendar) (a2s : GSession) (r6 : Int × Int) (recl8 : (Int × (List (GLoopholeStretch × Int))) → Option ((List Int) × Bool × Int)) (l8_1 : Int) (l8_2 : List (GLoopholeStretch × Int)) : Option ((List Int) × Bool × Int) :=
 cond (ltI l8_1 a2s.To)
  (loopN (fun recl9 (l9_1, l9_2) => g_loophole_Find_l9 n a0t a1c a2s r6 l8_1 recl8 recl9 l9_1 l9_2) n (wi (l8_1 + 1), l8_2))
  (some ([], false, 0))
def g_loophole_Find_j7 (n : Nat) (a0t : GTariff) (a1c : GCalendar) (a2s : GSession) (a3most : Int) (r6 : Int × Int) (j7 : List (GLoopholeStretch × Int)) : Option ((List Int) × Bool × Int) :=
 cond (ltI a3most 2)
  (some ([], false, 0))
  (loopN (fun recl8 (l8_1, l8_2) => g_loophole_Find_l8 n a0t a1c a2s r6 recl8 l8_1 l8_2) n (wi (a2s.From + 1), j7))
def g_loophole_Find_l19 (n : Nat) (a0t : GTariff) (a1c : GCalendar) (a2s : GSession) (a3most : Int) (r6 : Int × Int) (recl19 : (Int × (List (GLoopholeStretch × Int))) → Option ((List Int) × Bool × Int)) (l19_1 : Int) (l19_2 : List (GLoopholeStretch × Int)) : Option ((List Int) × Bool × Int) :=
 cond (ltI l19_1 a2s.To)
  ((cond (!(mhas me_map_loophole_stretch_int (⟨a2s.From, l19_1⟩ : GLoopholeStretch) l19_2))
   ((g_loophole_part n a2s a2s.From l19_1).bind fun r21 =>
   (g_bill_Bill n a0t a1c r21).bind fun r22 =>
   cond (!eqI r22.2 0)
    (some (1000000001, mset me_map_loophole_stretch_int (⟨a2s.From, l19_1⟩ : GLoopholeStretch) 1000000001 l19_2))
    (some (r22.1.Total, mset me_map_loophole_stretch_int (⟨a2s.From, l19_1⟩ : GLoopholeStretch) r22.1.Total l19_2)))
   (some (mgetD me_map_loophole_stretch_int (⟨a2s.From, l19_1⟩ : GLoopholeStretch) 0 l19_2, l19_2))).bind fun (j20_1, j20_2) =>
  (cond (!(mhas me_map_loophole_stretch_int (⟨l19_1, a2s.To⟩ : GLoopholeStretch) j20_2))
   ((g_loophole_part n a2s l19_1 a2s.To).bind fun r24 =>
   (g_bill_Bill n a0t a1c r24).bind fun r25 =>
   cond (!eqI r25.2 0)
    (some (1000000001, mset me_map_loophole_stretch_int (⟨l19_1, a2s.To⟩ : GLoopholeStretch) 1000000001 j20_2))
    (some (r25.1.Total, mset me_map_loophole_stretch_int (⟨l19_1, a2s.To⟩ : GLoopholeStretch) r25.1.Total j20_2)))
   (some (mgetD me_map_loophole_stretch_int (⟨l19_1, a2s.To⟩ : GLoopholeStretch) 0 j20_2, j20_2))).bind fun (j23_1, j23_2) =>
  cond (ltI (wi (j20_1 + j23_1)) r6.1)
   (some ([l19_1], true, 0))
   (recl19 (wi (l19_1 + 1), j23_2)))
  (g_loophole_Find_j7 n a0t a1c a2s a3most r6 l19_2)
def g_loophole_Find (n : Nat) (a0t : GTariff) (a1c : GCalendar) (a2s : GSession) (a3most : Int) : Option ((List Int) × Bool × Int) :=
 ((g_loophole_valid n a0t a1c a2s).bind fun r2 =>
 cond (!r2)
  (some true)
  (cond (ltI 60 (wi (a2s.To - a2s.From)))
   (some true)
   (cond (ltI a3most 1)
    (some true)
    (some (ltI 2 a3most))))).bind fun j1 =>
 cond j1
  (some ([], false, 1))
  ((g_loophole_Price n a0t a1c a2s []).bind fun r6 =>
  cond (!eqI r6.2 0)
   (some ([], false, r6.2))
   (loopN (fun recl19 (l19_1, l19_2) => g_loophole_Find_l19 n a0t a1c a2s a3most r6 recl19 l19_1 l19_2) n (wi (a2s.From + 1), [])))
theorem g_loophole_Find_ok (n : Nat) (a0t : GTariff) (a1c : GCalendar) (a2s : GSession) (a3most : Int) : ∀ r, g_loophole_Find n a0t a1c a2s a3most = some r → PCall Try.prog 15 [ag (GTariff.cs a0t), ag (GCalendar.cs a1c), ag (GSession.cs a2s), I a3most] (.ret (.tup [.p (.sl 1 (List.map ci r.1)), B r.2.1, I r.2.2])) := by
 refine pcall_sim (X := fun r : (List Int) × Bool × Int => AEnd.ret (.tup [.p (.sl 1 (List.map ci r.1)), B r.2.1, I r.2.2])) Try.func15 rfl Try.ntmps15 rfl ?_
 unfold g_loophole_Find
 refine sim_run Try.fm ⟨[3, 4, 5, 6], [4, 5, 6], [], []⟩ ⟨[(3, I a3most), (4, .ptr 4 0), (5, .ptr 5 0), (6, .ptr 6 0)], [(4, .box 34 (bxc (GTariff.cs a0t))), (5, .box 38 (bxc (GCalendar.cs a1c))), (6, .box 24 (bxc (GSession.cs a2s)))]⟩ krf ?_
 refine sim_scope ?_
 refine sim_seq ?_
 refine sim_bind (fun j1 => ⟨[(3, I a3most), (4, .ptr 4 0), (5, .ptr 5 0), (6, .ptr 6 0), (38, B j1)], [(4, .box 34 (bxc (GTariff.cs a0t))), (5, .box 38 (bxc (GCalendar.cs a1c))), (6, .box 24 (bxc (GSession.cs a2s)))]⟩ : Bool → St) ?_ ?_
 ·refine sim_reg ?_
  refine xs_run 3 krf ?_
  refine xs_call [] krf (g_loophole_valid_ok n a0t a1c a2s) krf krf (fun _ => by kernel_rfl) (fun r2 => ?_)
  refine xs_run 2 krf ?_
  refine xs_split (!r2) (fun h3 => ?_) (fun h3 => ?_)
  ·refine xs_no (want_ft krf h3) krf ?_
   refine xs_run 14 krf ?_
   refine xs_end ?_
   exact nq_n true ⟨[3, 4, 5, 6, 38], [4, 5, 6], [], []⟩ krf
  ·refine xs_one (want_ff krf h3) krf ?_
   refine xs_run 7 krf ?_
   refine xs_split (ltI 60 (wi (a2s.To - a2s.From))) (fun h4 => ?_) (fun h4 => ?_)
   ·refine xs_no (want_ft krf h4) krf ?_
    refine xs_run 6 krf ?_
    refine xs_end ?_
    exact nq_n true ⟨[3, 4, 5, 6, 38], [4, 5, 6], [], []⟩ krf
   ·refine xs_one (want_ff krf h4) krf ?_
    refine xs_run 3 krf ?_
    refine xs_split (ltI a3most 1) (fun h5 => ?_) (fun h5 => ?_)
    ·refine xs_no (want_ft krf h5) krf ?_
     refine xs_run 2 krf ?_
     refine xs_end ?_
     exact nq_n true ⟨[3, 4, 5, 6, 38], [4, 5, 6], [], []⟩ krf
    ·refine xs_one (want_ff krf h5) krf ?_
     refine xs_run 2 krf ?_
     refine xs_end ?_
     exact nq_n (ltI 2 a3most) ⟨[3, 4, 5, 6, 38], [4, 5, 6], [], []⟩ krf
 ·rintro j1
  refine sim_cond j1 krf ?_ ?_
  ·refine sim_run Try.fm ⟨[8, 9, 10], [], [], []⟩ ⟨[(8, .p (.val (.slice none 0 0))), (9, B false), (10, I 1)], []⟩ krf ?_
   refine sim_ret ?_
   refine sq_r ?_
   exact rq_ret (.agg [.sl 1, .id, .id]) krf krf krf
  ·refine sim_skip ?_
   refine sq_nk ⟨[3, 4, 5, 6], [4, 5, 6], [], []⟩ ⟨[(3, I a3most), (4, .ptr 4 0), (5, .ptr 5 0), (6, .ptr 6 0)], [(4, .box 34 (bxc (GTariff.cs a0t))), (5, .box 38 (bxc (GCalendar.cs a1c))), (6, .box 24 (bxc (GSession.cs a2s)))]⟩ krf ?_
   refine sim_seq ?_
   refine sim_reg ?_
   refine xs_run 3 krf ?_
   refine xs_call [.id, .id, .id, .sl 1] krf (g_loophole_Price_ok n a0t a1c a2s []) krf krf (fun _ => by kernel_rfl) (fun r6 => ?_)
   refine xs_run 5 krf ?_
   refine xs_end ?_
   refine sq_nk ⟨[3, 4, 5, 6, 11, 12], [4, 5, 6], [], []⟩ ⟨[(3, I a3most), (4, .ptr 4 0), (5, .ptr 5 0), (6, .ptr 6 0), (11, I r6.1), (12, I r6.2)], [(4, .box 34 (bxc (GTariff.cs a0t))), (5, .box 38 (bxc (GCalendar.cs a1c))), (6, .box 24 (bxc (GSession.cs a2s)))]⟩ krf ?_
   refine sim_seq ?_
   refine sim_run Try.fm ⟨[3, 4, 5, 6, 11, 12, 47], [4, 5, 6], [], []⟩ ⟨[(3, I a3most), (4, .ptr 4 0), (5, .ptr 5 0), (6, .ptr 6 0), (11, I r6.1), (12, I r6.2), (47, B (!eqI r6.2 0))], [(4, .box 34 (bxc (GTariff.cs a0t))), (5, .box 38 (bxc (GCalendar.cs a1c))), (6, .box 24 (bxc (GSession.cs a2s)))]⟩ krf ?_
   refine sim_cond (!eqI r6.2 0) krf ?_ ?_
   ·refine sim_run Try.fm ⟨[8, 9, 10], [], [], []⟩ ⟨[(8, .p (.val (.slice none 0 0))), (9, B false), (10, I r6.2)], []⟩ krf ?_
    refine sim_ret ?_
    refine sq_r ?_
    exact rq_ret (.agg [.sl 1, .id, .id]) krf krf krf
   ·refine sim_skip ?_
    refine sq_nk ⟨[3, 4, 5, 6, 11], [4, 5, 6], [], []⟩ ⟨[(3, I a3most), (4, .ptr 4 0), (5, .ptr 5 0), (6, .ptr 6 0), (11, I r6.1)], [(4, .box 34 (bxc (GTariff.cs a0t))), (5, .box 38 (bxc (GCalendar.cs a1c))), (6, .box 24 (bxc (GSession.cs a2s)))]⟩ krf ?_
    refine sim_seq ?_
    refine sim_reg ?_
    refine xs_run 3 krf ?_
    refine xs_inline [] [.agg [S a0t.Name, .p (.sl 7 (List.map GArticle.cs a0t.Articles))], .agg [I a1c.Offset, .p (.sl 2 (List.map GChange.cs a1c.Changes)), .p (.sl 1 (List.map ci a1c.Holidays))], .agg [I a2s.From, I a2s.To, I a2s.End, .p (.sl 2 (List.map GSlice.cs a2s.Slices))]] [(3, 403), (4, 404), (5, 405), (7, 407), (8, 408)] [] [] krf Try.func24 rfl Try.ntmps24 rfl krf krf krf ?_
    refine sim_run Try.fm ⟨[3, 4, 5], [3, 4, 5], [], []⟩ ⟨[(3, .ptr 3 0), (4, .ptr 4 0), (5, .ptr 5 0)], [(3, .box 34 (bxc (GTariff.cs a0t))), (4, .box 38 (bxc (GCalendar.cs a1c))), (5, .box 24 (bxc (GSession.cs a2s)))]⟩ krf ?_
    refine sim_seq ?_
    refine sim_reg ?_
    refine xs_u krf krf (aop_mk (d := 8) (rsv := none) rfl rfl krf) ?_
    refine xs_run 2 krf ?_
    refine xs_end ?_
    refine sq_nk ⟨[3, 4, 5, 7], [3, 4, 5, 7, 8], [], []⟩ ⟨[(3, .ptr 3 0), (4, .ptr 4 0), (5, .ptr 5 0), (7, .ptr 7 0)], [(3, .box 34 (bxc (GTariff.cs a0t))), (4, .box 38 (bxc (GCalendar.cs a1c))), (5, .box 24 (bxc (GSession.cs a2s))), (7, .box 66 [.mv 8]), (8, .mp (mpL mk_map_loophole_stretch_int mv_map_loophole_stretch_int []))]⟩ krf ?_
    refine sim_run Try.fm ⟨[6], [3, 4, 5, 7, 8], [], []⟩ ⟨[(6, .fn (.func 29) [] [.ptr 7 0, .ptr 3 0, .ptr 4 0, .ptr 5 0])], [(3, .box 34 (bxc (GTariff.cs a0t))), (4, .box 38 (bxc (GCalendar.cs a1c))), (5, .box 24 (bxc (GSession.cs a2s))), (7, .box 66 [.mv 8]), (8, .mp (mpL mk_map_loophole_stretch_int mv_map_loophole_stretch_int []))]⟩ krf ?_
    refine sim_ret ?_
    refine iq_ret .id [3, 4, 5, 7, 8] [] (.fn (.func 29) [] [.ptr 7 0, .ptr 3 0, .ptr 4 0, .ptr 5 0]) krf krf ?_
    refine kr0 ?_
    refine xs_run 1 krf ?_
    refine xs_end ?_
    refine sq_nk ⟨[3, 6, 11, 13], [6, 403, 404, 405, 407, 408], [], []⟩ ⟨[(3, I a3most), (6, .ptr 6 0), (11, I r6.1), (13, .fn (.func 29) [] [.ptr 407 0, .ptr 403 0, .ptr 404 0, .ptr 405 0])], [(6, .box 24 (bxc (GSession.cs a2s))), (403, .box 34 (bxc (GTariff.cs a0t))), (404, .box 38 (bxc (GCalendar.cs a1c))), (405, .box 24 (bxc (GSession.cs a2s))), (407, .box 66 [.mv 408]), (408, .mp (mpL mk_map_loophole_stretch_int mv_map_loophole_stretch_int []))]⟩ krf ?_
    refine sim_cps (fun j7 => ⟨[(3, I a3most), (6, .ptr 6 0), (11, I r6.1), (13, .fn (.func 29) [] [.ptr 407 0, .ptr 403 0, .ptr 404 0, .ptr 405 0])], [(6, .box 24 (bxc (GSession.cs a2s))), (403, .box 34 (bxc (GTariff.cs a0t))), (404, .box 38 (bxc (GCalendar.cs a1c))), (405, .box 24 (bxc (GSession.cs a2s))), (407, .box 66 [.mv 408]), (408, .mp (mpL mk_map_loophole_stretch_int mv_map_loophole_stretch_int j7))]⟩ : (List (GLoopholeStretch × Int)) → St) (fun j7 => g_loophole_Find_j7 n a0t a1c a2s a3most r6 j7) ?_ ?_
    ·rintro j7
     show SimE (g_loophole_Find_j7 n a0t a1c a2s a3most r6 j7) _ _ _ _ _ _
     unfold g_loophole_Find_j7
     refine sim_seq ?_
     refine sim_run Try.fm ⟨[6, 11, 13, 78], [6, 403, 404, 405, 407, 408], [], []⟩ ⟨[(6, .ptr 6 0), (11, I r6.1), (13, .fn (.func 29) [] [.ptr 407 0, .ptr 403 0, .ptr 404 0, .ptr 405 0]), (78, B (ltI a3most 2))], [(6, .box 24 (bxc (GSession.cs a2s))), (403, .box 34 (bxc (GTariff.cs a0t))), (404, .box 38 (bxc (GCalendar.cs a1c))), (405, .box 24 (bxc (GSession.cs a2s))), (407, .box 66 [.mv 408]), (408, .mp (mpL mk_map_loophole_stretch_int mv_map_loophole_stretch_int j7))]⟩ krf ?_
     refine sim_cond (ltI a3most 2) krf ?_ ?_
     ·refine sim_run Try.fm ⟨[8, 9, 10], [], [], []⟩ ⟨[(8, .p (.val (.slice none 0 0))), (9, B false), (10, I 0)], []⟩ krf ?_
      refine sim_ret ?_
      refine sq_r ?_
      exact rq_ret (.agg [.sl 1, .id, .id]) krf krf krf
     ·refine sim_skip ?_
      refine sq_nk ⟨[6, 11, 13], [6, 403, 404, 405, 407, 408], [], []⟩ ⟨[(6, .ptr 6 0), (11, I r6.1), (13, .fn (.func 29) [] [.ptr 407 0, .ptr 403 0, .ptr 404 0, .ptr 405 0])], [(6, .box 24 (bxc (GSession.cs a2s))), (403, .box 34 (bxc (GTariff.cs a0t))), (404, .box 38 (bxc (GCalendar.cs a1c))), (405, .box 24 (bxc (GSession.cs a2s))), (407, .box 66 [.mv 408]), (408, .mp (mpL mk_map_loophole_stretch_int mv_map_loophole_stretch_int j7))]⟩ krf ?_
      refine sim_run Try.fm ⟨[6, 11, 13, 15], [6, 403, 404, 405, 407, 408], [], []⟩ ⟨[(6, .ptr 6 0), (11, I r6.1), (13, .fn (.func 29) [] [.ptr 407 0, .ptr 403 0, .ptr 404 0, .ptr 405 0]), (15, .p (.val (.slice none 0 0)))], [(6, .box 24 (bxc (GSession.cs a2s))), (403, .box 34 (bxc (GTariff.cs a0t))), (404, .box 38 (bxc (GCalendar.cs a1c))), (405, .box 24 (bxc (GSession.cs a2s))), (407, .box 66 [.mv 408]), (408, .mp (mpL mk_map_loophole_stretch_int mv_map_loophole_stretch_int j7))]⟩ krf ?_
      refine sim_seq ?_
      refine sim_label ?_
      refine sq_nk ⟨[6, 11, 13, 15], [6, 403, 404, 405, 407, 408], [], []⟩ ⟨[(6, .ptr 6 0), (11, I r6.1), (13, .fn (.func 29) [] [.ptr 407 0, .ptr 403 0, .ptr 404 0, .ptr 405 0]), (15, .p (.val (.slice none 0 0)))], [(6, .box 24 (bxc (GSession.cs a2s))), (403, .box 34 (bxc (GTariff.cs a0t))), (404, .box 38 (bxc (GCalendar.cs a1c))), (405, .box 24 (bxc (GSession.cs a2s))), (407, .box 66 [.mv 408]), (408, .mp (mpL mk_map_loophole_stretch_int mv_map_loophole_stretch_int j7))]⟩ krf ?_
      refine sim_seq ?_
      refine sim_run Try.fm ⟨[6, 11, 13, 15, 16], [6, 403, 404, 405, 407, 408], [], []⟩ ⟨[(6, .ptr 6 0), (11, I r6.1), (13, .fn (.func 29) [] [.ptr 407 0, .ptr 403 0, .ptr 404 0, .ptr 405 0]), (15, .p (.val (.slice none 0 0))), (16, I (wi (a2s.From + 1)))], [(6, .box 24 (bxc (GSession.cs a2s))), (403, .box 34 (bxc (GTariff.cs a0t))), (404, .box 38 (bxc (GCalendar.cs a1c))), (405, .box 24 (bxc (GSession.cs a2s))), (407, .box 66 [.mv 408]), (408, .mp (mpL mk_map_loophole_stretch_int mv_map_loophole_stretch_int j7))]⟩ krf ?_
      refine sim_block ?_
      refine sim_loop (fun (l8_1, l8_2) => ⟨[(6, .ptr 6 0), (11, I r6.1), (13, .fn (.func 29) [] [.ptr 407 0, .ptr 403 0, .ptr 404 0, .ptr 405 0]), (15, .p (.val (.slice none 0 0))), (16, I l8_1)], [(6, .box 24 (bxc (GSession.cs a2s))), (403, .box 34 (bxc (GTariff.cs a0t))), (404, .box 38 (bxc (GCalendar.cs a1c))), (405, .box 24 (bxc (GSession.cs a2s))), (407, .box 66 [.mv 408]), (408, .mp (mpL mk_map_loophole_stretch_int mv_map_loophole_stretch_int l8_2))]⟩ : (Int × (List (GLoopholeStretch × Int))) → St) (weak_shr (K := ⟨[6, 11, 13, 15, 16], [6, 403, 404, 405, 407, 408], [], []⟩) krf) ?_
      rintro recl8 ⟨l8_1, l8_2⟩
      show SimE (g_loophole_Find_l8 n a0t a1c a2s r6 recl8 l8_1 l8_2) _ _ _ _ _ _
      unfold g_loophole_Find_l8
      refine sim_seq ?_
      refine sim_run Try.fm ⟨[6, 11, 13, 15, 16, 85], [6, 403, 404, 405, 407, 408], [], []⟩ ⟨[(6, .ptr 6 0), (11, I r6.1), (13, .fn (.func 29) [] [.ptr 407 0, .ptr 403 0, .ptr 404 0, .ptr 405 0]), (15, .p (.val (.slice none 0 0))), (16, I l8_1), (85, B (ltI l8_1 a2s.To))], [(6, .box 24 (bxc (GSession.cs a2s))), (403, .box 34 (bxc (GTariff.cs a0t))), (404, .box 38 (bxc (GCalendar.cs a1c))), (405, .box 24 (bxc (GSession.cs a2s))), (407, .box 66 [.mv 408]), (408, .mp (mpL mk_map_loophole_stretch_int mv_map_loophole_stretch_int l8_2))]⟩ krf ?_
      refine sim_cond (ltI l8_1 a2s.To) krf ?_ ?_
      ·refine sim_skip ?_
       refine sq_nk ⟨[6, 11, 13, 15, 16], [6, 403, 404, 405, 407, 408], [], []⟩ ⟨[(6, .ptr 6 0), (11, I r6.1), (13, .fn (.func 29) [] [.ptr 407 0, .ptr 403 0, .ptr 404 0, .ptr 405 0]), (15, .p (.val (.slice none 0 0))), (16, I l8_1)], [(6, .box 24 (bxc (GSession.cs a2s))), (403, .box 34 (bxc (GTariff.cs a0t))), (404, .box 38 (bxc (GCalendar.cs a1c))), (405, .box 24 (bxc (GSession.cs a2s))), (407, .box 66 [.mv 408]), (408, .mp (mpL mk_map_loophole_stretch_int mv_map_loophole_stretch_int l8_2))]⟩ krf ?_
       refine sim_seq ?_
       refine sim_block ?_
       refine sim_run Try.fm ⟨[6, 11, 13, 15, 16, 17], [6, 403, 404, 405, 407, 408], [], []⟩ ⟨[(6, .ptr 6 0), (11, I r6.1), (13, .fn (.func 29) [] [.ptr 407 0, .ptr 403 0, .ptr 404 0, .ptr 405 0]), (15, .p (.val (.slice none 0 0))), (16, I l8_1), (17, I (wi (l8_1 + 1)))], [(6, .box 24 (bxc (GSession.cs a2s))), (403, .box 34 (bxc (GTariff.cs a0t))), (404, .box 38 (bxc (GCalendar.cs a1c))), (405, .box 24 (bxc (GSession.cs a2s))), (407, .box 66 [.mv 408]), (408, .mp (mpL mk_map_loophole_stretch_int mv_map_loophole_stretch_int l8_2))]⟩ krf ?_
       refine sim_block ?_
       refine sim_loop (fun (l9_1, l9_2) => ⟨[(6, .ptr 6 0), (11, I r6.1), (13, .fn (.func 29) [] [.ptr 407 0, .ptr 403 0, .ptr 404 0, .ptr 405 0]), (15, .p (.val (.slice none 0 0))), (16, I l8_1), (17, I l9_1)], [(6, .box 24 (bxc (GSession.cs a2s))), (403, .box 34 (bxc (GTariff.cs a0t))), (404, .box 38 (bxc (GCalendar.cs a1c))), (405, .box 24 (bxc (GSession.cs a2s))), (407, .box 66 [.mv 408]), (408, .mp (mpL mk_map_loophole_stretch_int mv_map_loophole_stretch_int l9_2))]⟩ : (Int × (List (GLoopholeStretch × Int))) → St) (weak_shr (K := ⟨[6, 11, 13, 15, 16, 17], [6, 403, 404, 405, 407, 408], [], []⟩) krf) ?_
       rintro recl9 ⟨l9_1, l9_2⟩
       show SimE (g_loophole_Find_l9 n a0t a1c a2s r6 l8_1 recl8 recl9 l9_1 l9_2) _ _ _ _ _ _
       unfold g_loophole_Find_l9
       refine sim_seq ?_
       refine sim_run Try.fm ⟨[6, 11, 13, 15, 16, 17, 93], [6, 403, 404, 405, 407, 408], [], []⟩ ⟨[(6, .ptr 6 0), (11, I r6.1), (13, .fn (.func 29) [] [.ptr 407 0, .ptr 403 0, .ptr 404 0, .ptr 405 0]), (15, .p (.val (.slice none 0 0))), (16, I l8_1), (17, I l9_1), (93, B (ltI l9_1 a2s.To))], [(6, .box 24 (bxc (GSession.cs a2s))), (403, .box 34 (bxc (GTariff.cs a0t))), (404, .box 38 (bxc (GCalendar.cs a1c))), (405, .box 24 (bxc (GSession.cs a2s))), (407, .box 66 [.mv 408]), (408, .mp (mpL mk_map_loophole_stretch_int mv_map_loophole_stretch_int l9_2))]⟩ krf ?_
       refine sim_cond (ltI l9_1 a2s.To) krf ?_ ?_
       ·refine sim_skip ?_
        refine sq_nk ⟨[6, 11, 13, 15, 16, 17], [6, 403, 404, 405, 407, 408], [], []⟩ ⟨[(6, .ptr 6 0), (11, I r6.1), (13, .fn (.func 29) [] [.ptr 407 0, .ptr 403 0, .ptr 404 0, .ptr 405 0]), (15, .p (.val (.slice none 0 0))), (16, I l8_1), (17, I l9_1)], [(6, .box 24 (bxc (GSession.cs a2s))), (403, .box 34 (bxc (GTariff.cs a0t))), (404, .box 38 (bxc (GCalendar.cs a1c))), (405, .box 24 (bxc (GSession.cs a2s))), (407, .box 66 [.mv 408]), (408, .mp (mpL mk_map_loophole_stretch_int mv_map_loophole_stretch_int l9_2))]⟩ krf ?_
        refine sim_seq ?_
        refine sim_block ?_
        refine sim_seq ?_
        refine sim_hst [0, 1, 2, 3, 5, 6, 7, 10, 11, 12, 13, 16] [5, 6, 7, 10, 11, 12, 13, 16, 9] [(4, []), (8, [9]), (14, []), (15, []), (17, [])] Try.fm rfl krf krf ?_
        refine h_enter (f := 29) (args := [I a2s.From, I l8_1, .ptr 407 0, .ptr 403 0, .ptr 404 0, .ptr 405 0]) (dst := some 100) krf krf ?_
        refine sc_inline (hc := [(1403, .box 34 (bxc (GTariff.cs a0t))), (1404, .box 38 (bxc (GCalendar.cs a1c))), (1405, .box 24 (bxc (GSession.cs a2s))), (1407, .box 66 [.mv 1408]), (1408, .mp (mpL mk_map_loophole_stretch_int mv_map_loophole_stretch_int l9_2))]) (args' := [I a2s.From, I l8_1, .ptr 1407 0, .ptr 1403 0, .ptr 1404 0, .ptr 1405 0]) [(1403, 403), (1404, 404), (1405, 405), (1407, 407), (1408, 408)] [] [] Try.func29 rfl Try.ntmps29 rfl krf krf krf ?_
        refine sim_run Try.fm ⟨[0, 1, 2, 3, 4, 5], [1403, 1404, 1405, 1407, 1408], [], []⟩ ⟨[(0, I a2s.From), (1, I l8_1), (2, .ptr 1407 0), (3, .ptr 1403 0), (4, .ptr 1404 0), (5, .ptr 1405 0)], [(1403, .box 34 (bxc (GTariff.cs a0t))), (1404, .box 38 (bxc (GCalendar.cs a1c))), (1405, .box 24 (bxc (GSession.cs a2s))), (1407, .box 66 [.mv 1408]), (1408, .mp (mpL mk_map_loophole_stretch_int mv_map_loophole_stretch_int l9_2))]⟩ krf ?_
        refine sim_run Try.fm ⟨[0, 1, 2, 3, 4, 5, 9], [9, 1403, 1404, 1405, 1407, 1408], [], []⟩ ⟨[(0, I a2s.From), (1, I l8_1), (2, .ptr 1407 0), (3, .ptr 1403 0), (4, .ptr 1404 0), (5, .ptr 1405 0), (9, .ptr 9 0)], [(9, .box 68 [I a2s.From, I l8_1]), (1403, .box 34 (bxc (GTariff.cs a0t))), (1404, .box 38 (bxc (GCalendar.cs a1c))), (1405, .box 24 (bxc (GSession.cs a2s))), (1407, .box 66 [.mv 1408]), (1408, .mp (mpL mk_map_loophole_stretch_int mv_map_loophole_stretch_int l9_2))]⟩ krf ?_
        refine sim_seq ?_
        refine sim_reg ?_
        refine xs_run 2 krf ?_
        refine xs_u krf krf (aop_look (kt := 68) (e := 3) (ke := mk_map_loophole_stretch_int) (ve := mv_map_loophole_stretch_int) (eq := me_map_loophole_stretch_int) (b := 1408) (m := l9_2) (k := (⟨a2s.From, l8_1⟩ : GLoopholeStretch)) (z0 := 0) rfl krf krf krf krf krf (fun _ => by kernel_rfl) (fun _ _ => (eqV2_eq _ _ _ _ _).symm.trans krf) krf) ?_
        refine xs_run 5 krf ?_
        refine xs_end ?_
        refine sq_nk ⟨[0, 1, 2, 3, 4, 5, 9, 10, 11], [9, 1403, 1404, 1405, 1407, 1408], [], []⟩ ⟨[(0, I a2s.From), (1, I l8_1), (2, .ptr 1407 0), (3, .ptr 1403 0), (4, .ptr 1404 0), (5, .ptr 1405 0), (9, .ptr 9 0), (10, I (mgetD me_map_loophole_stretch_int (⟨a2s.From, l8_1⟩ : GLoopholeStretch) 0 l9_2)), (11, B (mhas me_map_loophole_stretch_int (⟨a2s.From, l8_1⟩ : GLoopholeStretch) l9_2))], [(9, .box 68 [I a2s.From, I l8_1]), (1403, .box 34 (bxc (GTariff.cs a0t))), (1404, .box 38 (bxc (GCalendar.cs a1c))), (1405, .box 24 (bxc (GSession.cs a2s))), (1407, .box 66 [.mv 1408]), (1408, .mp (mpL mk_map_loophole_stretch_int mv_map_loophole_stretch_int l9_2))]⟩ krf ?_
        refine sim_bind (fun (j10_1, j10_2) => ⟨[(10, I j10_1)], [(1403, .box 34 (bxc (GTariff.cs a0t))), (1404, .box 38 (bxc (GCalendar.cs a1c))), (1405, .box 24 (bxc (GSession.cs a2s))), (1407, .box 66 [.mv 1408]), (1408, .mp (mpL mk_map_loophole_stretch_int mv_map_loophole_stretch_int j10_2))]⟩ : (Int × (List (GLoopholeStretch × Int))) → St) ?_ ?_
        ·refine sim_run Try.fm ⟨[0, 1, 2, 3, 4, 5, 9, 10, 24], [9, 1403, 1404, 1405, 1407, 1408], [], []⟩ ⟨[(0, I a2s.From), (1, I l8_1), (2, .ptr 1407 0), (3, .ptr 1403 0), (4, .ptr 1404 0), (5, .ptr 1405 0), (9, .ptr 9 0), (10, I (mgetD me_map_loophole_stretch_int (⟨a2s.From, l8_1⟩ : GLoopholeStretch) 0 l9_2)), (24, B (!(mhas me_map_loophole_stretch_int (⟨a2s.From, l8_1⟩ : GLoopholeStretch) l9_2)))], [(9, .box 68 [I a2s.From, I l8_1]), (1403, .box 34 (bxc (GTariff.cs a0t))), (1404, .box 38 (bxc (GCalendar.cs a1c))), (1405, .box 24 (bxc (GSession.cs a2s))), (1407, .box 66 [.mv 1408]), (1408, .mp (mpL mk_map_loophole_stretch_int mv_map_loophole_stretch_int l9_2))]⟩ krf ?_
         refine sim_cond (!(mhas me_map_loophole_stretch_int (⟨a2s.From, l8_1⟩ : GLoopholeStretch) l9_2)) krf ?_ ?_
         ·refine sim_seq ?_
          refine sim_drw Try.fm rfl ?_
          refine xs_run 5 krf ?_
          refine xs_call [] krf (g_loophole_part_ok n a2s a2s.From l8_1) krf krf (fun _ => by kernel_rfl) (fun r11 => ?_)
          refine xs_call [] krf (g_bill_Bill_ok n a0t a1c r11) krf krf (fun _ => by kernel_rfl) (fun r12 => ?_)
          refine xs_run 6 krf ?_
          refine xs_endD krf ?_
          refine sq_nk ⟨[2, 9, 12, 13], [9, 12, 1403, 1404, 1405, 1407, 1408], [], []⟩ ⟨[(2, .ptr 1407 0), (9, .ptr 9 0), (12, .ptr 12 0), (13, I r12.2)], [(9, .box 68 [I a2s.From, I l8_1]), (12, .box 62 (bxc (GBill.cs r12.1))), (1403, .box 34 (bxc (GTariff.cs a0t))), (1404, .box 38 (bxc (GCalendar.cs a1c))), (1405, .box 24 (bxc (GSession.cs a2s))), (1407, .box 66 [.mv 1408]), (1408, .mp (mpL mk_map_loophole_stretch_int mv_map_loophole_stretch_int l9_2))]⟩ krf ?_
          refine sim_run Try.fm ⟨[2, 9, 10, 13], [9, 1403, 1404, 1405, 1407, 1408], [], []⟩ ⟨[(2, .ptr 1407 0), (9, .ptr 9 0), (10, I r12.1.Total), (13, I r12.2)], [(9, .box 68 [I a2s.From, I l8_1]), (1403, .box 34 (bxc (GTariff.cs a0t))), (1404, .box 38 (bxc (GCalendar.cs a1c))), (1405, .box 24 (bxc (GSession.cs a2s))), (1407, .box 66 [.mv 1408]), (1408, .mp (mpL mk_map_loophole_stretch_int mv_map_loophole_stretch_int l9_2))]⟩ krf ?_
          refine sim_seq ?_
          refine sim_run Try.fm ⟨[2, 9, 10, 38], [9, 1403, 1404, 1405, 1407, 1408], [], []⟩ ⟨[(2, .ptr 1407 0), (9, .ptr 9 0), (10, I r12.1.Total), (38, B (!eqI r12.2 0))], [(9, .box 68 [I a2s.From, I l8_1]), (1403, .box 34 (bxc (GTariff.cs a0t))), (1404, .box 38 (bxc (GCalendar.cs a1c))), (1405, .box 24 (bxc (GSession.cs a2s))), (1407, .box 66 [.mv 1408]), (1408, .mp (mpL mk_map_loophole_stretch_int mv_map_loophole_stretch_int l9_2))]⟩ krf ?_
          refine sim_cond (!eqI r12.2 0) krf ?_ ?_
          ·refine sim_last Try.fm krf ?_
           refine sq_nk ⟨[2, 9, 10], [9, 1403, 1404, 1405, 1407, 1408], [], []⟩ ⟨[(2, .ptr 1407 0), (9, .ptr 9 0), (10, I 1000000001)], [(9, .box 68 [I a2s.From, I l8_1]), (1403, .box 34 (bxc (GTariff.cs a0t))), (1404, .box 38 (bxc (GCalendar.cs a1c))), (1405, .box 24 (bxc (GSession.cs a2s))), (1407, .box 66 [.mv 1408]), (1408, .mp (mpL mk_map_loophole_stretch_int mv_map_loophole_stretch_int l9_2))]⟩ krf ?_
           refine sim_reg ?_
           refine xs_run 3 krf ?_
           refine xs_u krf krf (aop_mset (kt := 68) (e := 3) (ke := mk_map_loophole_stretch_int) (ve := mv_map_loophole_stretch_int) (eq := me_map_loophole_stretch_int) (b := 1408) (m := l9_2) (k := (⟨a2s.From, l8_1⟩ : GLoopholeStretch)) (v := 1000000001) rfl krf krf krf krf krf krf (fun _ => by kernel_rfl) (fun _ _ => (eqV2_eq _ _ _ _ _).symm.trans krf)) ?_
           refine xs_end ?_
           exact nq_n (1000000001, mset me_map_loophole_stretch_int (⟨a2s.From, l8_1⟩ : GLoopholeStretch) 1000000001 l9_2) ⟨[10], [1403, 1404, 1405, 1407, 1408], [], []⟩ krf
          ·refine sim_skip ?_
           refine sq_nk ⟨[2, 9, 10], [9, 1403, 1404, 1405, 1407, 1408], [], []⟩ ⟨[(2, .ptr 1407 0), (9, .ptr 9 0), (10, I r12.1.Total)], [(9, .box 68 [I a2s.From, I l8_1]), (1403, .box 34 (bxc (GTariff.cs a0t))), (1404, .box 38 (bxc (GCalendar.cs a1c))), (1405, .box 24 (bxc (GSession.cs a2s))), (1407, .box 66 [.mv 1408]), (1408, .mp (mpL mk_map_loophole_stretch_int mv_map_loophole_stretch_int l9_2))]⟩ krf ?_
           refine sim_reg ?_
           refine xs_run 3 krf ?_
           refine xs_u krf krf (aop_mset (kt := 68) (e := 3) (ke := mk_map_loophole_stretch_int) (ve := mv_map_loophole_stretch_int) (eq := me_map_loophole_stretch_int) (b := 1408) (m := l9_2) (k := (⟨a2s.From, l8_1⟩ : GLoopholeStretch)) (v := r12.1.Total) rfl krf krf krf krf krf krf (fun _ => by kernel_rfl) (fun _ _ => (eqV2_eq _ _ _ _ _).symm.trans krf)) ?_
           refine xs_end ?_
           exact nq_n (r12.1.Total, mset me_map_loophole_stretch_int (⟨a2s.From, l8_1⟩ : GLoopholeStretch) r12.1.Total l9_2) ⟨[10], [1403, 1404, 1405, 1407, 1408], [], []⟩ krf
         ·refine sim_skip ?_
          exact nq_n (mgetD me_map_loophole_stretch_int (⟨a2s.From, l8_1⟩ : GLoopholeStretch) 0 l9_2, l9_2) ⟨[10], [1403, 1404, 1405, 1407, 1408], [], []⟩ krf
        ·rintro ⟨j10_1, j10_2⟩
         refine sim_run Try.fm ⟨[8], [1403, 1404, 1405, 1407, 1408], [], []⟩ ⟨[(8, I j10_1)], [(1403, .box 34 (bxc (GTariff.cs a0t))), (1404, .box 38 (bxc (GCalendar.cs a1c))), (1405, .box 24 (bxc (GSession.cs a2s))), (1407, .box 66 [.mv 1408]), (1408, .mp (mpL mk_map_loophole_stretch_int mv_map_loophole_stretch_int j10_2))]⟩ krf ?_
         refine sim_ret ?_
         refine iq_ret .id [1403, 1404, 1405, 1407, 1408] [] (I j10_1) krf krf ?_
         refine kh [5, 6, 7, 10, 11, 12, 13, 16] krf (lates_cons (late_move krf) (lates_cons (late_move krf) (lates_cons (late_move krf) (lates_cons (late_move krf) (lates_cons (late_move krf) (lates_cons (late_read (.ptr 6 1) krf rfl) (lates_cons (late_read (I a2s.To) krf rfl) (lates_cons (late_move krf) (lates_nil))))))))) krf ?_
         refine h_enter (f := 29) (args := [I l8_1, I l9_1, .ptr 407 0, .ptr 403 0, .ptr 404 0, .ptr 405 0]) (dst := some 104) krf krf ?_
         refine sc_inline (hc := [(1403, .box 34 (bxc (GTariff.cs a0t))), (1404, .box 38 (bxc (GCalendar.cs a1c))), (1405, .box 24 (bxc (GSession.cs a2s))), (1407, .box 66 [.mv 1408]), (1408, .mp (mpL mk_map_loophole_stretch_int mv_map_loophole_stretch_int j10_2))]) (args' := [I l8_1, I l9_1, .ptr 1407 0, .ptr 1403 0, .ptr 1404 0, .ptr 1405 0]) [(1403, 403), (1404, 404), (1405, 405), (1407, 407), (1408, 408)] [] [] Try.func29 rfl Try.ntmps29 rfl krf krf krf ?_
         refine sim_run Try.fm ⟨[0, 1, 2, 3, 4, 5], [1403, 1404, 1405, 1407, 1408], [], []⟩ ⟨[(0, I l8_1), (1, I l9_1), (2, .ptr 1407 0), (3, .ptr 1403 0), (4, .ptr 1404 0), (5, .ptr 1405 0)], [(1403, .box 34 (bxc (GTariff.cs a0t))), (1404, .box 38 (bxc (GCalendar.cs a1c))), (1405, .box 24 (bxc (GSession.cs a2s))), (1407, .box 66 [.mv 1408]), (1408, .mp (mpL mk_map_loophole_stretch_int mv_map_loophole_stretch_int j10_2))]⟩ krf ?_
         refine sim_run Try.fm ⟨[0, 1, 2, 3, 4, 5, 9], [9, 1403, 1404, 1405, 1407, 1408], [], []⟩ ⟨[(0, I l8_1), (1, I l9_1), (2, .ptr 1407 0), (3, .ptr 1403 0), (4, .ptr 1404 0), (5, .ptr 1405 0), (9, .ptr 9 0)], [(9, .box 68 [I l8_1, I l9_1]), (1403, .box 34 (bxc (GTariff.cs a0t))), (1404, .box 38 (bxc (GCalendar.cs a1c))), (1405, .box 24 (bxc (GSession.cs a2s))), (1407, .box 66 [.mv 1408]), (1408, .mp (mpL mk_map_loophole_stretch_int mv_map_loophole_stretch_int j10_2))]⟩ krf ?_
         refine sim_seq ?_
         refine sim_reg ?_
         refine xs_run 2 krf ?_
         refine xs_u krf krf (aop_look (kt := 68) (e := 3) (ke := mk_map_loophole_stretch_int) (ve := mv_map_loophole_stretch_int) (eq := me_map_loophole_stretch_int) (b := 1408) (m := j10_2) (k := (⟨l8_1, l9_1⟩ : GLoopholeStretch)) (z0 := 0) rfl krf krf krf krf krf (fun _ => by kernel_rfl) (fun _ _ => (eqV2_eq _ _ _ _ _).symm.trans krf) krf) ?_
         refine xs_run 5 krf ?_
         refine xs_end ?_
         refine sq_nk ⟨[0, 1, 2, 3, 4, 5, 9, 10, 11], [9, 1403, 1404, 1405, 1407, 1408], [], []⟩ ⟨[(0, I l8_1), (1, I l9_1), (2, .ptr 1407 0), (3, .ptr 1403 0), (4, .ptr 1404 0), (5, .ptr 1405 0), (9, .ptr 9 0), (10, I (mgetD me_map_loophole_stretch_int (⟨l8_1, l9_1⟩ : GLoopholeStretch) 0 j10_2)), (11, B (mhas me_map_loophole_stretch_int (⟨l8_1, l9_1⟩ : GLoopholeStretch) j10_2))], [(9, .box 68 [I l8_1, I l9_1]), (1403, .box 34 (bxc (GTariff.cs a0t))), (1404, .box 38 (bxc (GCalendar.cs a1c))), (1405, .box 24 (bxc (GSession.cs a2s))), (1407, .box 66 [.mv 1408]), (1408, .mp (mpL mk_map_loophole_stretch_int mv_map_loophole_stretch_int j10_2))]⟩ krf ?_
         refine sim_bind (fun (j13_1, j13_2) => ⟨[(10, I j13_1)], [(1403, .box 34 (bxc (GTariff.cs a0t))), (1404, .box 38 (bxc (GCalendar.cs a1c))), (1405, .box 24 (bxc (GSession.cs a2s))), (1407, .box 66 [.mv 1408]), (1408, .mp (mpL mk_map_loophole_stretch_int mv_map_loophole_stretch_int j13_2))]⟩ : (Int × (List (GLoopholeStretch × Int))) → St) ?_ ?_
         ·refine sim_run Try.fm ⟨[0, 1, 2, 3, 4, 5, 9, 10, 24], [9, 1403, 1404, 1405, 1407, 1408], [], []⟩ ⟨[(0, I l8_1), (1, I l9_1), (2, .ptr 1407 0), (3, .ptr 1403 0), (4, .ptr 1404 0), (5, .ptr 1405 0), (9, .ptr 9 0), (10, I (mgetD me_map_loophole_stretch_int (⟨l8_1, l9_1⟩ : GLoopholeStretch) 0 j10_2)), (24, B (!(mhas me_map_loophole_stretch_int (⟨l8_1, l9_1⟩ : GLoopholeStretch) j10_2)))], [(9, .box 68 [I l8_1, I l9_1]), (1403, .box 34 (bxc (GTariff.cs a0t))), (1404, .box 38 (bxc (GCalendar.cs a1c))), (1405, .box 24 (bxc (GSession.cs a2s))), (1407, .box 66 [.mv 1408]), (1408, .mp (mpL mk_map_loophole_stretch_int mv_map_loophole_stretch_int j10_2))]⟩ krf ?_
          refine sim_cond (!(mhas me_map_loophole_stretch_int (⟨l8_1, l9_1⟩ : GLoopholeStretch) j10_2)) krf ?_ ?_
          ·refine sim_seq ?_
           refine sim_drw Try.fm rfl ?_
           refine xs_run 5 krf ?_
           refine xs_call [] krf (g_loophole_part_ok n a2s l8_1 l9_1) krf krf (fun _ => by kernel_rfl) (fun r14 => ?_)
           refine xs_call [] krf (g_bill_Bill_ok n a0t a1c r14) krf krf (fun _ => by kernel_rfl) (fun r15 => ?_)
           refine xs_run 6 krf ?_
           refine xs_endD krf ?_
           refine sq_nk ⟨[2, 9, 12, 13], [9, 12, 1403, 1404, 1405, 1407, 1408], [], []⟩ ⟨[(2, .ptr 1407 0), (9, .ptr 9 0), (12, .ptr 12 0), (13, I r15.2)], [(9, .box 68 [I l8_1, I l9_1]), (12, .box 62 (bxc (GBill.cs r15.1))), (1403, .box 34 (bxc (GTariff.cs a0t))), (1404, .box 38 (bxc (GCalendar.cs a1c))), (1405, .box 24 (bxc (GSession.cs a2s))), (1407, .box 66 [.mv 1408]), (1408, .mp (mpL mk_map_loophole_stretch_int mv_map_loophole_stretch_int j10_2))]⟩ krf ?_
           refine sim_run Try.fm ⟨[2, 9, 10, 13], [9, 1403, 1404, 1405, 1407, 1408], [], []⟩ ⟨[(2, .ptr 1407 0), (9, .ptr 9 0), (10, I r15.1.Total), (13, I r15.2)], [(9, .box 68 [I l8_1, I l9_1]), (1403, .box 34 (bxc (GTariff.cs a0t))), (1404, .box 38 (bxc (GCalendar.cs a1c))), (1405, .box 24 (bxc (GSession.cs a2s))), (1407, .box 66 [.mv 1408]), (1408, .mp (mpL mk_map_loophole_stretch_int mv_map_loophole_stretch_int j10_2))]⟩ krf ?_
           refine sim_seq ?_
           refine sim_run Try.fm ⟨[2, 9, 10, 38], [9, 1403, 1404, 1405, 1407, 1408], [], []⟩ ⟨[(2, .ptr 1407 0), (9, .ptr 9 0), (10, I r15.1.Total), (38, B (!eqI r15.2 0))], [(9, .box 68 [I l8_1, I l9_1]), (1403, .box 34 (bxc (GTariff.cs a0t))), (1404, .box 38 (bxc (GCalendar.cs a1c))), (1405, .box 24 (bxc (GSession.cs a2s))), (1407, .box 66 [.mv 1408]), (1408, .mp (mpL mk_map_loophole_stretch_int mv_map_loophole_stretch_int j10_2))]⟩ krf ?_
           refine sim_cond (!eqI r15.2 0) krf ?_ ?_
           ·refine sim_last Try.fm krf ?_
            refine sq_nk ⟨[2, 9, 10], [9, 1403, 1404, 1405, 1407, 1408], [], []⟩ ⟨[(2, .ptr 1407 0), (9, .ptr 9 0), (10, I 1000000001)], [(9, .box 68 [I l8_1, I l9_1]), (1403, .box 34 (bxc (GTariff.cs a0t))), (1404, .box 38 (bxc (GCalendar.cs a1c))), (1405, .box 24 (bxc (GSession.cs a2s))), (1407, .box 66 [.mv 1408]), (1408, .mp (mpL mk_map_loophole_stretch_int mv_map_loophole_stretch_int j10_2))]⟩ krf ?_
            refine sim_reg ?_
            refine xs_run 3 krf ?_
            refine xs_u krf krf (aop_mset (kt := 68) (e := 3) (ke := mk_map_loophole_stretch_int) (ve := mv_map_loophole_stretch_int) (eq := me_map_loophole_stretch_int) (b := 1408) (m := j10_2) (k := (⟨l8_1, l9_1⟩ : GLoopholeStretch)) (v := 1000000001) rfl krf krf krf krf krf krf (fun _ => by kernel_rfl) (fun _ _ => (eqV2_eq _ _ _ _ _).symm.trans krf)) ?_
            refine xs_end ?_
            exact nq_n (1000000001, mset me_map_loophole_stretch_int (⟨l8_1, l9_1⟩ : GLoopholeStretch) 1000000001 j10_2) ⟨[10], [1403, 1404, 1405, 1407, 1408], [], []⟩ krf
           ·refine sim_skip ?_
            refine sq_nk ⟨[2, 9, 10], [9, 1403, 1404, 1405, 1407, 1408], [], []⟩ ⟨[(2, .ptr 1407 0), (9, .ptr 9 0), (10, I r15.1.Total)], [(9, .box 68 [I l8_1, I l9_1]), (1403, .box 34 (bxc (GTariff.cs a0t))), (1404, .box 38 (bxc (GCalendar.cs a1c))), (1405, .box 24 (bxc (GSession.cs a2s))), (1407, .box 66 [.mv 1408]), (1408, .mp (mpL mk_map_loophole_stretch_int mv_map_loophole_stretch_int j10_2))]⟩ krf ?_
            refine sim_reg ?_
            refine xs_run 3 krf ?_
            refine xs_u krf krf (aop_mset (kt := 68) (e := 3) (ke := mk_map_loophole_stretch_int) (ve := mv_map_loophole_stretch_int) (eq := me_map_loophole_stretch_int) (b := 1408) (m := j10_2) (k := (⟨l8_1, l9_1⟩ : GLoopholeStretch)) (v := r15.1.Total) rfl krf krf krf krf krf krf (fun _ => by kernel_rfl) (fun _ _ => (eqV2_eq _ _ _ _ _).symm.trans krf)) ?_
            refine xs_end ?_
            exact nq_n (r15.1.Total, mset me_map_loophole_stretch_int (⟨l8_1, l9_1⟩ : GLoopholeStretch) r15.1.Total j10_2) ⟨[10], [1403, 1404, 1405, 1407, 1408], [], []⟩ krf
          ·refine sim_skip ?_
           exact nq_n (mgetD me_map_loophole_stretch_int (⟨l8_1, l9_1⟩ : GLoopholeStretch) 0 j10_2, j10_2) ⟨[10], [1403, 1404, 1405, 1407, 1408], [], []⟩ krf
         ·rintro ⟨j13_1, j13_2⟩
          refine sim_run Try.fm ⟨[8], [1403, 1404, 1405, 1407, 1408], [], []⟩ ⟨[(8, I j13_1)], [(1403, .box 34 (bxc (GTariff.cs a0t))), (1404, .box 38 (bxc (GCalendar.cs a1c))), (1405, .box 24 (bxc (GSession.cs a2s))), (1407, .box 66 [.mv 1408]), (1408, .mp (mpL mk_map_loophole_stretch_int mv_map_loophole_stretch_int j13_2))]⟩ krf ?_
          refine sim_ret ?_
          refine iq_ret .id [1403, 1404, 1405, 1407, 1408] [] (I j13_1) krf krf ?_
          refine kh [10, 11, 12, 13, 16] krf (lates_cons (late_move krf) (lates_cons (late_move krf) (lates_cons (late_read (.ptr 6 1) krf rfl) (lates_cons (late_read (I a2s.To) krf rfl) (lates_cons (late_move krf) (lates_nil)))))) krf ?_
          refine h_enter (f := 29) (args := [I l9_1, I a2s.To, .ptr 407 0, .ptr 403 0, .ptr 404 0, .ptr 405 0]) (dst := some 110) krf krf ?_
          refine sc_inline (hc := [(1403, .box 34 (bxc (GTariff.cs a0t))), (1404, .box 38 (bxc (GCalendar.cs a1c))), (1405, .box 24 (bxc (GSession.cs a2s))), (1407, .box 66 [.mv 1408]), (1408, .mp (mpL mk_map_loophole_stretch_int mv_map_loophole_stretch_int j13_2))]) (args' := [I l9_1, I a2s.To, .ptr 1407 0, .ptr 1403 0, .ptr 1404 0, .ptr 1405 0]) [(1403, 403), (1404, 404), (1405, 405), (1407, 407), (1408, 408)] [] [] Try.func29 rfl Try.ntmps29 rfl krf krf krf ?_
          refine sim_run Try.fm ⟨[0, 1, 2, 3, 4, 5], [1403, 1404, 1405, 1407, 1408], [], []⟩ ⟨[(0, I l9_1), (1, I a2s.To), (2, .ptr 1407 0), (3, .ptr 1403 0), (4, .ptr 1404 0), (5, .ptr 1405 0)], [(1403, .box 34 (bxc (GTariff.cs a0t))), (1404, .box 38 (bxc (GCalendar.cs a1c))), (1405, .box 24 (bxc (GSession.cs a2s))), (1407, .box 66 [.mv 1408]), (1408, .mp (mpL mk_map_loophole_stretch_int mv_map_loophole_stretch_int j13_2))]⟩ krf ?_
          refine sim_run Try.fm ⟨[0, 1, 2, 3, 4, 5, 9], [9, 1403, 1404, 1405, 1407, 1408], [], []⟩ ⟨[(0, I l9_1), (1, I a2s.To), (2, .ptr 1407 0), (3, .ptr 1403 0), (4, .ptr 1404 0), (5, .ptr 1405 0), (9, .ptr 9 0)], [(9, .box 68 [I l9_1, I a2s.To]), (1403, .box 34 (bxc (GTariff.cs a0t))), (1404, .box 38 (bxc (GCalendar.cs a1c))), (1405, .box 24 (bxc (GSession.cs a2s))), (1407, .box 66 [.mv 1408]), (1408, .mp (mpL mk_map_loophole_stretch_int mv_map_loophole_stretch_int j13_2))]⟩ krf ?_
          refine sim_seq ?_
          refine sim_reg ?_
          refine xs_run 2 krf ?_
          refine xs_u krf krf (aop_look (kt := 68) (e := 3) (ke := mk_map_loophole_stretch_int) (ve := mv_map_loophole_stretch_int) (eq := me_map_loophole_stretch_int) (b := 1408) (m := j13_2) (k := (⟨l9_1, a2s.To⟩ : GLoopholeStretch)) (z0 := 0) rfl krf krf krf krf krf (fun _ => by kernel_rfl) (fun _ _ => (eqV2_eq _ _ _ _ _).symm.trans krf) krf) ?_
          refine xs_run 5 krf ?_
          refine xs_end ?_
          refine sq_nk ⟨[0, 1, 2, 3, 4, 5, 9, 10, 11], [9, 1403, 1404, 1405, 1407, 1408], [], []⟩ ⟨[(0, I l9_1), (1, I a2s.To), (2, .ptr 1407 0), (3, .ptr 1403 0), (4, .ptr 1404 0), (5, .ptr 1405 0), (9, .ptr 9 0), (10, I (mgetD me_map_loophole_stretch_int (⟨l9_1, a2s.To⟩ : GLoopholeStretch) 0 j13_2)), (11, B (mhas me_map_loophole_stretch_int (⟨l9_1, a2s.To⟩ : GLoopholeStretch) j13_2))], [(9, .box 68 [I l9_1, I a2s.To]), (1403, .box 34 (bxc (GTariff.cs a0t))), (1404, .box 38 (bxc (GCalendar.cs a1c))), (1405, .box 24 (bxc (GSession.cs a2s))), (1407, .box 66 [.mv 1408]), (1408, .mp (mpL mk_map_loophole_stretch_int mv_map_loophole_stretch_int j13_2))]⟩ krf ?_
          refine sim_bind (fun (j16_1, j16_2) => ⟨[(10, I j16_1)], [(1403, .box 34 (bxc (GTariff.cs a0t))), (1404, .box 38 (bxc (GCalendar.cs a1c))), (1405, .box 24 (bxc (GSession.cs a2s))), (1407, .box 66 [.mv 1408]), (1408, .mp (mpL mk_map_loophole_stretch_int mv_map_loophole_stretch_int j16_2))]⟩ : (Int × (List (GLoopholeStretch × Int))) → St) ?_ ?_
          ·refine sim_run Try.fm ⟨[0, 1, 2, 3, 4, 5, 9, 10, 24], [9, 1403, 1404, 1405, 1407, 1408], [], []⟩ ⟨[(0, I l9_1), (1, I a2s.To), (2, .ptr 1407 0), (3, .ptr 1403 0), (4, .ptr 1404 0), (5, .ptr 1405 0), (9, .ptr 9 0), (10, I (mgetD me_map_loophole_stretch_int (⟨l9_1, a2s.To⟩ : GLoopholeStretch) 0 j13_2)), (24, B (!(mhas me_map_loophole_stretch_int (⟨l9_1, a2s.To⟩ : GLoopholeStretch) j13_2)))], [(9, .box 68 [I l9_1, I a2s.To]), (1403, .box 34 (bxc (GTariff.cs a0t))), (1404, .box 38 (bxc (GCalendar.cs a1c))), (1405, .box 24 (bxc (GSession.cs a2s))), (1407, .box 66 [.mv 1408]), (1408, .mp (mpL mk_map_loophole_stretch_int mv_map_loophole_stretch_int j13_2))]⟩ krf ?_
           refine sim_cond (!(mhas me_map_loophole_stretch_int (⟨l9_1, a2s.To⟩ : GLoopholeStretch) j13_2)) krf ?_ ?_
           ·refine sim_seq ?_
            refine sim_drw Try.fm rfl ?_
            refine xs_run 5 krf ?_
            refine xs_call [] krf (g_loophole_part_ok n a2s l9_1 a2s.To) krf krf (fun _ => by kernel_rfl) (fun r17 => ?_)
            refine xs_call [] krf (g_bill_Bill_ok n a0t a1c r17) krf krf (fun _ => by kernel_rfl) (fun r18 => ?_)
            refine xs_run 6 krf ?_
            refine xs_endD krf ?_
            refine sq_nk ⟨[2, 9, 12, 13], [9, 12, 1403, 1404, 1405, 1407, 1408], [], []⟩ ⟨[(2, .ptr 1407 0), (9, .ptr 9 0), (12, .ptr 12 0), (13, I r18.2)], [(9, .box 68 [I l9_1, I a2s.To]), (12, .box 62 (bxc (GBill.cs r18.1))), (1403, .box 34 (bxc (GTariff.cs a0t))), (1404, .box 38 (bxc (GCalendar.cs a1c))), (1405, .box 24 (bxc (GSession.cs a2s))), (1407, .box 66 [.mv 1408]), (1408, .mp (mpL mk_map_loophole_stretch_int mv_map_loophole_stretch_int j13_2))]⟩ krf ?_
            refine sim_run Try.fm ⟨[2, 9, 10, 13], [9, 1403, 1404, 1405, 1407, 1408], [], []⟩ ⟨[(2, .ptr 1407 0), (9, .ptr 9 0), (10, I r18.1.Total), (13, I r18.2)], [(9, .box 68 [I l9_1, I a2s.To]), (1403, .box 34 (bxc (GTariff.cs a0t))), (1404, .box 38 (bxc (GCalendar.cs a1c))), (1405, .box 24 (bxc (GSession.cs a2s))), (1407, .box 66 [.mv 1408]), (1408, .mp (mpL mk_map_loophole_stretch_int mv_map_loophole_stretch_int j13_2))]⟩ krf ?_
            refine sim_seq ?_
            refine sim_run Try.fm ⟨[2, 9, 10, 38], [9, 1403, 1404, 1405, 1407, 1408], [], []⟩ ⟨[(2, .ptr 1407 0), (9, .ptr 9 0), (10, I r18.1.Total), (38, B (!eqI r18.2 0))], [(9, .box 68 [I l9_1, I a2s.To]), (1403, .box 34 (bxc (GTariff.cs a0t))), (1404, .box 38 (bxc (GCalendar.cs a1c))), (1405, .box 24 (bxc (GSession.cs a2s))), (1407, .box 66 [.mv 1408]), (1408, .mp (mpL mk_map_loophole_stretch_int mv_map_loophole_stretch_int j13_2))]⟩ krf ?_
            refine sim_cond (!eqI r18.2 0) krf ?_ ?_
            ·refine sim_last Try.fm krf ?_
             refine sq_nk ⟨[2, 9, 10], [9, 1403, 1404, 1405, 1407, 1408], [], []⟩ ⟨[(2, .ptr 1407 0), (9, .ptr 9 0), (10, I 1000000001)], [(9, .box 68 [I l9_1, I a2s.To]), (1403, .box 34 (bxc (GTariff.cs a0t))), (1404, .box 38 (bxc (GCalendar.cs a1c))), (1405, .box 24 (bxc (GSession.cs a2s))), (1407, .box 66 [.mv 1408]), (1408, .mp (mpL mk_map_loophole_stretch_int mv_map_loophole_stretch_int j13_2))]⟩ krf ?_
             refine sim_reg ?_
             refine xs_run 3 krf ?_
             refine xs_u krf krf (aop_mset (kt := 68) (e := 3) (ke := mk_map_loophole_stretch_int) (ve := mv_map_loophole_stretch_int) (eq := me_map_loophole_stretch_int) (b := 1408) (m := j13_2) (k := (⟨l9_1, a2s.To⟩ : GLoopholeStretch)) (v := 1000000001) rfl krf krf krf krf krf krf (fun _ => by kernel_rfl) (fun _ _ => (eqV2_eq _ _ _ _ _).symm.trans krf)) ?_
             refine xs_end ?_
             exact nq_n (1000000001, mset me_map_loophole_stretch_int (⟨l9_1, a2s.To⟩ : GLoopholeStretch) 1000000001 j13_2) ⟨[10], [1403, 1404, 1405, 1407, 1408], [], []⟩ krf
            ·refine sim_skip ?_
             refine sq_nk ⟨[2, 9, 10], [9, 1403, 1404, 1405, 1407, 1408], [], []⟩ ⟨[(2, .ptr 1407 0), (9, .ptr 9 0), (10, I r18.1.Total)], [(9, .box 68 [I l9_1, I a2s.To]), (1403, .box 34 (bxc (GTariff.cs a0t))), (1404, .box 38 (bxc (GCalendar.cs a1c))), (1405, .box 24 (bxc (GSession.cs a2s))), (1407, .box 66 [.mv 1408]), (1408, .mp (mpL mk_map_loophole_stretch_int mv_map_loophole_stretch_int j13_2))]⟩ krf ?_
             refine sim_reg ?_
             refine xs_run 3 krf ?_
             refine xs_u krf krf (aop_mset (kt := 68) (e := 3) (ke := mk_map_loophole_stretch_int) (ve := mv_map_loophole_stretch_int) (eq := me_map_loophole_stretch_int) (b := 1408) (m := j13_2) (k := (⟨l9_1, a2s.To⟩ : GLoopholeStretch)) (v := r18.1.Total) rfl krf krf krf krf krf krf (fun _ => by kernel_rfl) (fun _ _ => (eqV2_eq _ _ _ _ _).symm.trans krf)) ?_
             refine xs_end ?_
             exact nq_n (r18.1.Total, mset me_map_loophole_stretch_int (⟨l9_1, a2s.To⟩ : GLoopholeStretch) r18.1.Total j13_2) ⟨[10], [1403, 1404, 1405, 1407, 1408], [], []⟩ krf
           ·refine sim_skip ?_
            exact nq_n (mgetD me_map_loophole_stretch_int (⟨l9_1, a2s.To⟩ : GLoopholeStretch) 0 j13_2, j13_2) ⟨[10], [1403, 1404, 1405, 1407, 1408], [], []⟩ krf
          ·rintro ⟨j16_1, j16_2⟩
           refine sim_run Try.fm ⟨[8], [1403, 1404, 1405, 1407, 1408], [], []⟩ ⟨[(8, I j16_1)], [(1403, .box 34 (bxc (GTariff.cs a0t))), (1404, .box 38 (bxc (GCalendar.cs a1c))), (1405, .box 24 (bxc (GSession.cs a2s))), (1407, .box 66 [.mv 1408]), (1408, .mp (mpL mk_map_loophole_stretch_int mv_map_loophole_stretch_int j16_2))]⟩ krf ?_
           refine sim_ret ?_
           refine iq_ret .id [1403, 1404, 1405, 1407, 1408] [] (I j16_1) krf krf ?_
           refine kh [16, 9] krf (lates_cons (late_move krf) (lates_cons (late_read (I (wi (j10_1 + j13_1))) krf rfl) (lates_nil))) krf ?_
           refine h_op [16] krf krf (lates_cons (late_move krf) (lates_nil)) ?_
           refine h_op [] krf krf (lates_nil) ?_
           refine h_end ?_
           refine sq_nk ⟨[6, 11, 13, 15, 16, 17, 113], [6, 403, 404, 405, 407, 408], [], []⟩ ⟨[(6, .ptr 6 0), (11, I r6.1), (13, .fn (.func 29) [] [.ptr 407 0, .ptr 403 0, .ptr 404 0, .ptr 405 0]), (15, .p (.val (.slice none 0 0))), (16, I l8_1), (17, I l9_1), (113, B (ltI (wi ((wi (j10_1 + j13_1)) + j16_1)) r6.1))], [(6, .box 24 (bxc (GSession.cs a2s))), (403, .box 34 (bxc (GTariff.cs a0t))), (404, .box 38 (bxc (GCalendar.cs a1c))), (405, .box 24 (bxc (GSession.cs a2s))), (407, .box 66 [.mv 408]), (408, .mp (mpL mk_map_loophole_stretch_int mv_map_loophole_stretch_int j16_2))]⟩ krf ?_
           refine sim_cond (ltI (wi ((wi (j10_1 + j13_1)) + j16_1)) r6.1) krf ?_ ?_
           ·refine sim_run Try.fm ⟨[15], [116], [], []⟩ ⟨[(15, .tsl 1 (List.map ci [l8_1, l9_1]) 116)], [(116, .arr 3 1 (List.map ci [l8_1, l9_1]).length)]⟩ krf ?_
            refine sim_exit ?_
            refine bq_miss rfl ?_
            refine sq_x ?_
            refine kq_x ?_
            refine bq_miss rfl ?_
            refine bq_miss rfl ?_
            refine sq_x ?_
            refine kq_x ?_
            refine bq_hit ?_
            refine sq_nk ⟨[15], [116], [], []⟩ ⟨[(15, .tsl 1 (List.map ci [l8_1, l9_1]) 116)], [(116, .arr 3 1 (List.map ci [l8_1, l9_1]).length)]⟩ krf ?_
            refine sim_seq ?_
            refine sim_reg ?_
            refine xs_run 2 krf ?_
            refine xs_u krf krf (aop_nilNe (e := 3) (S := 1) (tk := 116) (ta := 0) (te := 3) (enc := ci) (l := [l8_1, l9_1]) rfl krf krf krf krf krf krf) ?_
            refine xs_run 3 krf ?_
            refine xs_end ?_
            refine sq_nk ⟨[8, 9, 10], [116], [], []⟩ ⟨[(8, .tsl 1 (List.map ci [l8_1, l9_1]) 116), (9, B true), (10, I 0)], [(116, .arr 3 1 (List.map ci [l8_1, l9_1]).length)]⟩ krf ?_
            refine sim_ret ?_
            exact rq_ret (.agg [.sl 1, .id, .id]) krf krf krf
           ·refine sim_skip ?_
            refine bq_n ?_
            refine sq_nk ⟨[6, 11, 13, 15, 16, 17], [6, 403, 404, 405, 407, 408], [], []⟩ ⟨[(6, .ptr 6 0), (11, I r6.1), (13, .fn (.func 29) [] [.ptr 407 0, .ptr 403 0, .ptr 404 0, .ptr 405 0]), (15, .p (.val (.slice none 0 0))), (16, I l8_1), (17, I l9_1)], [(6, .box 24 (bxc (GSession.cs a2s))), (403, .box 34 (bxc (GTariff.cs a0t))), (404, .box 38 (bxc (GCalendar.cs a1c))), (405, .box 24 (bxc (GSession.cs a2s))), (407, .box 66 [.mv 408]), (408, .mp (mpL mk_map_loophole_stretch_int mv_map_loophole_stretch_int j16_2))]⟩ krf ?_
            refine sim_last Try.fm krf ?_
            exact kq_n (wi (l9_1 + 1), j16_2) ⟨[6, 11, 13, 15, 16, 17], [6, 403, 404, 405, 407, 408], [], []⟩ krf
       ·refine sim_exit ?_
        refine sq_x ?_
        refine kq_x ?_
        refine bq_hit ?_
        refine bq_n ?_
        refine sq_nk ⟨[6, 11, 13, 15, 16], [6, 403, 404, 405, 407, 408], [], []⟩ ⟨[(6, .ptr 6 0), (11, I r6.1), (13, .fn (.func 29) [] [.ptr 407 0, .ptr 403 0, .ptr 404 0, .ptr 405 0]), (15, .p (.val (.slice none 0 0))), (16, I l8_1)], [(6, .box 24 (bxc (GSession.cs a2s))), (403, .box 34 (bxc (GTariff.cs a0t))), (404, .box 38 (bxc (GCalendar.cs a1c))), (405, .box 24 (bxc (GSession.cs a2s))), (407, .box 66 [.mv 408]), (408, .mp (mpL mk_map_loophole_stretch_int mv_map_loophole_stretch_int l9_2))]⟩ krf ?_
        refine sim_last Try.fm krf ?_
        exact kq_n (wi (l8_1 + 1), l9_2) ⟨[6, 11, 13, 15, 16], [6, 403, 404, 405, 407, 408], [], []⟩ krf
      ·refine sim_exit ?_
       refine sq_x ?_
       refine kq_x ?_
       refine bq_hit ?_
       refine sq_nk ⟨[15], [], [], []⟩ ⟨[(15, .p (.val (.slice none 0 0)))], []⟩ krf ?_
       refine sim_run Try.fm ⟨[8, 9, 10], [], [], []⟩ ⟨[(8, .p (.val (.slice none 0 0))), (9, B false), (10, I 0)], []⟩ krf ?_
       refine sim_ret ?_
       exact rq_ret (.agg [.sl 1, .id, .id]) krf krf krf
    ·refine sim_run Try.fm ⟨[3, 6, 11, 13, 14], [6, 403, 404, 405, 407, 408], [], []⟩ ⟨[(3, I a3most), (6, .ptr 6 0), (11, I r6.1), (13, .fn (.func 29) [] [.ptr 407 0, .ptr 403 0, .ptr 404 0, .ptr 405 0]), (14, I (wi (a2s.From + 1)))], [(6, .box 24 (bxc (GSession.cs a2s))), (403, .box 34 (bxc (GTariff.cs a0t))), (404, .box 38 (bxc (GCalendar.cs a1c))), (405, .box 24 (bxc (GSession.cs a2s))), (407, .box 66 [.mv 408]), (408, .mp (mpL mk_map_loophole_stretch_int mv_map_loophole_stretch_int []))]⟩ krf ?_
     refine sim_block ?_
     refine sim_loop (fun (l19_1, l19_2) => ⟨[(3, I a3most), (6, .ptr 6 0), (11, I r6.1), (13, .fn (.func 29) [] [.ptr 407 0, .ptr 403 0, .ptr 404 0, .ptr 405 0]), (14, I l19_1)], [(6, .box 24 (bxc (GSession.cs a2s))), (403, .box 34 (bxc (GTariff.cs a0t))), (404, .box 38 (bxc (GCalendar.cs a1c))), (405, .box 24 (bxc (GSession.cs a2s))), (407, .box 66 [.mv 408]), (408, .mp (mpL mk_map_loophole_stretch_int mv_map_loophole_stretch_int l19_2))]⟩ : (Int × (List (GLoopholeStretch × Int))) → St) (weak_shr (K := ⟨[3, 6, 11, 13, 14], [6, 403, 404, 405, 407, 408], [], []⟩) krf) ?_
     rintro recl19 ⟨l19_1, l19_2⟩
     show SimE (g_loophole_Find_l19 n a0t a1c a2s a3most r6 recl19 l19_1 l19_2) _ _ _ _ _ _
     unfold g_loophole_Find_l19
     refine sim_seq ?_
     refine sim_run Try.fm ⟨[3, 6, 11, 13, 14, 59], [6, 403, 404, 405, 407, 408], [], []⟩ ⟨[(3, I a3most), (6, .ptr 6 0), (11, I r6.1), (13, .fn (.func 29) [] [.ptr 407 0, .ptr 403 0, .ptr 404 0, .ptr 405 0]), (14, I l19_1), (59, B (ltI l19_1 a2s.To))], [(6, .box 24 (bxc (GSession.cs a2s))), (403, .box 34 (bxc (GTariff.cs a0t))), (404, .box 38 (bxc (GCalendar.cs a1c))), (405, .box 24 (bxc (GSession.cs a2s))), (407, .box 66 [.mv 408]), (408, .mp (mpL mk_map_loophole_stretch_int mv_map_loophole_stretch_int l19_2))]⟩ krf ?_
     refine sim_cond (ltI l19_1 a2s.To) krf ?_ ?_
     ·refine sim_skip ?_
      refine sq_nk ⟨[3, 6, 11, 13, 14], [6, 403, 404, 405, 407, 408], [], []⟩ ⟨[(3, I a3most), (6, .ptr 6 0), (11, I r6.1), (13, .fn (.func 29) [] [.ptr 407 0, .ptr 403 0, .ptr 404 0, .ptr 405 0]), (14, I l19_1)], [(6, .box 24 (bxc (GSession.cs a2s))), (403, .box 34 (bxc (GTariff.cs a0t))), (404, .box 38 (bxc (GCalendar.cs a1c))), (405, .box 24 (bxc (GSession.cs a2s))), (407, .box 66 [.mv 408]), (408, .mp (mpL mk_map_loophole_stretch_int mv_map_loophole_stretch_int l19_2))]⟩ krf ?_
      refine sim_seq ?_
      refine sim_block ?_
      refine sim_seq ?_
      refine sim_hst [0, 1, 2, 3, 5, 6, 7, 8, 11] [5, 6, 7, 8, 11] [(4, []), (9, []), (10, []), (12, [])] Try.fm rfl krf krf ?_
      refine h_enter (f := 29) (args := [I a2s.From, I l19_1, .ptr 407 0, .ptr 403 0, .ptr 404 0, .ptr 405 0]) (dst := some 66) krf krf ?_
      refine sc_inline (hc := [(1403, .box 34 (bxc (GTariff.cs a0t))), (1404, .box 38 (bxc (GCalendar.cs a1c))), (1405, .box 24 (bxc (GSession.cs a2s))), (1407, .box 66 [.mv 1408]), (1408, .mp (mpL mk_map_loophole_stretch_int mv_map_loophole_stretch_int l19_2))]) (args' := [I a2s.From, I l19_1, .ptr 1407 0, .ptr 1403 0, .ptr 1404 0, .ptr 1405 0]) [(1403, 403), (1404, 404), (1405, 405), (1407, 407), (1408, 408)] [] [] Try.func29 rfl Try.ntmps29 rfl krf krf krf ?_
      refine sim_run Try.fm ⟨[0, 1, 2, 3, 4, 5], [1403, 1404, 1405, 1407, 1408], [], []⟩ ⟨[(0, I a2s.From), (1, I l19_1), (2, .ptr 1407 0), (3, .ptr 1403 0), (4, .ptr 1404 0), (5, .ptr 1405 0)], [(1403, .box 34 (bxc (GTariff.cs a0t))), (1404, .box 38 (bxc (GCalendar.cs a1c))), (1405, .box 24 (bxc (GSession.cs a2s))), (1407, .box 66 [.mv 1408]), (1408, .mp (mpL mk_map_loophole_stretch_int mv_map_loophole_stretch_int l19_2))]⟩ krf ?_
      refine sim_run Try.fm ⟨[0, 1, 2, 3, 4, 5, 9], [9, 1403, 1404, 1405, 1407, 1408], [], []⟩ ⟨[(0, I a2s.From), (1, I l19_1), (2, .ptr 1407 0), (3, .ptr 1403 0), (4, .ptr 1404 0), (5, .ptr 1405 0), (9, .ptr 9 0)], [(9, .box 68 [I a2s.From, I l19_1]), (1403, .box 34 (bxc (GTariff.cs a0t))), (1404, .box 38 (bxc (GCalendar.cs a1c))), (1405, .box 24 (bxc (GSession.cs a2s))), (1407, .box 66 [.mv 1408]), (1408, .mp (mpL mk_map_loophole_stretch_int mv_map_loophole_stretch_int l19_2))]⟩ krf ?_
      refine sim_seq ?_
      refine sim_reg ?_
      refine xs_run 2 krf ?_
      refine xs_u krf krf (aop_look (kt := 68) (e := 3) (ke := mk_map_loophole_stretch_int) (ve := mv_map_loophole_stretch_int) (eq := me_map_loophole_stretch_int) (b := 1408) (m := l19_2) (k := (⟨a2s.From, l19_1⟩ : GLoopholeStretch)) (z0 := 0) rfl krf krf krf krf krf (fun _ => by kernel_rfl) (fun _ _ => (eqV2_eq _ _ _ _ _).symm.trans krf) krf) ?_
      refine xs_run 5 krf ?_
      refine xs_end ?_
      refine sq_nk ⟨[0, 1, 2, 3, 4, 5, 9, 10, 11], [9, 1403, 1404, 1405, 1407, 1408], [], []⟩ ⟨[(0, I a2s.From), (1, I l19_1), (2, .ptr 1407 0), (3, .ptr 1403 0), (4, .ptr 1404 0), (5, .ptr 1405 0), (9, .ptr 9 0), (10, I (mgetD me_map_loophole_stretch_int (⟨a2s.From, l19_1⟩ : GLoopholeStretch) 0 l19_2)), (11, B (mhas me_map_loophole_stretch_int (⟨a2s.From, l19_1⟩ : GLoopholeStretch) l19_2))], [(9, .box 68 [I a2s.From, I l19_1]), (1403, .box 34 (bxc (GTariff.cs a0t))), (1404, .box 38 (bxc (GCalendar.cs a1c))), (1405, .box 24 (bxc (GSession.cs a2s))), (1407, .box 66 [.mv 1408]), (1408, .mp (mpL mk_map_loophole_stretch_int mv_map_loophole_stretch_int l19_2))]⟩ krf ?_
      refine sim_bind (fun (j20_1, j20_2) => ⟨[(10, I j20_1)], [(1403, .box 34 (bxc (GTariff.cs a0t))), (1404, .box 38 (bxc (GCalendar.cs a1c))), (1405, .box 24 (bxc (GSession.cs a2s))), (1407, .box 66 [.mv 1408]), (1408, .mp (mpL mk_map_loophole_stretch_int mv_map_loophole_stretch_int j20_2))]⟩ : (Int × (List (GLoopholeStretch × Int))) → St) ?_ ?_
      ·refine sim_run Try.fm ⟨[0, 1, 2, 3, 4, 5, 9, 10, 24], [9, 1403, 1404, 1405, 1407, 1408], [], []⟩ ⟨[(0, I a2s.From), (1, I l19_1), (2, .ptr 1407 0), (3, .ptr 1403 0), (4, .ptr 1404 0), (5, .ptr 1405 0), (9, .ptr 9 0), (10, I (mgetD me_map_loophole_stretch_int (⟨a2s.From, l19_1⟩ : GLoopholeStretch) 0 l19_2)), (24, B (!(mhas me_map_loophole_stretch_int (⟨a2s.From, l19_1⟩ : GLoopholeStretch) l19_2)))], [(9, .box 68 [I a2s.From, I l19_1]), (1403, .box 34 (bxc (GTariff.cs a0t))), (1404, .box 38 (bxc (GCalendar.cs a1c))), (1405, .box 24 (bxc (GSession.cs a2s))), (1407, .box 66 [.mv 1408]), (1408, .mp (mpL mk_map_loophole_stretch_int mv_map_loophole_stretch_int l19_2))]⟩ krf ?_
       refine sim_cond (!(mhas me_map_loophole_stretch_int (⟨a2s.From, l19_1⟩ : GLoopholeStretch) l19_2)) krf ?_ ?_
       ·refine sim_seq ?_
        refine sim_drw Try.fm rfl ?_
        refine xs_run 5 krf ?_
        refine xs_call [] krf (g_loophole_part_ok n a2s a2s.From l19_1) krf krf (fun _ => by kernel_rfl) (fun r21 => ?_)
        refine xs_call [] krf (g_bill_Bill_ok n a0t a1c r21) krf krf (fun _ => by kernel_rfl) (fun r22 => ?_)
        refine xs_run 6 krf ?_
        refine xs_endD krf ?_
        refine sq_nk ⟨[2, 9, 12, 13], [9, 12, 1403, 1404, 1405, 1407, 1408], [], []⟩ ⟨[(2, .ptr 1407 0), (9, .ptr 9 0), (12, .ptr 12 0), (13, I r22.2)], [(9, .box 68 [I a2s.From, I l19_1]), (12, .box 62 (bxc (GBill.cs r22.1))), (1403, .box 34 (bxc (GTariff.cs a0t))), (1404, .box 38 (bxc (GCalendar.cs a1c))), (1405, .box 24 (bxc (GSession.cs a2s))), (1407, .box 66 [.mv 1408]), (1408, .mp (mpL mk_map_loophole_stretch_int mv_map_loophole_stretch_int l19_2))]⟩ krf ?_
        refine sim_run Try.fm ⟨[2, 9, 10, 13], [9, 1403, 1404, 1405, 1407, 1408], [], []⟩ ⟨[(2, .ptr 1407 0), (9, .ptr 9 0), (10, I r22.1.Total), (13, I r22.2)], [(9, .box 68 [I a2s.From, I l19_1]), (1403, .box 34 (bxc (GTariff.cs a0t))), (1404, .box 38 (bxc (GCalendar.cs a1c))), (1405, .box 24 (bxc (GSession.cs a2s))), (1407, .box 66 [.mv 1408]), (1408, .mp (mpL mk_map_loophole_stretch_int mv_map_loophole_stretch_int l19_2))]⟩ krf ?_
        refine sim_seq ?_
        refine sim_run Try.fm ⟨[2, 9, 10, 38], [9, 1403, 1404, 1405, 1407, 1408], [], []⟩ ⟨[(2, .ptr 1407 0), (9, .ptr 9 0), (10, I r22.1.Total), (38, B (!eqI r22.2 0))], [(9, .box 68 [I a2s.From, I l19_1]), (1403, .box 34 (bxc (GTariff.cs a0t))), (1404, .box 38 (bxc (GCalendar.cs a1c))), (1405, .box 24 (bxc (GSession.cs a2s))), (1407, .box 66 [.mv 1408]), (1408, .mp (mpL mk_map_loophole_stretch_int mv_map_loophole_stretch_int l19_2))]⟩ krf ?_
        refine sim_cond (!eqI r22.2 0) krf ?_ ?_
        ·refine sim_last Try.fm krf ?_
         refine sq_nk ⟨[2, 9, 10], [9, 1403, 1404, 1405, 1407, 1408], [], []⟩ ⟨[(2, .ptr 1407 0), (9, .ptr 9 0), (10, I 1000000001)], [(9, .box 68 [I a2s.From, I l19_1]), (1403, .box 34 (bxc (GTariff.cs a0t))), (1404, .box 38 (bxc (GCalendar.cs a1c))), (1405, .box 24 (bxc (GSession.cs a2s))), (1407, .box 66 [.mv 1408]), (1408, .mp (mpL mk_map_loophole_stretch_int mv_map_loophole_stretch_int l19_2))]⟩ krf ?_
         refine sim_reg ?_
         refine xs_run 3 krf ?_
         refine xs_u krf krf (aop_mset (kt := 68) (e := 3) (ke := mk_map_loophole_stretch_int) (ve := mv_map_loophole_stretch_int) (eq := me_map_loophole_stretch_int) (b := 1408) (m := l19_2) (k := (⟨a2s.From, l19_1⟩ : GLoopholeStretch)) (v := 1000000001) rfl krf krf krf krf krf krf (fun _ => by kernel_rfl) (fun _ _ => (eqV2_eq _ _ _ _ _).symm.trans krf)) ?_
         refine xs_end ?_
         exact nq_n (1000000001, mset me_map_loophole_stretch_int (⟨a2s.From, l19_1⟩ : GLoopholeStretch) 1000000001 l19_2) ⟨[10], [1403, 1404, 1405, 1407, 1408], [], []⟩ krf
        ·refine sim_skip ?_
         refine sq_nk ⟨[2, 9, 10], [9, 1403, 1404, 1405, 1407, 1408], [], []⟩ ⟨[(2, .ptr 1407 0), (9, .ptr 9 0), (10, I r22.1.Total)], [(9, .box 68 [I a2s.From, I l19_1]), (1403, .box 34 (bxc (GTariff.cs a0t))), (1404, .box 38 (bxc (GCalendar.cs a1c))), (1405, .box 24 (bxc (GSession.cs a2s))), (1407, .box 66 [.mv 1408]), (1408, .mp (mpL mk_map_loophole_stretch_int mv_map_loophole_stretch_int l19_2))]⟩ krf ?_
         refine sim_reg ?_
         refine xs_run 3 krf ?_
         refine xs_u krf krf (aop_mset (kt := 68) (e := 3) (ke := mk_map_loophole_stretch_int) (ve := mv_map_loophole_stretch_int) (eq := me_map_loophole_stretch_int) (b := 1408) (m := l19_2) (k := (⟨a2s.From, l19_1⟩ : GLoopholeStretch)) (v := r22.1.Total) rfl krf krf krf krf krf krf (fun _ => by kernel_rfl) (fun _ _ => (eqV2_eq _ _ _ _ _).symm.trans krf)) ?_
         refine xs_end ?_
         exact nq_n (r22.1.Total, mset me_map_loophole_stretch_int (⟨a2s.From, l19_1⟩ : GLoopholeStretch) r22.1.Total l19_2) ⟨[10], [1403, 1404, 1405, 1407, 1408], [], []⟩ krf
       ·refine sim_skip ?_
        exact nq_n (mgetD me_map_loophole_stretch_int (⟨a2s.From, l19_1⟩ : GLoopholeStretch) 0 l19_2, l19_2) ⟨[10], [1403, 1404, 1405, 1407, 1408], [], []⟩ krf
      ·rintro ⟨j20_1, j20_2⟩
       refine sim_run Try.fm ⟨[8], [1403, 1404, 1405, 1407, 1408], [], []⟩ ⟨[(8, I j20_1)], [(1403, .box 34 (bxc (GTariff.cs a0t))), (1404, .box 38 (bxc (GCalendar.cs a1c))), (1405, .box 24 (bxc (GSession.cs a2s))), (1407, .box 66 [.mv 1408]), (1408, .mp (mpL mk_map_loophole_stretch_int mv_map_loophole_stretch_int j20_2))]⟩ krf ?_
       refine sim_ret ?_
       refine iq_ret .id [1403, 1404, 1405, 1407, 1408] [] (I j20_1) krf krf ?_
       refine kh [5, 6, 7, 8, 11] krf (lates_cons (late_move krf) (lates_cons (late_move krf) (lates_cons (late_read (.ptr 6 1) krf rfl) (lates_cons (late_read (I a2s.To) krf rfl) (lates_cons (late_move krf) (lates_nil)))))) krf ?_
       refine h_enter (f := 29) (args := [I l19_1, I a2s.To, .ptr 407 0, .ptr 403 0, .ptr 404 0, .ptr 405 0]) (dst := some 71) krf krf ?_
       refine sc_inline (hc := [(1403, .box 34 (bxc (GTariff.cs a0t))), (1404, .box 38 (bxc (GCalendar.cs a1c))), (1405, .box 24 (bxc (GSession.cs a2s))), (1407, .box 66 [.mv 1408]), (1408, .mp (mpL mk_map_loophole_stretch_int mv_map_loophole_stretch_int j20_2))]) (args' := [I l19_1, I a2s.To, .ptr 1407 0, .ptr 1403 0, .ptr 1404 0, .ptr 1405 0]) [(1403, 403), (1404, 404), (1405, 405), (1407, 407), (1408, 408)] [] [] Try.func29 rfl Try.ntmps29 rfl krf krf krf ?_
       refine sim_run Try.fm ⟨[0, 1, 2, 3, 4, 5], [1403, 1404, 1405, 1407, 1408], [], []⟩ ⟨[(0, I l19_1), (1, I a2s.To), (2, .ptr 1407 0), (3, .ptr 1403 0), (4, .ptr 1404 0), (5, .ptr 1405 0)], [(1403, .box 34 (bxc (GTariff.cs a0t))), (1404, .box 38 (bxc (GCalendar.cs a1c))), (1405, .box 24 (bxc (GSession.cs a2s))), (1407, .box 66 [.mv 1408]), (1408, .mp (mpL mk_map_loophole_stretch_int mv_map_loophole_stretch_int j20_2))]⟩ krf ?_
       refine sim_run Try.fm ⟨[0, 1, 2, 3, 4, 5, 9], [9, 1403, 1404, 1405, 1407, 1408], [], []⟩ ⟨[(0, I l19_1), (1, I a2s.To), (2, .ptr 1407 0), (3, .ptr 1403 0), (4, .ptr 1404 0), (5, .ptr 1405 0), (9, .ptr 9 0)], [(9, .box 68 [I l19_1, I a2s.To]), (1403, .box 34 (bxc (GTariff.cs a0t))), (1404, .box 38 (bxc (GCalendar.cs a1c))), (1405, .box 24 (bxc (GSession.cs a2s))), (1407, .box 66 [.mv 1408]), (1408, .mp (mpL mk_map_loophole_stretch_int mv_map_loophole_stretch_int j20_2))]⟩ krf ?_
       refine sim_seq ?_
       refine sim_reg ?_
       refine xs_run 2 krf ?_
       refine xs_u krf krf (aop_look (kt := 68) (e := 3) (ke := mk_map_loophole_stretch_int) (ve := mv_map_loophole_stretch_int) (eq := me_map_loophole_stretch_int) (b := 1408) (m := j20_2) (k := (⟨l19_1, a2s.To⟩ : GLoopholeStretch)) (z0 := 0) rfl krf krf krf krf krf (fun _ => by kernel_rfl) (fun _ _ => (eqV2_eq _ _ _ _ _).symm.trans krf) krf) ?_
       refine xs_run 5 krf ?_
       refine xs_end ?_
       refine sq_nk ⟨[0, 1, 2, 3, 4, 5, 9, 10, 11], [9, 1403, 1404, 1405, 1407, 1408], [], []⟩ ⟨[(0, I l19_1), (1, I a2s.To), (2, .ptr 1407 0), (3, .ptr 1403 0), (4, .ptr 1404 0), (5, .ptr 1405 0), (9, .ptr 9 0), (10, I (mgetD me_map_loophole_stretch_int (⟨l19_1, a2s.To⟩ : GLoopholeStretch) 0 j20_2)), (11, B (mhas me_map_loophole_stretch_int (⟨l19_1, a2s.To⟩ : GLoopholeStretch) j20_2))], [(9, .box 68 [I l19_1, I a2s.To]), (1403, .box 34 (bxc (GTariff.cs a0t))), (1404, .box 38 (bxc (GCalendar.cs a1c))), (1405, .box 24 (bxc (GSession.cs a2s))), (1407, .box 66 [.mv 1408]), (1408, .mp (mpL mk_map_loophole_stretch_int mv_map_loophole_stretch_int j20_2))]⟩ krf ?_
       refine sim_bind (fun (j23_1, j23_2) => ⟨[(10, I j23_1)], [(1403, .box 34 (bxc (GTariff.cs a0t))), (1404, .box 38 (bxc (GCalendar.cs a1c))), (1405, .box 24 (bxc (GSession.cs a2s))), (1407, .box 66 [.mv 1408]), (1408, .mp (mpL mk_map_loophole_stretch_int mv_map_loophole_stretch_int j23_2))]⟩ : (Int × (List (GLoopholeStretch × Int))) → St) ?_ ?_
       ·refine sim_run Try.fm ⟨[0, 1, 2, 3, 4, 5, 9, 10, 24], [9, 1403, 1404, 1405, 1407, 1408], [], []⟩ ⟨[(0, I l19_1), (1, I a2s.To), (2, .ptr 1407 0), (3, .ptr 1403 0), (4, .ptr 1404 0), (5, .ptr 1405 0), (9, .ptr 9 0), (10, I (mgetD me_map_loophole_stretch_int (⟨l19_1, a2s.To⟩ : GLoopholeStretch) 0 j20_2)), (24, B (!(mhas me_map_loophole_stretch_int (⟨l19_1, a2s.To⟩ : GLoopholeStretch) j20_2)))], [(9, .box 68 [I l19_1, I a2s.To]), (1403, .box 34 (bxc (GTariff.cs a0t))), (1404, .box 38 (bxc (GCalendar.cs a1c))), (1405, .box 24 (bxc (GSession.cs a2s))), (1407, .box 66 [.mv 1408]), (1408, .mp (mpL mk_map_loophole_stretch_int mv_map_loophole_stretch_int j20_2))]⟩ krf ?_
        refine sim_cond (!(mhas me_map_loophole_stretch_int (⟨l19_1, a2s.To⟩ : GLoopholeStretch) j20_2)) krf ?_ ?_
        ·refine sim_seq ?_
         refine sim_drw Try.fm rfl ?_
         refine xs_run 5 krf ?_
         refine xs_call [] krf (g_loophole_part_ok n a2s l19_1 a2s.To) krf krf (fun _ => by kernel_rfl) (fun r24 => ?_)
         refine xs_call [] krf (g_bill_Bill_ok n a0t a1c r24) krf krf (fun _ => by kernel_rfl) (fun r25 => ?_)
         refine xs_run 6 krf ?_
         refine xs_endD krf ?_
         refine sq_nk ⟨[2, 9, 12, 13], [9, 12, 1403, 1404, 1405, 1407, 1408], [], []⟩ ⟨[(2, .ptr 1407 0), (9, .ptr 9 0), (12, .ptr 12 0), (13, I r25.2)], [(9, .box 68 [I l19_1, I a2s.To]), (12, .box 62 (bxc (GBill.cs r25.1))), (1403, .box 34 (bxc (GTariff.cs a0t))), (1404, .box 38 (bxc (GCalendar.cs a1c))), (1405, .box 24 (bxc (GSession.cs a2s))), (1407, .box 66 [.mv 1408]), (1408, .mp (mpL mk_map_loophole_stretch_int mv_map_loophole_stretch_int j20_2))]⟩ krf ?_
         refine sim_run Try.fm ⟨[2, 9, 10, 13], [9, 1403, 1404, 1405, 1407, 1408], [], []⟩ ⟨[(2, .ptr 1407 0), (9, .ptr 9 0), (10, I r25.1.Total), (13, I r25.2)], [(9, .box 68 [I l19_1, I a2s.To]), (1403, .box 34 (bxc (GTariff.cs a0t))), (1404, .box 38 (bxc (GCalendar.cs a1c))), (1405, .box 24 (bxc (GSession.cs a2s))), (1407, .box 66 [.mv 1408]), (1408, .mp (mpL mk_map_loophole_stretch_int mv_map_loophole_stretch_int j20_2))]⟩ krf ?_
         refine sim_seq ?_
         refine sim_run Try.fm ⟨[2, 9, 10, 38], [9, 1403, 1404, 1405, 1407, 1408], [], []⟩ ⟨[(2, .ptr 1407 0), (9, .ptr 9 0), (10, I r25.1.Total), (38, B (!eqI r25.2 0))], [(9, .box 68 [I l19_1, I a2s.To]), (1403, .box 34 (bxc (GTariff.cs a0t))), (1404, .box 38 (bxc (GCalendar.cs a1c))), (1405, .box 24 (bxc (GSession.cs a2s))), (1407, .box 66 [.mv 1408]), (1408, .mp (mpL mk_map_loophole_stretch_int mv_map_loophole_stretch_int j20_2))]⟩ krf ?_
         refine sim_cond (!eqI r25.2 0) krf ?_ ?_
         ·refine sim_last Try.fm krf ?_
          refine sq_nk ⟨[2, 9, 10], [9, 1403, 1404, 1405, 1407, 1408], [], []⟩ ⟨[(2, .ptr 1407 0), (9, .ptr 9 0), (10, I 1000000001)], [(9, .box 68 [I l19_1, I a2s.To]), (1403, .box 34 (bxc (GTariff.cs a0t))), (1404, .box 38 (bxc (GCalendar.cs a1c))), (1405, .box 24 (bxc (GSession.cs a2s))), (1407, .box 66 [.mv 1408]), (1408, .mp (mpL mk_map_loophole_stretch_int mv_map_loophole_stretch_int j20_2))]⟩ krf ?_
          refine sim_reg ?_
          refine xs_run 3 krf ?_
          refine xs_u krf krf (aop_mset (kt := 68) (e := 3) (ke := mk_map_loophole_stretch_int) (ve := mv_map_loophole_stretch_int) (eq := me_map_loophole_stretch_int) (b := 1408) (m := j20_2) (k := (⟨l19_1, a2s.To⟩ : GLoopholeStretch)) (v := 1000000001) rfl krf krf krf krf krf krf (fun _ => by kernel_rfl) (fun _ _ => (eqV2_eq _ _ _ _ _).symm.trans krf)) ?_
          refine xs_end ?_
          exact nq_n (1000000001, mset me_map_loophole_stretch_int (⟨l19_1, a2s.To⟩ : GLoopholeStretch) 1000000001 j20_2) ⟨[10], [1403, 1404, 1405, 1407, 1408], [], []⟩ krf
         ·refine sim_skip ?_
          refine sq_nk ⟨[2, 9, 10], [9, 1403, 1404, 1405, 1407, 1408], [], []⟩ ⟨[(2, .ptr 1407 0), (9, .ptr 9 0), (10, I r25.1.Total)], [(9, .box 68 [I l19_1, I a2s.To]), (1403, .box 34 (bxc (GTariff.cs a0t))), (1404, .box 38 (bxc (GCalendar.cs a1c))), (1405, .box 24 (bxc (GSession.cs a2s))), (1407, .box 66 [.mv 1408]), (1408, .mp (mpL mk_map_loophole_stretch_int mv_map_loophole_stretch_int j20_2))]⟩ krf ?_
          refine sim_reg ?_
          refine xs_run 3 krf ?_
          refine xs_u krf krf (aop_mset (kt := 68) (e := 3) (ke := mk_map_loophole_stretch_int) (ve := mv_map_loophole_stretch_int) (eq := me_map_loophole_stretch_int) (b := 1408) (m := j20_2) (k := (⟨l19_1, a2s.To⟩ : GLoopholeStretch)) (v := r25.1.Total) rfl krf krf krf krf krf krf (fun _ => by kernel_rfl) (fun _ _ => (eqV2_eq _ _ _ _ _).symm.trans krf)) ?_
          refine xs_end ?_
          exact nq_n (r25.1.Total, mset me_map_loophole_stretch_int (⟨l19_1, a2s.To⟩ : GLoopholeStretch) r25.1.Total j20_2) ⟨[10], [1403, 1404, 1405, 1407, 1408], [], []⟩ krf
        ·refine sim_skip ?_
         exact nq_n (mgetD me_map_loophole_stretch_int (⟨l19_1, a2s.To⟩ : GLoopholeStretch) 0 j20_2, j20_2) ⟨[10], [1403, 1404, 1405, 1407, 1408], [], []⟩ krf
       ·rintro ⟨j23_1, j23_2⟩
        refine sim_run Try.fm ⟨[8], [1403, 1404, 1405, 1407, 1408], [], []⟩ ⟨[(8, I j23_1)], [(1403, .box 34 (bxc (GTariff.cs a0t))), (1404, .box 38 (bxc (GCalendar.cs a1c))), (1405, .box 24 (bxc (GSession.cs a2s))), (1407, .box 66 [.mv 1408]), (1408, .mp (mpL mk_map_loophole_stretch_int mv_map_loophole_stretch_int j23_2))]⟩ krf ?_
        refine sim_ret ?_
        refine iq_ret .id [1403, 1404, 1405, 1407, 1408] [] (I j23_1) krf krf ?_
        refine kh [11] krf (lates_cons (late_move krf) (lates_nil)) krf ?_
        refine h_op [11] krf krf (lates_cons (late_move krf) (lates_nil)) ?_
        refine h_op [] krf krf (lates_nil) ?_
        refine h_end ?_
        refine sq_nk ⟨[3, 6, 11, 13, 14, 74], [6, 403, 404, 405, 407, 408], [], []⟩ ⟨[(3, I a3most), (6, .ptr 6 0), (11, I r6.1), (13, .fn (.func 29) [] [.ptr 407 0, .ptr 403 0, .ptr 404 0, .ptr 405 0]), (14, I l19_1), (74, B (ltI (wi (j20_1 + j23_1)) r6.1))], [(6, .box 24 (bxc (GSession.cs a2s))), (403, .box 34 (bxc (GTariff.cs a0t))), (404, .box 38 (bxc (GCalendar.cs a1c))), (405, .box 24 (bxc (GSession.cs a2s))), (407, .box 66 [.mv 408]), (408, .mp (mpL mk_map_loophole_stretch_int mv_map_loophole_stretch_int j23_2))]⟩ krf ?_
        refine sim_cond (ltI (wi (j20_1 + j23_1)) r6.1) krf ?_ ?_
        ·refine sim_run Try.fm ⟨[8, 9, 10], [76], [], []⟩ ⟨[(8, .tsl 1 (List.map ci [l19_1]) 76), (9, B true), (10, I 0)], [(76, .arr 3 1 (List.map ci [l19_1]).length)]⟩ krf ?_
         refine sim_ret ?_
         refine bq_r ?_
         refine sq_r ?_
         refine kq_r ?_
         refine bq_r ?_
         refine kq_r ?_
         exact rq_ret (.agg [.sl 1, .id, .id]) krf krf krf
        ·refine sim_skip ?_
         refine bq_n ?_
         refine sq_nk ⟨[3, 6, 11, 13, 14], [6, 403, 404, 405, 407, 408], [], []⟩ ⟨[(3, I a3most), (6, .ptr 6 0), (11, I r6.1), (13, .fn (.func 29) [] [.ptr 407 0, .ptr 403 0, .ptr 404 0, .ptr 405 0]), (14, I l19_1)], [(6, .box 24 (bxc (GSession.cs a2s))), (403, .box 34 (bxc (GTariff.cs a0t))), (404, .box 38 (bxc (GCalendar.cs a1c))), (405, .box 24 (bxc (GSession.cs a2s))), (407, .box 66 [.mv 408]), (408, .mp (mpL mk_map_loophole_stretch_int mv_map_loophole_stretch_int j23_2))]⟩ krf ?_
         refine sim_last Try.fm krf ?_
         exact kq_n (wi (l19_1 + 1), j23_2) ⟨[3, 6, 11, 13, 14], [6, 403, 404, 405, 407, 408], [], []⟩ krf
     ·refine sim_exit ?_
      refine sq_x ?_
      refine kq_x ?_
      refine bq_hit ?_
      exact kq_n (k := fun j7 => g_loophole_Find_j7 n a0t a1c a2s a3most r6 j7) l19_2 ⟨[3, 6, 11, 13], [6, 403, 404, 405, 407, 408], [], []⟩ krf
def g_loophole_Split (n : Nat) (a0s : GSession) (a1minute : Int) : Option (GSession × GSession × Int) :=
 ((g_bill_Valid n a0s).bind fun r2 =>
 cond (!r2)
  (some true)
  (cond (leI a1minute a0s.From)
   (some true)
   (some (leI a0s.To a1minute)))).bind fun j1 =>
 cond j1
  (some ((⟨0, 0, 0, []⟩ : GSession), (⟨0, 0, 0, []⟩ : GSession), 1))
  ((g_loophole_part n a0s a0s.From a1minute).bind fun r5 =>
  (g_loophole_part n a0s a1minute a0s.To).bind fun r6 =>
  some (r5, r6, 0))
theorem g_loophole_Split_ok (n : Nat) (a0s : GSession) (a1minute : Int) : ∀ r, g_loophole_Split n a0s a1minute = some r → PCall Try.prog 11 [ag (GSession.cs a0s), I a1minute] (.ret (.tup [ag (GSession.cs r.1), ag (GSession.cs r.2.1), I r.2.2])) := by
 refine pcall_sim (X := fun r : GSession × GSession × Int => AEnd.ret (.tup [ag (GSession.cs r.1), ag (GSession.cs r.2.1), I r.2.2])) Try.func11 rfl Try.ntmps11 rfl ?_
 unfold g_loophole_Split
 refine sim_run Try.fm ⟨[1, 2, 4, 5], [2, 4, 5], [], []⟩ ⟨[(1, I a1minute), (2, .ptr 2 0), (4, .ptr 4 0), (5, .ptr 5 0)], [(2, .box 24 (bxc (GSession.cs a0s))), (4, .box 24 [I 0, I 0, I 0, .p (.val (.slice none 0 0))]), (5, .box 24 [I 0, I 0, I 0, .p (.val (.slice none 0 0))])]⟩ krf ?_
 refine sim_seq ?_
 refine sim_bind (fun j1 => ⟨[(1, I a1minute), (2, .ptr 2 0), (4, .ptr 4 0), (5, .ptr 5 0), (21, B j1)], [(2, .box 24 (bxc (GSession.cs a0s))), (4, .box 24 [I 0, I 0, I 0, .p (.val (.slice none 0 0))]), (5, .box 24 [I 0, I 0, I 0, .p (.val (.slice none 0 0))])]⟩ : Bool → St) ?_ ?_
 ·refine sim_reg ?_
  refine xs_run 1 krf ?_
  refine xs_call [] krf (g_bill_Valid_ok n a0s) krf krf (fun _ => by kernel_rfl) (fun r2 => ?_)
  refine xs_run 2 krf ?_
  refine xs_split (!r2) (fun h3 => ?_) (fun h3 => ?_)
  ·refine xs_no (want_ft krf h3) krf ?_
   refine xs_run 10 krf ?_
   refine xs_end ?_
   exact nq_n true ⟨[1, 2, 4, 5, 21], [2, 4, 5], [], []⟩ krf
  ·refine xs_one (want_ff krf h3) krf ?_
   refine xs_run 5 krf ?_
   refine xs_split (leI a1minute a0s.From) (fun h4 => ?_) (fun h4 => ?_)
   ·refine xs_no (want_ft krf h4) krf ?_
    refine xs_run 4 krf ?_
    refine xs_end ?_
    exact nq_n true ⟨[1, 2, 4, 5, 21], [2, 4, 5], [], []⟩ krf
   ·refine xs_one (want_ff krf h4) krf ?_
    refine xs_run 4 krf ?_
    refine xs_end ?_
    exact nq_n (leI a0s.To a1minute) ⟨[1, 2, 4, 5, 21], [2, 4, 5], [], []⟩ krf
 ·rintro j1
  refine sim_cond j1 krf ?_ ?_
  ·refine sim_run Try.fm ⟨[4, 5, 6], [4, 5], [], []⟩ ⟨[(4, .ptr 4 0), (5, .ptr 5 0), (6, I 1)], [(4, .box 24 [I 0, I 0, I 0, .p (.val (.slice none 0 0))]), (5, .box 24 [I 0, I 0, I 0, .p (.val (.slice none 0 0))])]⟩ krf ?_
   refine sim_ret ?_
   refine sq_r ?_
   exact rq_ret (.agg [.agg [.id, .id, .id, .sl 2], .agg [.id, .id, .id, .sl 2], .id]) krf krf krf
  ·refine sim_skip ?_
   refine sq_nk ⟨[1, 2, 4, 5], [2, 4, 5], [], []⟩ ⟨[(1, I a1minute), (2, .ptr 2 0), (4, .ptr 4 0), (5, .ptr 5 0)], [(2, .box 24 (bxc (GSession.cs a0s))), (4, .box 24 [I 0, I 0, I 0, .p (.val (.slice none 0 0))]), (5, .box 24 [I 0, I 0, I 0, .p (.val (.slice none 0 0))])]⟩ krf ?_
   refine sim_seq ?_
   refine sim_drw Try.fm rfl ?_
   refine xs_run 4 krf ?_
   refine xs_call [] krf (g_loophole_part_ok n a0s a0s.From a1minute) krf krf (fun _ => by kernel_rfl) (fun r5 => ?_)
   refine xs_run 4 krf ?_
   refine xs_call [] krf (g_loophole_part_ok n a0s a1minute a0s.To) krf krf (fun _ => by kernel_rfl) (fun r6 => ?_)
   refine xs_run 3 krf ?_
   refine xs_endD krf ?_
   refine sq_nk ⟨[4, 5, 6], [4, 5], [], []⟩ ⟨[(4, .ptr 4 0), (5, .ptr 5 0), (6, I 0)], [(4, .box 24 (bxc (GSession.cs r5))), (5, .box 24 (bxc (GSession.cs r6)))]⟩ krf ?_
   refine sim_ret ?_
   exact rq_ret (.id) krf krf krf
def g_ref34_Ints_l1 (a0a : List Int) (a1b : List Int) (recl1 : Int → Option Bool) (l1 : Int) : Option Bool :=
 cond (ltI l1 (lenI (List.map ci a0a)))
  ((getI a0a l1).bind fun x2 =>
  (getI a1b l1).bind fun x3 =>
  cond (!eqI x2 x3)
   (some false)
   (recl1 (wi (l1 + 1))))
  (some true)
def g_ref34_Ints (n : Nat) (a0a : List Int) (a1b : List Int) : Option Bool :=
 cond (!eqI (lenI (List.map ci a0a)) (lenI (List.map ci a1b)))
  (some false)
  (loopN (fun recl1 l1 => g_ref34_Ints_l1 a0a a1b recl1 l1) n 0)
theorem g_ref34_Ints_ok (n : Nat) (a0a : List Int) (a1b : List Int) : ∀ r, g_ref34_Ints n a0a a1b = some r → PCall Try.prog 20 [.p (.sl 1 (List.map ci a0a)), .p (.sl 1 (List.map ci a1b))] (.ret (B r)) := by
 refine pcall_sim (X := fun r : Bool => AEnd.ret (B r)) Try.func20 rfl Try.ntmps20 rfl ?_
 unfold g_ref34_Ints
 refine sim_run Try.fm ⟨[0, 1], [], [], []⟩ ⟨[(0, .p (.sl 1 (List.map ci a0a))), (1, .p (.sl 1 (List.map ci a1b)))], []⟩ krf ?_
 refine sim_seq ?_
 refine sim_run Try.fm ⟨[0, 1, 10], [], [], []⟩ ⟨[(0, .p (.sl 1 (List.map ci a0a))), (1, .p (.sl 1 (List.map ci a1b))), (10, B (!eqI (lenI (List.map ci a0a)) (lenI (List.map ci a1b))))], []⟩ krf ?_
 refine sim_cond (!eqI (lenI (List.map ci a0a)) (lenI (List.map ci a1b))) krf ?_ ?_
 ·refine sim_run Try.fm ⟨[4], [], [], []⟩ ⟨[(4, B false)], []⟩ krf ?_
  refine sim_ret ?_
  refine sq_r ?_
  exact rq_ret (.id) krf krf krf
 ·refine sim_skip ?_
  refine sq_nk ⟨[0, 1], [], [], []⟩ ⟨[(0, .p (.sl 1 (List.map ci a0a))), (1, .p (.sl 1 (List.map ci a1b)))], []⟩ krf ?_
  refine sim_seq ?_
  refine sim_run Try.fm ⟨[0, 1, 5], [], [], []⟩ ⟨[(0, .p (.sl 1 (List.map ci a0a))), (1, .p (.sl 1 (List.map ci a1b))), (5, I 0)], []⟩ krf ?_
  refine sim_block ?_
  refine sim_loop (fun l1 => ⟨[(0, .p (.sl 1 (List.map ci a0a))), (1, .p (.sl 1 (List.map ci a1b))), (5, I l1)], []⟩ : Int → St) (weak_shr (K := ⟨[0, 1, 5], [], [], []⟩) krf) ?_
  rintro recl1 l1
  show SimE (g_ref34_Ints_l1 a0a a1b recl1 l1) _ _ _ _ _ _
  unfold g_ref34_Ints_l1
  refine sim_seq ?_
  refine sim_run Try.fm ⟨[0, 1, 5, 14], [], [], []⟩ ⟨[(0, .p (.sl 1 (List.map ci a0a))), (1, .p (.sl 1 (List.map ci a1b))), (5, I l1), (14, B (ltI l1 (lenI (List.map ci a0a))))], []⟩ krf ?_
  refine sim_cond (ltI l1 (lenI (List.map ci a0a))) krf ?_ ?_
  ·refine sim_skip ?_
   refine sq_nk ⟨[0, 1, 5], [], [], []⟩ ⟨[(0, .p (.sl 1 (List.map ci a0a))), (1, .p (.sl 1 (List.map ci a1b))), (5, I l1)], []⟩ krf ?_
   refine sim_seq ?_
   refine sim_block ?_
   refine sim_seq ?_
   refine sim_drw Try.fm rfl ?_
   refine xs_run 2 krf ?_
   refine xs_get krf krf (aop_idx (e := 3) (S := 1) (enc := ci) (l := a0a) (k := .i64) (n := l1) (sv := .p (.sl 1 (List.map ci a0a))) rfl krf krf krf krf krf) (fun x2 => ?_)
   refine xs_run 3 krf ?_
   refine xs_get krf krf (aop_idx (e := 3) (S := 1) (enc := ci) (l := a1b) (k := .i64) (n := l1) (sv := .p (.sl 1 (List.map ci a1b))) rfl krf krf krf krf krf) (fun x3 => ?_)
   refine xs_run 2 krf ?_
   refine xs_endD krf ?_
   refine sq_nk ⟨[0, 1, 5, 25], [], [], []⟩ ⟨[(0, .p (.sl 1 (List.map ci a0a))), (1, .p (.sl 1 (List.map ci a1b))), (5, I l1), (25, B (!eqI x2 x3))], []⟩ krf ?_
   refine sim_cond (!eqI x2 x3) krf ?_ ?_
   ·refine sim_run Try.fm ⟨[4], [], [], []⟩ ⟨[(4, B false)], []⟩ krf ?_
    refine sim_ret ?_
    refine bq_r ?_
    refine sq_r ?_
    refine kq_r ?_
    refine bq_r ?_
    refine sq_r ?_
    exact rq_ret (.id) krf krf krf
   ·refine sim_skip ?_
    refine bq_n ?_
    refine sq_nk ⟨[0, 1, 5], [], [], []⟩ ⟨[(0, .p (.sl 1 (List.map ci a0a))), (1, .p (.sl 1 (List.map ci a1b))), (5, I l1)], []⟩ krf ?_
    refine sim_last Try.fm krf ?_
    exact kq_n (wi (l1 + 1)) ⟨[0, 1, 5], [], [], []⟩ krf
  ·refine sim_exit ?_
   refine sq_x ?_
   refine kq_x ?_
   refine bq_hit ?_
   refine sq_nk ⟨[], [], [], []⟩ ⟨[], []⟩ krf ?_
   refine sim_run Try.fm ⟨[4], [], [], []⟩ ⟨[(4, B true)], []⟩ krf ?_
   refine sim_ret ?_
   exact rq_ret (.id) krf krf krf
def g_ref34_Same_l5 (a0a : GSession) (a1b : GSession) (recl5 : Int → Option Bool) (l5 : Int) : Option Bool :=
 cond (ltI l5 (lenI (List.map GSlice.cs a0a.Slices)))
  ((getI a0a.Slices l5).bind fun x6 =>
  (getI a1b.Slices l5).bind fun x7 =>
  cond (!opq ((eqI x6.Minute x7.Minute) && ((eqI x6.Energy x7.Energy) && true)))
   (some false)
   (recl5 (wi (l5 + 1))))
  (some true)
def g_ref34_Same (n : Nat) (a0a : GSession) (a1b : GSession) : Option Bool :=
 (cond (!eqI a0a.From a1b.From)
  (some true)
  (cond (!eqI a0a.To a1b.To)
   (some true)
   (cond (!eqI a0a.End a1b.End)
    (some true)
    (some (!eqI (lenI (List.map GSlice.cs a0a.Slices)) (lenI (List.map GSlice.cs a1b.Slices))))))).bind fun j1 =>
 cond j1
  (some false)
  (loopN (fun recl5 l5 => g_ref34_Same_l5 a0a a1b recl5 l5) n 0)
theorem g_ref34_Same_ok (n : Nat) (a0a : GSession) (a1b : GSession) : ∀ r, g_ref34_Same n a0a a1b = some r → PCall Try.prog 13 [ag (GSession.cs a0a), ag (GSession.cs a1b)] (.ret (B r)) := by
 refine pcall_sim (X := fun r : Bool => AEnd.ret (B r)) Try.func13 rfl Try.ntmps13 rfl ?_
 unfold g_ref34_Same
 refine sim_run Try.fm ⟨[2, 3], [2, 3], [], []⟩ ⟨[(2, .ptr 2 0), (3, .ptr 3 0)], [(2, .box 24 (bxc (GSession.cs a0a))), (3, .box 24 (bxc (GSession.cs a1b)))]⟩ krf ?_
 refine sim_seq ?_
 refine sim_bind (fun j1 => ⟨[(2, .ptr 2 0), (3, .ptr 3 0), (33, B j1)], [(2, .box 24 (bxc (GSession.cs a0a))), (3, .box 24 (bxc (GSession.cs a1b)))]⟩ : Bool → St) ?_ ?_
 ·refine sim_reg ?_
  refine xs_run 6 krf ?_
  refine xs_split (!eqI a0a.From a1b.From) (fun h2 => ?_) (fun h2 => ?_)
  ·refine xs_no (want_ft krf h2) krf ?_
   refine xs_run 21 krf ?_
   refine xs_end ?_
   exact nq_n true ⟨[2, 3, 33], [2, 3], [], []⟩ krf
  ·refine xs_one (want_ff krf h2) krf ?_
   refine xs_run 6 krf ?_
   refine xs_split (!eqI a0a.To a1b.To) (fun h3 => ?_) (fun h3 => ?_)
   ·refine xs_no (want_ft krf h3) krf ?_
    refine xs_run 14 krf ?_
    refine xs_end ?_
    exact nq_n true ⟨[2, 3, 33], [2, 3], [], []⟩ krf
   ·refine xs_one (want_ff krf h3) krf ?_
    refine xs_run 6 krf ?_
    refine xs_split (!eqI a0a.End a1b.End) (fun h4 => ?_) (fun h4 => ?_)
    ·refine xs_no (want_ft krf h4) krf ?_
     refine xs_run 7 krf ?_
     refine xs_end ?_
     exact nq_n true ⟨[2, 3, 33], [2, 3], [], []⟩ krf
    ·refine xs_one (want_ff krf h4) krf ?_
     refine xs_run 7 krf ?_
     refine xs_end ?_
     exact nq_n (!eqI (lenI (List.map GSlice.cs a0a.Slices)) (lenI (List.map GSlice.cs a1b.Slices))) ⟨[2, 3, 33], [2, 3], [], []⟩ krf
 ·rintro j1
  refine sim_cond j1 krf ?_ ?_
  ·refine sim_run Try.fm ⟨[4], [], [], []⟩ ⟨[(4, B false)], []⟩ krf ?_
   refine sim_ret ?_
   refine sq_r ?_
   exact rq_ret (.id) krf krf krf
  ·refine sim_skip ?_
   refine sq_nk ⟨[2, 3], [2, 3], [], []⟩ ⟨[(2, .ptr 2 0), (3, .ptr 3 0)], [(2, .box 24 (bxc (GSession.cs a0a))), (3, .box 24 (bxc (GSession.cs a1b)))]⟩ krf ?_
   refine sim_seq ?_
   refine sim_run Try.fm ⟨[2, 3, 5], [2, 3], [], []⟩ ⟨[(2, .ptr 2 0), (3, .ptr 3 0), (5, I 0)], [(2, .box 24 (bxc (GSession.cs a0a))), (3, .box 24 (bxc (GSession.cs a1b)))]⟩ krf ?_
   refine sim_block ?_
   refine sim_loop (fun l5 => ⟨[(2, .ptr 2 0), (3, .ptr 3 0), (5, I l5)], [(2, .box 24 (bxc (GSession.cs a0a))), (3, .box 24 (bxc (GSession.cs a1b)))]⟩ : Int → St) (weak_shr (K := ⟨[2, 3, 5], [2, 3], [], []⟩) krf) ?_
   rintro recl5 l5
   show SimE (g_ref34_Same_l5 a0a a1b recl5 l5) _ _ _ _ _ _
   unfold g_ref34_Same_l5
   refine sim_seq ?_
   refine sim_run Try.fm ⟨[2, 3, 5, 38], [2, 3], [], []⟩ ⟨[(2, .ptr 2 0), (3, .ptr 3 0), (5, I l5), (38, B (ltI l5 (lenI (List.map GSlice.cs a0a.Slices))))], [(2, .box 24 (bxc (GSession.cs a0a))), (3, .box 24 (bxc (GSession.cs a1b)))]⟩ krf ?_
   refine sim_cond (ltI l5 (lenI (List.map GSlice.cs a0a.Slices))) krf ?_ ?_
   ·refine sim_skip ?_
    refine sq_nk ⟨[2, 3, 5], [2, 3], [], []⟩ ⟨[(2, .ptr 2 0), (3, .ptr 3 0), (5, I l5)], [(2, .box 24 (bxc (GSession.cs a0a))), (3, .box 24 (bxc (GSession.cs a1b)))]⟩ krf ?_
    refine sim_seq ?_
    refine sim_block ?_
    refine sim_seq ?_
    refine sim_drw Try.fm rfl ?_
    refine xs_run 3 krf ?_
    refine xs_get krf krf (aop_idx (e := 54) (S := 2) (enc := GSlice.cs) (l := a0a.Slices) (k := .i64) (n := l5) (sv := .p (.sl 2 (List.map GSlice.cs a0a.Slices))) rfl krf krf krf krf krf) (fun x6 => ?_)
    refine xs_run 4 krf ?_
    refine xs_get krf krf (aop_idx (e := 54) (S := 2) (enc := GSlice.cs) (l := a1b.Slices) (k := .i64) (n := l5) (sv := .p (.sl 2 (List.map GSlice.cs a1b.Slices))) rfl krf krf krf krf krf) (fun x7 => ?_)
    refine xs_run 1 krf ?_
    refine xs_u krf krf (aop_neq (xs := [I x6.Minute, I x6.Energy]) (ys := [I x7.Minute, I x7.Energy]) (vx := [.int .i64 x6.Minute, .int .i64 x6.Energy]) (vy := [.int .i64 x7.Minute, .int .i64 x7.Energy]) (b := (eqI x6.Minute x7.Minute) && ((eqI x6.Energy x7.Energy) && true)) rfl krf krf krf krf krf krf) ?_
    refine xs_endD krf ?_
    refine sq_nk ⟨[2, 3, 5, 51], [2, 3], [], []⟩ ⟨[(2, .ptr 2 0), (3, .ptr 3 0), (5, I l5), (51, B (!opq ((eqI x6.Minute x7.Minute) && ((eqI x6.Energy x7.Energy) && true))))], [(2, .box 24 (bxc (GSession.cs a0a))), (3, .box 24 (bxc (GSession.cs a1b)))]⟩ krf ?_
    refine sim_cond (!opq ((eqI x6.Minute x7.Minute) && ((eqI x6.Energy x7.Energy) && true))) krf ?_ ?_
    ·refine sim_run Try.fm ⟨[4], [], [], []⟩ ⟨[(4, B false)], []⟩ krf ?_
     refine sim_ret ?_
     refine bq_r ?_
     refine sq_r ?_
     refine kq_r ?_
     refine bq_r ?_
     refine sq_r ?_
     exact rq_ret (.id) krf krf krf
    ·refine sim_skip ?_
     refine bq_n ?_
     refine sq_nk ⟨[2, 3, 5], [2, 3], [], []⟩ ⟨[(2, .ptr 2 0), (3, .ptr 3 0), (5, I l5)], [(2, .box 24 (bxc (GSession.cs a0a))), (3, .box 24 (bxc (GSession.cs a1b)))]⟩ krf ?_
     refine sim_last Try.fm krf ?_
     exact kq_n (wi (l5 + 1)) ⟨[2, 3, 5], [2, 3], [], []⟩ krf
   ·refine sim_exit ?_
    refine sq_x ?_
    refine kq_x ?_
    refine bq_hit ?_
    refine sq_nk ⟨[], [], [], []⟩ ⟨[], []⟩ krf ?_
    refine sim_run Try.fm ⟨[4], [], [], []⟩ ⟨[(4, B true)], []⟩ krf ?_
    refine sim_ret ?_
    exact rq_ret (.id) krf krf krf
def g_law34_head (n : Nat) : Option Bool :=
 (g_law34_always n 3 100 1 10).bind fun r1 =>
 (g_law34_always n 3 100 1 0).bind fun r2 =>
 (g_loophole_Price n (⟨[116], [r1]⟩ : GTariff) (⟨0, [], []⟩ : GCalendar) (⟨0, 25, 20, [(⟨3, 50⟩ : GSlice), (⟨12, 70⟩ : GSlice)]⟩ : GSession) []).bind fun r3 =>
 (g_loophole_Price n (⟨[116], [r1]⟩ : GTariff) (⟨0, [], []⟩ : GCalendar) (⟨0, 25, 20, [(⟨3, 50⟩ : GSlice), (⟨12, 70⟩ : GSlice)]⟩ : GSession) [10]).bind fun r4 =>
 (g_loophole_Find n (⟨[116], [r1]⟩ : GTariff) (⟨0, [], []⟩ : GCalendar) (⟨0, 25, 20, [(⟨3, 50⟩ : GSlice), (⟨12, 70⟩ : GSlice)]⟩ : GSession) 1).bind fun r5 =>
 (g_loophole_Find n (⟨[116], [r2]⟩ : GTariff) (⟨0, [], []⟩ : GCalendar) (⟨0, 25, 20, [(⟨3, 50⟩ : GSlice), (⟨12, 70⟩ : GSlice)]⟩ : GSession) 2).bind fun r6 =>
 (g_loophole_Split n (⟨0, 25, 20, [(⟨3, 50⟩ : GSlice), (⟨12, 70⟩ : GSlice)]⟩ : GSession) 12).bind fun r7 =>
 (g_loophole_Price n (⟨[116], [r1]⟩ : GTariff) (⟨0, [], []⟩ : GCalendar) (⟨0, 25, 20, [(⟨3, 50⟩ : GSlice), (⟨12, 70⟩ : GSlice)]⟩ : GSession) [25]).bind fun r8 =>
 (g_loophole_Find n (⟨[116], [r1]⟩ : GTariff) (⟨0, [], []⟩ : GCalendar) (⟨0, 25, 20, [(⟨3, 50⟩ : GSlice), (⟨12, 70⟩ : GSlice)]⟩ : GSession) 3).bind fun r9 =>
 (cond (eqI r3.2 0)
  (cond (eqI r4.2 0)
   (cond (eqI r5.2.2 0)
    (cond (eqI r6.2.2 0)
     (cond (eqI r7.2.2 0)
      (cond (eqI r8.2 1)
       (cond (eqI r9.2.2 1)
        (cond (eqI r3.1 1500)
         (cond (eqI r4.1 500)
          (cond r5.2.1
           ((g_ref34_Ints n r5.1 [1]).bind fun r21 =>
           cond r21
            (cond (!r6.2.1)
             (cond (eqI (lenI (List.map ci r6.1)) 0)
              (cond (sliceB 0 1 (List.length [(⟨3, 50⟩ : GSlice), (⟨12, 70⟩ : GSlice)])) (
               (g_ref34_Same n r7.1 (⟨0, 12, 12, List.drop (Int.toNat 0) (List.take (Int.toNat 1) [(⟨3, 50⟩ : GSlice), (⟨12, 70⟩ : GSlice)])⟩ : GSession)).bind fun r25 =>
               cond r25
                (cond (sliceB 1 (lenI (List.map GSlice.cs [(⟨3, 50⟩ : GSlice), (⟨12, 70⟩ : GSlice)])) (List.length [(⟨3, 50⟩ : GSlice), (⟨12, 70⟩ : GSlice)])) (
                 (g_ref34_Same n r7.2.1 (⟨12, 25, 20, List.drop (Int.toNat 1) (List.take (Int.toNat (lenI (List.map GSlice.cs [(⟨3, 50⟩ : GSlice), (⟨12, 70⟩ : GSlice)]))) [(⟨3, 50⟩ : GSlice), (⟨12, 70⟩ : GSlice)])⟩ : GSession)).bind fun r27 =>
                 some r27) none)
                (some false)) none)
              (some false))
             (some false))
            (some false))
           (some false))
          (some false))
         (some false))
        (some false))
       (some false))
      (some false))
     (some false))
    (some false))
   (some false))
  (some false)).bind fun j10 =>
 some j10
theorem g_law34_head_ok (n : Nat) : ∀ r, g_law34_head n = some r → PCall Try.prog 10 [] (.ret (B r)) := by
 refine pcall_sim (X := fun r : Bool => AEnd.ret (B r)) Try.func10 rfl Try.ntmps10 rfl ?_
 unfold g_law34_head
 refine sim_run Try.fm ⟨[], [], [], []⟩ ⟨[], []⟩ krf ?_
 refine sim_seq ?_
 refine sim_reg ?_
 refine xs_call [] krf (g_law34_always_ok n 3 100 1 10) krf krf (fun _ => by kernel_rfl) (fun r1 => ?_)
 refine xs_run 4 krf ?_
 refine xs_end ?_
 refine sq_nk ⟨[1], [1, 24], [], []⟩ ⟨[(1, .ptr 1 0)], [(1, .box 34 [S [116], .tsl 7 (List.map GArticle.cs [r1]) 24]), (24, .arr 47 7 (List.map GArticle.cs [r1]).length)]⟩ krf ?_
 refine sim_seq ?_
 refine sim_reg ?_
 refine xs_call [] krf (g_law34_always_ok n 3 100 1 0) krf krf (fun _ => by kernel_rfl) (fun r2 => ?_)
 refine xs_run 4 krf ?_
 refine xs_end ?_
 refine sq_nk ⟨[1, 2], [1, 2, 24, 27], [], []⟩ ⟨[(1, .ptr 1 0), (2, .ptr 2 0)], [(1, .box 34 [S [116], .tsl 7 (List.map GArticle.cs [r1]) 24]), (2, .box 34 [S [116], .tsl 7 (List.map GArticle.cs [r2]) 27]), (24, .arr 47 7 (List.map GArticle.cs [r1]).length), (27, .arr 47 7 (List.map GArticle.cs [r2]).length)]⟩ krf ?_
 refine sim_run Try.fm ⟨[1, 2, 3], [1, 2, 3, 24, 27, 31], [], []⟩ ⟨[(1, .ptr 1 0), (2, .ptr 2 0), (3, .ptr 3 0)], [(1, .box 34 [S [116], .tsl 7 (List.map GArticle.cs [r1]) 24]), (2, .box 34 [S [116], .tsl 7 (List.map GArticle.cs [r2]) 27]), (3, .box 24 [I 0, I 25, I 20, .tsl 2 (List.map GSlice.cs [(⟨3, 50⟩ : GSlice), (⟨12, 70⟩ : GSlice)]) 31]), (24, .arr 47 7 (List.map GArticle.cs [r1]).length), (27, .arr 47 7 (List.map GArticle.cs [r2]).length), (31, .arr 54 2 (List.map GSlice.cs [(⟨3, 50⟩ : GSlice), (⟨12, 70⟩ : GSlice)]).length)]⟩ krf ?_
 refine sim_run Try.fm ⟨[1, 2, 3, 4], [1, 2, 3, 4, 24, 27, 31], [], []⟩ ⟨[(1, .ptr 1 0), (2, .ptr 2 0), (3, .ptr 3 0), (4, .ptr 4 0)], [(1, .box 34 [S [116], .tsl 7 (List.map GArticle.cs [r1]) 24]), (2, .box 34 [S [116], .tsl 7 (List.map GArticle.cs [r2]) 27]), (3, .box 24 [I 0, I 25, I 20, .tsl 2 (List.map GSlice.cs [(⟨3, 50⟩ : GSlice), (⟨12, 70⟩ : GSlice)]) 31]), (4, .box 38 [I 0, .p (.val (.slice none 0 0)), .p (.val (.slice none 0 0))]), (24, .arr 47 7 (List.map GArticle.cs [r1]).length), (27, .arr 47 7 (List.map GArticle.cs [r2]).length), (31, .arr 54 2 (List.map GSlice.cs [(⟨3, 50⟩ : GSlice), (⟨12, 70⟩ : GSlice)]).length)]⟩ krf ?_
 refine sim_seq ?_
 refine sim_reg ?_
 refine xs_run 3 krf ?_
 refine xs_call [.agg [.id, .sl 7], .agg [.id, .sl 2, .sl 1], .agg [.id, .id, .id, .sl 2], .sl 1] krf (g_loophole_Price_ok n (⟨[116], [r1]⟩ : GTariff) (⟨0, [], []⟩ : GCalendar) (⟨0, 25, 20, [(⟨3, 50⟩ : GSlice), (⟨12, 70⟩ : GSlice)]⟩ : GSession) []) krf krf (fun _ => by kernel_rfl) (fun r3 => ?_)
 refine xs_run 5 krf ?_
 refine xs_end ?_
 refine sq_nk ⟨[1, 2, 3, 4, 5, 6], [1, 2, 3, 4, 24, 27, 31], [], []⟩ ⟨[(1, .ptr 1 0), (2, .ptr 2 0), (3, .ptr 3 0), (4, .ptr 4 0), (5, I r3.1), (6, I r3.2)], [(1, .box 34 [S [116], .tsl 7 (List.map GArticle.cs [r1]) 24]), (2, .box 34 [S [116], .tsl 7 (List.map GArticle.cs [r2]) 27]), (3, .box 24 [I 0, I 25, I 20, .tsl 2 (List.map GSlice.cs [(⟨3, 50⟩ : GSlice), (⟨12, 70⟩ : GSlice)]) 31]), (4, .box 38 [I 0, .p (.val (.slice none 0 0)), .p (.val (.slice none 0 0))]), (24, .arr 47 7 (List.map GArticle.cs [r1]).length), (27, .arr 47 7 (List.map GArticle.cs [r2]).length), (31, .arr 54 2 (List.map GSlice.cs [(⟨3, 50⟩ : GSlice), (⟨12, 70⟩ : GSlice)]).length)]⟩ krf ?_
 refine sim_seq ?_
 refine sim_reg ?_
 refine xs_run 4 krf ?_
 refine xs_call [.agg [.id, .sl 7], .agg [.id, .sl 2, .sl 1], .agg [.id, .id, .id, .sl 2], .sl 1] krf (g_loophole_Price_ok n (⟨[116], [r1]⟩ : GTariff) (⟨0, [], []⟩ : GCalendar) (⟨0, 25, 20, [(⟨3, 50⟩ : GSlice), (⟨12, 70⟩ : GSlice)]⟩ : GSession) [10]) krf krf (fun _ => by kernel_rfl) (fun r4 => ?_)
 refine xs_run 5 krf ?_
 refine xs_end ?_
 refine sq_nk ⟨[1, 2, 3, 4, 5, 6, 7, 8], [1, 2, 3, 4, 24, 27, 31], [], []⟩ ⟨[(1, .ptr 1 0), (2, .ptr 2 0), (3, .ptr 3 0), (4, .ptr 4 0), (5, I r3.1), (6, I r3.2), (7, I r4.1), (8, I r4.2)], [(1, .box 34 [S [116], .tsl 7 (List.map GArticle.cs [r1]) 24]), (2, .box 34 [S [116], .tsl 7 (List.map GArticle.cs [r2]) 27]), (3, .box 24 [I 0, I 25, I 20, .tsl 2 (List.map GSlice.cs [(⟨3, 50⟩ : GSlice), (⟨12, 70⟩ : GSlice)]) 31]), (4, .box 38 [I 0, .p (.val (.slice none 0 0)), .p (.val (.slice none 0 0))]), (24, .arr 47 7 (List.map GArticle.cs [r1]).length), (27, .arr 47 7 (List.map GArticle.cs [r2]).length), (31, .arr 54 2 (List.map GSlice.cs [(⟨3, 50⟩ : GSlice), (⟨12, 70⟩ : GSlice)]).length)]⟩ krf ?_
 refine sim_seq ?_
 refine sim_reg ?_
 refine xs_run 3 krf ?_
 refine xs_call [.agg [.id, .sl 7], .agg [.id, .sl 2, .sl 1], .agg [.id, .id, .id, .sl 2], .id] krf (g_loophole_Find_ok n (⟨[116], [r1]⟩ : GTariff) (⟨0, [], []⟩ : GCalendar) (⟨0, 25, 20, [(⟨3, 50⟩ : GSlice), (⟨12, 70⟩ : GSlice)]⟩ : GSession) 1) krf krf (fun _ => by kernel_rfl) (fun r5 => ?_)
 refine xs_run 7 krf ?_
 refine xs_end ?_
 refine sq_nk ⟨[1, 2, 3, 4, 5, 6, 7, 8, 9, 10, 11], [1, 2, 3, 4, 24, 27, 31], [], []⟩ ⟨[(1, .ptr 1 0), (2, .ptr 2 0), (3, .ptr 3 0), (4, .ptr 4 0), (5, I r3.1), (6, I r3.2), (7, I r4.1), (8, I r4.2), (9, .p (.sl 1 (List.map ci r5.1))), (10, B r5.2.1), (11, I r5.2.2)], [(1, .box 34 [S [116], .tsl 7 (List.map GArticle.cs [r1]) 24]), (2, .box 34 [S [116], .tsl 7 (List.map GArticle.cs [r2]) 27]), (3, .box 24 [I 0, I 25, I 20, .tsl 2 (List.map GSlice.cs [(⟨3, 50⟩ : GSlice), (⟨12, 70⟩ : GSlice)]) 31]), (4, .box 38 [I 0, .p (.val (.slice none 0 0)), .p (.val (.slice none 0 0))]), (24, .arr 47 7 (List.map GArticle.cs [r1]).length), (27, .arr 47 7 (List.map GArticle.cs [r2]).length), (31, .arr 54 2 (List.map GSlice.cs [(⟨3, 50⟩ : GSlice), (⟨12, 70⟩ : GSlice)]).length)]⟩ krf ?_
 refine sim_seq ?_
 refine sim_reg ?_
 refine xs_run 3 krf ?_
 refine xs_call [.agg [.id, .sl 7], .agg [.id, .sl 2, .sl 1], .agg [.id, .id, .id, .sl 2], .id] krf (g_loophole_Find_ok n (⟨[116], [r2]⟩ : GTariff) (⟨0, [], []⟩ : GCalendar) (⟨0, 25, 20, [(⟨3, 50⟩ : GSlice), (⟨12, 70⟩ : GSlice)]⟩ : GSession) 2) krf krf (fun _ => by kernel_rfl) (fun r6 => ?_)
 refine xs_run 7 krf ?_
 refine xs_end ?_
 refine sq_nk ⟨[1, 3, 4, 5, 6, 7, 8, 9, 10, 11, 12, 13, 14], [1, 3, 4, 24, 31], [], []⟩ ⟨[(1, .ptr 1 0), (3, .ptr 3 0), (4, .ptr 4 0), (5, I r3.1), (6, I r3.2), (7, I r4.1), (8, I r4.2), (9, .p (.sl 1 (List.map ci r5.1))), (10, B r5.2.1), (11, I r5.2.2), (12, .p (.sl 1 (List.map ci r6.1))), (13, B r6.2.1), (14, I r6.2.2)], [(1, .box 34 [S [116], .tsl 7 (List.map GArticle.cs [r1]) 24]), (3, .box 24 [I 0, I 25, I 20, .tsl 2 (List.map GSlice.cs [(⟨3, 50⟩ : GSlice), (⟨12, 70⟩ : GSlice)]) 31]), (4, .box 38 [I 0, .p (.val (.slice none 0 0)), .p (.val (.slice none 0 0))]), (24, .arr 47 7 (List.map GArticle.cs [r1]).length), (31, .arr 54 2 (List.map GSlice.cs [(⟨3, 50⟩ : GSlice), (⟨12, 70⟩ : GSlice)]).length)]⟩ krf ?_
 refine sim_seq ?_
 refine sim_reg ?_
 refine xs_run 1 krf ?_
 refine xs_call [.agg [.id, .id, .id, .sl 2], .id] krf (g_loophole_Split_ok n (⟨0, 25, 20, [(⟨3, 50⟩ : GSlice), (⟨12, 70⟩ : GSlice)]⟩ : GSession) 12) krf krf (fun _ => by kernel_rfl) (fun r7 => ?_)
 refine xs_run 9 krf ?_
 refine xs_end ?_
 refine sq_nk ⟨[1, 3, 4, 5, 6, 7, 8, 9, 10, 11, 12, 13, 14, 15, 16, 17], [1, 3, 4, 15, 16, 24, 31], [], []⟩ ⟨[(1, .ptr 1 0), (3, .ptr 3 0), (4, .ptr 4 0), (5, I r3.1), (6, I r3.2), (7, I r4.1), (8, I r4.2), (9, .p (.sl 1 (List.map ci r5.1))), (10, B r5.2.1), (11, I r5.2.2), (12, .p (.sl 1 (List.map ci r6.1))), (13, B r6.2.1), (14, I r6.2.2), (15, .ptr 15 0), (16, .ptr 16 0), (17, I r7.2.2)], [(1, .box 34 [S [116], .tsl 7 (List.map GArticle.cs [r1]) 24]), (3, .box 24 [I 0, I 25, I 20, .tsl 2 (List.map GSlice.cs [(⟨3, 50⟩ : GSlice), (⟨12, 70⟩ : GSlice)]) 31]), (4, .box 38 [I 0, .p (.val (.slice none 0 0)), .p (.val (.slice none 0 0))]), (15, .box 24 (bxc (GSession.cs r7.1))), (16, .box 24 (bxc (GSession.cs r7.2.1))), (24, .arr 47 7 (List.map GArticle.cs [r1]).length), (31, .arr 54 2 (List.map GSlice.cs [(⟨3, 50⟩ : GSlice), (⟨12, 70⟩ : GSlice)]).length)]⟩ krf ?_
 refine sim_seq ?_
 refine sim_reg ?_
 refine xs_run 4 krf ?_
 refine xs_call [.agg [.id, .sl 7], .agg [.id, .sl 2, .sl 1], .agg [.id, .id, .id, .sl 2], .sl 1] krf (g_loophole_Price_ok n (⟨[116], [r1]⟩ : GTariff) (⟨0, [], []⟩ : GCalendar) (⟨0, 25, 20, [(⟨3, 50⟩ : GSlice), (⟨12, 70⟩ : GSlice)]⟩ : GSession) [25]) krf krf (fun _ => by kernel_rfl) (fun r8 => ?_)
 refine xs_run 5 krf ?_
 refine xs_end ?_
 refine sq_nk ⟨[1, 3, 4, 5, 6, 7, 8, 9, 10, 11, 12, 13, 14, 15, 16, 17, 19], [1, 3, 4, 15, 16, 24, 31], [], []⟩ ⟨[(1, .ptr 1 0), (3, .ptr 3 0), (4, .ptr 4 0), (5, I r3.1), (6, I r3.2), (7, I r4.1), (8, I r4.2), (9, .p (.sl 1 (List.map ci r5.1))), (10, B r5.2.1), (11, I r5.2.2), (12, .p (.sl 1 (List.map ci r6.1))), (13, B r6.2.1), (14, I r6.2.2), (15, .ptr 15 0), (16, .ptr 16 0), (17, I r7.2.2), (19, I r8.2)], [(1, .box 34 [S [116], .tsl 7 (List.map GArticle.cs [r1]) 24]), (3, .box 24 [I 0, I 25, I 20, .tsl 2 (List.map GSlice.cs [(⟨3, 50⟩ : GSlice), (⟨12, 70⟩ : GSlice)]) 31]), (4, .box 38 [I 0, .p (.val (.slice none 0 0)), .p (.val (.slice none 0 0))]), (15, .box 24 (bxc (GSession.cs r7.1))), (16, .box 24 (bxc (GSession.cs r7.2.1))), (24, .arr 47 7 (List.map GArticle.cs [r1]).length), (31, .arr 54 2 (List.map GSlice.cs [(⟨3, 50⟩ : GSlice), (⟨12, 70⟩ : GSlice)]).length)]⟩ krf ?_
 refine sim_seq ?_
 refine sim_reg ?_
 refine xs_run 3 krf ?_
 refine xs_call [.agg [.id, .sl 7], .agg [.id, .sl 2, .sl 1], .agg [.id, .id, .id, .sl 2], .id] krf (g_loophole_Find_ok n (⟨[116], [r1]⟩ : GTariff) (⟨0, [], []⟩ : GCalendar) (⟨0, 25, 20, [(⟨3, 50⟩ : GSlice), (⟨12, 70⟩ : GSlice)]⟩ : GSession) 3) krf krf (fun _ => by kernel_rfl) (fun r9 => ?_)
 refine xs_run 7 krf ?_
 refine xs_end ?_
 refine sq_nk ⟨[3, 5, 6, 7, 8, 9, 10, 11, 12, 13, 14, 15, 16, 17, 19, 22], [3, 15, 16, 31], [], []⟩ ⟨[(3, .ptr 3 0), (5, I r3.1), (6, I r3.2), (7, I r4.1), (8, I r4.2), (9, .p (.sl 1 (List.map ci r5.1))), (10, B r5.2.1), (11, I r5.2.2), (12, .p (.sl 1 (List.map ci r6.1))), (13, B r6.2.1), (14, I r6.2.2), (15, .ptr 15 0), (16, .ptr 16 0), (17, I r7.2.2), (19, I r8.2), (22, I r9.2.2)], [(3, .box 24 [I 0, I 25, I 20, .tsl 2 (List.map GSlice.cs [(⟨3, 50⟩ : GSlice), (⟨12, 70⟩ : GSlice)]) 31]), (15, .box 24 (bxc (GSession.cs r7.1))), (16, .box 24 (bxc (GSession.cs r7.2.1))), (31, .arr 54 2 (List.map GSlice.cs [(⟨3, 50⟩ : GSlice), (⟨12, 70⟩ : GSlice)]).length)]⟩ krf ?_
 refine sim_bind (fun j10 => ⟨[(0, B j10)], []⟩ : Bool → St) ?_ ?_
 ·refine sim_drw Try.fm rfl ?_
  refine xs_run 3 krf ?_
  refine xs_split (eqI r3.2 0) (fun h11 => ?_) (fun h11 => ?_)
  ·refine xs_one (want_tt krf h11) krf ?_
   refine xs_run 3 krf ?_
   refine xs_split (eqI r4.2 0) (fun h12 => ?_) (fun h12 => ?_)
   ·refine xs_one (want_tt krf h12) krf ?_
    refine xs_run 3 krf ?_
    refine xs_split (eqI r5.2.2 0) (fun h13 => ?_) (fun h13 => ?_)
    ·refine xs_one (want_tt krf h13) krf ?_
     refine xs_run 3 krf ?_
     refine xs_split (eqI r6.2.2 0) (fun h14 => ?_) (fun h14 => ?_)
     ·refine xs_one (want_tt krf h14) krf ?_
      refine xs_run 3 krf ?_
      refine xs_split (eqI r7.2.2 0) (fun h15 => ?_) (fun h15 => ?_)
      ·refine xs_one (want_tt krf h15) krf ?_
       refine xs_run 3 krf ?_
       refine xs_split (eqI r8.2 1) (fun h16 => ?_) (fun h16 => ?_)
       ·refine xs_one (want_tt krf h16) krf ?_
        refine xs_run 3 krf ?_
        refine xs_split (eqI r9.2.2 1) (fun h17 => ?_) (fun h17 => ?_)
        ·refine xs_one (want_tt krf h17) krf ?_
         refine xs_run 3 krf ?_
         refine xs_split (eqI r3.1 1500) (fun h18 => ?_) (fun h18 => ?_)
         ·refine xs_one (want_tt krf h18) krf ?_
          refine xs_run 3 krf ?_
          refine xs_split (eqI r4.1 500) (fun h19 => ?_) (fun h19 => ?_)
          ·refine xs_one (want_tt krf h19) krf ?_
           refine xs_run 2 krf ?_
           refine xs_split r5.2.1 (fun h20 => ?_) (fun h20 => ?_)
           ·refine xs_one (want_tt krf h20) krf ?_
            refine xs_run 1 krf ?_
            refine xs_call [.id, .sl 1] krf (g_ref34_Ints_ok n r5.1 [1]) krf krf (fun _ => by kernel_rfl) (fun r21 => ?_)
            refine xs_run 2 krf ?_
            refine xs_split r21 (fun h22 => ?_) (fun h22 => ?_)
            ·refine xs_one (want_tt krf h22) krf ?_
             refine xs_run 3 krf ?_
             refine xs_split (!r6.2.1) (fun h23 => ?_) (fun h23 => ?_)
             ·refine xs_one (want_tt krf h23) krf ?_
              refine xs_run 4 krf ?_
              refine xs_split (eqI (lenI (List.map ci r6.1)) 0) (fun h24 => ?_) (fun h24 => ?_)
              ·refine xs_one (want_tt krf h24) krf ?_
               refine xs_run 2 krf ?_
               refine xs_if krf krf (aop_slice (e := 54) (S := 2) (enc := GSlice.cs) (l := [(⟨3, 50⟩ : GSlice), (⟨12, 70⟩ : GSlice)]) (sv := .tsl 2 (List.map GSlice.cs [(⟨3, 50⟩ : GSlice), (⟨12, 70⟩ : GSlice)]) 31) (a := 0) (b := 1) rfl krf krf krf krf krf krf) ?_
               refine xs_run 1 krf ?_
               refine xs_call [] krf (g_ref34_Same_ok n r7.1 (⟨0, 12, 12, List.drop (Int.toNat 0) (List.take (Int.toNat 1) [(⟨3, 50⟩ : GSlice), (⟨12, 70⟩ : GSlice)])⟩ : GSession)) krf krf (fun _ => by kernel_rfl) (fun r25 => ?_)
               refine xs_run 2 krf ?_
               refine xs_split r25 (fun h26 => ?_) (fun h26 => ?_)
               ·refine xs_one (want_tt krf h26) krf ?_
                refine xs_run 2 krf ?_
                refine xs_if krf krf (aop_slice (e := 54) (S := 2) (enc := GSlice.cs) (l := [(⟨3, 50⟩ : GSlice), (⟨12, 70⟩ : GSlice)]) (sv := .tsl 2 (List.map GSlice.cs [(⟨3, 50⟩ : GSlice), (⟨12, 70⟩ : GSlice)]) 31) (a := 1) (b := lenI (List.map GSlice.cs [(⟨3, 50⟩ : GSlice), (⟨12, 70⟩ : GSlice)])) rfl krf krf krf krf krf krf) ?_
                refine xs_run 1 krf ?_
                refine xs_call [] krf (g_ref34_Same_ok n r7.2.1 (⟨12, 25, 20, List.drop (Int.toNat 1) (List.take (Int.toNat (lenI (List.map GSlice.cs [(⟨3, 50⟩ : GSlice), (⟨12, 70⟩ : GSlice)]))) [(⟨3, 50⟩ : GSlice), (⟨12, 70⟩ : GSlice)])⟩ : GSession)) krf krf (fun _ => by kernel_rfl) (fun r27 => ?_)
                refine xs_run 2 krf ?_
                refine xs_endD krf ?_
                exact nq_n r27 ⟨[0], [], [], []⟩ krf
               ·refine xs_no (want_tf krf h26) krf ?_
                refine xs_run 7 krf ?_
                refine xs_endD krf ?_
                exact nq_n false ⟨[0], [], [], []⟩ krf
              ·refine xs_no (want_tf krf h24) krf ?_
               refine xs_run 15 krf ?_
               refine xs_endD krf ?_
               exact nq_n false ⟨[0], [], [], []⟩ krf
             ·refine xs_no (want_tf krf h23) krf ?_
              refine xs_run 20 krf ?_
              refine xs_endD krf ?_
              exact nq_n false ⟨[0], [], [], []⟩ krf
            ·refine xs_no (want_tf krf h22) krf ?_
             refine xs_run 24 krf ?_
             refine xs_endD krf ?_
             exact nq_n false ⟨[0], [], [], []⟩ krf
           ·refine xs_no (want_tf krf h20) krf ?_
            refine xs_run 29 krf ?_
            refine xs_endD krf ?_
            exact nq_n false ⟨[0], [], [], []⟩ krf
          ·refine xs_no (want_tf krf h19) krf ?_
           refine xs_run 32 krf ?_
           refine xs_endD krf ?_
           exact nq_n false ⟨[0], [], [], []⟩ krf
         ·refine xs_no (want_tf krf h18) krf ?_
          refine xs_run 36 krf ?_
          refine xs_endD krf ?_
          exact nq_n false ⟨[0], [], [], []⟩ krf
        ·refine xs_no (want_tf krf h17) krf ?_
         refine xs_run 40 krf ?_
         refine xs_endD krf ?_
         exact nq_n false ⟨[0], [], [], []⟩ krf
       ·refine xs_no (want_tf krf h16) krf ?_
        refine xs_run 44 krf ?_
        refine xs_endD krf ?_
        exact nq_n false ⟨[0], [], [], []⟩ krf
      ·refine xs_no (want_tf krf h15) krf ?_
       refine xs_run 48 krf ?_
       refine xs_endD krf ?_
       exact nq_n false ⟨[0], [], [], []⟩ krf
     ·refine xs_no (want_tf krf h14) krf ?_
      refine xs_run 52 krf ?_
      refine xs_endD krf ?_
      exact nq_n false ⟨[0], [], [], []⟩ krf
    ·refine xs_no (want_tf krf h13) krf ?_
     refine xs_run 56 krf ?_
     refine xs_endD krf ?_
     exact nq_n false ⟨[0], [], [], []⟩ krf
   ·refine xs_no (want_tf krf h12) krf ?_
    refine xs_run 60 krf ?_
    refine xs_endD krf ?_
    exact nq_n false ⟨[0], [], [], []⟩ krf
  ·refine xs_no (want_tf krf h11) krf ?_
   refine xs_run 64 krf ?_
   refine xs_endD krf ?_
   exact nq_n false ⟨[0], [], [], []⟩ krf
 ·rintro j10
  refine sim_ret ?_
  exact rq_ret (.id) krf krf krf
def g_law34_LoopholeParts (n : Nat) (a0s : GSession) (a1minute : Int) : Option Bool :=
 (g_law34_head n).bind fun r1 =>
 (g_loophole_Split n a0s a1minute).bind fun r2 =>
 cond (!eqI r2.2.2 0)
  (some r1)
  (cond (roomB (List.length ([] ++ r2.1.Slices)) 16) (
   cond (roomB (List.length (([] ++ r2.1.Slices) ++ r2.2.1.Slices)) 16) (
    (cond r1
     ((g_bill_Valid n r2.1).bind fun r5 =>
     cond r5
      ((g_bill_Valid n r2.2.1).bind fun r7 =>
      cond r7
       (cond (eqI r2.1.From a0s.From)
        (cond (eqI r2.1.To a1minute)
         (cond (eqI r2.2.1.From a1minute)
          (cond (eqI r2.2.1.To a0s.To)
           (cond (eqI (wi ((wi ((wi (r2.1.To - r2.1.End)) + r2.2.1.To)) - r2.2.1.End)) (wi (a0s.To - a0s.End)))
            ((g_ref34_Same n (⟨0, 0, 0, ([] ++ r2.1.Slices) ++ r2.2.1.Slices⟩ : GSession) (⟨0, 0, 0, a0s.Slices⟩ : GSession)).bind fun r14 =>
            some r14)
            (some false))
           (some false))
          (some false))
         (some false))
        (some false))
       (some false))
      (some false))
     (some false)).bind fun j3 =>
    some j3) none) none)
theorem g_law34_LoopholeParts_ok (n : Nat) (a0s : GSession) (a1minute : Int) : ∀ r, g_law34_LoopholeParts n a0s a1minute = some r → PCall Try.prog 3 [ag (GSession.cs a0s), I a1minute] (.ret (B r)) := by
 refine pcall_sim (X := fun r : Bool => AEnd.ret (B r)) Try.func3 rfl Try.ntmps3 rfl ?_
 unfold g_law34_LoopholeParts
 refine sim_run Try.fm ⟨[1, 2], [2], [], []⟩ ⟨[(1, I a1minute), (2, .ptr 2 0)], [(2, .box 24 (bxc (GSession.cs a0s)))]⟩ krf ?_
 refine sim_seq ?_
 refine sim_reg ?_
 refine xs_call [] krf (g_law34_head_ok n) krf krf (fun _ => by kernel_rfl) (fun r1 => ?_)
 refine xs_run 1 krf ?_
 refine xs_end ?_
 refine sq_nk ⟨[1, 2, 5], [2], [], []⟩ ⟨[(1, I a1minute), (2, .ptr 2 0), (5, B r1)], [(2, .box 24 (bxc (GSession.cs a0s)))]⟩ krf ?_
 refine sim_seq ?_
 refine sim_reg ?_
 refine xs_run 2 krf ?_
 refine xs_call [] krf (g_loophole_Split_ok n a0s a1minute) krf krf (fun _ => by kernel_rfl) (fun r2 => ?_)
 refine xs_run 9 krf ?_
 refine xs_end ?_
 refine sq_nk ⟨[1, 2, 5, 6, 7, 8], [2, 6, 7], [], []⟩ ⟨[(1, I a1minute), (2, .ptr 2 0), (5, B r1), (6, .ptr 6 0), (7, .ptr 7 0), (8, I r2.2.2)], [(2, .box 24 (bxc (GSession.cs a0s))), (6, .box 24 (bxc (GSession.cs r2.1))), (7, .box 24 (bxc (GSession.cs r2.2.1)))]⟩ krf ?_
 refine sim_seq ?_
 refine sim_run Try.fm ⟨[1, 2, 5, 6, 7, 19], [2, 6, 7], [], []⟩ ⟨[(1, I a1minute), (2, .ptr 2 0), (5, B r1), (6, .ptr 6 0), (7, .ptr 7 0), (19, B (!eqI r2.2.2 0))], [(2, .box 24 (bxc (GSession.cs a0s))), (6, .box 24 (bxc (GSession.cs r2.1))), (7, .box 24 (bxc (GSession.cs r2.2.1)))]⟩ krf ?_
 refine sim_cond (!eqI r2.2.2 0) krf ?_ ?_
 ·refine sim_run Try.fm ⟨[4], [], [], []⟩ ⟨[(4, B r1)], []⟩ krf ?_
  refine sim_ret ?_
  refine sq_r ?_
  exact rq_ret (.id) krf krf krf
 ·refine sim_skip ?_
  refine sq_nk ⟨[1, 2, 5, 6, 7], [2, 6, 7], [], []⟩ ⟨[(1, I a1minute), (2, .ptr 2 0), (5, B r1), (6, .ptr 6 0), (7, .ptr 7 0)], [(2, .box 24 (bxc (GSession.cs a0s))), (6, .box 24 (bxc (GSession.cs r2.1))), (7, .box 24 (bxc (GSession.cs r2.2.1)))]⟩ krf ?_
  refine sim_seq ?_
  refine sim_drw Try.fm rfl ?_
  refine xs_run 3 krf ?_
  refine xs_if krf krf (aop_vapp (e := 54) (S := 2) (by_ := 16) (enc := GSlice.cs) (tk := 21) (l := []) (l2 := r2.1.Slices) (xv := .p (.sl 2 (List.map GSlice.cs r2.1.Slices))) (n := (List.map GSlice.cs []).length) rfl krf krf rfl krf krf krf krf (by simp)) ?_
  refine xs_run 2 krf ?_
  refine xs_if krf krf (aop_vapp (e := 54) (S := 2) (by_ := 16) (enc := GSlice.cs) (tk := 21) (l := [] ++ r2.1.Slices) (l2 := r2.2.1.Slices) (xv := .p (.sl 2 (List.map GSlice.cs r2.2.1.Slices))) (n := (List.map GSlice.cs ([] ++ r2.1.Slices)).length) rfl krf krf rfl krf krf krf krf (by simp)) ?_
  refine xs_run 1 krf ?_
  refine xs_endD krf ?_
  refine sq_nk ⟨[1, 2, 5, 6, 7, 9], [2, 6, 7, 21], [], []⟩ ⟨[(1, I a1minute), (2, .ptr 2 0), (5, B r1), (6, .ptr 6 0), (7, .ptr 7 0), (9, .vsl 2 21 (List.map GSlice.cs (([] ++ r2.1.Slices) ++ r2.2.1.Slices)).length)], [(2, .box 24 (bxc (GSession.cs a0s))), (6, .box 24 (bxc (GSession.cs r2.1))), (7, .box 24 (bxc (GSession.cs r2.2.1))), (21, .vec 54 2 (List.map GSlice.cs (([] ++ r2.1.Slices) ++ r2.2.1.Slices)))]⟩ krf ?_
  refine sim_weak (weak_vfz 21 54 2 (List.map GSlice.cs (([] ++ r2.1.Slices) ++ r2.2.1.Slices)) [(List.map GSlice.cs (([] ++ r2.1.Slices) ++ r2.2.1.Slices)).length] krf krf (by simp) krf krf) ?_
  refine sim_bind (fun j3 => ⟨[(4, B j3)], []⟩ : Bool → St) ?_ ?_
  ·refine sim_reg ?_
   refine xs_run 2 krf ?_
   refine xs_split r1 (fun h4 => ?_) (fun h4 => ?_)
   ·refine xs_one (want_tt krf h4) krf ?_
    refine xs_call [] krf (g_bill_Valid_ok n r2.1) krf krf (fun _ => by kernel_rfl) (fun r5 => ?_)
    refine xs_run 2 krf ?_
    refine xs_split r5 (fun h6 => ?_) (fun h6 => ?_)
    ·refine xs_one (want_tt krf h6) krf ?_
     refine xs_call [] krf (g_bill_Valid_ok n r2.2.1) krf krf (fun _ => by kernel_rfl) (fun r7 => ?_)
     refine xs_run 2 krf ?_
     refine xs_split r7 (fun h8 => ?_) (fun h8 => ?_)
     ·refine xs_one (want_tt krf h8) krf ?_
      refine xs_run 6 krf ?_
      refine xs_split (eqI r2.1.From a0s.From) (fun h9 => ?_) (fun h9 => ?_)
      ·refine xs_one (want_tt krf h9) krf ?_
       refine xs_run 5 krf ?_
       refine xs_split (eqI r2.1.To a1minute) (fun h10 => ?_) (fun h10 => ?_)
       ·refine xs_one (want_tt krf h10) krf ?_
        refine xs_run 5 krf ?_
        refine xs_split (eqI r2.2.1.From a1minute) (fun h11 => ?_) (fun h11 => ?_)
        ·refine xs_one (want_tt krf h11) krf ?_
         refine xs_run 6 krf ?_
         refine xs_split (eqI r2.2.1.To a0s.To) (fun h12 => ?_) (fun h12 => ?_)
         ·refine xs_one (want_tt krf h12) krf ?_
          refine xs_run 18 krf ?_
          refine xs_split (eqI (wi ((wi ((wi (r2.1.To - r2.1.End)) + r2.2.1.To)) - r2.2.1.End)) (wi (a0s.To - a0s.End))) (fun h13 => ?_) (fun h13 => ?_)
          ·refine xs_one (want_tt krf h13) krf ?_
           refine xs_run 4 krf ?_
           refine xs_call [] krf (g_ref34_Same_ok n (⟨0, 0, 0, ([] ++ r2.1.Slices) ++ r2.2.1.Slices⟩ : GSession) (⟨0, 0, 0, a0s.Slices⟩ : GSession)) krf krf (fun _ => by kernel_rfl) (fun r14 => ?_)
           refine xs_run 2 krf ?_
           refine xs_end ?_
           exact nq_n r14 ⟨[4], [], [], []⟩ krf
          ·refine xs_no (want_tf krf h13) krf ?_
           refine xs_run 7 krf ?_
           refine xs_end ?_
           exact nq_n false ⟨[4], [], [], []⟩ krf
         ·refine xs_no (want_tf krf h12) krf ?_
          refine xs_run 26 krf ?_
          refine xs_end ?_
          exact nq_n false ⟨[4], [], [], []⟩ krf
        ·refine xs_no (want_tf krf h11) krf ?_
         refine xs_run 33 krf ?_
         refine xs_end ?_
         exact nq_n false ⟨[4], [], [], []⟩ krf
       ·refine xs_no (want_tf krf h10) krf ?_
        refine xs_run 39 krf ?_
        refine xs_end ?_
        exact nq_n false ⟨[4], [], [], []⟩ krf
      ·refine xs_no (want_tf krf h9) krf ?_
       refine xs_run 45 krf ?_
       refine xs_end ?_
       exact nq_n false ⟨[4], [], [], []⟩ krf
     ·refine xs_no (want_tf krf h8) krf ?_
      refine xs_run 52 krf ?_
      refine xs_end ?_
      exact nq_n false ⟨[4], [], [], []⟩ krf
    ·refine xs_no (want_tf krf h6) krf ?_
     refine xs_run 56 krf ?_
     refine xs_end ?_
     exact nq_n false ⟨[4], [], [], []⟩ krf
   ·refine xs_no (want_tf krf h4) krf ?_
    refine xs_run 60 krf ?_
    refine xs_end ?_
    exact nq_n false ⟨[4], [], [], []⟩ krf
  ·rintro j3
   refine sim_ret ?_
   exact rq_ret (.id) krf krf krf
end Go.Proofs
namespace Go.Proofs
open Go Go.Abs
set_option maxRecDepth 100000
set_option linter.unusedVariables false
structure GQuoteQuoted where
 Tariff : GTariff
 calendar : GCalendar
 from_ : Int
 to_ : Int
deriving DecidableEq
def GQuoteQuoted.cs (x : GQuoteQuoted) : List PV := [VS x.Tariff.Name, .sl 7 (List.map GArticle.cs x.Tariff.Articles), VI x.calendar.Offset, .sl 2 (List.map GChange.cs x.calendar.Changes), .sl 1 (List.map ci x.calendar.Holidays), VI x.from_, VI x.to_]
structure GReading where
 Serial : Int
 Number : Int
 Minute : Int
 Register : Int
 Link : Int
deriving DecidableEq
def GReading.cs (x : GReading) : List PV := [VI x.Serial, VI x.Number, VI x.Minute, VI x.Register, VU x.Link]
structure GClaim where
 Tariff : GTariff
 Calendar : GCalendar
 Readings : List GReading
 Seed : Int
 Session : GSession
 Bill : GBill
deriving DecidableEq
def GClaim.cs (x : GClaim) : List PV := [VS x.Tariff.Name, .sl 7 (List.map GArticle.cs x.Tariff.Articles), VI x.Calendar.Offset, .sl 2 (List.map GChange.cs x.Calendar.Changes), .sl 1 (List.map ci x.Calendar.Holidays), .sl 5 (List.map GReading.cs x.Readings), VU x.Seed, VI x.Session.From, VI x.Session.To, VI x.Session.End, .sl 2 (List.map GSlice.cs x.Session.Slices), .sl 2 (List.map GLine.cs x.Bill.Lines), VI x.Bill.Net, VI x.Bill.Tax, VI x.Bill.Total]
structure GAE where
 Claim : GClaim
 follows : GSession
 bill : GBill
 rate : Int
deriving DecidableEq
def GAE.cs (x : GAE) : List PV := [VS x.Claim.Tariff.Name, .sl 7 (List.map GArticle.cs x.Claim.Tariff.Articles), VI x.Claim.Calendar.Offset, .sl 2 (List.map GChange.cs x.Claim.Calendar.Changes), .sl 1 (List.map ci x.Claim.Calendar.Holidays), .sl 5 (List.map GReading.cs x.Claim.Readings), VU x.Claim.Seed, VI x.Claim.Session.From, VI x.Claim.Session.To, VI x.Claim.Session.End, .sl 2 (List.map GSlice.cs x.Claim.Session.Slices), .sl 2 (List.map GLine.cs x.Claim.Bill.Lines), VI x.Claim.Bill.Net, VI x.Claim.Bill.Tax, VI x.Claim.Bill.Total, VI x.follows.From, VI x.follows.To, VI x.follows.End, .sl 2 (List.map GSlice.cs x.follows.Slices), .sl 2 (List.map GLine.cs x.bill.Lines), VI x.bill.Net, VI x.bill.Tax, VI x.bill.Total, VI x.rate]
end Go.Proofs
namespace Go.Proofs
open Go Go.Abs Go.ChangeShapes Go.WideShapes Go.ChangeAt Go.RowKit Go.Proofs.Ytfkhnaogcahcoaa
set_option maxRecDepth 100000
set_option linter.unusedVariables false
structure GSlice.wf (x : GSlice) : Prop where
 Minute : i64b x.Minute
 Energy : i64b x.Energy
theorem sh_GSlice {d : Nat} {cs : List PV} (h : Sh Try.prog (d + 2) 54 cs) : ∃ r : GSlice, cs = GSlice.cs r ∧ GSlice.wf r := by
 have h := sh_struct Try.underlying54 h
 obtain ⟨_, _, rfl, h0, _, _, rfl, h1, rfl⟩ := h
 obtain ⟨x0, rfl, w0⟩ := sh_i64 Try.underlying3 h0
 obtain ⟨x1, rfl, w1⟩ := sh_i64 Try.underlying3 h1
 exact ⟨⟨x0, x1⟩, rfl, ⟨w0, w1⟩⟩
structure GSession.wf (x : GSession) : Prop where
 From : i64b x.From
 To : i64b x.To
 End : i64b x.End
 Slices : (listb GSlice.wf) x.Slices
theorem sh_GSession {d : Nat} {cs : List PV} (h : Sh Try.prog (d + 4) 24 cs) : ∃ r : GSession, cs = GSession.cs r ∧ GSession.wf r := by
 have h := sh_struct Try.underlying24 h
 obtain ⟨_, _, rfl, h0, _, _, rfl, h1, _, _, rfl, h2, _, _, rfl, h3, rfl⟩ := h
 obtain ⟨x0, rfl, w0⟩ := sh_i64 Try.underlying3 h0
 obtain ⟨x1, rfl, w1⟩ := sh_i64 Try.underlying3 h1
 obtain ⟨x2, rfl, w2⟩ := sh_i64 Try.underlying3 h2
 obtain ⟨x3, rfl, w3⟩ := sh_list (S := 2) (f := GSlice.cs) (W := GSlice.wf) Try.underlying22 krf (fun c h => sh_GSlice h) h3
 exact ⟨⟨x0, x1, x2, x3⟩, rfl, ⟨w0, w1, w2, w3⟩⟩
def LoopholePartsPlain : Prop := ∀ (a0 : GSession) (a1 : Int), GSession.wf a0 → i64b a1 → ∃ n, g_law34_LoopholeParts n a0 a1 = some true
theorem loopholeParts_call (h : LoopholePartsPlain) : ∀ xs, ArgsSh Try.prog 9 Try.f3.params.toList xs → PCall Try.prog 3 xs (.ret (.p (.val (.bool true)))) := by
 intro xs ha
 rw [Try.params3] at ha
 obtain ⟨_, _, rfl, h0, _, _, rfl, h1, rfl⟩ := ha
 obtain ⟨a0, rfl, w0⟩ := sh_GSession h0
 obtain ⟨a1, rfl, w1⟩ := sh_i64 Try.underlying3 h1
 obtain ⟨n, hn⟩ := h a0 a1 w0 w1
 simp only [avOf_struct Try.underlying24, avOf_int Try.underlying3]
 exact g_law34_LoopholeParts_ok n a0 a1 true hn
set_option maxRecDepth 100000 in
theorem loopholeParts_lifted (h : LoopholePartsPlain) (os : Os) (started : os.Started) (H : Type) (enc : TypeId × Value → H) :
  ReturnsInHanded {} Try.checked os 3 .any (Rows.loopholePartsSpec.pre6 enc Try.prog Try.f3 Rows.loopholePartsRow.domain false) (Rows.loopholePartsSpec.post enc Try.prog Try.f3 false true false false) := by
 refine returnsInHanded_of_change (C := Try.checked) krf started krf Try.func3
  (ChangeSpec.witness6 (enc := enc) (C := Try.checked) false ⟨#[], #[.agg #[.int .i64 0, .int .i64 0, .int .i64 0, .slice none 0 0], .int .i64 0], []⟩ 8 krf krf krf krf) ?_
 intro W base args ds gs before hval hW _ _
 exact law_contract (P := Try.prog) (f := 3) (fn := Try.f3) (s := Rows.loopholePartsSpec) (tb := 4) (d := 9) krf krf krf krf Try.underlying4 rfl
  (fun ds hd => by
   have hd : ds.length = 2 := by rw [hd, show Try.f3.params.size = 2 from by kernel_rfl]
   match ds, hd with
   | [d0, d1], _ => rfl)
  (loopholeParts_call h) hval hW
theorem loopholeParts_said (h : LoopholePartsPlain) : Rows.LoopholePartsSaid :=
 OpenClaim.holds_of_wide 3 Try.f3 rfl rfl rfl rfl rfl rfl rfl ⟨rfl, rfl, rfl, rfl, rfl⟩ rfl rfl rfl rfl rfl krf Try.func3 krf
  (of_decide_eq_true krf) (by unfold Func.isWrapper; first | (rw [if_pos (by decide +kernel)]; kernel_rfl) | (rw [if_neg (by decide +kernel)]; exact ⟨rfl, rfl⟩))
  (fun os started H enc _ => loopholeParts_lifted h os started H enc)
end Go.Proofs
namespace Go.Proofs
open Go Go.Abs
set_option maxRecDepth 100000
set_option linter.unusedVariables false
theorem getI_nat {α : Type} {l : List α} {i : Nat} : getI l (i : Int) = l[i]? := by
 unfold getI; rw [if_neg (by omega)]; simp
theorem wi_id {x : Int} (h1 : -9223372036854775808 ≤ x) (h2 : x ≤ 9223372036854775807) : wi x = x := by
 simp [wi, IntKind.wrap, IntKind.signed, IntKind.bits]; omega
def folB (a r : GReading) : Bool := if r.Serial = a.Serial then decide (a.Minute ≤ r.Minute ∧ a.Register ≤ r.Register) else decide (r.Minute = a.Minute)
def mixB (s x k : Int) : Int := wu ((bXor .u64 s (bAnd .u64 (shrI .u64 (wu x) k) 255)) * 1099511628211)
def mixW (s x : Int) : Int := [56, 48, 40, 32, 24, 16, 8, 0].foldl (fun s k => mixB s x k) s
def linkF (s : Int) (r : GReading) : Int := [r.Serial, r.Number, r.Minute, r.Register].foldl mixW s
def prevLink (seed : Int) (l : List GReading) (i : Nat) : Int := if i = 0 then seed else ((l[i - 1]?).map (·.Link)).getD 0
def chainAt (seed : Int) (l : List GReading) (i : Nat) : Prop := ∀ r ∈ l[i]?, (1 ≤ r.Serial ∧ r.Serial ≤ 1000000) ∧ r.Number = i + 1 ∧ (0 ≤ r.Minute ∧ r.Minute ≤ 52560000) ∧ (0 ≤ r.Register ∧ r.Register ≤ 1000000000) ∧
 (i ≠ 0 → ∀ a ∈ l[i - 1]?, folB a r = true) ∧ r.Link = linkF (prevLink seed l i) r
def chainOk (seed : Int) (l : List GReading) : Prop := (1 ≤ l.length ∧ l.length ≤ 64) ∧ ∀ i, i < l.length → chainAt seed l i
end Go.Proofs
namespace Go.Proofs
open Go Go.Abs
set_option maxRecDepth 100000
set_option linter.unusedVariables false
theorem eqI_d (x y : Int) : eqI x y = decide (x = y) := by unfold eqI; by_cases h : x = y <;> simp [h]
theorem cond_some {α : Type} {b : Bool} {x y : α} : cond b (some x) (some y) = some (cond b x y) := by cases b <;> rfl
theorem loop_gen {α R A V : Type} {l : List α} (S : A → Int → V) {B : (V → Option R) → V → Option R} {F : A → List α → R} (Inv : Nat → A → Prop) (hlen : l.length ≤ 4611686018427387904)
  (hend : ∀ rec a, Inv l.length a → B rec (S a (l.length : Int)) = some (F a []))
  (hstep : ∀ (rec : V → Option R) (a : A) (i : Nat) (x : α) (r : List α), Inv i a → l.drop i = x :: r → l[i]? = some x → i < l.length → wi ((i : Int) + 1) = ((i + 1 : Nat) : Int) → (∀ a, Inv (i + 1) a → rec (S a ((i + 1 : Nat) : Int)) = some (F a r)) → B rec (S a (i : Int)) = some (F a (x :: r))) :
  ∀ {n : Nat} (i : Nat) (a : A), Inv i a → i ≤ l.length → l.length - i < n → loopN B n (S a (i : Int)) = some (F a (l.drop i))
 | 0, _, _, _, _, h => absurd h (Nat.not_lt_zero _)
 | n + 1, i, a, ha, hi, h => by
  unfold loopN
  by_cases he : i = l.length
  ·subst he; rw [hend _ _ ha]; simp
  ·have hlt : i < l.length := by omega
   have hd : l.drop i = l[i] :: l.drop (i + 1) := by rw [List.drop_eq_getElem_cons hlt]
   rw [hd]
   exact hstep _ a i _ _ ha hd (by simp [hlt]) hlt (by rw [wi_id] <;> omega) (fun a ha => loop_gen S Inv hlen hend hstep (i + 1) a ha (by omega) (by omega))
end Go.Proofs
namespace Go.Proofs
open Go Go.Abs
set_option maxRecDepth 100000
set_option linter.unusedVariables false
def slB (f e : Int) : Int → List GSlice → Bool
 | _, [] => true
 | p, x :: r => decide (f ≤ x.Minute ∧ x.Minute < e ∧ 0 ≤ x.Energy ∧ x.Energy ≤ 10000 ∧ p < x.Minute) && slB f e x.Minute r
def valB (s : GSession) : Bool := decide (0 ≤ s.From ∧ s.From < s.To ∧ s.To ≤ 52560000 ∧ s.To - s.From ≤ 2880 ∧ s.From ≤ s.End ∧ s.End ≤ s.To ∧ s.Slices.length ≤ 48) && slB s.From s.End (s.From - 1) s.Slices
end Go.Proofs
namespace Go.Proofs
open Go Go.Abs
set_option maxRecDepth 100000
set_option linter.unusedVariables false
theorem b_session (n : Nat) (s : GSession) (hn : 1000 ≤ n) (hl : s.Slices.length ≤ 900) (hb : i64b s.To) : g_bill_Valid n s = some (valB s) := by
 unfold i64b at hb
 unfold g_bill_Valid valB
 simp only [ltI, leI, lenI, List.length_map]
 by_cases c1 : s.From < 0
 ·rw [decide_eq_true c1, cond_true, Option.bind_some, cond_true, decide_eq_false (by omega)]; rfl
 rw [decide_eq_false c1, cond_false]
 by_cases c2 : s.To ≤ s.From
 ·rw [decide_eq_true c2, cond_true, Option.bind_some, cond_true, decide_eq_false (by omega)]; rfl
 rw [decide_eq_false c2, cond_false, wi_id (x := s.To - s.From) (by omega) (by omega)]
 by_cases c4 : 2880 < s.To - s.From
 ·rw [decide_eq_true c4, cond_true, Option.bind_some, cond_true, decide_eq_false (by omega)]; rfl
 rw [decide_eq_false c4, cond_false, Option.bind_some]
 by_cases c3 : 52560000 < s.To
 ·rw [decide_eq_true c3, cond_true, decide_eq_false (by omega)]; rfl
 rw [decide_eq_false c3, cond_false]
 by_cases c5 : s.End < s.From
 ·rw [decide_eq_true c5, cond_true, Option.bind_some, cond_true, decide_eq_false (by omega)]; rfl
 rw [decide_eq_false c5, cond_false]
 by_cases c6 : s.To < s.End
 ·rw [decide_eq_true c6, cond_true, Option.bind_some, cond_true, decide_eq_false (by omega)]; rfl
 rw [decide_eq_false c6, cond_false, Option.bind_some]
 by_cases c7 : s.Slices.length ≤ 48
 rotate_left
 ·rw [decide_eq_true (show (48 : Int) < s.Slices.length by omega), cond_true, decide_eq_false (show ¬ (0 ≤ s.From ∧ s.From < s.To ∧ s.To ≤ 52560000 ∧ s.To - s.From ≤ 2880 ∧ s.From ≤ s.End ∧ s.End ≤ s.To ∧ s.Slices.length ≤ 48) by omega)]; rfl
 rw [decide_eq_false (show ¬ (48 : Int) < s.Slices.length by omega), cond_false, decide_eq_true (show 0 ≤ s.From ∧ s.From < s.To ∧ s.To ≤ 52560000 ∧ s.To - s.From ≤ 2880 ∧ s.From ≤ s.End ∧ s.End ≤ s.To ∧ s.Slices.length ≤ 48 by omega), Bool.true_and, wi_id (x := s.From - 1) (by omega) (by omega)]
 have := loop_gen (l := s.Slices) (fun (a : Int) i => (a, i)) (B := fun recl8 (v : Int × Int) => g_bill_Valid_l8 s recl8 v.1 v.2) (F := slB s.From s.End) (fun i a => s.From - 1 ≤ a) (by omega) ?_ ?_ (n := n) 0 (s.From - 1) (Int.le_refl _) (by omega) (by omega)
 ·exact this
 ·intro rec a ha
  simp only [g_bill_Valid_l8, lenI, List.length_map, ltI]
  rw [decide_eq_false (by omega), cond_false]
  rfl
 ·intro rec a i x r ha hd hx hi hw hr
  simp only [g_bill_Valid_l8, lenI, List.length_map, ltI, leI, getI_nat, hx, Option.bind_some, hw]
  rw [decide_eq_true (by omega), cond_true, slB]
  by_cases d1 : x.Minute ≤ a
  ·rw [decide_eq_true d1, cond_true, Option.bind_some, cond_true, decide_eq_false (by omega)]; rfl
  rw [decide_eq_false d1, cond_false]
  by_cases d2 : s.End ≤ x.Minute
  ·rw [decide_eq_true d2, cond_true, Option.bind_some, cond_true, decide_eq_false (by omega)]; rfl
  rw [decide_eq_false d2, cond_false]
  by_cases d3 : x.Energy < 0
  ·rw [decide_eq_true d3, cond_true, Option.bind_some, cond_true, decide_eq_false (by omega)]; rfl
  rw [decide_eq_false d3, cond_false, Option.bind_some]
  by_cases d4 : 10000 < x.Energy
  ·rw [decide_eq_true d4, cond_true, decide_eq_false (by omega)]; rfl
  rw [decide_eq_false d4, cond_false, hr x.Minute (by omega), decide_eq_true (by omega)]; rfl
end Go.Proofs
namespace Go.Proofs
open Go Go.Abs
set_option maxRecDepth 100000
set_option linter.unusedVariables false
def inP (f t : Int) (x : GSlice) : Bool := decide (f ≤ x.Minute) && decide (x.Minute < t)
def parL (f t : Int) (l : List GSlice) : List GSlice := l.filter (inP f t)
def parV (s : GSession) (f t : Int) : GSession := ⟨f, t, minI (maxI s.End f) t, parL f t s.Slices⟩
theorem parL_len (f t : Int) (l : List GSlice) : (parL f t l).length ≤ l.length := List.length_filter_le _ _
theorem l_session (n : Nat) (s : GSession) (hn : 1000 ≤ n) (hb : i64b s.To) : g_bill_Valid n s = some (valB s) := by
 by_cases hl : s.Slices.length ≤ 900
 ·exact b_session n s hn hl hb
 unfold i64b at hb
 unfold g_bill_Valid valB
 simp only [ltI, leI, lenI, List.length_map]
 rw [decide_eq_false (show ¬ (0 ≤ s.From ∧ s.From < s.To ∧ s.To ≤ 52560000 ∧ s.To - s.From ≤ 2880 ∧ s.From ≤ s.End ∧ s.End ≤ s.To ∧ s.Slices.length ≤ 48) by omega), Bool.false_and]
 rw [decide_eq_true (show (48 : Int) < s.Slices.length by omega)]
 cases decide (s.From < 0) <;> cases decide (s.To ≤ s.From) <;> cases decide (2880 < wi (s.To - s.From)) <;> cases decide (52560000 < s.To) <;> cases decide (s.End < s.From) <;> cases decide (s.To < s.End) <;> rfl
theorem l_part (n : Nat) (s : GSession) (f t : Int) (hn : 1000 ≤ n) (hl : s.Slices.length ≤ 900) : g_loophole_part n s f t = some (parV s f t) := by
 unfold g_loophole_part
 have := loop_gen (l := s.Slices) (fun (a : OL GSlice) i => (i, a)) (B := fun recl1 (v : Int × OL GSlice) => g_loophole_part_l1 s f t recl1 v.1 v.2) (F := fun a r => (⟨f, t, minI (maxI s.End f) t, a.toL ++ parL f t r⟩ : GSession)) (fun i a => a.toL.length ≤ i) (by omega) ?_ ?_ (n := n) 0 OL.nil (Nat.le_refl _) (by omega) (by omega)
 ·refine Eq.trans this ?_
  simp [parV, OL.toL]
 ·intro rec a ha
  simp only [g_loophole_part_l1, lenI, List.length_map, ltI]
  rw [decide_eq_false (by omega), cond_false]
  simp [parL]
 ·intro rec a i x r ha hd hx hi hw hr
  simp only [g_loophole_part_l1, lenI, List.length_map, ltI, leI, getI_nat, hx, Option.bind_some, hw]
  rw [decide_eq_true (by omega), cond_true]
  have e1 : ((bif decide (f ≤ x.Minute) then some (decide (x.Minute < t)) else some false).bind fun j3 => bif j3 then bif roomB (List.length (a.toL ++ [x])) 16 then rec (((i + 1 : Nat) : Int), OL.own (a.toL ++ [x])) else none else rec (((i + 1 : Nat) : Int), a)) = (bif inP f t x then bif roomB (List.length (a.toL ++ [x])) 16 then rec (((i + 1 : Nat) : Int), OL.own (a.toL ++ [x])) else none else rec (((i + 1 : Nat) : Int), a)) := by
   unfold inP
   cases decide (f ≤ x.Minute) <;> cases decide (x.Minute < t) <;> rfl
  rw [e1]
  have e2 : roomB (List.length (a.toL ++ [x])) 16 = true := by
   simp only [roomB, List.length_append, List.length_cons, List.length_nil, decide_eq_true_eq]
   omega
  rw [e2, cond_true]
  have e3 : parL f t (x :: r) = bif inP f t x then x :: parL f t r else parL f t r := by
   unfold parL
   rw [List.filter_cons]
   cases inP f t x <;> rfl
  rw [e3]
  cases inP f t x
  ·rw [cond_false, cond_false]
   exact hr a (by omega)
  ·rw [cond_true, cond_true]
   refine (hr (OL.own (a.toL ++ [x])) ?_).trans ?_
   ·show (a.toL ++ [x]).length ≤ i + 1
    simp only [List.length_append, List.length_cons, List.length_nil]; omega
   ·simp [OL.toL]
theorem slB_memP {f e : Int} : ∀ (l : List GSlice) (p : Int), slB f e p l = true → ∀ x ∈ l, f ≤ x.Minute ∧ x.Minute < e ∧ 0 ≤ x.Energy ∧ x.Energy ≤ 10000 ∧ p < x.Minute
 | [], _, _, x, hx => by cases hx
 | y :: l, p, h, x, hx => by
  simp only [slB, Bool.and_eq_true, decide_eq_true_eq] at h
  rcases List.mem_cons.1 hx with rfl | hx
  ·exact h.1
  ·have := slB_memP l _ h.2 x hx
   omega
theorem slB_mono {f e f' e' : Int} : ∀ (l : List GSlice) (p p' : Int), slB f e p l = true → (∀ x ∈ l, f' ≤ x.Minute ∧ x.Minute < e' ∧ p' < x.Minute) → slB f' e' p' l = true
 | [], _, _, _, _ => rfl
 | y :: l, p, p', h, hx => by
  have hm := slB_memP (f := f) (e := e) l
  simp only [slB, Bool.and_eq_true, decide_eq_true_eq] at h ⊢
  have h1 := hx y (List.mem_cons_self ..)
  refine ⟨by omega, slB_mono l _ _ h.2 fun x hxl => ?_⟩
  have h2 := hx x (List.mem_cons_of_mem _ hxl)
  have h3 := hm _ h.2 x hxl
  omega
theorem slB_filter {f e : Int} (q : GSlice → Bool) : ∀ (l : List GSlice) (p : Int), slB f e p l = true → slB f e p (l.filter q) = true
 | [], _, _ => rfl
 | y :: l, p, h => by
  have h0 := h
  simp only [slB, Bool.and_eq_true, decide_eq_true_eq] at h
  rw [List.filter_cons]
  split
  ·simp only [slB, Bool.and_eq_true, decide_eq_true_eq]
   exact ⟨h.1, slB_filter q l _ h.2⟩
  ·refine slB_filter q l p (slB_mono l _ _ h.2 fun x hx => ?_)
   have := slB_memP l _ h.2 x hx
   omega
theorem valB_spec {s : GSession} (h : valB s = true) : 0 ≤ s.From ∧ s.From < s.To ∧ s.To ≤ 52560000 ∧ s.To - s.From ≤ 2880 ∧ s.From ≤ s.End ∧ s.End ≤ s.To ∧ s.Slices.length ≤ 48 := by
 simp only [valB, Bool.and_eq_true, decide_eq_true_eq] at h; exact h.1
theorem valB_sl {s : GSession} (h : valB s = true) : slB s.From s.End (s.From - 1) s.Slices = true := by
 simp only [valB, Bool.and_eq_true, decide_eq_true_eq] at h; exact h.2
theorem parV_val {s : GSession} {f t : Int} (h : valB s = true) (h1 : s.From ≤ f) (h2 : f < t) (h3 : t ≤ s.To) : valB (parV s f t) = true := by
 have hs := valB_spec h
 have hl := valB_sl h
 have hlen := parL_len f t s.Slices
 have he : f ≤ minI (maxI s.End f) t ∧ minI (maxI s.End f) t ≤ t := by unfold minI maxI; split <;> split <;> omega
 have hsl : slB f (minI (maxI s.End f) t) (f - 1) (parL f t s.Slices) = true := by
  refine slB_mono _ _ _ (slB_filter (inP f t) _ _ hl) fun x hx => ?_
  have hx2 := List.mem_filter.1 hx
  have hx3 := slB_memP _ _ hl x hx2.1
  have hx4 : f ≤ x.Minute ∧ x.Minute < t := by simpa [inP] using hx2.2
  refine ⟨hx4.1, ?_, by omega⟩
  unfold minI maxI; split <;> split <;> omega
 unfold valB parV
 simp only [Bool.and_eq_true, decide_eq_true_eq]
 exact ⟨by omega, hsl⟩
theorem parL_split {f e : Int} (m t : Int) : ∀ (l : List GSlice) (p : Int), slB f e p l = true → (∀ x ∈ l, x.Minute < t) → parL f m l ++ parL m t l = l
 | [], _, _, _ => rfl
 | y :: l, p, h, ht => by
  have h0 := h
  simp only [slB, Bool.and_eq_true, decide_eq_true_eq] at h
  have ih := parL_split m t l _ h.2 fun x hx => ht x (List.mem_cons_of_mem _ hx)
  have hy := ht y (List.mem_cons_self ..)
  by_cases c : y.Minute < m
  ·have e1 : parL f m (y :: l) = y :: parL f m l := by unfold parL; rw [List.filter_cons, if_pos (by simp [inP]; omega)]
   have e2 : parL m t (y :: l) = parL m t l := by unfold parL; rw [List.filter_cons, if_neg (by simp [inP]; omega)]
   rw [e1, e2, List.cons_append, ih]
  ·have e3 : ∀ x ∈ l, ¬ x.Minute < m := fun x hx => by have := slB_memP l _ h.2 x hx; omega
   have e1 : parL f m (y :: l) = [] := by
    unfold parL
    rw [List.filter_eq_nil_iff]
    intro x hx
    rcases List.mem_cons.1 hx with rfl | hx
    ·simp [inP]; omega
    ·have := e3 x hx
     simp [inP]; omega
   have e2 : parL f m l = [] := by
    unfold parL
    rw [List.filter_eq_nil_iff]
    intro x hx
    have := e3 x hx
    simp [inP]; omega
   have e4 : parL m t (y :: l) = y :: parL m t l := by unfold parL; rw [List.filter_cons, if_pos (by simp [inP]; omega)]
   rw [e2, List.nil_append] at ih
   rw [e1, e4, List.nil_append, ih]
def splV (s : GSession) (m : Int) : GSession × GSession × Int := if (valB s && decide (s.From < m) && decide (m < s.To)) = true then (parV s s.From m, parV s m s.To, 0) else (⟨0, 0, 0, []⟩, ⟨0, 0, 0, []⟩, 1)
theorem l_split (n : Nat) (s : GSession) (m : Int) (hn : 1000 ≤ n) (hb : i64b s.To) : g_loophole_Split n s m = some (splV s m) := by
 unfold g_loophole_Split splV
 rw [l_session n s hn hb, Option.bind_some]
 cases hv : valB s
 ·rfl
 have hs := valB_spec hv
 simp only [Bool.not_true, cond_false, leI, Bool.true_and]
 by_cases c1 : m ≤ s.From
 ·rw [decide_eq_true c1, cond_true, Option.bind_some, cond_true, decide_eq_false (show ¬ s.From < m by omega)]; rfl
 rw [decide_eq_false c1, cond_false, Option.bind_some]
 by_cases c2 : s.To ≤ m
 ·rw [decide_eq_true c2, cond_true, decide_eq_false (show ¬ m < s.To by omega), Bool.and_false]; rfl
 rw [decide_eq_false c2, cond_false, l_part n s s.From m hn (by omega), Option.bind_some, l_part n s m s.To hn (by omega), Option.bind_some, decide_eq_true (show s.From < m by omega), decide_eq_true (show m < s.To by omega)]
 rfl
end Go.Proofs
namespace Go.Proofs
open Go Go.Abs
set_option maxRecDepth 100000
theorem head34_big : g_law34_head 36893488147419103232 = some true := by kernel_rfl
end Go.Proofs
namespace Go.Proofs
open Go Go.Abs
set_option maxRecDepth 100000
set_option linter.unusedVariables false
theorem l_same (n : Nat) (a b : GSession) (hn : 1000 ≤ n) (hl : b.Slices.length ≤ 900) : g_ref34_Same n a b = some (decide (a = b)) := by
 obtain ⟨af, at', ae, al⟩ := a
 obtain ⟨bf, bt, be, bl⟩ := b
 unfold g_ref34_Same
 simp only [lenI, List.length_map, eqI_d, cond_some, Option.bind_some] at hl ⊢
 by_cases c1 : af = bf
 rotate_left
 ·simp [c1]
 by_cases c2 : at' = bt
 rotate_left
 ·simp [c1, c2]
 by_cases c3 : ae = be
 rotate_left
 ·simp [c1, c2, c3]
 subst c1 c2 c3
 by_cases h : al.length = bl.length
 rotate_left
 ·have h' : ¬ (al.length : Int) = bl.length := by omega
  have h2 : ¬ al = bl := fun h3 => h (by rw [h3])
  simp [h', h2]
 ·rw [decide_eq_true (show (al.length : Int) = bl.length from by omega)]
  simp only [decide_true, Bool.not_true, cond_false]
  have := loop_gen (l := al) (fun (_ : List GSlice) i => i) (B := fun recl5 l5 => g_ref34_Same_l5 ⟨af, at', ae, al⟩ ⟨af, at', ae, bl⟩ recl5 l5) (F := fun q r => decide (r = q)) (fun i q => bl.drop i = q) (by omega) ?_ ?_ (n := n) 0 bl (by simp) (by omega) (by omega)
  ·rw [show (((0 : Nat) : Int)) = 0 from rfl] at this
   rw [this]
   simp
  ·intro rec q hq
   simp only [g_ref34_Same_l5, lenI, List.length_map, ltI]
   rw [decide_eq_false (by omega), cond_false]
   rw [h, List.drop_length] at hq
   subst hq
   simp
  ·intro rec q i x r hq hd hx hi hw hr
   have hb : bl[i]? = some bl[i] := by rw [List.getElem?_eq_getElem]
   have hq2 : q = bl[i] :: bl.drop (i + 1) := by rw [← hq, List.drop_eq_getElem_cons (by omega)]
   simp only [g_ref34_Same_l5, lenI, List.length_map, ltI, getI_nat, hx, hb, Option.bind_some, eqI_d, opq, hw]
   rw [decide_eq_true (by omega), cond_true, hr _ rfl, hq2]
   obtain ⟨xm, xe⟩ := x
   generalize bl[i] = y
   obtain ⟨ym, ye⟩ := y
   by_cases h1 : xm = ym <;> by_cases h2 : xe = ye <;> simp [h1, h2]
theorem room16 {α : Type} (l : List α) (h : l.length ≤ 900) : roomB l.length 16 = true := by
 simp only [roomB, decide_eq_true_eq]; omega
theorem parts34_plain (s : GSession) (m : Int) (hb : i64b s.To) : g_law34_LoopholeParts 36893488147419103232 s m = some true := by
 unfold g_law34_LoopholeParts
 rw [head34_big, Option.bind_some, l_split _ s m (by omega) hb, Option.bind_some]
 unfold splV
 by_cases h : (valB s && decide (s.From < m) && decide (m < s.To)) = true
 ·rw [if_pos h]
  simp only [Bool.and_eq_true, decide_eq_true_eq] at h
  obtain ⟨⟨hv, h1⟩, h2⟩ := h
  have hs := valB_spec hv
  have hl1 := parL_len s.From m s.Slices
  have hl2 := parL_len m s.To s.Slices
  have v1 := parV_val hv (Int.le_refl _) h1 (by omega)
  have v2 := parV_val hv (by omega) h2 (Int.le_refl _)
  have hsp : parL s.From m s.Slices ++ parL m s.To s.Slices = s.Slices := parL_split m s.To s.Slices _ (valB_sl hv) fun x hx => by have := slB_memP _ _ (valB_sl hv) x hx; omega
  have hi : wi (wi (wi (m - minI (maxI s.End s.From) m) + s.To) - minI (maxI s.End m) s.To) = wi (s.To - s.End) := by
   have e : minI (maxI s.End s.From) m = if s.End < m then s.End else m := by unfold minI maxI; split <;> split <;> (try split) <;> omega
   have e2 : minI (maxI s.End m) s.To = if s.End < m then m else s.End := by unfold minI maxI; split <;> split <;> (try split) <;> omega
   rw [e, e2]
   split
   ·rw [wi_id (x := m - s.End) (by omega) (by omega), wi_id (x := m - s.End + s.To) (by omega) (by omega)]
    congr 1; omega
   ·rw [wi_id (x := m - m) (by omega) (by omega), wi_id (x := m - m + s.To) (by omega) (by omega)]
    congr 1; omega
  show (bif !eqI 0 0 then some true else (bif roomB (List.length ([] ++ parL s.From m s.Slices)) 16 then (bif roomB (List.length (([] ++ parL s.From m s.Slices) ++ parL m s.To s.Slices)) 16 then _ else none) else none)) = some true
  rw [show (!eqI 0 0) = false from rfl, cond_false, List.nil_append, room16 _ (by omega), cond_true, hsp, room16 _ (by omega), cond_true, cond_true, l_session _ _ (by omega) (by unfold parV i64b; simp only; omega), Option.bind_some, v1, cond_true, l_session _ (parV s m s.To) (by omega) hb, Option.bind_some, v2, cond_true]
  show (Option.bind (bif eqI s.From s.From then (bif eqI m m then (bif eqI m m then (bif eqI s.To s.To then (bif eqI (wi (wi (wi (m - minI (maxI s.End s.From) m) + s.To) - minI (maxI s.End m) s.To)) (wi (s.To - s.End)) then _ else some false) else some false) else some false) else some false) else some false) fun j3 => some j3) = some true
  rw [hi]
  simp only [eqI_d, decide_true, cond_true]
  rw [l_same _ _ _ (by omega) (by simp only; omega)]
  simp
  exact hsp
 ·rw [if_neg h]
  rfl
end Go.Proofs
namespace Go.Proofs.Ytfkhnaogcahcoaa
open Go Go.Abs Go.Proofs
theorem loopholeParts_holds : Rows.LoopholePartsSaid :=
 loopholeParts_said (fun s m hs _ => ⟨_, parts34_plain s m hs.To⟩)
end Go.Proofs.Ytfkhnaogcahcoaa
