/-
  Proved: QuoteBounds. If there is a bound, every session that the limits cover has a bill, whose Total is at most the bound. No conditions beyond those of the given statement.
-/
import Derived.Test.YtehocmildcedeaaBou03
namespace Go.Proofs
open Go Go.Abs
set_option maxRecDepth 100000
set_option linter.unusedVariables false
theorem g_ref32_Few_ok (n : Nat) (a0t : GTariff) : ∀ r, g_ref32_Few n a0t = some r → PCall Try.prog 24 [ag (GTariff.cs a0t)] (.ret (B r)) := by
 refine pcall_sim (X := fun r : Bool => AEnd.ret (B r)) Try.func24 rfl Try.ntmps24 rfl ?_
 unfold g_ref32_Few
 refine sim_run Try.fm ⟨[1], [1], [], []⟩ ⟨[(1, .ptr 1 0)], [(1, .box 24 (bxc (GTariff.cs a0t)))]⟩ krf ?_
 refine sim_seq ?_
 refine sim_reg ?_
 refine xs_run 5 krf ?_
 refine xs_split (leI (lenI (List.map GArticle.cs a0t.Articles)) 20) (fun h1 => ?_) (fun h1 => ?_)
 ·refine xs_one (want_tt krf h1) krf ?_
  refine xs_run 5 krf ?_
  refine xs_end ?_
  refine sq_nk ⟨[2], [], [], []⟩ ⟨[(2, B (leI (lenI a0t.Name) 40))], []⟩ krf ?_
  refine sim_ret ?_
  exact rq_ret (.id) krf krf krf
 ·refine xs_no (want_tf krf h1) krf ?_
  refine xs_run 5 krf ?_
  refine xs_end ?_
  refine sq_nk ⟨[2], [], [], []⟩ ⟨[(2, B false)], []⟩ krf ?_
  refine sim_ret ?_
  exact rq_ret (.id) krf krf krf
def g_ref26_Few (n : Nat) (a0c : GCalendar) : Option Bool :=
 cond (leI (lenI (List.map GChange.cs a0c.Changes)) 30)
  (some (leI (lenI (List.map ci a0c.Holidays)) 60))
  (some false)
theorem g_ref26_Few_ok (n : Nat) (a0c : GCalendar) : ∀ r, g_ref26_Few n a0c = some r → PCall Try.prog 25 [ag (GCalendar.cs a0c)] (.ret (B r)) := by
 refine pcall_sim (X := fun r : Bool => AEnd.ret (B r)) Try.func25 rfl Try.ntmps25 rfl ?_
 unfold g_ref26_Few
 refine sim_run Try.fm ⟨[1], [1], [], []⟩ ⟨[(1, .ptr 1 0)], [(1, .box 28 (bxc (GCalendar.cs a0c)))]⟩ krf ?_
 refine sim_seq ?_
 refine sim_reg ?_
 refine xs_run 5 krf ?_
 refine xs_split (leI (lenI (List.map GChange.cs a0c.Changes)) 30) (fun h1 => ?_) (fun h1 => ?_)
 ·refine xs_one (want_tt krf h1) krf ?_
  refine xs_run 5 krf ?_
  refine xs_end ?_
  refine sq_nk ⟨[2], [], [], []⟩ ⟨[(2, B (leI (lenI (List.map ci a0c.Holidays)) 60))], []⟩ krf ?_
  refine sim_ret ?_
  exact rq_ret (.id) krf krf krf
 ·refine xs_no (want_tf krf h1) krf ?_
  refine xs_run 5 krf ?_
  refine xs_end ?_
  refine sq_nk ⟨[2], [], [], []⟩ ⟨[(2, B false)], []⟩ krf ?_
  refine sim_ret ?_
  exact rq_ret (.id) krf krf krf
def g_ref35_Few (n : Nat) (a0t : GTariff) (a1c : GCalendar) (a2s : GSession) : Option Bool :=
 (g_ref32_Few n a0t).bind fun r1 =>
 cond r1
  ((g_ref26_Few n a1c).bind fun r3 =>
  cond r3
   (some (leI (lenI (List.map GSlice.cs a2s.Slices)) 60))
   (some false))
  (some false)
theorem g_ref35_Few_ok (n : Nat) (a0t : GTariff) (a1c : GCalendar) (a2s : GSession) : ∀ r, g_ref35_Few n a0t a1c a2s = some r → PCall Try.prog 12 [ag (GTariff.cs a0t), ag (GCalendar.cs a1c), ag (GSession.cs a2s)] (.ret (B r)) := by
 refine pcall_sim (X := fun r : Bool => AEnd.ret (B r)) Try.func12 rfl Try.ntmps12 rfl ?_
 unfold g_ref35_Few
 refine sim_run Try.fm ⟨[3, 4, 5], [3, 4, 5], [], []⟩ ⟨[(3, .ptr 3 0), (4, .ptr 4 0), (5, .ptr 5 0)], [(3, .box 24 (bxc (GTariff.cs a0t))), (4, .box 28 (bxc (GCalendar.cs a1c))), (5, .box 31 (bxc (GSession.cs a2s)))]⟩ krf ?_
 refine sim_seq ?_
 refine sim_reg ?_
 refine xs_run 1 krf ?_
 refine xs_call [] krf (g_ref32_Few_ok n a0t) krf krf (fun _ => by kernel_rfl) (fun r1 => ?_)
 refine xs_run 1 krf ?_
 refine xs_split r1 (fun h2 => ?_) (fun h2 => ?_)
 ·refine xs_one (want_tt krf h2) krf ?_
  refine xs_call [] krf (g_ref26_Few_ok n a1c) krf krf (fun _ => by kernel_rfl) (fun r3 => ?_)
  refine xs_run 2 krf ?_
  refine xs_split r3 (fun h4 => ?_) (fun h4 => ?_)
  ·refine xs_one (want_tt krf h4) krf ?_
   refine xs_run 5 krf ?_
   refine xs_end ?_
   refine sq_nk ⟨[6], [], [], []⟩ ⟨[(6, B (leI (lenI (List.map GSlice.cs a2s.Slices)) 60))], []⟩ krf ?_
   refine sim_ret ?_
   exact rq_ret (.id) krf krf krf
  ·refine xs_no (want_tf krf h4) krf ?_
   refine xs_run 5 krf ?_
   refine xs_end ?_
   refine sq_nk ⟨[6], [], [], []⟩ ⟨[(6, B false)], []⟩ krf ?_
   refine sim_ret ?_
   exact rq_ret (.id) krf krf krf
 ·refine xs_no (want_tf krf h2) krf ?_
  refine xs_run 9 krf ?_
  refine xs_end ?_
  refine sq_nk ⟨[6], [], [], []⟩ ⟨[(6, B false)], []⟩ krf ?_
  refine sim_ret ?_
  exact rq_ret (.id) krf krf krf
def g_bill_caught (n : Nat) (a1err : Int) : Option Int :=
 some a1err
theorem g_bill_caught_ok (n : Nat) (a1err : Int) : ∀ r, g_bill_caught n a1err = some r → ACall Try.prog 37 [.p (.val (.nilIface)), .ptr 1001 0] (Go.Abs.look [(1001, .box 34 [I a1err])]) (heapR (fun r : Int => ((.ret (.tup []), [(1001, .box 34 [I r])]) : AEnd × List (Nat × Blk))) r) := by
 refine acall_sim (X := fun r : Int => ((.ret (.tup []), [(1001, .box 34 [I r])]) : AEnd × List (Nat × Blk))) [(1001, .box 34 [I a1err])] Try.func37 rfl Try.ntmps37 rfl ?_
 unfold g_bill_caught
 refine sim_seq ?_
 refine sim_run Try.fm ⟨[0, 1, 6, 7], [1001], [], []⟩ ⟨[(0, .p (.val (.nilIface))), (1, .ptr 1001 0), (6, .p (.val (.nilIface))), (7, B true)], [(1001, .box 34 [I a1err])]⟩ krf ?_
 refine sim_condT krf ?_
 refine sim_ret ?_
 refine sq_r ?_
 exact hq_ret (.id) [1001] [] krf krf krf krf
def g_bb_applies (n : Nat) (a0b : GBB) (a1minute : Int) : Option Bool :=
 (g_tariff_Applies n a0b.article a0b.calendar a1minute).bind fun r1 =>
 some r1
theorem g_bb_applies_ok (n : Nat) (a0b : GBB) (a1minute : Int) : ∀ r, g_bb_applies n a0b a1minute = some r → PCall Try.prog 99 [.eptr (GBB.cs a0b), I a1minute] (.ret (B r)) := by
 refine pcall_sim (X := fun r : Bool => AEnd.ret (B r)) Try.func99 rfl Try.ntmps99 rfl ?_
 unfold g_bb_applies
 refine sim_run Try.fm ⟨[0, 1], [], [], []⟩ ⟨[(0, .eptr (GBB.cs a0b)), (1, I a1minute)], []⟩ krf ?_
 refine sim_seq ?_
 refine sim_drw Try.fm rfl ?_
 refine xs_run 9 krf ?_
 refine xs_call [] krf (g_tariff_Applies_ok n a0b.article a0b.calendar a1minute) krf krf (fun _ => by kernel_rfl) (fun r1 => ?_)
 refine xs_run 1 krf ?_
 refine xs_endD krf ?_
 refine sq_nk ⟨[4], [], [], []⟩ ⟨[(4, B r1)], []⟩ krf ?_
 refine sim_ret ?_
 exact rq_ret (.id) krf krf krf
def g_bill_must (n : Nat) (a0amount : Int) (a1err : Int) : Option (Except Int Int) :=
 cond (!eqI a1err 0)
  (some (.error 3))
  (some (.ok a0amount))
theorem g_bill_must_ok (n : Nat) (a0amount : Int) (a1err : Int) : ∀ r, g_bill_must n a0amount a1err = some r → PCall Try.prog 69 [I a0amount, I a1err] (excE (fun r : Int => (I r : AV)) (fun e : Int => (.ifc 99 (.agg [I e]) : AV)) r) := by
 refine pcall_sim (X := excE (fun r : Int => (I r : AV)) (fun e : Int => (.ifc 99 (.agg [I e]) : AV))) Try.func69 rfl Try.ntmps69 rfl ?_
 unfold g_bill_must
 refine sim_run Try.fm ⟨[0, 1], [], [], []⟩ ⟨[(0, I a0amount), (1, I a1err)], []⟩ krf ?_
 refine sim_seq ?_
 refine sim_run Try.fm ⟨[0, 6], [], [], []⟩ ⟨[(0, I a0amount), (6, B (!eqI a1err 0))], []⟩ krf ?_
 refine sim_cond (!eqI a1err 0) krf ?_ ?_
 ·refine sim_reg ?_
  refine xs_run 2 krf ?_
  refine xs_panic 99 (.agg [I 3]) krf rfl krf ?_
  refine sq_p ?_
  exact rq_p krf krf
 ·refine sim_skip ?_
  refine sq_nk ⟨[0, 6], [], [], []⟩ ⟨[(0, I a0amount), (6, B (!eqI a1err 0))], []⟩ krf ?_
  refine sim_run Try.fm ⟨[4], [], [], []⟩ ⟨[(4, I a0amount)], []⟩ krf ?_
  refine sim_ret ?_
  exact rq_ret (.id) krf krf krf
def g_bb_stretch_l3 (n : Nat) (a0b : GBB) (a2to : Int) (recl3 : (Int × Int) → Option Int) (l3_1 : Int) (l3_2 : Int) : Option Int :=
 cond (ltI l3_1 a2to)
  (((g_bb_applies n a0b l3_1).bind fun r5 =>
  cond r5
   (some (wi (l3_2 + 1)))
   (some l3_2)).bind fun j4 =>
  recl3 (wi (l3_1 + 1), j4))
  (some l3_2)
def g_bb_stretch (n : Nat) (a0b : GBB) (a1from : Int) (a2to : Int) : Option (Except Int Int) :=
 (loopN (fun recl3 (l3_1, l3_2) => g_bb_stretch_l3 n a0b a2to recl3 l3_1 l3_2) n (a1from, 0)).bind fun j1 =>
 (g_money_Started n a0b.article.Price (maxI 0 (wi (j1 - a0b.article.Free))) a0b.article.Unit).bind fun r7 =>
 (g_bill_must n r7.1 r7.2).bind (exc (fun r8 =>
  some (.ok r8)) fun e9 => some (.error e9))
theorem g_bb_stretch_ok (n : Nat) (a0b : GBB) (a1from : Int) (a2to : Int) : ∀ r, g_bb_stretch n a0b a1from a2to = some r → PCall Try.prog 100 [.eptr (GBB.cs a0b), I a1from, I a2to] (excE (fun r : Int => (I r : AV)) (fun e : Int => (.ifc 99 (.agg [I e]) : AV)) r) := by
 refine pcall_sim (X := excE (fun r : Int => (I r : AV)) (fun e : Int => (.ifc 99 (.agg [I e]) : AV))) Try.func100 rfl Try.ntmps100 rfl ?_
 unfold g_bb_stretch
 refine sim_run Try.fm ⟨[0, 1, 2, 6], [], [], []⟩ ⟨[(0, .eptr (GBB.cs a0b)), (1, I a1from), (2, I a2to), (6, I 0)], []⟩ krf ?_
 refine sim_run Try.fm ⟨[0, 1, 2, 6, 7], [7], [], []⟩ ⟨[(0, .eptr (GBB.cs a0b)), (1, I a1from), (2, I a2to), (6, I 0), (7, .ptr 7 0)], [(7, .box 3 [I 0])]⟩ krf ?_
 refine sim_bind (fun j1 => ⟨[(0, .eptr (GBB.cs a0b)), (6, I 0), (7, .ptr 7 0)], [(7, .box 3 [I j1])]⟩ : Int → St) ?_ ?_
 ·refine sim_seq ?_
  refine sim_reg ?_
  refine xs_run 3 krf ?_
  refine xs_inline [] [.eptr (GBB.cs a0b), I a1from, I a2to] [(3, 403), (4, 404), (5, 405)] [] [] krf Try.func111 rfl Try.ntmps111 rfl krf krf krf ?_
  refine sim_run Try.fm ⟨[3, 4, 5, 6], [3, 4, 5], [], []⟩ ⟨[(3, .ptr 3 0), (4, .ptr 4 0), (5, .ptr 5 0), (6, .p (.val (.nilFunc)))], [(3, .box 101 [.eptr (GBB.cs a0b)]), (4, .box 3 [I a1from]), (5, .box 3 [I a2to])]⟩ krf ?_
  refine sim_run Try.fm ⟨[6], [3, 4, 5], [], []⟩ ⟨[(6, .fn (.func 114) [] [.ptr 4 0, .ptr 5 0, .ptr 3 0])], [(3, .box 101 [.eptr (GBB.cs a0b)]), (4, .box 3 [I a1from]), (5, .box 3 [I a2to])]⟩ krf ?_
  refine sim_ret ?_
  refine iq_ret .id [3, 4, 5] [] (.fn (.func 114) [] [.ptr 4 0, .ptr 5 0, .ptr 3 0]) krf krf ?_
  refine kr0 ?_
  refine xs_end ?_
  refine sq_nk ⟨[0, 6, 7, 11], [7, 403, 404, 405], [], []⟩ ⟨[(0, .eptr (GBB.cs a0b)), (6, I 0), (7, .ptr 7 0), (11, .fn (.func 114) [] [.ptr 404 0, .ptr 405 0, .ptr 403 0])], [(7, .box 3 [I 0]), (403, .box 101 [.eptr (GBB.cs a0b)]), (404, .box 3 [I a1from]), (405, .box 3 [I a2to])]⟩ krf ?_
  refine sim_block ?_
  refine sim_keep ⟨[0, 6, 7, 11], [7, 403, 404, 405], [], []⟩ ⟨[(0, .eptr (GBB.cs a0b)), (6, I 0), (7, .ptr 7 0), (11, .fn (.func 114) [] [.ptr 404 0, .ptr 405 0, .ptr 403 0])], [(7, .box 3 [I 0]), (403, .box 101 [.eptr (GBB.cs a0b)]), (404, .box 3 [I a1from]), (405, .box 3 [I a2to])]⟩ krf ?_
  refine sim_range 114 3000 [] [.ptr 404 0, .ptr 405 0, .ptr 403 0] krf krf (fun nf2 _ hnf2 => ?_)
  refine sc_inline (hc := [(1007, .box 3 [I 0]), (1403, .box 101 [.eptr (GBB.cs a0b)]), (1404, .box 3 [I a1from]), (1405, .box 3 [I a2to]), (4000, .lp [(0, .eptr (GBB.cs a0b)), (6, I 0), (7, .ptr 1007 0), (11, .fn (.func 114) [] [.ptr 1404 0, .ptr 1405 0, .ptr 1403 0])] nf2 .ready none)]) (args' := [.yv 4000, .ptr 1404 0, .ptr 1405 0, .ptr 1403 0]) [(1007, 7), (1403, 403), (1404, 404), (1405, 405), (4000, 3000)] [] [] Try.func114 rfl Try.ntmps114 rfl krf krf krf ?_
  refine sim_run Try.fm ⟨[0, 2, 3, 5, 6], [1007, 1403, 1404, 1405, 4000], [], []⟩ ⟨[(0, .yv 4000), (2, .ptr 1405 0), (3, .ptr 1403 0), (5, I a1from), (6, I a1from)], [(1007, .box 3 [I 0]), (1403, .box 101 [.eptr (GBB.cs a0b)]), (1404, .box 3 [I a1from]), (1405, .box 3 [I a2to]), (4000, .lp [(0, .eptr (GBB.cs a0b)), (6, I 0), (7, .ptr 1007 0), (11, .fn (.func 114) [] [.ptr 1404 0, .ptr 1405 0, .ptr 1403 0])] nf2 .ready none)]⟩ krf ?_
  refine sim_block ?_
  refine sim_loop (fun (l3_1, l3_2) => ⟨[(0, .yv 4000), (2, .ptr 1405 0), (3, .ptr 1403 0), (5, I l3_1), (6, I a1from)], [(1007, .box 3 [I l3_2]), (1403, .box 101 [.eptr (GBB.cs a0b)]), (1404, .box 3 [I a1from]), (1405, .box 3 [I a2to]), (4000, .lp [(0, .eptr (GBB.cs a0b)), (6, I 0), (7, .ptr 1007 0), (11, .fn (.func 114) [] [.ptr 1404 0, .ptr 1405 0, .ptr 1403 0])] nf2 .ready none)]⟩ : (Int × Int) → St) (weak_shr (K := ⟨[0, 2, 3, 5, 6], [1007, 1403, 1404, 1405, 4000], [], []⟩) krf) ?_
  rintro recl3 ⟨l3_1, l3_2⟩
  show SimE (g_bb_stretch_l3 n a0b a2to recl3 l3_1 l3_2) _ _ _ _ _ _
  unfold g_bb_stretch_l3
  refine sim_seq ?_
  refine sim_run Try.fm ⟨[0, 2, 3, 5, 6, 7, 9], [1007, 1403, 1404, 1405, 4000], [], []⟩ ⟨[(0, .yv 4000), (2, .ptr 1405 0), (3, .ptr 1403 0), (5, I l3_1), (6, I a1from), (7, I l3_1), (9, B (ltI l3_1 a2to))], [(1007, .box 3 [I l3_2]), (1403, .box 101 [.eptr (GBB.cs a0b)]), (1404, .box 3 [I a1from]), (1405, .box 3 [I a2to]), (4000, .lp [(0, .eptr (GBB.cs a0b)), (6, I 0), (7, .ptr 1007 0), (11, .fn (.func 114) [] [.ptr 1404 0, .ptr 1405 0, .ptr 1403 0])] nf2 .ready none)]⟩ krf ?_
  refine sim_cond (ltI l3_1 a2to) krf ?_ ?_
  ·refine sim_skip ?_
   refine sq_nk ⟨[0, 2, 3, 5, 6, 7], [1007, 1403, 1404, 1405, 4000], [], []⟩ ⟨[(0, .yv 4000), (2, .ptr 1405 0), (3, .ptr 1403 0), (5, I l3_1), (6, I a1from), (7, I l3_1)], [(1007, .box 3 [I l3_2]), (1403, .box 101 [.eptr (GBB.cs a0b)]), (1404, .box 3 [I a1from]), (1405, .box 3 [I a2to]), (4000, .lp [(0, .eptr (GBB.cs a0b)), (6, I 0), (7, .ptr 1007 0), (11, .fn (.func 114) [] [.ptr 1404 0, .ptr 1405 0, .ptr 1403 0])] nf2 .ready none)]⟩ krf ?_
   refine sim_seq ?_
   refine sim_block ?_
   refine sim_bind (fun j4 => ⟨[(0, .yv 4000), (2, .ptr 1405 0), (3, .ptr 1403 0), (5, I l3_1), (6, I a1from), (7, I l3_1), (20, B false)], [(1007, .box 3 [I j4]), (1403, .box 101 [.eptr (GBB.cs a0b)]), (1404, .box 3 [I a1from]), (1405, .box 3 [I a2to]), (4000, .lp [(0, .eptr (GBB.cs a0b)), (6, I 0), (7, .ptr 1007 0), (11, .fn (.func 114) [] [.ptr 1404 0, .ptr 1405 0, .ptr 1403 0])] nf2 .ready none)]⟩ : Int → St) ?_ ?_
   ·refine sim_reg ?_
    refine xs_run 2 krf ?_
    refine xs_call [] krf (g_bb_applies_ok n a0b l3_1) krf krf (fun _ => by kernel_rfl) (fun r5 => ?_)
    refine xs_run 1 krf ?_
    refine xs_split r5 (fun h6 => ?_) (fun h6 => ?_)
    ·refine xs_one (want_tt krf h6) krf ?_
     refine xs_run 1 krf ?_
     refine xs_yield [] [(1007, .box 3 [I l3_2]), (1403, .box 101 [.eptr (GBB.cs a0b)]), (1404, .box 3 [I a1from]), (1405, .box 3 [I a2to]), (4000, .lp [(0, .eptr (GBB.cs a0b)), (6, I 0), (7, .ptr 1007 0), (11, .fn (.func 114) [] [.ptr 1404 0, .ptr 1405 0, .ptr 1403 0])] nf2 .ready none)] 4000 [(0, .eptr (GBB.cs a0b)), (6, I 0), (7, .ptr 1007 0), (11, .fn (.func 114) [] [.ptr 1404 0, .ptr 1405 0, .ptr 1403 0])] [] [] [I l3_1] krf hnf2 krf krf krf krf krf (fun _ => ?_)
     refine sim_skip ?_
     refine as_n ⟨[6, 7], [1007, 1403, 1404, 1405, 4000], [], []⟩ ⟨[(6, I 0), (7, .ptr 1007 0)], [(1007, .box 3 [I l3_2]), (1403, .box 101 [.eptr (GBB.cs a0b)]), (1404, .box 3 [I a1from]), (1405, .box 3 [I a2to]), (4000, .lp [(0, .eptr (GBB.cs a0b)), (6, I 0), (7, .ptr 1007 0), (11, .fn (.func 114) [] [.ptr 1404 0, .ptr 1405 0, .ptr 1403 0])] nf2 .busy none)]⟩ none krf krf ?_
     refine sim_block ?_
     refine sim_last Try.fm krf ?_
     refine bq_n ?_
     refine rn_n [1007, 1403, 1404, 1405, 4000] [] .busy none krf krf ?_
     refine kr0 ?_
     refine xs_run 2 krf ?_
     refine xs_end ?_
     exact nq_n (wi (l3_2 + 1)) ⟨[0, 2, 3, 5, 6, 7, 20], [1007, 1403, 1404, 1405, 4000], [], []⟩ krf
    ·refine xs_no (want_tf krf h6) krf ?_
     refine xs_run 4 krf ?_
     refine xs_end ?_
     exact nq_n l3_2 ⟨[0, 2, 3, 5, 6, 7, 20], [1007, 1403, 1404, 1405, 4000], [], []⟩ krf
   ·rintro j4
    refine sim_condF krf ?_
    refine sim_skip ?_
    refine bq_n ?_
    refine sq_nk ⟨[0, 2, 3, 5, 6, 7], [1007, 1403, 1404, 1405, 4000], [], []⟩ ⟨[(0, .yv 4000), (2, .ptr 1405 0), (3, .ptr 1403 0), (5, I l3_1), (6, I a1from), (7, I l3_1)], [(1007, .box 3 [I j4]), (1403, .box 101 [.eptr (GBB.cs a0b)]), (1404, .box 3 [I a1from]), (1405, .box 3 [I a2to]), (4000, .lp [(0, .eptr (GBB.cs a0b)), (6, I 0), (7, .ptr 1007 0), (11, .fn (.func 114) [] [.ptr 1404 0, .ptr 1405 0, .ptr 1403 0])] nf2 .ready none)]⟩ krf ?_
    refine sim_last Try.fm krf ?_
    exact kq_n (wi (l3_1 + 1), j4) ⟨[0, 2, 3, 5, 6], [1007, 1403, 1404, 1405, 4000], [], []⟩ krf
  ·refine sim_exit ?_
   refine sq_x ?_
   refine kq_x ?_
   refine bq_hit ?_
   refine iq_n .id [1007, 1403, 1404, 1405, 4000] [] (.tup []) krf krf ?_
   refine kg_n .ready ⟨[0, 6, 7], [7], [], []⟩ ⟨[(0, .eptr (GBB.cs a0b)), (6, I 0), (7, .ptr 7 0)], [(7, .box 3 [I l3_2])]⟩ krf (by intro h; cases h) krf ?_
   refine bq_n ?_
   exact nq_n l3_2 ⟨[0, 6, 7], [7], [], []⟩ krf
 ·rintro j1
  refine sim_seq ?_
  refine sim_drw Try.fm rfl ?_
  refine xs_run 18 krf ?_
  refine xs_call [] krf (g_money_Started_ok n a0b.article.Price (maxI 0 (wi (j1 - a0b.article.Free))) a0b.article.Unit) krf krf (fun _ => by kernel_rfl) (fun r7 => ?_)
  refine xs_run 2 krf ?_
  refine xs_seqL rfl krf krf ?_
  refine xs_exc [] krf (g_bill_must_ok n r7.1 r7.2) krf krf (fun _ => by kernel_rfl) (fun _ => by kernel_rfl) (fun r8 => ?_) (fun e9 => ?_)
  ·refine xs_run 1 krf ?_
   refine xs_end ?_
   refine sq_nk ⟨[6], [], [], []⟩ ⟨[(6, I r8)], []⟩ krf ?_
   refine sim_ret ?_
   exact rq_ret (.id) krf krf krf
  ·refine sq_p ?_
   exact rq_p krf krf
def g_bill_sum_j1 (n : Nat) (j1_1 : Int) (j1_2 : Int) (j1_3 : OL GLine) (j1_4 : Int) : Option (Except Int GBill) :=
 (cond (leI 0 j1_2)
  (some (minI j1_4 j1_2))
  (some j1_4)).bind fun j2 =>
 (g_money_Tax n j2 j1_1).bind fun r3 =>
 (g_bill_must n r3.1 r3.2).bind (exc (fun r4 =>
  cond (ltI 1000000000 (wi (j2 + r4)))
   (some (.error 3))
   (some (.ok (⟨j1_3.toL, j2, r4, wi (j2 + r4)⟩ : GBill)))) fun e5 => some (.error e5))
def g_bill_sum_j10 (l6_1 : Int) (l6_2 : Int) (l6_3 : Int) (l6_4 : OL GLine) (l6_5 : Int) (recl6 : (Int × Int × Int × (OL GLine) × Int) → Option (Except Int GBill)) (j10 : Int) : Option (Except Int GBill) :=
 cond (roomB (List.length (l6_4.toL ++ [(⟨l6_3, j10⟩ : GLine)])) 16) (
  recl6 (l6_1, l6_2, wi (l6_3 + 1), OL.own (l6_4.toL ++ [(⟨l6_3, j10⟩ : GLine)]), wi (l6_5 + j10))) none
def g_bill_sum_l13 (n : Nat) (a1c : GCalendar) (a2s : GSession) (x7 : GArticle) (recl13 : (Int × Int) → Option Int) (l13_1 : Int) (l13_2 : Int) : Option Int :=
 cond (ltI l13_2 (lenI (List.map GSlice.cs a2s.Slices)))
  ((getI a2s.Slices l13_2).bind fun x14 =>
  (g_bb_applies n (⟨x7, a1c, a2s⟩ : GBB) x14.Minute).bind fun r15 =>
  cond r15
   (recl13 (wi (l13_1 + x14.Energy), wi (l13_2 + 1)))
   (recl13 (l13_1, wi (l13_2 + 1))))
  (some l13_1)
def g_bill_sum_l6 (n : Nat) (a0t : GTariff) (a1c : GCalendar) (a2s : GSession) (recl6 : (Int × Int × Int × (OL GLine) × Int) → Option (Except Int GBill)) (l6_1 : Int) (l6_2 : Int) (l6_3 : Int) (l6_4 : OL GLine) (l6_5 : Int) : Option (Except Int GBill) :=
 cond (ltI l6_3 (lenI (List.map GArticle.cs a0t.Articles)))
  ((getI a0t.Articles l6_3).bind fun x7 =>
  cond (eqI x7.Kind 5)
   ((cond (ltI l6_2 0)
    (some true)
    (some (ltI x7.Price l6_2))).bind fun j8 =>
   cond j8
    (recl6 (l6_1, x7.Price, wi (l6_3 + 1), l6_4, l6_5))
    (recl6 (l6_1, l6_2, wi (l6_3 + 1), l6_4, l6_5)))
   (cond (eqI x7.Kind 6)
    (recl6 (x7.Price, l6_2, wi (l6_3 + 1), l6_4, l6_5))
    (cond (eqI x7.Kind 1)
     ((g_bb_applies n (⟨x7, a1c, a2s⟩ : GBB) a2s.From).bind fun r11 =>
     cond r11
      (g_bill_sum_j10 l6_1 l6_2 l6_3 l6_4 l6_5 recl6 x7.Price)
      (g_bill_sum_j10 l6_1 l6_2 l6_3 l6_4 l6_5 recl6 0))
     (cond (eqI x7.Kind 2)
      ((loopN (fun recl13 (l13_1, l13_2) => g_bill_sum_l13 n a1c a2s x7 recl13 l13_1 l13_2) n (0, 0)).bind fun j12 =>
      (g_money_Times n x7.Price j12 1000).bind fun r16 =>
      (g_bill_must n r16.1 r16.2).bind (exc (fun r17 =>
       g_bill_sum_j10 l6_1 l6_2 l6_3 l6_4 l6_5 recl6 r17) fun e18 => some (.error e18)))
      (cond (eqI x7.Kind 3)
       ((g_bb_stretch n (⟨x7, a1c, a2s⟩ : GBB) a2s.From a2s.To).bind (exc (fun r19 =>
        g_bill_sum_j10 l6_1 l6_2 l6_3 l6_4 l6_5 recl6 r19) fun e20 => some (.error e20)))
       (cond (eqI x7.Kind 4)
        ((g_bb_stretch n (⟨x7, a1c, a2s⟩ : GBB) a2s.End a2s.To).bind (exc (fun r21 =>
         g_bill_sum_j10 l6_1 l6_2 l6_3 l6_4 l6_5 recl6 r21) fun e22 => some (.error e22)))
        (g_bill_sum_j10 l6_1 l6_2 l6_3 l6_4 l6_5 recl6 0)))))))
  (g_bill_sum_j1 n l6_1 l6_2 l6_4 l6_5)
def g_bill_sum (n : Nat) (a0t : GTariff) (a1c : GCalendar) (a2s : GSession) : Option (Except Int GBill) :=
 loopN (fun recl6 (l6_1, l6_2, l6_3, l6_4, l6_5) => g_bill_sum_l6 n a0t a1c a2s recl6 l6_1 l6_2 l6_3 l6_4 l6_5) n (0, (-1), 0, OL.nil, 0)
theorem g_bill_sum_ok (n : Nat) (a0t : GTariff) (a1c : GCalendar) (a2s : GSession) : ∀ r, g_bill_sum n a0t a1c a2s = some r → PCall Try.prog 38 [ag (GTariff.cs a0t), ag (GCalendar.cs a1c), ag (GSession.cs a2s)] (excE (fun r : GBill => (ag (GBill.cs r) : AV)) (fun e : Int => (.ifc 99 (.agg [I e]) : AV)) r) := by
 refine pcall_sim (X := excE (fun r : GBill => (ag (GBill.cs r) : AV)) (fun e : Int => (.ifc 99 (.agg [I e]) : AV))) Try.func38 rfl Try.ntmps38 rfl ?_
 unfold g_bill_sum
 refine sim_run Try.fm ⟨[3, 4, 5, 6], [3, 4, 5, 6], [], []⟩ ⟨[(3, .ptr 3 0), (4, .ptr 4 0), (5, .ptr 5 0), (6, .ptr 6 0)], [(3, .box 24 (bxc (GTariff.cs a0t))), (4, .box 28 (bxc (GCalendar.cs a1c))), (5, .box 31 (bxc (GSession.cs a2s))), (6, .box 54 [.p (.val (.slice none 0 0)), I 0, I 0, I 0])]⟩ krf ?_
 refine sim_run Try.fm ⟨[3, 4, 5, 6, 7], [3, 4, 5, 6, 7], [], []⟩ ⟨[(3, .ptr 3 0), (4, .ptr 4 0), (5, .ptr 5 0), (6, .ptr 6 0), (7, .ptr 7 0)], [(3, .box 24 (bxc (GTariff.cs a0t))), (4, .box 28 (bxc (GCalendar.cs a1c))), (5, .box 31 (bxc (GSession.cs a2s))), (6, .box 54 [.p (.val (.slice none 0 0)), I 0, I 0, I 0]), (7, .box 54 [.p (.val (.slice none 0 0)), I 0, I 0, I 0])]⟩ krf ?_
 refine sim_run Try.fm ⟨[3, 4, 5, 6, 7, 8, 9], [3, 4, 5, 6, 7], [], []⟩ ⟨[(3, .ptr 3 0), (4, .ptr 4 0), (5, .ptr 5 0), (6, .ptr 6 0), (7, .ptr 7 0), (8, I 0), (9, I (-1))], [(3, .box 24 (bxc (GTariff.cs a0t))), (4, .box 28 (bxc (GCalendar.cs a1c))), (5, .box 31 (bxc (GSession.cs a2s))), (6, .box 54 [.p (.val (.slice none 0 0)), I 0, I 0, I 0]), (7, .box 54 [.p (.val (.slice none 0 0)), I 0, I 0, I 0])]⟩ krf ?_
 refine sim_cps (fun (j1_1, j1_2, j1_3, j1_4) => ⟨[(6, .ptr 6 0), (7, .ptr 7 0), (8, I j1_1), (9, I j1_2)], [(6, .box 54 [.p (.val (.slice none 0 0)), I 0, I 0, I 0]), (7, .box 54 [osl 2 GLine.cs j1_3 38, I j1_4, I 0, I 0])] ++ oarr 107 2 GLine.cs j1_3 38⟩ : (Int × Int × (OL GLine) × Int) → St) (fun (j1_1, j1_2, j1_3, j1_4) => g_bill_sum_j1 n j1_1 j1_2 j1_3 j1_4) ?_ ?_
 ·rintro ⟨j1_1, j1_2, j1_3, j1_4⟩
  show SimE (g_bill_sum_j1 n j1_1 j1_2 j1_3 j1_4) _ _ _ _ _ _
  unfold g_bill_sum_j1
  rcases j1_3 with _ | ow_j1_3
  ·refine sim_bind (fun j2 => ⟨[(6, .ptr 6 0), (7, .ptr 7 0), (8, I j1_1)], [(6, .box 54 [.p (.val (.slice none 0 0)), I 0, I 0, I 0]), (7, .box 54 [.p (.val (.slice none 0 0)), I j2, I 0, I 0])]⟩ : Int → St) ?_ ?_
   ·refine sim_run Try.fm ⟨[6, 7, 8, 9, 63], [6, 7], [], []⟩ ⟨[(6, .ptr 6 0), (7, .ptr 7 0), (8, I j1_1), (9, I j1_2), (63, B (leI 0 j1_2))], [(6, .box 54 [.p (.val (.slice none 0 0)), I 0, I 0, I 0]), (7, .box 54 [.p (.val (.slice none 0 0)), I j1_4, I 0, I 0])]⟩ krf ?_
    refine sim_cond (leI 0 j1_2) krf ?_ ?_
    ·refine sim_last Try.fm krf ?_
     exact nq_n (minI j1_4 j1_2) ⟨[6, 7, 8], [6, 7], [], []⟩ krf
    ·refine sim_skip ?_
     exact nq_n j1_4 ⟨[6, 7, 8], [6, 7], [], []⟩ krf
   ·rintro j2
    refine sim_seq ?_
    refine sim_reg ?_
    refine xs_run 3 krf ?_
    refine xs_call [] krf (g_money_Tax_ok n j2 j1_1) krf krf (fun _ => by kernel_rfl) (fun r3 => ?_)
    refine xs_run 2 krf ?_
    refine xs_exc [] krf (g_bill_must_ok n r3.1 r3.2) krf krf (fun _ => by kernel_rfl) (fun _ => by kernel_rfl) (fun r4 => ?_) (fun e5 => ?_)
    ·refine xs_run 2 krf ?_
     refine xs_end ?_
     refine sq_nk ⟨[6, 7], [6, 7], [], []⟩ ⟨[(6, .ptr 6 0), (7, .ptr 7 0)], [(6, .box 54 [.p (.val (.slice none 0 0)), I 0, I 0, I 0]), (7, .box 54 [.p (.val (.slice none 0 0)), I j2, I r4, I 0])]⟩ krf ?_
     refine sim_run Try.fm ⟨[6, 7], [6, 7], [], []⟩ ⟨[(6, .ptr 6 0), (7, .ptr 7 0)], [(6, .box 54 [.p (.val (.slice none 0 0)), I 0, I 0, I 0]), (7, .box 54 [.p (.val (.slice none 0 0)), I j2, I r4, I (wi (j2 + r4))])]⟩ krf ?_
     refine sim_seq ?_
     refine sim_run Try.fm ⟨[6, 7, 85], [6, 7], [], []⟩ ⟨[(6, .ptr 6 0), (7, .ptr 7 0), (85, B (ltI 1000000000 (wi (j2 + r4))))], [(6, .box 54 [.p (.val (.slice none 0 0)), I 0, I 0, I 0]), (7, .box 54 [.p (.val (.slice none 0 0)), I j2, I r4, I (wi (j2 + r4))])]⟩ krf ?_
     refine sim_cond (ltI 1000000000 (wi (j2 + r4))) krf ?_ ?_
     ·refine sim_reg ?_
      refine xs_run 2 krf ?_
      refine xs_panic 99 (.agg [I 3]) krf rfl krf ?_
      refine sq_p ?_
      exact rq_p krf krf
     ·refine sim_skip ?_
      refine sq_nk ⟨[6, 7], [6, 7], [], []⟩ ⟨[(6, .ptr 6 0), (7, .ptr 7 0)], [(6, .box 54 [.p (.val (.slice none 0 0)), I 0, I 0, I 0]), (7, .box 54 [.p (.val (.slice none 0 0)), I j2, I r4, I (wi (j2 + r4))])]⟩ krf ?_
      refine sim_run Try.fm ⟨[6], [6], [], []⟩ ⟨[(6, .ptr 6 0)], [(6, .box 54 [.p (.val (.slice none 0 0)), I j2, I r4, I (wi (j2 + r4))])]⟩ krf ?_
      refine sim_ret ?_
      exact rq_ret (.agg [.sl 2, .id, .id, .id]) krf krf krf
    ·refine sq_p ?_
     exact rq_p krf krf
  ·refine sim_bind (fun j2 => ⟨[(6, .ptr 6 0), (7, .ptr 7 0), (8, I j1_1)], [(6, .box 54 [.p (.val (.slice none 0 0)), I 0, I 0, I 0]), (7, .box 54 [.tsl 2 (List.map GLine.cs (OL.own ow_j1_3).toL) 38, I j2, I 0, I 0]), (38, .arr 107 2 (List.map GLine.cs (OL.own ow_j1_3).toL).length)]⟩ : Int → St) ?_ ?_
   ·refine sim_run Try.fm ⟨[6, 7, 8, 9, 63], [6, 7, 38], [], []⟩ ⟨[(6, .ptr 6 0), (7, .ptr 7 0), (8, I j1_1), (9, I j1_2), (63, B (leI 0 j1_2))], [(6, .box 54 [.p (.val (.slice none 0 0)), I 0, I 0, I 0]), (7, .box 54 [.tsl 2 (List.map GLine.cs (OL.own ow_j1_3).toL) 38, I j1_4, I 0, I 0]), (38, .arr 107 2 (List.map GLine.cs (OL.own ow_j1_3).toL).length)]⟩ krf ?_
    refine sim_cond (leI 0 j1_2) krf ?_ ?_
    ·refine sim_last Try.fm krf ?_
     exact nq_n (minI j1_4 j1_2) ⟨[6, 7, 8], [6, 7, 38], [], []⟩ krf
    ·refine sim_skip ?_
     exact nq_n j1_4 ⟨[6, 7, 8], [6, 7, 38], [], []⟩ krf
   ·rintro j2
    refine sim_seq ?_
    refine sim_reg ?_
    refine xs_run 3 krf ?_
    refine xs_call [] krf (g_money_Tax_ok n j2 j1_1) krf krf (fun _ => by kernel_rfl) (fun r3 => ?_)
    refine xs_run 2 krf ?_
    refine xs_exc [] krf (g_bill_must_ok n r3.1 r3.2) krf krf (fun _ => by kernel_rfl) (fun _ => by kernel_rfl) (fun r4 => ?_) (fun e5 => ?_)
    ·refine xs_run 2 krf ?_
     refine xs_end ?_
     refine sq_nk ⟨[6, 7], [6, 7, 38], [], []⟩ ⟨[(6, .ptr 6 0), (7, .ptr 7 0)], [(6, .box 54 [.p (.val (.slice none 0 0)), I 0, I 0, I 0]), (7, .box 54 [.tsl 2 (List.map GLine.cs (OL.own ow_j1_3).toL) 38, I j2, I r4, I 0]), (38, .arr 107 2 (List.map GLine.cs (OL.own ow_j1_3).toL).length)]⟩ krf ?_
     refine sim_run Try.fm ⟨[6, 7], [6, 7, 38], [], []⟩ ⟨[(6, .ptr 6 0), (7, .ptr 7 0)], [(6, .box 54 [.p (.val (.slice none 0 0)), I 0, I 0, I 0]), (7, .box 54 [.tsl 2 (List.map GLine.cs (OL.own ow_j1_3).toL) 38, I j2, I r4, I (wi (j2 + r4))]), (38, .arr 107 2 (List.map GLine.cs (OL.own ow_j1_3).toL).length)]⟩ krf ?_
     refine sim_seq ?_
     refine sim_run Try.fm ⟨[6, 7, 85], [6, 7, 38], [], []⟩ ⟨[(6, .ptr 6 0), (7, .ptr 7 0), (85, B (ltI 1000000000 (wi (j2 + r4))))], [(6, .box 54 [.p (.val (.slice none 0 0)), I 0, I 0, I 0]), (7, .box 54 [.tsl 2 (List.map GLine.cs (OL.own ow_j1_3).toL) 38, I j2, I r4, I (wi (j2 + r4))]), (38, .arr 107 2 (List.map GLine.cs (OL.own ow_j1_3).toL).length)]⟩ krf ?_
     refine sim_cond (ltI 1000000000 (wi (j2 + r4))) krf ?_ ?_
     ·refine sim_reg ?_
      refine xs_run 2 krf ?_
      refine xs_panic 99 (.agg [I 3]) krf rfl krf ?_
      refine sq_p ?_
      exact rq_p krf krf
     ·refine sim_skip ?_
      refine sq_nk ⟨[6, 7], [6, 7, 38], [], []⟩ ⟨[(6, .ptr 6 0), (7, .ptr 7 0)], [(6, .box 54 [.p (.val (.slice none 0 0)), I 0, I 0, I 0]), (7, .box 54 [.tsl 2 (List.map GLine.cs (OL.own ow_j1_3).toL) 38, I j2, I r4, I (wi (j2 + r4))]), (38, .arr 107 2 (List.map GLine.cs (OL.own ow_j1_3).toL).length)]⟩ krf ?_
      refine sim_run Try.fm ⟨[6], [6, 38], [], []⟩ ⟨[(6, .ptr 6 0)], [(6, .box 54 [.tsl 2 (List.map GLine.cs (OL.own ow_j1_3).toL) 38, I j2, I r4, I (wi (j2 + r4))]), (38, .arr 107 2 (List.map GLine.cs (OL.own ow_j1_3).toL).length)]⟩ krf ?_
      refine sim_ret ?_
      exact rq_ret (.agg [.sl 2, .id, .id, .id]) krf krf krf
    ·refine sq_p ?_
     exact rq_p krf krf
 ·refine sim_run Try.fm ⟨[4, 5, 6, 7, 8, 9, 15, 16, 17], [4, 5, 6, 7], [], []⟩ ⟨[(4, .ptr 4 0), (5, .ptr 5 0), (6, .ptr 6 0), (7, .ptr 7 0), (8, I 0), (9, I (-1)), (15, .p (.sl 7 (List.map GArticle.cs a0t.Articles))), (16, I (lenI (List.map GArticle.cs a0t.Articles))), (17, I 0)], [(4, .box 28 (bxc (GCalendar.cs a1c))), (5, .box 31 (bxc (GSession.cs a2s))), (6, .box 54 [.p (.val (.slice none 0 0)), I 0, I 0, I 0]), (7, .box 54 [.p (.val (.slice none 0 0)), I 0, I 0, I 0])]⟩ krf ?_
  refine sim_block ?_
  refine sim_loop (fun (l6_1, l6_2, l6_3, l6_4, l6_5) => ⟨[(4, .ptr 4 0), (5, .ptr 5 0), (6, .ptr 6 0), (7, .ptr 7 0), (8, I l6_1), (9, I l6_2), (15, .p (.sl 7 (List.map GArticle.cs a0t.Articles))), (16, I (lenI (List.map GArticle.cs a0t.Articles))), (17, I l6_3)], [(4, .box 28 (bxc (GCalendar.cs a1c))), (5, .box 31 (bxc (GSession.cs a2s))), (6, .box 54 [.p (.val (.slice none 0 0)), I 0, I 0, I 0]), (7, .box 54 [osl 2 GLine.cs l6_4 38, I l6_5, I 0, I 0])] ++ oarr 107 2 GLine.cs l6_4 38⟩ : (Int × Int × Int × (OL GLine) × Int) → St) (weak_shr (K := ⟨[4, 5, 6, 7, 8, 9, 15, 16, 17], [4, 5, 6, 7], [], []⟩) krf) ?_
  rintro recl6 ⟨l6_1, l6_2, l6_3, l6_4, l6_5⟩
  show SimE (g_bill_sum_l6 n a0t a1c a2s recl6 l6_1 l6_2 l6_3 l6_4 l6_5) _ _ _ _ _ _
  unfold g_bill_sum_l6
  rcases l6_4 with _ | ow_l6_4
  ·refine sim_run Try.fm ⟨[4, 5, 6, 7, 8, 9, 15, 16, 17, 18], [4, 5, 6, 7], [], []⟩ ⟨[(4, .ptr 4 0), (5, .ptr 5 0), (6, .ptr 6 0), (7, .ptr 7 0), (8, I l6_1), (9, I l6_2), (15, .p (.sl 7 (List.map GArticle.cs a0t.Articles))), (16, I (lenI (List.map GArticle.cs a0t.Articles))), (17, I l6_3), (18, B (ltI l6_3 (lenI (List.map GArticle.cs a0t.Articles))))], [(4, .box 28 (bxc (GCalendar.cs a1c))), (5, .box 31 (bxc (GSession.cs a2s))), (6, .box 54 [.p (.val (.slice none 0 0)), I 0, I 0, I 0]), (7, .box 54 [.p (.val (.slice none 0 0)), I l6_5, I 0, I 0])]⟩ krf ?_
   refine sim_seq ?_
   refine sim_cond (ltI l6_3 (lenI (List.map GArticle.cs a0t.Articles))) krf ?_ ?_
   ·refine sim_skip ?_
    refine sq_nk ⟨[4, 5, 6, 7, 8, 9, 15, 16, 17], [4, 5, 6, 7], [], []⟩ ⟨[(4, .ptr 4 0), (5, .ptr 5 0), (6, .ptr 6 0), (7, .ptr 7 0), (8, I l6_1), (9, I l6_2), (15, .p (.sl 7 (List.map GArticle.cs a0t.Articles))), (16, I (lenI (List.map GArticle.cs a0t.Articles))), (17, I l6_3)], [(4, .box 28 (bxc (GCalendar.cs a1c))), (5, .box 31 (bxc (GSession.cs a2s))), (6, .box 54 [.p (.val (.slice none 0 0)), I 0, I 0, I 0]), (7, .box 54 [.p (.val (.slice none 0 0)), I l6_5, I 0, I 0])]⟩ krf ?_
    refine sim_seq ?_
    refine sim_block ?_
    refine sim_seq ?_
    refine sim_reg ?_
    refine xs_run 1 krf ?_
    refine xs_get krf krf (aop_idx (e := 44) (S := 7) (enc := GArticle.cs) (l := a0t.Articles) (k := .i64) (n := l6_3) (sv := .p (.sl 7 (List.map GArticle.cs a0t.Articles))) rfl krf krf krf krf krf) (fun x7 => ?_)
    refine xs_run 4 krf ?_
    refine xs_end ?_
    refine sq_nk ⟨[4, 5, 6, 7, 8, 9, 10, 11, 15, 16, 17], [4, 5, 6, 7, 11], [], []⟩ ⟨[(4, .ptr 4 0), (5, .ptr 5 0), (6, .ptr 6 0), (7, .ptr 7 0), (8, I l6_1), (9, I l6_2), (10, I l6_3), (11, .ptr 11 0), (15, .p (.sl 7 (List.map GArticle.cs a0t.Articles))), (16, I (lenI (List.map GArticle.cs a0t.Articles))), (17, I l6_3)], [(4, .box 28 (bxc (GCalendar.cs a1c))), (5, .box 31 (bxc (GSession.cs a2s))), (6, .box 54 [.p (.val (.slice none 0 0)), I 0, I 0, I 0]), (7, .box 54 [.p (.val (.slice none 0 0)), I l6_5, I 0, I 0]), (11, .box 44 (bxc (GArticle.cs x7)))]⟩ krf ?_
    refine sim_run Try.fm ⟨[4, 5, 6, 7, 8, 9, 10, 11, 15, 16, 17, 23], [4, 5, 6, 7, 11], [], []⟩ ⟨[(4, .ptr 4 0), (5, .ptr 5 0), (6, .ptr 6 0), (7, .ptr 7 0), (8, I l6_1), (9, I l6_2), (10, I l6_3), (11, .ptr 11 0), (15, .p (.sl 7 (List.map GArticle.cs a0t.Articles))), (16, I (lenI (List.map GArticle.cs a0t.Articles))), (17, I l6_3), (23, I x7.Kind)], [(4, .box 28 (bxc (GCalendar.cs a1c))), (5, .box 31 (bxc (GSession.cs a2s))), (6, .box 54 [.p (.val (.slice none 0 0)), I 0, I 0, I 0]), (7, .box 54 [.p (.val (.slice none 0 0)), I l6_5, I 0, I 0]), (11, .box 44 (bxc (GArticle.cs x7)))]⟩ krf ?_
    refine sim_block ?_
    refine sim_run Try.fm ⟨[4, 5, 6, 7, 8, 9, 10, 11, 15, 16, 17, 23, 45], [4, 5, 6, 7, 11], [], []⟩ ⟨[(4, .ptr 4 0), (5, .ptr 5 0), (6, .ptr 6 0), (7, .ptr 7 0), (8, I l6_1), (9, I l6_2), (10, I l6_3), (11, .ptr 11 0), (15, .p (.sl 7 (List.map GArticle.cs a0t.Articles))), (16, I (lenI (List.map GArticle.cs a0t.Articles))), (17, I l6_3), (23, I x7.Kind), (45, B (eqI x7.Kind 5))], [(4, .box 28 (bxc (GCalendar.cs a1c))), (5, .box 31 (bxc (GSession.cs a2s))), (6, .box 54 [.p (.val (.slice none 0 0)), I 0, I 0, I 0]), (7, .box 54 [.p (.val (.slice none 0 0)), I l6_5, I 0, I 0]), (11, .box 44 (bxc (GArticle.cs x7)))]⟩ krf ?_
    refine sim_cond (eqI x7.Kind 5) krf ?_ ?_
    ·refine sim_bind (fun j8 => ⟨[(4, .ptr 4 0), (5, .ptr 5 0), (6, .ptr 6 0), (7, .ptr 7 0), (8, I l6_1), (9, I l6_2), (11, .ptr 11 0), (15, .p (.sl 7 (List.map GArticle.cs a0t.Articles))), (16, I (lenI (List.map GArticle.cs a0t.Articles))), (17, I l6_3), (54, B j8)], [(4, .box 28 (bxc (GCalendar.cs a1c))), (5, .box 31 (bxc (GSession.cs a2s))), (6, .box 54 [.p (.val (.slice none 0 0)), I 0, I 0, I 0]), (7, .box 54 [.p (.val (.slice none 0 0)), I l6_5, I 0, I 0]), (11, .box 44 (bxc (GArticle.cs x7)))]⟩ : Bool → St) ?_ ?_
     ·refine sim_reg ?_
      refine xs_run 3 krf ?_
      refine xs_split (ltI l6_2 0) (fun h9 => ?_) (fun h9 => ?_)
      ·refine xs_no (want_ft krf h9) krf ?_
       refine xs_run 4 krf ?_
       refine xs_end ?_
       exact nq_n true ⟨[4, 5, 6, 7, 8, 9, 11, 15, 16, 17, 54], [4, 5, 6, 7, 11], [], []⟩ krf
      ·refine xs_one (want_ff krf h9) krf ?_
       refine xs_run 4 krf ?_
       refine xs_end ?_
       exact nq_n (ltI x7.Price l6_2) ⟨[4, 5, 6, 7, 8, 9, 11, 15, 16, 17, 54], [4, 5, 6, 7, 11], [], []⟩ krf
     ·rintro j8
      refine sim_cond j8 krf ?_ ?_
      ·refine sim_last Try.fm krf ?_
       refine bq_n ?_
       refine bq_n ?_
       refine sq_nk ⟨[4, 5, 6, 7, 8, 9, 15, 16, 17], [4, 5, 6, 7], [], []⟩ ⟨[(4, .ptr 4 0), (5, .ptr 5 0), (6, .ptr 6 0), (7, .ptr 7 0), (8, I l6_1), (9, I x7.Price), (15, .p (.sl 7 (List.map GArticle.cs a0t.Articles))), (16, I (lenI (List.map GArticle.cs a0t.Articles))), (17, I l6_3)], [(4, .box 28 (bxc (GCalendar.cs a1c))), (5, .box 31 (bxc (GSession.cs a2s))), (6, .box 54 [.p (.val (.slice none 0 0)), I 0, I 0, I 0]), (7, .box 54 [.p (.val (.slice none 0 0)), I l6_5, I 0, I 0])]⟩ krf ?_
       refine sim_last Try.fm krf ?_
       exact kq_n (l6_1, x7.Price, wi (l6_3 + 1), OL.nil, l6_5) ⟨[4, 5, 6, 7, 8, 9, 15, 16, 17], [4, 5, 6, 7], [], []⟩ krf
      ·refine sim_skip ?_
       refine bq_n ?_
       refine bq_n ?_
       refine sq_nk ⟨[4, 5, 6, 7, 8, 9, 15, 16, 17], [4, 5, 6, 7], [], []⟩ ⟨[(4, .ptr 4 0), (5, .ptr 5 0), (6, .ptr 6 0), (7, .ptr 7 0), (8, I l6_1), (9, I l6_2), (15, .p (.sl 7 (List.map GArticle.cs a0t.Articles))), (16, I (lenI (List.map GArticle.cs a0t.Articles))), (17, I l6_3)], [(4, .box 28 (bxc (GCalendar.cs a1c))), (5, .box 31 (bxc (GSession.cs a2s))), (6, .box 54 [.p (.val (.slice none 0 0)), I 0, I 0, I 0]), (7, .box 54 [.p (.val (.slice none 0 0)), I l6_5, I 0, I 0])]⟩ krf ?_
       refine sim_last Try.fm krf ?_
       exact kq_n (l6_1, l6_2, wi (l6_3 + 1), OL.nil, l6_5) ⟨[4, 5, 6, 7, 8, 9, 15, 16, 17], [4, 5, 6, 7], [], []⟩ krf
    ·refine sim_run Try.fm ⟨[4, 5, 6, 7, 8, 9, 10, 11, 15, 16, 17, 57], [4, 5, 6, 7, 11], [], []⟩ ⟨[(4, .ptr 4 0), (5, .ptr 5 0), (6, .ptr 6 0), (7, .ptr 7 0), (8, I l6_1), (9, I l6_2), (10, I l6_3), (11, .ptr 11 0), (15, .p (.sl 7 (List.map GArticle.cs a0t.Articles))), (16, I (lenI (List.map GArticle.cs a0t.Articles))), (17, I l6_3), (57, B (eqI x7.Kind 6))], [(4, .box 28 (bxc (GCalendar.cs a1c))), (5, .box 31 (bxc (GSession.cs a2s))), (6, .box 54 [.p (.val (.slice none 0 0)), I 0, I 0, I 0]), (7, .box 54 [.p (.val (.slice none 0 0)), I l6_5, I 0, I 0]), (11, .box 44 (bxc (GArticle.cs x7)))]⟩ krf ?_
     refine sim_cond (eqI x7.Kind 6) krf ?_ ?_
     ·refine sim_last Try.fm krf ?_
      refine bq_n ?_
      refine bq_n ?_
      refine sq_nk ⟨[4, 5, 6, 7, 8, 9, 15, 16, 17], [4, 5, 6, 7], [], []⟩ ⟨[(4, .ptr 4 0), (5, .ptr 5 0), (6, .ptr 6 0), (7, .ptr 7 0), (8, I x7.Price), (9, I l6_2), (15, .p (.sl 7 (List.map GArticle.cs a0t.Articles))), (16, I (lenI (List.map GArticle.cs a0t.Articles))), (17, I l6_3)], [(4, .box 28 (bxc (GCalendar.cs a1c))), (5, .box 31 (bxc (GSession.cs a2s))), (6, .box 54 [.p (.val (.slice none 0 0)), I 0, I 0, I 0]), (7, .box 54 [.p (.val (.slice none 0 0)), I l6_5, I 0, I 0])]⟩ krf ?_
      refine sim_last Try.fm krf ?_
      exact kq_n (x7.Price, l6_2, wi (l6_3 + 1), OL.nil, l6_5) ⟨[4, 5, 6, 7, 8, 9, 15, 16, 17], [4, 5, 6, 7], [], []⟩ krf
     ·refine sim_run Try.fm ⟨[4, 5, 6, 7, 8, 9, 10, 12, 15, 16, 17], [4, 5, 6, 7, 28], [], []⟩ ⟨[(4, .ptr 4 0), (5, .ptr 5 0), (6, .ptr 6 0), (7, .ptr 7 0), (8, I l6_1), (9, I l6_2), (10, I l6_3), (12, .ptr 28 0), (15, .p (.sl 7 (List.map GArticle.cs a0t.Articles))), (16, I (lenI (List.map GArticle.cs a0t.Articles))), (17, I l6_3)], [(4, .box 28 (bxc (GCalendar.cs a1c))), (5, .box 31 (bxc (GSession.cs a2s))), (6, .box 54 [.p (.val (.slice none 0 0)), I 0, I 0, I 0]), (7, .box 54 [.p (.val (.slice none 0 0)), I l6_5, I 0, I 0]), (28, .box 103 (bxc (GBB.cs ⟨x7, a1c, a2s⟩)))]⟩ krf ?_
      refine sim_cps (fun j10 => ⟨[(4, .ptr 4 0), (5, .ptr 5 0), (6, .ptr 6 0), (7, .ptr 7 0), (8, I l6_1), (9, I l6_2), (10, I l6_3), (13, I j10), (15, .p (.sl 7 (List.map GArticle.cs a0t.Articles))), (16, I (lenI (List.map GArticle.cs a0t.Articles))), (17, I l6_3)], [(4, .box 28 (bxc (GCalendar.cs a1c))), (5, .box 31 (bxc (GSession.cs a2s))), (6, .box 54 [.p (.val (.slice none 0 0)), I 0, I 0, I 0]), (7, .box 54 [.p (.val (.slice none 0 0)), I l6_5, I 0, I 0])]⟩ : Int → St) (fun j10 => g_bill_sum_j10 l6_1 l6_2 l6_3 OL.nil l6_5 recl6 j10) ?_ ?_
      ·rintro j10
       show SimE (g_bill_sum_j10 l6_1 l6_2 l6_3 OL.nil l6_5 recl6 j10) _ _ _ _ _ _
       unfold g_bill_sum_j10
       refine sim_seq ?_
       refine sim_reg ?_
       refine xs_run 6 krf ?_
       refine xs_if krf krf (aop_app0 (e := 107) (S := 2) (by_ := 16) (enc := GLine.cs) (d := 38) (l2 := [(⟨l6_3, j10⟩ : GLine)]) (xv := .tsl 2 (List.map GLine.cs [(⟨l6_3, j10⟩ : GLine)]) 37) rfl rfl krf krf rfl krf krf krf rfl krf) ?_
       refine xs_run 2 krf ?_
       refine xs_end ?_
       refine sq_nk ⟨[4, 5, 6, 7, 8, 9, 13, 15, 16, 17], [4, 5, 6, 7, 38], [], []⟩ ⟨[(4, .ptr 4 0), (5, .ptr 5 0), (6, .ptr 6 0), (7, .ptr 7 0), (8, I l6_1), (9, I l6_2), (13, I j10), (15, .p (.sl 7 (List.map GArticle.cs a0t.Articles))), (16, I (lenI (List.map GArticle.cs a0t.Articles))), (17, I l6_3)], [(4, .box 28 (bxc (GCalendar.cs a1c))), (5, .box 31 (bxc (GSession.cs a2s))), (6, .box 54 [.p (.val (.slice none 0 0)), I 0, I 0, I 0]), (7, .box 54 [.tsl 2 (List.map GLine.cs (OL.nil.toL ++ [(⟨l6_3, j10⟩ : GLine)])) 38, I l6_5, I 0, I 0]), (38, .arr 107 2 (List.map GLine.cs (OL.nil.toL ++ [(⟨l6_3, j10⟩ : GLine)])).length)]⟩ krf ?_
       refine sim_last Try.fm krf ?_
       refine bq_n ?_
       refine bq_n ?_
       refine sq_nk ⟨[4, 5, 6, 7, 8, 9, 15, 16, 17], [4, 5, 6, 7, 38], [], []⟩ ⟨[(4, .ptr 4 0), (5, .ptr 5 0), (6, .ptr 6 0), (7, .ptr 7 0), (8, I l6_1), (9, I l6_2), (15, .p (.sl 7 (List.map GArticle.cs a0t.Articles))), (16, I (lenI (List.map GArticle.cs a0t.Articles))), (17, I l6_3)], [(4, .box 28 (bxc (GCalendar.cs a1c))), (5, .box 31 (bxc (GSession.cs a2s))), (6, .box 54 [.p (.val (.slice none 0 0)), I 0, I 0, I 0]), (7, .box 54 [.tsl 2 (List.map GLine.cs (OL.nil.toL ++ [(⟨l6_3, j10⟩ : GLine)])) 38, I (wi (l6_5 + j10)), I 0, I 0]), (38, .arr 107 2 (List.map GLine.cs (OL.nil.toL ++ [(⟨l6_3, j10⟩ : GLine)])).length)]⟩ krf ?_
       refine sim_last Try.fm krf ?_
       exact kq_n (l6_1, l6_2, wi (l6_3 + 1), OL.own (OL.nil.toL ++ [(⟨l6_3, j10⟩ : GLine)]), wi (l6_5 + j10)) ⟨[4, 5, 6, 7, 8, 9, 15, 16, 17], [4, 5, 6, 7, 38], [], []⟩ krf
      ·refine sim_reg ?_
       refine xs_run 1 krf ?_
       refine xs_inline [(1028, .box 103 (bxc (GBB.cs ⟨x7, a1c, a2s⟩)))] [.ptr 1028 0] [(1028, 28)] [] [] krf Try.func68 rfl Try.ntmps68 rfl krf krf krf ?_
       refine sim_run Try.fm ⟨[0], [1028], [], []⟩ ⟨[(0, .ptr 1028 0)], [(1028, .box 103 (bxc (GBB.cs ⟨x7, a1c, a2s⟩)))]⟩ krf ?_
       refine sim_seq ?_
       refine sim_run Try.fm ⟨[0, 6, 7], [1028], [], []⟩ ⟨[(0, .ptr 1028 0), (6, .ptr 1028 0), (7, I x7.Kind)], [(1028, .box 103 (bxc (GBB.cs ⟨x7, a1c, a2s⟩)))]⟩ krf ?_
       refine sim_block ?_
       refine sim_run Try.fm ⟨[0, 6, 7, 8], [1028], [], []⟩ ⟨[(0, .ptr 1028 0), (6, .ptr 1028 0), (7, I x7.Kind), (8, B (eqI x7.Kind 1))], [(1028, .box 103 (bxc (GBB.cs ⟨x7, a1c, a2s⟩)))]⟩ krf ?_
       refine sim_cond (eqI x7.Kind 1) krf ?_ ?_
       ·refine sim_run Try.fm ⟨[2], [1028], [], []⟩ ⟨[(2, .fn (.func 87) [.ptr 1028 0] [])], [(1028, .box 103 (bxc (GBB.cs ⟨x7, a1c, a2s⟩)))]⟩ krf ?_
        refine sim_ret ?_
        refine bq_r ?_
        refine sq_r ?_
        refine iq_ret .id [1028] [] (.fn (.func 87) [.ptr 1028 0] []) krf krf ?_
        refine kr0 ?_
        refine xs_inline [(1028, .box 103 (bxc (GBB.cs ⟨x7, a1c, a2s⟩)))] [.ptr 1028 0] [(1028, 28)] [] [] krf Try.func87 rfl Try.ntmps87 rfl krf krf krf ?_
        refine sim_run Try.fm ⟨[0], [1028], [], []⟩ ⟨[(0, .ptr 1028 0)], [(1028, .box 103 (bxc (GBB.cs ⟨x7, a1c, a2s⟩)))]⟩ krf ?_
        refine sim_seq ?_
        refine sim_seq ?_
        refine sim_reg ?_
        refine xs_run 6 krf ?_
        refine xs_ro [.ro [], .cv (.id)] krf (g_bb_applies_ok n (⟨x7, a1c, a2s⟩ : GBB) a2s.From) krf krf (fun _ => by kernel_rfl) (fun r11 => ?_)
        refine xs_end ?_
        refine sq_nk ⟨[0, 6, 7, 9], [1028], [], []⟩ ⟨[(0, .ptr 1028 0), (6, .ptr 1028 10), (7, .ptr 1028 10), (9, B r11)], [(1028, .box 103 (bxc (GBB.cs ⟨x7, a1c, a2s⟩)))]⟩ krf ?_
        refine sim_cond r11 krf ?_ ?_
        ·refine sim_run Try.fm ⟨[2], [1028], [], []⟩ ⟨[(2, I x7.Price)], [(1028, .box 103 (bxc (GBB.cs ⟨x7, a1c, a2s⟩)))]⟩ krf ?_
         refine sim_ret ?_
         refine sq_r ?_
         refine iq_ret .id [1028] [] (I x7.Price) krf krf ?_
         refine kr0 ?_
         refine xs_run 1 krf ?_
         refine xs_end ?_
         exact kq_n (k := fun j10 => g_bill_sum_j10 l6_1 l6_2 l6_3 OL.nil l6_5 recl6 j10) x7.Price ⟨[4, 5, 6, 7, 8, 9, 10, 13, 15, 16, 17], [4, 5, 6, 7], [], []⟩ krf
        ·refine sim_skip ?_
         refine sq_nk ⟨[6, 7], [1028], [], []⟩ ⟨[(6, .ptr 1028 10), (7, .ptr 1028 10)], [(1028, .box 103 (bxc (GBB.cs ⟨x7, a1c, a2s⟩)))]⟩ krf ?_
         refine sim_run Try.fm ⟨[2], [1028], [], []⟩ ⟨[(2, I 0)], [(1028, .box 103 (bxc (GBB.cs ⟨x7, a1c, a2s⟩)))]⟩ krf ?_
         refine sim_ret ?_
         refine iq_ret .id [1028] [] (I 0) krf krf ?_
         refine kr0 ?_
         refine xs_run 1 krf ?_
         refine xs_end ?_
         exact kq_n (k := fun j10 => g_bill_sum_j10 l6_1 l6_2 l6_3 OL.nil l6_5 recl6 j10) 0 ⟨[4, 5, 6, 7, 8, 9, 10, 13, 15, 16, 17], [4, 5, 6, 7], [], []⟩ krf
       ·refine sim_run Try.fm ⟨[0, 6, 7, 12], [1028], [], []⟩ ⟨[(0, .ptr 1028 0), (6, .ptr 1028 0), (7, I x7.Kind), (12, B (eqI x7.Kind 2))], [(1028, .box 103 (bxc (GBB.cs ⟨x7, a1c, a2s⟩)))]⟩ krf ?_
        refine sim_cond (eqI x7.Kind 2) krf ?_ ?_
        ·refine sim_run Try.fm ⟨[2], [1028], [], []⟩ ⟨[(2, .fn (.func 88) [.ptr 1028 0] [])], [(1028, .box 103 (bxc (GBB.cs ⟨x7, a1c, a2s⟩)))]⟩ krf ?_
         refine sim_ret ?_
         refine bq_r ?_
         refine sq_r ?_
         refine iq_ret .id [1028] [] (.fn (.func 88) [.ptr 1028 0] []) krf krf ?_
         refine kr0 ?_
         refine xs_inline [(1028, .box 103 (bxc (GBB.cs ⟨x7, a1c, a2s⟩)))] [.ptr 1028 0] [(1028, 28)] [] [] krf Try.func88 rfl Try.ntmps88 rfl krf krf krf ?_
         refine sim_run Try.fm ⟨[0], [1028], [], []⟩ ⟨[(0, .ptr 1028 0)], [(1028, .box 103 (bxc (GBB.cs ⟨x7, a1c, a2s⟩)))]⟩ krf ?_
         refine sim_run Try.fm ⟨[0, 3], [1028], [], []⟩ ⟨[(0, .ptr 1028 0), (3, I 0)], [(1028, .box 103 (bxc (GBB.cs ⟨x7, a1c, a2s⟩)))]⟩ krf ?_
         refine sim_bind (fun j12 => ⟨[(0, .ptr 1028 0), (3, I j12), (6, .ptr 1028 0), (7, .ptr 1028 0)], [(1028, .box 103 (bxc (GBB.cs ⟨x7, a1c, a2s⟩)))]⟩ : Int → St) ?_ ?_
         ·refine sim_run Try.fm ⟨[0, 3, 6, 7, 10, 11, 12], [1028], [], []⟩ ⟨[(0, .ptr 1028 0), (3, I 0), (6, .ptr 1028 0), (7, .ptr 1028 0), (10, .p (.sl 2 (List.map GSlice.cs a2s.Slices))), (11, I (lenI (List.map GSlice.cs a2s.Slices))), (12, I 0)], [(1028, .box 103 (bxc (GBB.cs ⟨x7, a1c, a2s⟩)))]⟩ krf ?_
          refine sim_block ?_
          refine sim_loop (fun (l13_1, l13_2) => ⟨[(0, .ptr 1028 0), (3, I l13_1), (6, .ptr 1028 0), (7, .ptr 1028 0), (10, .p (.sl 2 (List.map GSlice.cs a2s.Slices))), (11, I (lenI (List.map GSlice.cs a2s.Slices))), (12, I l13_2)], [(1028, .box 103 (bxc (GBB.cs ⟨x7, a1c, a2s⟩)))]⟩ : (Int × Int) → St) (weak_shr (K := ⟨[0, 3, 6, 7, 10, 11, 12], [1028], [], []⟩) krf) ?_
          rintro recl13 ⟨l13_1, l13_2⟩
          show SimE (g_bill_sum_l13 n a1c a2s x7 recl13 l13_1 l13_2) _ _ _ _ _ _
          unfold g_bill_sum_l13
          refine sim_run Try.fm ⟨[0, 3, 6, 7, 10, 11, 12, 13], [1028], [], []⟩ ⟨[(0, .ptr 1028 0), (3, I l13_1), (6, .ptr 1028 0), (7, .ptr 1028 0), (10, .p (.sl 2 (List.map GSlice.cs a2s.Slices))), (11, I (lenI (List.map GSlice.cs a2s.Slices))), (12, I l13_2), (13, B (ltI l13_2 (lenI (List.map GSlice.cs a2s.Slices))))], [(1028, .box 103 (bxc (GBB.cs ⟨x7, a1c, a2s⟩)))]⟩ krf ?_
          refine sim_seq ?_
          refine sim_cond (ltI l13_2 (lenI (List.map GSlice.cs a2s.Slices))) krf ?_ ?_
          ·refine sim_skip ?_
           refine sq_nk ⟨[0, 3, 6, 7, 10, 11, 12], [1028], [], []⟩ ⟨[(0, .ptr 1028 0), (3, I l13_1), (6, .ptr 1028 0), (7, .ptr 1028 0), (10, .p (.sl 2 (List.map GSlice.cs a2s.Slices))), (11, I (lenI (List.map GSlice.cs a2s.Slices))), (12, I l13_2)], [(1028, .box 103 (bxc (GBB.cs ⟨x7, a1c, a2s⟩)))]⟩ krf ?_
           refine sim_seq ?_
           refine sim_block ?_
           refine sim_seq ?_
           refine sim_reg ?_
           refine xs_get krf krf (aop_idx (e := 49) (S := 2) (enc := GSlice.cs) (l := a2s.Slices) (k := .i64) (n := l13_2) (sv := .p (.sl 2 (List.map GSlice.cs a2s.Slices))) rfl krf krf krf krf krf) (fun x14 => ?_)
           refine xs_run 3 krf ?_
           refine xs_end ?_
           refine sq_nk ⟨[0, 3, 5, 6, 7, 10, 11, 12], [5, 1028], [], []⟩ ⟨[(0, .ptr 1028 0), (3, I l13_1), (5, .ptr 5 0), (6, .ptr 1028 0), (7, .ptr 1028 0), (10, .p (.sl 2 (List.map GSlice.cs a2s.Slices))), (11, I (lenI (List.map GSlice.cs a2s.Slices))), (12, I l13_2)], [(5, .box 49 (bxc (GSlice.cs x14))), (1028, .box 103 (bxc (GBB.cs ⟨x7, a1c, a2s⟩)))]⟩ krf ?_
           refine sim_seq ?_
           refine sim_reg ?_
           refine xs_run 3 krf ?_
           refine xs_ro [.ro [], .cv (.id)] krf (g_bb_applies_ok n (⟨x7, a1c, a2s⟩ : GBB) x14.Minute) krf krf (fun _ => by kernel_rfl) (fun r15 => ?_)
           refine xs_end ?_
           refine sq_nk ⟨[0, 3, 5, 6, 7, 10, 11, 12, 19], [5, 1028], [], []⟩ ⟨[(0, .ptr 1028 0), (3, I l13_1), (5, .ptr 5 0), (6, .ptr 1028 0), (7, .ptr 1028 0), (10, .p (.sl 2 (List.map GSlice.cs a2s.Slices))), (11, I (lenI (List.map GSlice.cs a2s.Slices))), (12, I l13_2), (19, B r15)], [(5, .box 49 (bxc (GSlice.cs x14))), (1028, .box 103 (bxc (GBB.cs ⟨x7, a1c, a2s⟩)))]⟩ krf ?_
           refine sim_cond r15 krf ?_ ?_
           ·refine sim_last Try.fm krf ?_
            refine bq_n ?_
            refine sq_nk ⟨[0, 3, 6, 7, 10, 11, 12], [1028], [], []⟩ ⟨[(0, .ptr 1028 0), (3, I (wi (l13_1 + x14.Energy))), (6, .ptr 1028 0), (7, .ptr 1028 0), (10, .p (.sl 2 (List.map GSlice.cs a2s.Slices))), (11, I (lenI (List.map GSlice.cs a2s.Slices))), (12, I l13_2)], [(1028, .box 103 (bxc (GBB.cs ⟨x7, a1c, a2s⟩)))]⟩ krf ?_
            refine sim_last Try.fm krf ?_
            exact kq_n (wi (l13_1 + x14.Energy), wi (l13_2 + 1)) ⟨[0, 3, 6, 7, 10, 11, 12], [1028], [], []⟩ krf
           ·refine sim_skip ?_
            refine bq_n ?_
            refine sq_nk ⟨[0, 3, 6, 7, 10, 11, 12], [1028], [], []⟩ ⟨[(0, .ptr 1028 0), (3, I l13_1), (6, .ptr 1028 0), (7, .ptr 1028 0), (10, .p (.sl 2 (List.map GSlice.cs a2s.Slices))), (11, I (lenI (List.map GSlice.cs a2s.Slices))), (12, I l13_2)], [(1028, .box 103 (bxc (GBB.cs ⟨x7, a1c, a2s⟩)))]⟩ krf ?_
            refine sim_last Try.fm krf ?_
            exact kq_n (l13_1, wi (l13_2 + 1)) ⟨[0, 3, 6, 7, 10, 11, 12], [1028], [], []⟩ krf
          ·refine sim_exit ?_
           refine sq_x ?_
           refine kq_x ?_
           refine bq_hit ?_
           exact nq_n l13_1 ⟨[0, 3, 6, 7], [1028], [], []⟩ krf
         ·rintro j12
          refine sim_seq ?_
          refine sim_reg ?_
          refine xs_run 6 krf ?_
          refine xs_call [] krf (g_money_Times_ok n x7.Price j12 1000) krf krf (fun _ => by kernel_rfl) (fun r16 => ?_)
          refine xs_run 2 krf ?_
          refine xs_exc [] krf (g_bill_must_ok n r16.1 r16.2) krf krf (fun _ => by kernel_rfl) (fun _ => by kernel_rfl) (fun r17 => ?_) (fun e18 => ?_)
          ·refine xs_run 1 krf ?_
           refine xs_end ?_
           refine sq_nk ⟨[2], [1028], [], []⟩ ⟨[(2, I r17)], [(1028, .box 103 (bxc (GBB.cs ⟨x7, a1c, a2s⟩)))]⟩ krf ?_
           refine sim_ret ?_
           refine iq_ret .id [1028] [] (I r17) krf krf ?_
           refine kr0 ?_
           refine xs_run 1 krf ?_
           refine xs_end ?_
           exact kq_n (k := fun j10 => g_bill_sum_j10 l6_1 l6_2 l6_3 OL.nil l6_5 recl6 j10) r17 ⟨[4, 5, 6, 7, 8, 9, 10, 13, 15, 16, 17], [4, 5, 6, 7], [], []⟩ krf
          ·refine sq_p ?_
           refine iq_p [1028] [] krf ?_
           refine kq_p ?_
           refine bq_p ?_
           refine bq_p ?_
           refine sq_p ?_
           refine kq_p ?_
           refine bq_p ?_
           refine kq_p ?_
           exact rq_p krf krf
        ·refine sim_run Try.fm ⟨[0, 6, 7, 16], [1028], [], []⟩ ⟨[(0, .ptr 1028 0), (6, .ptr 1028 0), (7, I x7.Kind), (16, B (eqI x7.Kind 3))], [(1028, .box 103 (bxc (GBB.cs ⟨x7, a1c, a2s⟩)))]⟩ krf ?_
         refine sim_cond (eqI x7.Kind 3) krf ?_ ?_
         ·refine sim_run Try.fm ⟨[2], [1028], [], []⟩ ⟨[(2, .fn (.func 89) [.ptr 1028 0] [])], [(1028, .box 103 (bxc (GBB.cs ⟨x7, a1c, a2s⟩)))]⟩ krf ?_
          refine sim_ret ?_
          refine bq_r ?_
          refine sq_r ?_
          refine iq_ret .id [1028] [] (.fn (.func 89) [.ptr 1028 0] []) krf krf ?_
          refine kr0 ?_
          refine xs_inline [(1028, .box 103 (bxc (GBB.cs ⟨x7, a1c, a2s⟩)))] [.ptr 1028 0] [(1028, 28)] [] [] krf Try.func89 rfl Try.ntmps89 rfl krf krf krf ?_
          refine sim_run Try.fm ⟨[0], [1028], [], []⟩ ⟨[(0, .ptr 1028 0)], [(1028, .box 103 (bxc (GBB.cs ⟨x7, a1c, a2s⟩)))]⟩ krf ?_
          refine sim_seq ?_
          refine sim_drw Try.fm rfl ?_
          refine xs_run 11 krf ?_
          refine xs_seqL rfl krf krf ?_
          refine xs_roE [.ro [], .cv (.id), .cv (.id)] krf (g_bb_stretch_ok n (⟨x7, a1c, a2s⟩ : GBB) a2s.From a2s.To) krf krf (fun _ => by kernel_rfl) (fun _ => by kernel_rfl) (fun r19 => ?_) (fun e20 => ?_)
          ·refine xs_run 1 krf ?_
           refine xs_end ?_
           refine sq_nk ⟨[2], [1028], [], []⟩ ⟨[(2, I r19)], [(1028, .box 103 (bxc (GBB.cs ⟨x7, a1c, a2s⟩)))]⟩ krf ?_
           refine sim_ret ?_
           refine iq_ret .id [1028] [] (I r19) krf krf ?_
           refine kr0 ?_
           refine xs_run 1 krf ?_
           refine xs_end ?_
           exact kq_n (k := fun j10 => g_bill_sum_j10 l6_1 l6_2 l6_3 OL.nil l6_5 recl6 j10) r19 ⟨[4, 5, 6, 7, 8, 9, 10, 13, 15, 16, 17], [4, 5, 6, 7], [], []⟩ krf
          ·refine sq_p ?_
           refine iq_p [1028] [] krf ?_
           refine kq_p ?_
           refine bq_p ?_
           refine bq_p ?_
           refine sq_p ?_
           refine kq_p ?_
           refine bq_p ?_
           refine kq_p ?_
           exact rq_p krf krf
         ·refine sim_run Try.fm ⟨[0, 6, 7, 20], [1028], [], []⟩ ⟨[(0, .ptr 1028 0), (6, .ptr 1028 0), (7, I x7.Kind), (20, B (eqI x7.Kind 4))], [(1028, .box 103 (bxc (GBB.cs ⟨x7, a1c, a2s⟩)))]⟩ krf ?_
          refine sim_cond (eqI x7.Kind 4) krf ?_ ?_
          ·refine sim_run Try.fm ⟨[2], [1028], [], []⟩ ⟨[(2, .fn (.func 90) [.ptr 1028 0] [])], [(1028, .box 103 (bxc (GBB.cs ⟨x7, a1c, a2s⟩)))]⟩ krf ?_
           refine sim_ret ?_
           refine bq_r ?_
           refine sq_r ?_
           refine iq_ret .id [1028] [] (.fn (.func 90) [.ptr 1028 0] []) krf krf ?_
           refine kr0 ?_
           refine xs_inline [(1028, .box 103 (bxc (GBB.cs ⟨x7, a1c, a2s⟩)))] [.ptr 1028 0] [(1028, 28)] [] [] krf Try.func90 rfl Try.ntmps90 rfl krf krf krf ?_
           refine sim_run Try.fm ⟨[0], [1028], [], []⟩ ⟨[(0, .ptr 1028 0)], [(1028, .box 103 (bxc (GBB.cs ⟨x7, a1c, a2s⟩)))]⟩ krf ?_
           refine sim_seq ?_
           refine sim_drw Try.fm rfl ?_
           refine xs_run 11 krf ?_
           refine xs_seqL rfl krf krf ?_
           refine xs_roE [.ro [], .cv (.id), .cv (.id)] krf (g_bb_stretch_ok n (⟨x7, a1c, a2s⟩ : GBB) a2s.End a2s.To) krf krf (fun _ => by kernel_rfl) (fun _ => by kernel_rfl) (fun r21 => ?_) (fun e22 => ?_)
           ·refine xs_run 1 krf ?_
            refine xs_end ?_
            refine sq_nk ⟨[2], [1028], [], []⟩ ⟨[(2, I r21)], [(1028, .box 103 (bxc (GBB.cs ⟨x7, a1c, a2s⟩)))]⟩ krf ?_
            refine sim_ret ?_
            refine iq_ret .id [1028] [] (I r21) krf krf ?_
            refine kr0 ?_
            refine xs_run 1 krf ?_
            refine xs_end ?_
            exact kq_n (k := fun j10 => g_bill_sum_j10 l6_1 l6_2 l6_3 OL.nil l6_5 recl6 j10) r21 ⟨[4, 5, 6, 7, 8, 9, 10, 13, 15, 16, 17], [4, 5, 6, 7], [], []⟩ krf
           ·refine sq_p ?_
            refine iq_p [1028] [] krf ?_
            refine kq_p ?_
            refine bq_p ?_
            refine bq_p ?_
            refine sq_p ?_
            refine kq_p ?_
            refine bq_p ?_
            refine kq_p ?_
            exact rq_p krf krf
          ·refine sim_skip ?_
           refine bq_n ?_
           refine sq_nk ⟨[0, 6, 7], [1028], [], []⟩ ⟨[(0, .ptr 1028 0), (6, .ptr 1028 0), (7, I x7.Kind)], [(1028, .box 103 (bxc (GBB.cs ⟨x7, a1c, a2s⟩)))]⟩ krf ?_
           refine sim_run Try.fm ⟨[2], [1028], [], []⟩ ⟨[(2, .fn (.func 91) [.ptr 1028 0] [])], [(1028, .box 103 (bxc (GBB.cs ⟨x7, a1c, a2s⟩)))]⟩ krf ?_
           refine sim_ret ?_
           refine iq_ret .id [1028] [] (.fn (.func 91) [.ptr 1028 0] []) krf krf ?_
           refine kr0 ?_
           refine xs_inline [(1028, .box 103 (bxc (GBB.cs ⟨x7, a1c, a2s⟩)))] [.ptr 1028 0] [(1028, 28)] [] [] krf Try.func91 rfl Try.ntmps91 rfl krf krf krf ?_
           refine sim_run Try.fm ⟨[], [1028], [], []⟩ ⟨[], [(1028, .box 103 (bxc (GBB.cs ⟨x7, a1c, a2s⟩)))]⟩ krf ?_
           refine sim_run Try.fm ⟨[2], [1028], [], []⟩ ⟨[(2, I 0)], [(1028, .box 103 (bxc (GBB.cs ⟨x7, a1c, a2s⟩)))]⟩ krf ?_
           refine sim_ret ?_
           refine iq_ret .id [1028] [] (I 0) krf krf ?_
           refine kr0 ?_
           refine xs_run 1 krf ?_
           refine xs_end ?_
           exact kq_n (k := fun j10 => g_bill_sum_j10 l6_1 l6_2 l6_3 OL.nil l6_5 recl6 j10) 0 ⟨[4, 5, 6, 7, 8, 9, 10, 13, 15, 16, 17], [4, 5, 6, 7], [], []⟩ krf
   ·refine sim_exit ?_
    refine sq_x ?_
    refine kq_x ?_
    refine bq_hit ?_
    exact kq_n (k := fun (j1_1, j1_2, j1_3, j1_4) => g_bill_sum_j1 n j1_1 j1_2 j1_3 j1_4) (l6_1, l6_2, OL.nil, l6_5) ⟨[6, 7, 8, 9], [6, 7], [], []⟩ krf
  ·refine sim_run Try.fm ⟨[4, 5, 6, 7, 8, 9, 15, 16, 17, 18], [4, 5, 6, 7, 38], [], []⟩ ⟨[(4, .ptr 4 0), (5, .ptr 5 0), (6, .ptr 6 0), (7, .ptr 7 0), (8, I l6_1), (9, I l6_2), (15, .p (.sl 7 (List.map GArticle.cs a0t.Articles))), (16, I (lenI (List.map GArticle.cs a0t.Articles))), (17, I l6_3), (18, B (ltI l6_3 (lenI (List.map GArticle.cs a0t.Articles))))], [(4, .box 28 (bxc (GCalendar.cs a1c))), (5, .box 31 (bxc (GSession.cs a2s))), (6, .box 54 [.p (.val (.slice none 0 0)), I 0, I 0, I 0]), (7, .box 54 [.tsl 2 (List.map GLine.cs (OL.own ow_l6_4).toL) 38, I l6_5, I 0, I 0]), (38, .arr 107 2 (List.map GLine.cs (OL.own ow_l6_4).toL).length)]⟩ krf ?_
   refine sim_seq ?_
   refine sim_cond (ltI l6_3 (lenI (List.map GArticle.cs a0t.Articles))) krf ?_ ?_
   ·refine sim_skip ?_
    refine sq_nk ⟨[4, 5, 6, 7, 8, 9, 15, 16, 17], [4, 5, 6, 7, 38], [], []⟩ ⟨[(4, .ptr 4 0), (5, .ptr 5 0), (6, .ptr 6 0), (7, .ptr 7 0), (8, I l6_1), (9, I l6_2), (15, .p (.sl 7 (List.map GArticle.cs a0t.Articles))), (16, I (lenI (List.map GArticle.cs a0t.Articles))), (17, I l6_3)], [(4, .box 28 (bxc (GCalendar.cs a1c))), (5, .box 31 (bxc (GSession.cs a2s))), (6, .box 54 [.p (.val (.slice none 0 0)), I 0, I 0, I 0]), (7, .box 54 [.tsl 2 (List.map GLine.cs (OL.own ow_l6_4).toL) 38, I l6_5, I 0, I 0]), (38, .arr 107 2 (List.map GLine.cs (OL.own ow_l6_4).toL).length)]⟩ krf ?_
    refine sim_seq ?_
    refine sim_block ?_
    refine sim_seq ?_
    refine sim_reg ?_
    refine xs_run 1 krf ?_
    refine xs_get krf krf (aop_idx (e := 44) (S := 7) (enc := GArticle.cs) (l := a0t.Articles) (k := .i64) (n := l6_3) (sv := .p (.sl 7 (List.map GArticle.cs a0t.Articles))) rfl krf krf krf krf krf) (fun x7 => ?_)
    refine xs_run 4 krf ?_
    refine xs_end ?_
    refine sq_nk ⟨[4, 5, 6, 7, 8, 9, 10, 11, 15, 16, 17], [4, 5, 6, 7, 11, 38], [], []⟩ ⟨[(4, .ptr 4 0), (5, .ptr 5 0), (6, .ptr 6 0), (7, .ptr 7 0), (8, I l6_1), (9, I l6_2), (10, I l6_3), (11, .ptr 11 0), (15, .p (.sl 7 (List.map GArticle.cs a0t.Articles))), (16, I (lenI (List.map GArticle.cs a0t.Articles))), (17, I l6_3)], [(4, .box 28 (bxc (GCalendar.cs a1c))), (5, .box 31 (bxc (GSession.cs a2s))), (6, .box 54 [.p (.val (.slice none 0 0)), I 0, I 0, I 0]), (7, .box 54 [.tsl 2 (List.map GLine.cs (OL.own ow_l6_4).toL) 38, I l6_5, I 0, I 0]), (11, .box 44 (bxc (GArticle.cs x7))), (38, .arr 107 2 (List.map GLine.cs (OL.own ow_l6_4).toL).length)]⟩ krf ?_
    refine sim_run Try.fm ⟨[4, 5, 6, 7, 8, 9, 10, 11, 15, 16, 17, 23], [4, 5, 6, 7, 11, 38], [], []⟩ ⟨[(4, .ptr 4 0), (5, .ptr 5 0), (6, .ptr 6 0), (7, .ptr 7 0), (8, I l6_1), (9, I l6_2), (10, I l6_3), (11, .ptr 11 0), (15, .p (.sl 7 (List.map GArticle.cs a0t.Articles))), (16, I (lenI (List.map GArticle.cs a0t.Articles))), (17, I l6_3), (23, I x7.Kind)], [(4, .box 28 (bxc (GCalendar.cs a1c))), (5, .box 31 (bxc (GSession.cs a2s))), (6, .box 54 [.p (.val (.slice none 0 0)), I 0, I 0, I 0]), (7, .box 54 [.tsl 2 (List.map GLine.cs (OL.own ow_l6_4).toL) 38, I l6_5, I 0, I 0]), (11, .box 44 (bxc (GArticle.cs x7))), (38, .arr 107 2 (List.map GLine.cs (OL.own ow_l6_4).toL).length)]⟩ krf ?_
    refine sim_block ?_
    refine sim_run Try.fm ⟨[4, 5, 6, 7, 8, 9, 10, 11, 15, 16, 17, 23, 45], [4, 5, 6, 7, 11, 38], [], []⟩ ⟨[(4, .ptr 4 0), (5, .ptr 5 0), (6, .ptr 6 0), (7, .ptr 7 0), (8, I l6_1), (9, I l6_2), (10, I l6_3), (11, .ptr 11 0), (15, .p (.sl 7 (List.map GArticle.cs a0t.Articles))), (16, I (lenI (List.map GArticle.cs a0t.Articles))), (17, I l6_3), (23, I x7.Kind), (45, B (eqI x7.Kind 5))], [(4, .box 28 (bxc (GCalendar.cs a1c))), (5, .box 31 (bxc (GSession.cs a2s))), (6, .box 54 [.p (.val (.slice none 0 0)), I 0, I 0, I 0]), (7, .box 54 [.tsl 2 (List.map GLine.cs (OL.own ow_l6_4).toL) 38, I l6_5, I 0, I 0]), (11, .box 44 (bxc (GArticle.cs x7))), (38, .arr 107 2 (List.map GLine.cs (OL.own ow_l6_4).toL).length)]⟩ krf ?_
    refine sim_cond (eqI x7.Kind 5) krf ?_ ?_
    ·refine sim_bind (fun j8 => ⟨[(4, .ptr 4 0), (5, .ptr 5 0), (6, .ptr 6 0), (7, .ptr 7 0), (8, I l6_1), (9, I l6_2), (11, .ptr 11 0), (15, .p (.sl 7 (List.map GArticle.cs a0t.Articles))), (16, I (lenI (List.map GArticle.cs a0t.Articles))), (17, I l6_3), (54, B j8)], [(4, .box 28 (bxc (GCalendar.cs a1c))), (5, .box 31 (bxc (GSession.cs a2s))), (6, .box 54 [.p (.val (.slice none 0 0)), I 0, I 0, I 0]), (7, .box 54 [.tsl 2 (List.map GLine.cs (OL.own ow_l6_4).toL) 38, I l6_5, I 0, I 0]), (11, .box 44 (bxc (GArticle.cs x7))), (38, .arr 107 2 (List.map GLine.cs (OL.own ow_l6_4).toL).length)]⟩ : Bool → St) ?_ ?_
     ·refine sim_reg ?_
      refine xs_run 3 krf ?_
      refine xs_split (ltI l6_2 0) (fun h9 => ?_) (fun h9 => ?_)
      ·refine xs_no (want_ft krf h9) krf ?_
       refine xs_run 4 krf ?_
       refine xs_end ?_
       exact nq_n true ⟨[4, 5, 6, 7, 8, 9, 11, 15, 16, 17, 54], [4, 5, 6, 7, 11, 38], [], []⟩ krf
      ·refine xs_one (want_ff krf h9) krf ?_
       refine xs_run 4 krf ?_
       refine xs_end ?_
       exact nq_n (ltI x7.Price l6_2) ⟨[4, 5, 6, 7, 8, 9, 11, 15, 16, 17, 54], [4, 5, 6, 7, 11, 38], [], []⟩ krf
     ·rintro j8
      refine sim_cond j8 krf ?_ ?_
      ·refine sim_last Try.fm krf ?_
       refine bq_n ?_
       refine bq_n ?_
       refine sq_nk ⟨[4, 5, 6, 7, 8, 9, 15, 16, 17], [4, 5, 6, 7, 38], [], []⟩ ⟨[(4, .ptr 4 0), (5, .ptr 5 0), (6, .ptr 6 0), (7, .ptr 7 0), (8, I l6_1), (9, I x7.Price), (15, .p (.sl 7 (List.map GArticle.cs a0t.Articles))), (16, I (lenI (List.map GArticle.cs a0t.Articles))), (17, I l6_3)], [(4, .box 28 (bxc (GCalendar.cs a1c))), (5, .box 31 (bxc (GSession.cs a2s))), (6, .box 54 [.p (.val (.slice none 0 0)), I 0, I 0, I 0]), (7, .box 54 [.tsl 2 (List.map GLine.cs (OL.own ow_l6_4).toL) 38, I l6_5, I 0, I 0]), (38, .arr 107 2 (List.map GLine.cs (OL.own ow_l6_4).toL).length)]⟩ krf ?_
       refine sim_last Try.fm krf ?_
       exact kq_n (l6_1, x7.Price, wi (l6_3 + 1), (OL.own ow_l6_4), l6_5) ⟨[4, 5, 6, 7, 8, 9, 15, 16, 17], [4, 5, 6, 7, 38], [], []⟩ krf
      ·refine sim_skip ?_
       refine bq_n ?_
       refine bq_n ?_
       refine sq_nk ⟨[4, 5, 6, 7, 8, 9, 15, 16, 17], [4, 5, 6, 7, 38], [], []⟩ ⟨[(4, .ptr 4 0), (5, .ptr 5 0), (6, .ptr 6 0), (7, .ptr 7 0), (8, I l6_1), (9, I l6_2), (15, .p (.sl 7 (List.map GArticle.cs a0t.Articles))), (16, I (lenI (List.map GArticle.cs a0t.Articles))), (17, I l6_3)], [(4, .box 28 (bxc (GCalendar.cs a1c))), (5, .box 31 (bxc (GSession.cs a2s))), (6, .box 54 [.p (.val (.slice none 0 0)), I 0, I 0, I 0]), (7, .box 54 [.tsl 2 (List.map GLine.cs (OL.own ow_l6_4).toL) 38, I l6_5, I 0, I 0]), (38, .arr 107 2 (List.map GLine.cs (OL.own ow_l6_4).toL).length)]⟩ krf ?_
       refine sim_last Try.fm krf ?_
       exact kq_n (l6_1, l6_2, wi (l6_3 + 1), (OL.own ow_l6_4), l6_5) ⟨[4, 5, 6, 7, 8, 9, 15, 16, 17], [4, 5, 6, 7, 38], [], []⟩ krf
    ·refine sim_run Try.fm ⟨[4, 5, 6, 7, 8, 9, 10, 11, 15, 16, 17, 57], [4, 5, 6, 7, 11, 38], [], []⟩ ⟨[(4, .ptr 4 0), (5, .ptr 5 0), (6, .ptr 6 0), (7, .ptr 7 0), (8, I l6_1), (9, I l6_2), (10, I l6_3), (11, .ptr 11 0), (15, .p (.sl 7 (List.map GArticle.cs a0t.Articles))), (16, I (lenI (List.map GArticle.cs a0t.Articles))), (17, I l6_3), (57, B (eqI x7.Kind 6))], [(4, .box 28 (bxc (GCalendar.cs a1c))), (5, .box 31 (bxc (GSession.cs a2s))), (6, .box 54 [.p (.val (.slice none 0 0)), I 0, I 0, I 0]), (7, .box 54 [.tsl 2 (List.map GLine.cs (OL.own ow_l6_4).toL) 38, I l6_5, I 0, I 0]), (11, .box 44 (bxc (GArticle.cs x7))), (38, .arr 107 2 (List.map GLine.cs (OL.own ow_l6_4).toL).length)]⟩ krf ?_
     refine sim_cond (eqI x7.Kind 6) krf ?_ ?_
     ·refine sim_last Try.fm krf ?_
      refine bq_n ?_
      refine bq_n ?_
      refine sq_nk ⟨[4, 5, 6, 7, 8, 9, 15, 16, 17], [4, 5, 6, 7, 38], [], []⟩ ⟨[(4, .ptr 4 0), (5, .ptr 5 0), (6, .ptr 6 0), (7, .ptr 7 0), (8, I x7.Price), (9, I l6_2), (15, .p (.sl 7 (List.map GArticle.cs a0t.Articles))), (16, I (lenI (List.map GArticle.cs a0t.Articles))), (17, I l6_3)], [(4, .box 28 (bxc (GCalendar.cs a1c))), (5, .box 31 (bxc (GSession.cs a2s))), (6, .box 54 [.p (.val (.slice none 0 0)), I 0, I 0, I 0]), (7, .box 54 [.tsl 2 (List.map GLine.cs (OL.own ow_l6_4).toL) 38, I l6_5, I 0, I 0]), (38, .arr 107 2 (List.map GLine.cs (OL.own ow_l6_4).toL).length)]⟩ krf ?_
      refine sim_last Try.fm krf ?_
      exact kq_n (x7.Price, l6_2, wi (l6_3 + 1), (OL.own ow_l6_4), l6_5) ⟨[4, 5, 6, 7, 8, 9, 15, 16, 17], [4, 5, 6, 7, 38], [], []⟩ krf
     ·refine sim_run Try.fm ⟨[4, 5, 6, 7, 8, 9, 10, 12, 15, 16, 17], [4, 5, 6, 7, 28, 38], [], []⟩ ⟨[(4, .ptr 4 0), (5, .ptr 5 0), (6, .ptr 6 0), (7, .ptr 7 0), (8, I l6_1), (9, I l6_2), (10, I l6_3), (12, .ptr 28 0), (15, .p (.sl 7 (List.map GArticle.cs a0t.Articles))), (16, I (lenI (List.map GArticle.cs a0t.Articles))), (17, I l6_3)], [(4, .box 28 (bxc (GCalendar.cs a1c))), (5, .box 31 (bxc (GSession.cs a2s))), (6, .box 54 [.p (.val (.slice none 0 0)), I 0, I 0, I 0]), (7, .box 54 [.tsl 2 (List.map GLine.cs (OL.own ow_l6_4).toL) 38, I l6_5, I 0, I 0]), (28, .box 103 (bxc (GBB.cs ⟨x7, a1c, a2s⟩))), (38, .arr 107 2 (List.map GLine.cs (OL.own ow_l6_4).toL).length)]⟩ krf ?_
      refine sim_cps (fun j10 => ⟨[(4, .ptr 4 0), (5, .ptr 5 0), (6, .ptr 6 0), (7, .ptr 7 0), (8, I l6_1), (9, I l6_2), (10, I l6_3), (13, I j10), (15, .p (.sl 7 (List.map GArticle.cs a0t.Articles))), (16, I (lenI (List.map GArticle.cs a0t.Articles))), (17, I l6_3)], [(4, .box 28 (bxc (GCalendar.cs a1c))), (5, .box 31 (bxc (GSession.cs a2s))), (6, .box 54 [.p (.val (.slice none 0 0)), I 0, I 0, I 0]), (7, .box 54 [.tsl 2 (List.map GLine.cs (OL.own ow_l6_4).toL) 38, I l6_5, I 0, I 0]), (38, .arr 107 2 (List.map GLine.cs (OL.own ow_l6_4).toL).length)]⟩ : Int → St) (fun j10 => g_bill_sum_j10 l6_1 l6_2 l6_3 (OL.own ow_l6_4) l6_5 recl6 j10) ?_ ?_
      ·rintro j10
       show SimE (g_bill_sum_j10 l6_1 l6_2 l6_3 (OL.own ow_l6_4) l6_5 recl6 j10) _ _ _ _ _ _
       unfold g_bill_sum_j10
       refine sim_seq ?_
       refine sim_reg ?_
       refine xs_run 6 krf ?_
       refine xs_if krf krf (aop_app (e := 107) (S := 2) (by_ := 16) (enc := GLine.cs) (tk := 38) (l := (OL.own ow_l6_4).toL) (l2 := [(⟨l6_3, j10⟩ : GLine)]) (xv := .tsl 2 (List.map GLine.cs [(⟨l6_3, j10⟩ : GLine)]) 37) rfl krf krf rfl krf krf krf rfl krf) ?_
       refine xs_run 2 krf ?_
       refine xs_end ?_
       refine sq_nk ⟨[4, 5, 6, 7, 8, 9, 13, 15, 16, 17], [4, 5, 6, 7, 38], [], []⟩ ⟨[(4, .ptr 4 0), (5, .ptr 5 0), (6, .ptr 6 0), (7, .ptr 7 0), (8, I l6_1), (9, I l6_2), (13, I j10), (15, .p (.sl 7 (List.map GArticle.cs a0t.Articles))), (16, I (lenI (List.map GArticle.cs a0t.Articles))), (17, I l6_3)], [(4, .box 28 (bxc (GCalendar.cs a1c))), (5, .box 31 (bxc (GSession.cs a2s))), (6, .box 54 [.p (.val (.slice none 0 0)), I 0, I 0, I 0]), (7, .box 54 [.tsl 2 (List.map GLine.cs ((OL.own ow_l6_4).toL ++ [(⟨l6_3, j10⟩ : GLine)])) 38, I l6_5, I 0, I 0]), (38, .arr 107 2 (List.map GLine.cs ((OL.own ow_l6_4).toL ++ [(⟨l6_3, j10⟩ : GLine)])).length)]⟩ krf ?_
       refine sim_last Try.fm krf ?_
       refine bq_n ?_
       refine bq_n ?_
       refine sq_nk ⟨[4, 5, 6, 7, 8, 9, 15, 16, 17], [4, 5, 6, 7, 38], [], []⟩ ⟨[(4, .ptr 4 0), (5, .ptr 5 0), (6, .ptr 6 0), (7, .ptr 7 0), (8, I l6_1), (9, I l6_2), (15, .p (.sl 7 (List.map GArticle.cs a0t.Articles))), (16, I (lenI (List.map GArticle.cs a0t.Articles))), (17, I l6_3)], [(4, .box 28 (bxc (GCalendar.cs a1c))), (5, .box 31 (bxc (GSession.cs a2s))), (6, .box 54 [.p (.val (.slice none 0 0)), I 0, I 0, I 0]), (7, .box 54 [.tsl 2 (List.map GLine.cs ((OL.own ow_l6_4).toL ++ [(⟨l6_3, j10⟩ : GLine)])) 38, I (wi (l6_5 + j10)), I 0, I 0]), (38, .arr 107 2 (List.map GLine.cs ((OL.own ow_l6_4).toL ++ [(⟨l6_3, j10⟩ : GLine)])).length)]⟩ krf ?_
       refine sim_last Try.fm krf ?_
       exact kq_n (l6_1, l6_2, wi (l6_3 + 1), OL.own ((OL.own ow_l6_4).toL ++ [(⟨l6_3, j10⟩ : GLine)]), wi (l6_5 + j10)) ⟨[4, 5, 6, 7, 8, 9, 15, 16, 17], [4, 5, 6, 7, 38], [], []⟩ krf
      ·refine sim_reg ?_
       refine xs_run 1 krf ?_
       refine xs_inline [(1028, .box 103 (bxc (GBB.cs ⟨x7, a1c, a2s⟩)))] [.ptr 1028 0] [(1028, 28)] [] [] krf Try.func68 rfl Try.ntmps68 rfl krf krf krf ?_
       refine sim_run Try.fm ⟨[0], [1028], [], []⟩ ⟨[(0, .ptr 1028 0)], [(1028, .box 103 (bxc (GBB.cs ⟨x7, a1c, a2s⟩)))]⟩ krf ?_
       refine sim_seq ?_
       refine sim_run Try.fm ⟨[0, 6, 7], [1028], [], []⟩ ⟨[(0, .ptr 1028 0), (6, .ptr 1028 0), (7, I x7.Kind)], [(1028, .box 103 (bxc (GBB.cs ⟨x7, a1c, a2s⟩)))]⟩ krf ?_
       refine sim_block ?_
       refine sim_run Try.fm ⟨[0, 6, 7, 8], [1028], [], []⟩ ⟨[(0, .ptr 1028 0), (6, .ptr 1028 0), (7, I x7.Kind), (8, B (eqI x7.Kind 1))], [(1028, .box 103 (bxc (GBB.cs ⟨x7, a1c, a2s⟩)))]⟩ krf ?_
       refine sim_cond (eqI x7.Kind 1) krf ?_ ?_
       ·refine sim_run Try.fm ⟨[2], [1028], [], []⟩ ⟨[(2, .fn (.func 87) [.ptr 1028 0] [])], [(1028, .box 103 (bxc (GBB.cs ⟨x7, a1c, a2s⟩)))]⟩ krf ?_
        refine sim_ret ?_
        refine bq_r ?_
        refine sq_r ?_
        refine iq_ret .id [1028] [] (.fn (.func 87) [.ptr 1028 0] []) krf krf ?_
        refine kr0 ?_
        refine xs_inline [(1028, .box 103 (bxc (GBB.cs ⟨x7, a1c, a2s⟩)))] [.ptr 1028 0] [(1028, 28)] [] [] krf Try.func87 rfl Try.ntmps87 rfl krf krf krf ?_
        refine sim_run Try.fm ⟨[0], [1028], [], []⟩ ⟨[(0, .ptr 1028 0)], [(1028, .box 103 (bxc (GBB.cs ⟨x7, a1c, a2s⟩)))]⟩ krf ?_
        refine sim_seq ?_
        refine sim_seq ?_
        refine sim_reg ?_
        refine xs_run 6 krf ?_
        refine xs_ro [.ro [], .cv (.id)] krf (g_bb_applies_ok n (⟨x7, a1c, a2s⟩ : GBB) a2s.From) krf krf (fun _ => by kernel_rfl) (fun r11 => ?_)
        refine xs_end ?_
        refine sq_nk ⟨[0, 6, 7, 9], [1028], [], []⟩ ⟨[(0, .ptr 1028 0), (6, .ptr 1028 10), (7, .ptr 1028 10), (9, B r11)], [(1028, .box 103 (bxc (GBB.cs ⟨x7, a1c, a2s⟩)))]⟩ krf ?_
        refine sim_cond r11 krf ?_ ?_
        ·refine sim_run Try.fm ⟨[2], [1028], [], []⟩ ⟨[(2, I x7.Price)], [(1028, .box 103 (bxc (GBB.cs ⟨x7, a1c, a2s⟩)))]⟩ krf ?_
         refine sim_ret ?_
         refine sq_r ?_
         refine iq_ret .id [1028] [] (I x7.Price) krf krf ?_
         refine kr0 ?_
         refine xs_run 1 krf ?_
         refine xs_end ?_
         exact kq_n (k := fun j10 => g_bill_sum_j10 l6_1 l6_2 l6_3 (OL.own ow_l6_4) l6_5 recl6 j10) x7.Price ⟨[4, 5, 6, 7, 8, 9, 10, 13, 15, 16, 17], [4, 5, 6, 7, 38], [], []⟩ krf
        ·refine sim_skip ?_
         refine sq_nk ⟨[6, 7], [1028], [], []⟩ ⟨[(6, .ptr 1028 10), (7, .ptr 1028 10)], [(1028, .box 103 (bxc (GBB.cs ⟨x7, a1c, a2s⟩)))]⟩ krf ?_
         refine sim_run Try.fm ⟨[2], [1028], [], []⟩ ⟨[(2, I 0)], [(1028, .box 103 (bxc (GBB.cs ⟨x7, a1c, a2s⟩)))]⟩ krf ?_
         refine sim_ret ?_
         refine iq_ret .id [1028] [] (I 0) krf krf ?_
         refine kr0 ?_
         refine xs_run 1 krf ?_
         refine xs_end ?_
         exact kq_n (k := fun j10 => g_bill_sum_j10 l6_1 l6_2 l6_3 (OL.own ow_l6_4) l6_5 recl6 j10) 0 ⟨[4, 5, 6, 7, 8, 9, 10, 13, 15, 16, 17], [4, 5, 6, 7, 38], [], []⟩ krf
       ·refine sim_run Try.fm ⟨[0, 6, 7, 12], [1028], [], []⟩ ⟨[(0, .ptr 1028 0), (6, .ptr 1028 0), (7, I x7.Kind), (12, B (eqI x7.Kind 2))], [(1028, .box 103 (bxc (GBB.cs ⟨x7, a1c, a2s⟩)))]⟩ krf ?_
        refine sim_cond (eqI x7.Kind 2) krf ?_ ?_
        ·refine sim_run Try.fm ⟨[2], [1028], [], []⟩ ⟨[(2, .fn (.func 88) [.ptr 1028 0] [])], [(1028, .box 103 (bxc (GBB.cs ⟨x7, a1c, a2s⟩)))]⟩ krf ?_
         refine sim_ret ?_
         refine bq_r ?_
         refine sq_r ?_
         refine iq_ret .id [1028] [] (.fn (.func 88) [.ptr 1028 0] []) krf krf ?_
         refine kr0 ?_
         refine xs_inline [(1028, .box 103 (bxc (GBB.cs ⟨x7, a1c, a2s⟩)))] [.ptr 1028 0] [(1028, 28)] [] [] krf Try.func88 rfl Try.ntmps88 rfl krf krf krf ?_
         refine sim_run Try.fm ⟨[0], [1028], [], []⟩ ⟨[(0, .ptr 1028 0)], [(1028, .box 103 (bxc (GBB.cs ⟨x7, a1c, a2s⟩)))]⟩ krf ?_
         refine sim_run Try.fm ⟨[0, 3], [1028], [], []⟩ ⟨[(0, .ptr 1028 0), (3, I 0)], [(1028, .box 103 (bxc (GBB.cs ⟨x7, a1c, a2s⟩)))]⟩ krf ?_
         refine sim_bind (fun j12 => ⟨[(0, .ptr 1028 0), (3, I j12), (6, .ptr 1028 0), (7, .ptr 1028 0)], [(1028, .box 103 (bxc (GBB.cs ⟨x7, a1c, a2s⟩)))]⟩ : Int → St) ?_ ?_
         ·refine sim_run Try.fm ⟨[0, 3, 6, 7, 10, 11, 12], [1028], [], []⟩ ⟨[(0, .ptr 1028 0), (3, I 0), (6, .ptr 1028 0), (7, .ptr 1028 0), (10, .p (.sl 2 (List.map GSlice.cs a2s.Slices))), (11, I (lenI (List.map GSlice.cs a2s.Slices))), (12, I 0)], [(1028, .box 103 (bxc (GBB.cs ⟨x7, a1c, a2s⟩)))]⟩ krf ?_
          refine sim_block ?_
          refine sim_loop (fun (l13_1, l13_2) => ⟨[(0, .ptr 1028 0), (3, I l13_1), (6, .ptr 1028 0), (7, .ptr 1028 0), (10, .p (.sl 2 (List.map GSlice.cs a2s.Slices))), (11, I (lenI (List.map GSlice.cs a2s.Slices))), (12, I l13_2)], [(1028, .box 103 (bxc (GBB.cs ⟨x7, a1c, a2s⟩)))]⟩ : (Int × Int) → St) (weak_shr (K := ⟨[0, 3, 6, 7, 10, 11, 12], [1028], [], []⟩) krf) ?_
          rintro recl13 ⟨l13_1, l13_2⟩
          show SimE (g_bill_sum_l13 n a1c a2s x7 recl13 l13_1 l13_2) _ _ _ _ _ _
          unfold g_bill_sum_l13
          refine sim_run Try.fm ⟨[0, 3, 6, 7, 10, 11, 12, 13], [1028], [], []⟩ ⟨[(0, .ptr 1028 0), (3, I l13_1), (6, .ptr 1028 0), (7, .ptr 1028 0), (10, .p (.sl 2 (List.map GSlice.cs a2s.Slices))), (11, I (lenI (List.map GSlice.cs a2s.Slices))), (12, I l13_2), (13, B (ltI l13_2 (lenI (List.map GSlice.cs a2s.Slices))))], [(1028, .box 103 (bxc (GBB.cs ⟨x7, a1c, a2s⟩)))]⟩ krf ?_
          refine sim_seq ?_
          refine sim_cond (ltI l13_2 (lenI (List.map GSlice.cs a2s.Slices))) krf ?_ ?_
          ·refine sim_skip ?_
           refine sq_nk ⟨[0, 3, 6, 7, 10, 11, 12], [1028], [], []⟩ ⟨[(0, .ptr 1028 0), (3, I l13_1), (6, .ptr 1028 0), (7, .ptr 1028 0), (10, .p (.sl 2 (List.map GSlice.cs a2s.Slices))), (11, I (lenI (List.map GSlice.cs a2s.Slices))), (12, I l13_2)], [(1028, .box 103 (bxc (GBB.cs ⟨x7, a1c, a2s⟩)))]⟩ krf ?_
           refine sim_seq ?_
           refine sim_block ?_
           refine sim_seq ?_
           refine sim_reg ?_
           refine xs_get krf krf (aop_idx (e := 49) (S := 2) (enc := GSlice.cs) (l := a2s.Slices) (k := .i64) (n := l13_2) (sv := .p (.sl 2 (List.map GSlice.cs a2s.Slices))) rfl krf krf krf krf krf) (fun x14 => ?_)
           refine xs_run 3 krf ?_
           refine xs_end ?_
           refine sq_nk ⟨[0, 3, 5, 6, 7, 10, 11, 12], [5, 1028], [], []⟩ ⟨[(0, .ptr 1028 0), (3, I l13_1), (5, .ptr 5 0), (6, .ptr 1028 0), (7, .ptr 1028 0), (10, .p (.sl 2 (List.map GSlice.cs a2s.Slices))), (11, I (lenI (List.map GSlice.cs a2s.Slices))), (12, I l13_2)], [(5, .box 49 (bxc (GSlice.cs x14))), (1028, .box 103 (bxc (GBB.cs ⟨x7, a1c, a2s⟩)))]⟩ krf ?_
           refine sim_seq ?_
           refine sim_reg ?_
           refine xs_run 3 krf ?_
           refine xs_ro [.ro [], .cv (.id)] krf (g_bb_applies_ok n (⟨x7, a1c, a2s⟩ : GBB) x14.Minute) krf krf (fun _ => by kernel_rfl) (fun r15 => ?_)
           refine xs_end ?_
           refine sq_nk ⟨[0, 3, 5, 6, 7, 10, 11, 12, 19], [5, 1028], [], []⟩ ⟨[(0, .ptr 1028 0), (3, I l13_1), (5, .ptr 5 0), (6, .ptr 1028 0), (7, .ptr 1028 0), (10, .p (.sl 2 (List.map GSlice.cs a2s.Slices))), (11, I (lenI (List.map GSlice.cs a2s.Slices))), (12, I l13_2), (19, B r15)], [(5, .box 49 (bxc (GSlice.cs x14))), (1028, .box 103 (bxc (GBB.cs ⟨x7, a1c, a2s⟩)))]⟩ krf ?_
           refine sim_cond r15 krf ?_ ?_
           ·refine sim_last Try.fm krf ?_
            refine bq_n ?_
            refine sq_nk ⟨[0, 3, 6, 7, 10, 11, 12], [1028], [], []⟩ ⟨[(0, .ptr 1028 0), (3, I (wi (l13_1 + x14.Energy))), (6, .ptr 1028 0), (7, .ptr 1028 0), (10, .p (.sl 2 (List.map GSlice.cs a2s.Slices))), (11, I (lenI (List.map GSlice.cs a2s.Slices))), (12, I l13_2)], [(1028, .box 103 (bxc (GBB.cs ⟨x7, a1c, a2s⟩)))]⟩ krf ?_
            refine sim_last Try.fm krf ?_
            exact kq_n (wi (l13_1 + x14.Energy), wi (l13_2 + 1)) ⟨[0, 3, 6, 7, 10, 11, 12], [1028], [], []⟩ krf
           ·refine sim_skip ?_
            refine bq_n ?_
            refine sq_nk ⟨[0, 3, 6, 7, 10, 11, 12], [1028], [], []⟩ ⟨[(0, .ptr 1028 0), (3, I l13_1), (6, .ptr 1028 0), (7, .ptr 1028 0), (10, .p (.sl 2 (List.map GSlice.cs a2s.Slices))), (11, I (lenI (List.map GSlice.cs a2s.Slices))), (12, I l13_2)], [(1028, .box 103 (bxc (GBB.cs ⟨x7, a1c, a2s⟩)))]⟩ krf ?_
            refine sim_last Try.fm krf ?_
            exact kq_n (l13_1, wi (l13_2 + 1)) ⟨[0, 3, 6, 7, 10, 11, 12], [1028], [], []⟩ krf
          ·refine sim_exit ?_
           refine sq_x ?_
           refine kq_x ?_
           refine bq_hit ?_
           exact nq_n l13_1 ⟨[0, 3, 6, 7], [1028], [], []⟩ krf
         ·rintro j12
          refine sim_seq ?_
          refine sim_reg ?_
          refine xs_run 6 krf ?_
          refine xs_call [] krf (g_money_Times_ok n x7.Price j12 1000) krf krf (fun _ => by kernel_rfl) (fun r16 => ?_)
          refine xs_run 2 krf ?_
          refine xs_exc [] krf (g_bill_must_ok n r16.1 r16.2) krf krf (fun _ => by kernel_rfl) (fun _ => by kernel_rfl) (fun r17 => ?_) (fun e18 => ?_)
          ·refine xs_run 1 krf ?_
           refine xs_end ?_
           refine sq_nk ⟨[2], [1028], [], []⟩ ⟨[(2, I r17)], [(1028, .box 103 (bxc (GBB.cs ⟨x7, a1c, a2s⟩)))]⟩ krf ?_
           refine sim_ret ?_
           refine iq_ret .id [1028] [] (I r17) krf krf ?_
           refine kr0 ?_
           refine xs_run 1 krf ?_
           refine xs_end ?_
           exact kq_n (k := fun j10 => g_bill_sum_j10 l6_1 l6_2 l6_3 (OL.own ow_l6_4) l6_5 recl6 j10) r17 ⟨[4, 5, 6, 7, 8, 9, 10, 13, 15, 16, 17], [4, 5, 6, 7, 38], [], []⟩ krf
          ·refine sq_p ?_
           refine iq_p [1028] [] krf ?_
           refine kq_p ?_
           refine bq_p ?_
           refine bq_p ?_
           refine sq_p ?_
           refine kq_p ?_
           refine bq_p ?_
           refine kq_p ?_
           exact rq_p krf krf
        ·refine sim_run Try.fm ⟨[0, 6, 7, 16], [1028], [], []⟩ ⟨[(0, .ptr 1028 0), (6, .ptr 1028 0), (7, I x7.Kind), (16, B (eqI x7.Kind 3))], [(1028, .box 103 (bxc (GBB.cs ⟨x7, a1c, a2s⟩)))]⟩ krf ?_
         refine sim_cond (eqI x7.Kind 3) krf ?_ ?_
         ·refine sim_run Try.fm ⟨[2], [1028], [], []⟩ ⟨[(2, .fn (.func 89) [.ptr 1028 0] [])], [(1028, .box 103 (bxc (GBB.cs ⟨x7, a1c, a2s⟩)))]⟩ krf ?_
          refine sim_ret ?_
          refine bq_r ?_
          refine sq_r ?_
          refine iq_ret .id [1028] [] (.fn (.func 89) [.ptr 1028 0] []) krf krf ?_
          refine kr0 ?_
          refine xs_inline [(1028, .box 103 (bxc (GBB.cs ⟨x7, a1c, a2s⟩)))] [.ptr 1028 0] [(1028, 28)] [] [] krf Try.func89 rfl Try.ntmps89 rfl krf krf krf ?_
          refine sim_run Try.fm ⟨[0], [1028], [], []⟩ ⟨[(0, .ptr 1028 0)], [(1028, .box 103 (bxc (GBB.cs ⟨x7, a1c, a2s⟩)))]⟩ krf ?_
          refine sim_seq ?_
          refine sim_drw Try.fm rfl ?_
          refine xs_run 11 krf ?_
          refine xs_seqL rfl krf krf ?_
          refine xs_roE [.ro [], .cv (.id), .cv (.id)] krf (g_bb_stretch_ok n (⟨x7, a1c, a2s⟩ : GBB) a2s.From a2s.To) krf krf (fun _ => by kernel_rfl) (fun _ => by kernel_rfl) (fun r19 => ?_) (fun e20 => ?_)
          ·refine xs_run 1 krf ?_
           refine xs_end ?_
           refine sq_nk ⟨[2], [1028], [], []⟩ ⟨[(2, I r19)], [(1028, .box 103 (bxc (GBB.cs ⟨x7, a1c, a2s⟩)))]⟩ krf ?_
           refine sim_ret ?_
           refine iq_ret .id [1028] [] (I r19) krf krf ?_
           refine kr0 ?_
           refine xs_run 1 krf ?_
           refine xs_end ?_
           exact kq_n (k := fun j10 => g_bill_sum_j10 l6_1 l6_2 l6_3 (OL.own ow_l6_4) l6_5 recl6 j10) r19 ⟨[4, 5, 6, 7, 8, 9, 10, 13, 15, 16, 17], [4, 5, 6, 7, 38], [], []⟩ krf
          ·refine sq_p ?_
           refine iq_p [1028] [] krf ?_
           refine kq_p ?_
           refine bq_p ?_
           refine bq_p ?_
           refine sq_p ?_
           refine kq_p ?_
           refine bq_p ?_
           refine kq_p ?_
           exact rq_p krf krf
         ·refine sim_run Try.fm ⟨[0, 6, 7, 20], [1028], [], []⟩ ⟨[(0, .ptr 1028 0), (6, .ptr 1028 0), (7, I x7.Kind), (20, B (eqI x7.Kind 4))], [(1028, .box 103 (bxc (GBB.cs ⟨x7, a1c, a2s⟩)))]⟩ krf ?_
          refine sim_cond (eqI x7.Kind 4) krf ?_ ?_
          ·refine sim_run Try.fm ⟨[2], [1028], [], []⟩ ⟨[(2, .fn (.func 90) [.ptr 1028 0] [])], [(1028, .box 103 (bxc (GBB.cs ⟨x7, a1c, a2s⟩)))]⟩ krf ?_
           refine sim_ret ?_
           refine bq_r ?_
           refine sq_r ?_
           refine iq_ret .id [1028] [] (.fn (.func 90) [.ptr 1028 0] []) krf krf ?_
           refine kr0 ?_
           refine xs_inline [(1028, .box 103 (bxc (GBB.cs ⟨x7, a1c, a2s⟩)))] [.ptr 1028 0] [(1028, 28)] [] [] krf Try.func90 rfl Try.ntmps90 rfl krf krf krf ?_
           refine sim_run Try.fm ⟨[0], [1028], [], []⟩ ⟨[(0, .ptr 1028 0)], [(1028, .box 103 (bxc (GBB.cs ⟨x7, a1c, a2s⟩)))]⟩ krf ?_
           refine sim_seq ?_
           refine sim_drw Try.fm rfl ?_
           refine xs_run 11 krf ?_
           refine xs_seqL rfl krf krf ?_
           refine xs_roE [.ro [], .cv (.id), .cv (.id)] krf (g_bb_stretch_ok n (⟨x7, a1c, a2s⟩ : GBB) a2s.End a2s.To) krf krf (fun _ => by kernel_rfl) (fun _ => by kernel_rfl) (fun r21 => ?_) (fun e22 => ?_)
           ·refine xs_run 1 krf ?_
            refine xs_end ?_
            refine sq_nk ⟨[2], [1028], [], []⟩ ⟨[(2, I r21)], [(1028, .box 103 (bxc (GBB.cs ⟨x7, a1c, a2s⟩)))]⟩ krf ?_
            refine sim_ret ?_
            refine iq_ret .id [1028] [] (I r21) krf krf ?_
            refine kr0 ?_
            refine xs_run 1 krf ?_
            refine xs_end ?_
            exact kq_n (k := fun j10 => g_bill_sum_j10 l6_1 l6_2 l6_3 (OL.own ow_l6_4) l6_5 recl6 j10) r21 ⟨[4, 5, 6, 7, 8, 9, 10, 13, 15, 16, 17], [4, 5, 6, 7, 38], [], []⟩ krf
           ·refine sq_p ?_
            refine iq_p [1028] [] krf ?_
            refine kq_p ?_
            refine bq_p ?_
            refine bq_p ?_
            refine sq_p ?_
            refine kq_p ?_
            refine bq_p ?_
            refine kq_p ?_
            exact rq_p krf krf
          ·refine sim_skip ?_
           refine bq_n ?_
           refine sq_nk ⟨[0, 6, 7], [1028], [], []⟩ ⟨[(0, .ptr 1028 0), (6, .ptr 1028 0), (7, I x7.Kind)], [(1028, .box 103 (bxc (GBB.cs ⟨x7, a1c, a2s⟩)))]⟩ krf ?_
           refine sim_run Try.fm ⟨[2], [1028], [], []⟩ ⟨[(2, .fn (.func 91) [.ptr 1028 0] [])], [(1028, .box 103 (bxc (GBB.cs ⟨x7, a1c, a2s⟩)))]⟩ krf ?_
           refine sim_ret ?_
           refine iq_ret .id [1028] [] (.fn (.func 91) [.ptr 1028 0] []) krf krf ?_
           refine kr0 ?_
           refine xs_inline [(1028, .box 103 (bxc (GBB.cs ⟨x7, a1c, a2s⟩)))] [.ptr 1028 0] [(1028, 28)] [] [] krf Try.func91 rfl Try.ntmps91 rfl krf krf krf ?_
           refine sim_run Try.fm ⟨[], [1028], [], []⟩ ⟨[], [(1028, .box 103 (bxc (GBB.cs ⟨x7, a1c, a2s⟩)))]⟩ krf ?_
           refine sim_run Try.fm ⟨[2], [1028], [], []⟩ ⟨[(2, I 0)], [(1028, .box 103 (bxc (GBB.cs ⟨x7, a1c, a2s⟩)))]⟩ krf ?_
           refine sim_ret ?_
           refine iq_ret .id [1028] [] (I 0) krf krf ?_
           refine kr0 ?_
           refine xs_run 1 krf ?_
           refine xs_end ?_
           exact kq_n (k := fun j10 => g_bill_sum_j10 l6_1 l6_2 l6_3 (OL.own ow_l6_4) l6_5 recl6 j10) 0 ⟨[4, 5, 6, 7, 8, 9, 10, 13, 15, 16, 17], [4, 5, 6, 7, 38], [], []⟩ krf
   ·refine sim_exit ?_
    refine sq_x ?_
    refine kq_x ?_
    refine bq_hit ?_
    exact kq_n (k := fun (j1_1, j1_2, j1_3, j1_4) => g_bill_sum_j1 n j1_1 j1_2 j1_3 j1_4) (l6_1, l6_2, (OL.own ow_l6_4), l6_5) ⟨[6, 7, 8, 9], [6, 7, 38], [], []⟩ krf
def g_bill_caught_2 (n : Nat) (a0x_0 : Int) (a1err : Int) : Option Int :=
 some a0x_0
theorem g_bill_caught_2_ok (n : Nat) (a0x_0 : Int) (a1err : Int) : ∀ r, g_bill_caught_2 n a0x_0 a1err = some r → ACall Try.prog 37 [.ifc 99 (.agg [I a0x_0]), .ptr 1001 0] (Go.Abs.look [(1001, .box 34 [I a1err])]) (heapR (fun r : Int => ((.ret (.tup []), [(1001, .box 34 [I r])]) : AEnd × List (Nat × Blk))) r) := by
 refine acall_sim (X := fun r : Int => ((.ret (.tup []), [(1001, .box 34 [I r])]) : AEnd × List (Nat × Blk))) [(1001, .box 34 [I a1err])] Try.func37 rfl Try.ntmps37 rfl ?_
 unfold g_bill_caught_2
 refine sim_seq ?_
 refine sim_run Try.fm ⟨[0, 1, 6, 7], [1001], [], []⟩ ⟨[(0, .ifc 99 (.agg [I a0x_0])), (1, .ptr 1001 0), (6, .ifc 99 (.agg [I a0x_0])), (7, B false)], [(1001, .box 34 [I a1err])]⟩ krf ?_
 refine sim_condF krf ?_
 refine sim_skip ?_
 refine sq_nk ⟨[0, 1, 6, 7], [1001], [], []⟩ ⟨[(0, .ifc 99 (.agg [I a0x_0])), (1, .ptr 1001 0), (6, .ifc 99 (.agg [I a0x_0])), (7, B false)], [(1001, .box 34 [I a1err])]⟩ krf ?_
 refine sim_run Try.fm ⟨[0, 1, 4, 5, 6, 7], [4, 1001], [], []⟩ ⟨[(0, .ifc 99 (.agg [I a0x_0])), (1, .ptr 1001 0), (4, .ptr 4 0), (5, B true), (6, .ifc 99 (.agg [I a0x_0])), (7, B false)], [(4, .box 99 [I a0x_0]), (1001, .box 34 [I a1err])]⟩ krf ?_
 refine sim_seq ?_
 refine sim_run Try.fm ⟨[0, 1, 4, 6, 7, 14], [4, 1001], [], []⟩ ⟨[(0, .ifc 99 (.agg [I a0x_0])), (1, .ptr 1001 0), (4, .ptr 4 0), (6, .ifc 99 (.agg [I a0x_0])), (7, B false), (14, B false)], [(4, .box 99 [I a0x_0]), (1001, .box 34 [I a1err])]⟩ krf ?_
 refine sim_condF krf ?_
 refine sim_skip ?_
 refine sq_nk ⟨[1, 4, 6, 7], [4, 1001], [], []⟩ ⟨[(1, .ptr 1001 0), (4, .ptr 4 0), (6, .ifc 99 (.agg [I a0x_0])), (7, B false)], [(4, .box 99 [I a0x_0]), (1001, .box 34 [I a1err])]⟩ krf ?_
 refine sim_last Try.fm krf ?_
 exact hq_n (.id) [1001] [] krf krf krf krf
def g_bill_Bill (n : Nat) (a0t : GTariff) (a1c : GCalendar) (a2s : GSession) : Option (GBill × Int) :=
 ((g_tariff_Valid n a0t).bind fun r2 =>
 cond (!r2)
  (some true)
  ((g_days_Valid n a1c).bind fun r4 =>
  cond (!r4)
   (some true)
   ((g_bill_Valid n a2s).bind fun r6 =>
   some (!r6)))).bind fun j1 =>
 cond j1
  ((g_bill_caught n 1).bind fun r7 =>
  some ((⟨[], 0, 0, 0⟩ : GBill), r7))
  ((g_bill_sum n a0t a1c a2s).bind (exc (fun r8 =>
   (g_bill_caught n 0).bind fun r10 =>
   some (r8, r10)) fun e9 => (g_bill_caught_2 n e9 0).bind fun r11 =>
  some ((⟨[], 0, 0, 0⟩ : GBill), r11)))
theorem g_bill_Bill_okH (n : Nat) (a0t : GTariff) (a1c : GCalendar) (a2s : GSession) : ∀ r, g_bill_Bill n a0t a1c a2s = some r → ACall Try.prog 21 [ag (GTariff.cs a0t), ag (GCalendar.cs a1c), ag (GSession.cs a2s)] (Go.Abs.look []) (heapR (fun r : GBill × Int => ((.ret (.tup [ag (GBill.cs r.1), I r.2]), []) : AEnd × List (Nat × Blk))) r) := by
 refine defer_sim (X := fun r : GBill × Int => ((.ret (.tup [ag (GBill.cs r.1), I r.2]), []) : AEnd × List (Nat × Blk))) [] (⟨Try.f36, _, _, _, 1, _, _, Try.func36, rfl, rfl, rfl, rfl, rfl, rfl, by decide, by decide, rfl, by kernel_rfl⟩ : Catcher Try.prog 36 37) (⟨_, _, _, _, _, 7, 8, _, rfl, rfl, rfl, rfl, rfl, rfl, rfl, by decide⟩ : Deferrer Try.f21 36) 7 Try.func21 Try.ntmps21 rfl krf rfl Try.fm rfl krf krf krf ?_
 unfold g_bill_Bill
 refine sim_keep ⟨[3, 4, 5, 6, 7], [3, 4, 5, 6, 2000], [], []⟩ ⟨[(3, .ptr 3 0), (4, .ptr 4 0), (5, .ptr 5 0), (6, .ptr 6 0), (7, .ptr 2000 0)], [(3, .box 24 (bxc (GTariff.cs a0t))), (4, .box 28 (bxc (GCalendar.cs a1c))), (5, .box 31 (bxc (GSession.cs a2s))), (6, .box 54 [.p (.val (.slice none 0 0)), I 0, I 0, I 0]), (2000, .box 34 [I 0])]⟩ krf ?_
 refine sim_seq ?_
 refine sim_bind (fun j1 => ⟨[(3, .ptr 3 0), (4, .ptr 4 0), (5, .ptr 5 0), (6, .ptr 6 0), (7, .ptr 2000 0), (21, B j1)], [(3, .box 24 (bxc (GTariff.cs a0t))), (4, .box 28 (bxc (GCalendar.cs a1c))), (5, .box 31 (bxc (GSession.cs a2s))), (6, .box 54 [.p (.val (.slice none 0 0)), I 0, I 0, I 0]), (2000, .box 34 [I 0])]⟩ : Bool → St) ?_ ?_
 ·refine sim_reg ?_
  refine xs_run 1 krf ?_
  refine xs_call [] krf (g_tariff_Valid_ok n a0t) krf krf (fun _ => by kernel_rfl) (fun r2 => ?_)
  refine xs_run 2 krf ?_
  refine xs_split (!r2) (fun h3 => ?_) (fun h3 => ?_)
  ·refine xs_no (want_ft krf h3) krf ?_
   refine xs_run 8 krf ?_
   refine xs_end ?_
   exact nq_n true ⟨[3, 4, 5, 6, 7, 21], [3, 4, 5, 6, 2000], [], []⟩ krf
  ·refine xs_one (want_ff krf h3) krf ?_
   refine xs_call [] krf (g_days_Valid_ok n a1c) krf krf (fun _ => by kernel_rfl) (fun r4 => ?_)
   refine xs_run 3 krf ?_
   refine xs_split (!r4) (fun h5 => ?_) (fun h5 => ?_)
   ·refine xs_no (want_ft krf h5) krf ?_
    refine xs_run 3 krf ?_
    refine xs_end ?_
    exact nq_n true ⟨[3, 4, 5, 6, 7, 21], [3, 4, 5, 6, 2000], [], []⟩ krf
   ·refine xs_one (want_ff krf h5) krf ?_
    refine xs_call [] krf (g_bill_Valid_ok n a2s) krf krf (fun _ => by kernel_rfl) (fun r6 => ?_)
    refine xs_run 2 krf ?_
    refine xs_end ?_
    exact nq_n (!r6) ⟨[3, 4, 5, 6, 7, 21], [3, 4, 5, 6, 2000], [], []⟩ krf
 ·rintro j1
  refine sim_cond j1 krf ?_ ?_
  ·refine sim_run Try.fm ⟨[6, 7], [6, 2000], [], []⟩ ⟨[(6, .ptr 6 0), (7, .ptr 2000 0)], [(6, .box 54 [.p (.val (.slice none 0 0)), I 0, I 0, I 0]), (2000, .box 34 [I 1])]⟩ krf ?_
   refine sim_ret ?_
   refine sq_r ?_
   refine dq_ret ?_
   refine sc_heap [(1001, 2000)] [] [] (g_bill_caught_ok n 1) krf krf krf (fun _ => by kernel_rfl) (fun _ => by kernel_rfl) (fun r7 => ?_)
   exact ke_end (.agg [.agg [.sl 2, .id, .id, .id], .id]) [] [] krf krf krf krf
  ·refine sim_skip ?_
   refine sq_nk ⟨[3, 4, 5, 6, 7], [3, 4, 5, 6, 2000], [], []⟩ ⟨[(3, .ptr 3 0), (4, .ptr 4 0), (5, .ptr 5 0), (6, .ptr 6 0), (7, .ptr 2000 0)], [(3, .box 24 (bxc (GTariff.cs a0t))), (4, .box 28 (bxc (GCalendar.cs a1c))), (5, .box 31 (bxc (GSession.cs a2s))), (6, .box 54 [.p (.val (.slice none 0 0)), I 0, I 0, I 0]), (2000, .box 34 [I 0])]⟩ krf ?_
   refine sim_seq ?_
   refine sim_reg ?_
   refine xs_run 3 krf ?_
   refine xs_exc [] krf (g_bill_sum_ok n a0t a1c a2s) krf krf (fun _ => by kernel_rfl) (fun _ => by kernel_rfl) (fun r8 => ?_) (fun e9 => ?_)
   ·refine xs_run 2 krf ?_
    refine xs_end ?_
    refine sq_nk ⟨[6, 7], [6, 2000], [], []⟩ ⟨[(6, .ptr 6 0), (7, .ptr 2000 0)], [(6, .box 54 (bxc (GBill.cs r8))), (2000, .box 34 [I 0])]⟩ krf ?_
    refine sim_ret ?_
    refine dq_ret ?_
    refine sc_heap [(1001, 2000)] [] [] (g_bill_caught_ok n 0) krf krf krf (fun _ => by kernel_rfl) (fun _ => by kernel_rfl) (fun r10 => ?_)
    exact ke_end (.id) [] [] krf krf krf krf
   ·refine sq_p ?_
    refine dq_p ?_
    refine sc_heap [(1001, 2000)] [] [] (g_bill_caught_2_ok n e9 0) krf krf krf (fun _ => by kernel_rfl) (fun _ => by kernel_rfl) (fun r11 => ?_)
    exact ke_end (.agg [.agg [.sl 2, .id, .id, .id], .id]) [] [] krf krf krf krf
theorem g_bill_Bill_ok (n : Nat) (a0t : GTariff) (a1c : GCalendar) (a2s : GSession) : ∀ r, g_bill_Bill n a0t a1c a2s = some r → PCall Try.prog 21 [ag (GTariff.cs a0t), ag (GCalendar.cs a1c), ag (GSession.cs a2s)] (.ret (.tup [ag (GBill.cs r.1), I r.2])) := fun r h => pcall_of (g_bill_Bill_okH n a0t a1c a2s r h) rfl
def g_law35_QuoteBounds (n : Nat) (a0t : GTariff) (a1c : GCalendar) (a2from : Int) (a3to : Int) (a4energy : Int) (a5s : GSession) : Option Bool :=
 (g_law35_head n).bind fun r1 =>
 ((g_ref35_Few n a0t a1c a5s).bind fun r3 =>
 cond (!r3)
  (some true)
  ((g_quote_Covers n a5s a2from a3to a4energy).bind fun r5 =>
  some (!r5))).bind fun j2 =>
 cond j2
  (some r1)
  ((g_quote_Quote n a0t a1c a2from a3to a4energy).bind fun r6 =>
  cond (!eqI r6.2 0)
   (some r1)
   ((g_bill_Bill n a0t a1c a5s).bind fun r7 =>
   cond r1
    (cond (eqI r7.2 0)
     (some (leI r7.1.Total r6.1))
     (some false))
    (some false)))
theorem g_law35_QuoteBounds_ok (n : Nat) (a0t : GTariff) (a1c : GCalendar) (a2from : Int) (a3to : Int) (a4energy : Int) (a5s : GSession) : ∀ r, g_law35_QuoteBounds n a0t a1c a2from a3to a4energy a5s = some r → PCall Try.prog 8 [ag (GTariff.cs a0t), ag (GCalendar.cs a1c), I a2from, I a3to, I a4energy, ag (GSession.cs a5s)] (.ret (B r)) := by
 refine pcall_sim (X := fun r : Bool => AEnd.ret (B r)) Try.func8 rfl Try.ntmps8 rfl ?_
 unfold g_law35_QuoteBounds
 refine sim_run Try.fm ⟨[2, 3, 4, 6, 7, 11], [6, 7, 11], [], []⟩ ⟨[(2, I a2from), (3, I a3to), (4, I a4energy), (6, .ptr 6 0), (7, .ptr 7 0), (11, .ptr 11 0)], [(6, .box 24 (bxc (GTariff.cs a0t))), (7, .box 28 (bxc (GCalendar.cs a1c))), (11, .box 31 (bxc (GSession.cs a5s)))]⟩ krf ?_
 refine sim_seq ?_
 refine sim_reg ?_
 refine xs_call [] krf (g_law35_head_ok n) krf krf (fun _ => by kernel_rfl) (fun r1 => ?_)
 refine xs_run 1 krf ?_
 refine xs_end ?_
 refine sq_nk ⟨[2, 3, 4, 6, 7, 11, 13], [6, 7, 11], [], []⟩ ⟨[(2, I a2from), (3, I a3to), (4, I a4energy), (6, .ptr 6 0), (7, .ptr 7 0), (11, .ptr 11 0), (13, B r1)], [(6, .box 24 (bxc (GTariff.cs a0t))), (7, .box 28 (bxc (GCalendar.cs a1c))), (11, .box 31 (bxc (GSession.cs a5s)))]⟩ krf ?_
 refine sim_seq ?_
 refine sim_bind (fun j2 => ⟨[(2, I a2from), (3, I a3to), (4, I a4energy), (6, .ptr 6 0), (7, .ptr 7 0), (11, .ptr 11 0), (13, B r1), (31, B j2)], [(6, .box 24 (bxc (GTariff.cs a0t))), (7, .box 28 (bxc (GCalendar.cs a1c))), (11, .box 31 (bxc (GSession.cs a5s)))]⟩ : Bool → St) ?_ ?_
 ·refine sim_reg ?_
  refine xs_run 3 krf ?_
  refine xs_call [] krf (g_ref35_Few_ok n a0t a1c a5s) krf krf (fun _ => by kernel_rfl) (fun r3 => ?_)
  refine xs_run 2 krf ?_
  refine xs_split (!r3) (fun h4 => ?_) (fun h4 => ?_)
  ·refine xs_no (want_ft krf h4) krf ?_
   refine xs_run 6 krf ?_
   refine xs_end ?_
   exact nq_n true ⟨[2, 3, 4, 6, 7, 11, 13, 31], [6, 7, 11], [], []⟩ krf
  ·refine xs_one (want_ff krf h4) krf ?_
   refine xs_run 3 krf ?_
   refine xs_call [] krf (g_quote_Covers_ok n a5s a2from a3to a4energy) krf krf (fun _ => by kernel_rfl) (fun r5 => ?_)
   refine xs_run 2 krf ?_
   refine xs_end ?_
   exact nq_n (!r5) ⟨[2, 3, 4, 6, 7, 11, 13, 31], [6, 7, 11], [], []⟩ krf
 ·rintro j2
  refine sim_cond j2 krf ?_ ?_
  ·refine sim_run Try.fm ⟨[12], [], [], []⟩ ⟨[(12, B r1)], []⟩ krf ?_
   refine sim_ret ?_
   refine sq_r ?_
   exact rq_ret (.id) krf krf krf
  ·refine sim_skip ?_
   refine sq_nk ⟨[2, 3, 4, 6, 7, 11, 13], [6, 7, 11], [], []⟩ ⟨[(2, I a2from), (3, I a3to), (4, I a4energy), (6, .ptr 6 0), (7, .ptr 7 0), (11, .ptr 11 0), (13, B r1)], [(6, .box 24 (bxc (GTariff.cs a0t))), (7, .box 28 (bxc (GCalendar.cs a1c))), (11, .box 31 (bxc (GSession.cs a5s)))]⟩ krf ?_
   refine sim_seq ?_
   refine sim_reg ?_
   refine xs_run 5 krf ?_
   refine xs_call [] krf (g_quote_Quote_ok n a0t a1c a2from a3to a4energy) krf krf (fun _ => by kernel_rfl) (fun r6 => ?_)
   refine xs_run 5 krf ?_
   refine xs_end ?_
   refine sq_nk ⟨[6, 7, 11, 13, 14, 15], [6, 7, 11], [], []⟩ ⟨[(6, .ptr 6 0), (7, .ptr 7 0), (11, .ptr 11 0), (13, B r1), (14, I r6.1), (15, I r6.2)], [(6, .box 24 (bxc (GTariff.cs a0t))), (7, .box 28 (bxc (GCalendar.cs a1c))), (11, .box 31 (bxc (GSession.cs a5s)))]⟩ krf ?_
   refine sim_seq ?_
   refine sim_run Try.fm ⟨[6, 7, 11, 13, 14, 43], [6, 7, 11], [], []⟩ ⟨[(6, .ptr 6 0), (7, .ptr 7 0), (11, .ptr 11 0), (13, B r1), (14, I r6.1), (43, B (!eqI r6.2 0))], [(6, .box 24 (bxc (GTariff.cs a0t))), (7, .box 28 (bxc (GCalendar.cs a1c))), (11, .box 31 (bxc (GSession.cs a5s)))]⟩ krf ?_
   refine sim_cond (!eqI r6.2 0) krf ?_ ?_
   ·refine sim_run Try.fm ⟨[12], [], [], []⟩ ⟨[(12, B r1)], []⟩ krf ?_
    refine sim_ret ?_
    refine sq_r ?_
    exact rq_ret (.id) krf krf krf
   ·refine sim_skip ?_
    refine sq_nk ⟨[6, 7, 11, 13, 14], [6, 7, 11], [], []⟩ ⟨[(6, .ptr 6 0), (7, .ptr 7 0), (11, .ptr 11 0), (13, B r1), (14, I r6.1)], [(6, .box 24 (bxc (GTariff.cs a0t))), (7, .box 28 (bxc (GCalendar.cs a1c))), (11, .box 31 (bxc (GSession.cs a5s)))]⟩ krf ?_
    refine sim_seq ?_
    refine sim_reg ?_
    refine xs_run 3 krf ?_
    refine xs_call [] krf (g_bill_Bill_ok n a0t a1c a5s) krf krf (fun _ => by kernel_rfl) (fun r7 => ?_)
    refine xs_run 6 krf ?_
    refine xs_end ?_
    refine sq_nk ⟨[13, 14, 16, 17], [16], [], []⟩ ⟨[(13, B r1), (14, I r6.1), (16, .ptr 16 0), (17, I r7.2)], [(16, .box 54 (bxc (GBill.cs r7.1)))]⟩ krf ?_
    refine sim_seq ?_
    refine sim_reg ?_
    refine xs_run 2 krf ?_
    refine xs_split r1 (fun h8 => ?_) (fun h8 => ?_)
    ·refine xs_one (want_tt krf h8) krf ?_
     refine xs_run 3 krf ?_
     refine xs_split (eqI r7.2 0) (fun h9 => ?_) (fun h9 => ?_)
     ·refine xs_one (want_tt krf h9) krf ?_
      refine xs_run 5 krf ?_
      refine xs_end ?_
      refine sq_nk ⟨[12], [], [], []⟩ ⟨[(12, B (leI r7.1.Total r6.1))], []⟩ krf ?_
      refine sim_ret ?_
      exact rq_ret (.id) krf krf krf
     ·refine xs_no (want_tf krf h9) krf ?_
      refine xs_run 5 krf ?_
      refine xs_end ?_
      refine sq_nk ⟨[12], [], [], []⟩ ⟨[(12, B false)], []⟩ krf ?_
      refine sim_ret ?_
      exact rq_ret (.id) krf krf krf
    ·refine xs_no (want_tf krf h8) krf ?_
     refine xs_run 9 krf ?_
     refine xs_end ?_
     refine sq_nk ⟨[12], [], [], []⟩ ⟨[(12, B false)], []⟩ krf ?_
     refine sim_ret ?_
     exact rq_ret (.id) krf krf krf
end Go.Proofs
namespace Go.Proofs
open Go Go.Abs
set_option maxRecDepth 100000
set_option linter.unusedVariables false
def g_ref02_Kinds (n : Nat) : Option (List (List UInt8)) :=
 some [[102, 101, 101, 100, 101, 114], [99, 97, 98, 108, 101], [111, 119, 110, 101, 114], [99, 111, 110, 116, 114, 97, 99, 116], [99, 104, 97, 114, 103, 101, 114], [98, 97, 121], [116, 97, 114, 105, 102, 102]]
def g_ref02_Attrs (n : Nat) : Option (List (List UInt8)) :=
 some [[108, 105, 109, 105, 116], [110, 101, 117, 116, 114, 97, 108], [102, 117, 115, 101], [116, 104, 101, 114, 109, 97, 108], [102, 114, 111, 109], [97, 116], [112, 104, 97, 115, 101, 115], [97, 109, 112, 115], [102, 97, 108, 108, 98, 97, 99, 107], [111, 119, 110, 101, 114], [99, 97, 114, 100], [114, 97, 110, 107], [99, 104, 97, 114, 103, 101, 114]]
def g_ref02_Articles (n : Nat) : Option (List (List UInt8)) :=
 some [[115, 116, 97, 114, 116], [101, 110, 101, 114, 103, 121], [116, 105, 109, 101], [105, 100, 108, 101], [99, 97, 112], [116, 97, 120]]
def g_ref02_Words (n : Nat) : Option (List (List UInt8)) :=
 some [[111, 110], [119, 111, 114, 107], [115, 97, 116, 117, 114, 100, 97, 121], [115, 117, 110, 100, 97, 121], [98, 101, 116, 119, 101, 101, 110], [112, 101, 114], [102, 114, 101, 101]]
def g_ref32_Article (n : Nat) (a0a : GArticle) : Option Bool :=
 (cond (ltI a0a.Price 0)
  (some true)
  (cond (ltI 1000000 a0a.Price)
   (some true)
   (cond (ltI a0a.From 0)
    (some true)
    (cond (ltI 1439 a0a.From)
     (some true)
     (cond (leI a0a.To a0a.From)
      (some true)
      (cond (ltI 1440 a0a.To)
       (some true)
       (cond (ltI a0a.Days 1)
        (some true)
        (some (ltI 7 a0a.Days))))))))).bind fun j1 =>
 cond j1
  (some false)
  ((cond (eqI a0a.Kind 3)
   (some true)
   (some (eqI a0a.Kind 4))).bind fun j9 =>
  cond j9
   ((cond (leI 1 a0a.Unit)
    (cond (leI a0a.Unit 1440)
     (cond (leI 0 a0a.Free)
      (some (leI a0a.Free 1440))
      (some false))
     (some false))
    (some false)).bind fun j11 =>
   some j11)
   ((cond (!eqI a0a.Unit 0)
    (some true)
    (some (!eqI a0a.Free 0))).bind fun j15 =>
   cond j15
    (some false)
    ((cond (eqI a0a.From 0)
     (cond (eqI a0a.To 1440)
      (some (eqI a0a.Days 7))
      (some false))
     (some false)).bind fun j17 =>
    cond (eqI a0a.Kind 6)
     ((cond j17
      (some (leI a0a.Price 10000))
      (some false)).bind fun j20 =>
     some j20)
     (cond (eqI a0a.Kind 5)
      (some j17)
      (cond (eqI a0a.Kind 1)
       (some true)
       (some (eqI a0a.Kind 2)))))))
def g_ref26_offset (n : Nat) (a0n : Int) : Option Bool :=
 cond (leI (-1440) a0n)
  (some (leI a0n 1440))
  (some false)
def g_ref26_Valid_l6 (a0c : GCalendar) (recl6 : Int → Option Bool) (l6 : Int) : Option Bool :=
 cond (ltI l6 (lenI (List.map ci a0c.Holidays)))
  ((getI a0c.Holidays l6).bind fun x7 =>
  (cond (ltI x7 0)
   (some true)
   (cond (ltI 36500 x7)
    (some true)
    (cond (ltI 0 l6)
     ((getI a0c.Holidays (wi (l6 - 1))).bind fun x12 =>
     some (leI x7 x12))
     (some false)))).bind fun j8 =>
  cond j8
   (some false)
   (recl6 (wi (l6 + 1))))
  (some true)
def g_ref26_Valid_j5 (n : Nat) (a0c : GCalendar) : Option Bool :=
 loopN (fun recl6 l6 => g_ref26_Valid_l6 a0c recl6 l6) n 0
def g_ref26_Valid_l13 (n : Nat) (a0c : GCalendar) (recl13 : Int → Option Bool) (l13 : Int) : Option Bool :=
 cond (ltI l13 (lenI (List.map GChange.cs a0c.Changes)))
  ((getI a0c.Changes l13).bind fun x14 =>
  ((g_ref26_offset n x14.Offset).bind fun r16 =>
  cond (!r16)
   (some true)
   (cond (ltI x14.At 0)
    (some true)
    (cond (ltI 52560000 x14.At)
     (some true)
     (cond (ltI 0 l13)
      ((getI a0c.Changes (wi (l13 - 1))).bind fun x21 =>
      some (leI x14.At x21.At))
      (some false))))).bind fun j15 =>
  cond j15
   (some false)
   (recl13 (wi (l13 + 1))))
  (g_ref26_Valid_j5 n a0c)
def g_ref26_Valid (n : Nat) (a0c : GCalendar) : Option Bool :=
 ((g_ref26_offset n a0c.Offset).bind fun r2 =>
 cond (!r2)
  (some true)
  (cond (ltI 16 (lenI (List.map GChange.cs a0c.Changes)))
   (some true)
   (some (ltI 32 (lenI (List.map ci a0c.Holidays)))))).bind fun j1 =>
 cond j1
  (some false)
  (loopN (fun recl13 l13 => g_ref26_Valid_l13 n a0c recl13 l13) n 0)
def g_ref26_Offset_l1 (a0c : GCalendar) (a1minute : Int) (recl1 : (Int × Int) → Option Int) (l1_1 : Int) (l1_2 : Int) : Option Int :=
 cond (ltI l1_2 (lenI (List.map GChange.cs a0c.Changes)))
  ((getI a0c.Changes l1_2).bind fun x2 =>
  cond (leI x2.At a1minute)
   ((getI a0c.Changes l1_2).bind fun x3 =>
   recl1 (x3.Offset, wi (l1_2 + 1)))
   (recl1 (l1_1, wi (l1_2 + 1))))
  (some l1_1)
def g_ref26_Offset (n : Nat) (a0c : GCalendar) (a1minute : Int) : Option Int :=
 loopN (fun recl1 (l1_1, l1_2) => g_ref26_Offset_l1 a0c a1minute recl1 l1_1 l1_2) n (a0c.Offset, 0)
def g_ref26_Local (n : Nat) (a0c : GCalendar) (a1minute : Int) : Option (Int × Int × Int) :=
 ((g_ref26_Valid n a0c).bind fun r2 =>
 cond (!r2)
  (some true)
  (cond (ltI a1minute 0)
   (some true)
   (some (ltI 52560000 a1minute)))).bind fun j1 =>
 cond j1
  (some (0, 0, 1))
  ((g_ref26_Offset n a0c a1minute).bind fun r5 =>
  cond (ltI (wi (a1minute + r5)) 0)
   (some ((-1), wi ((wi (a1minute + r5)) - (-1440)), 0))
   (some (wi (Int.tdiv (wi (a1minute + r5)) 1440), wi ((wi (a1minute + r5)) - (wi (1440 * (wi (Int.tdiv (wi (a1minute + r5)) 1440))))), 0)))
def g_ref26_Type_j5 (a1day : Int) : Option (Int × Int) :=
 cond (eqI (Int.tmod (wi (a1day + 7)) 7) 6)
  (some (2, 0))
  (cond (eqI (Int.tmod (wi (a1day + 7)) 7) 5)
   (some (1, 0))
   (some (0, 0)))
def g_ref26_Type_l6 (a0c : GCalendar) (a1day : Int) (recl6 : Int → Option (Int × Int)) (l6 : Int) : Option (Int × Int) :=
 cond (ltI l6 (lenI (List.map ci a0c.Holidays)))
  ((getI a0c.Holidays l6).bind fun x7 =>
  cond (eqI x7 a1day)
   (some (2, 0))
   (recl6 (wi (l6 + 1))))
  (g_ref26_Type_j5 a1day)
def g_ref26_Type (n : Nat) (a0c : GCalendar) (a1day : Int) : Option (Int × Int) :=
 ((g_ref26_Valid n a0c).bind fun r2 =>
 cond (!r2)
  (some true)
  (cond (ltI a1day (-1))
   (some true)
   (some (ltI 36501 a1day)))).bind fun j1 =>
 cond j1
  (some (0, 1))
  (loopN (fun recl6 l6 => g_ref26_Type_l6 a0c a1day recl6 l6) n 0)
def g_ref32_Applies (n : Nat) (a0a : GArticle) (a1c : GCalendar) (a2minute : Int) : Option Bool :=
 (g_ref32_Article n a0a).bind fun r1 =>
 cond (!r1)
  (some false)
  ((g_ref26_Local n a1c a2minute).bind fun r2 =>
  cond (!eqI r2.2.2 0)
   (some false)
   ((g_ref26_Type n a1c r2.1).bind fun r3 =>
   (cond (eqI r3.1 1)
    (some (eqI (Int.tmod (wi (Int.tdiv a0a.Days 2)) 2) 1))
    (some (eqI (Int.tmod a0a.Days 2) 1))).bind fun j4 =>
   (cond (eqI r3.1 2)
    (some (eqI (Int.tmod (wi (Int.tdiv a0a.Days 4)) 2) 1))
    (some j4)).bind fun j5 =>
   cond j5
    (cond (leI a0a.From r2.2.1)
     (some (ltI r2.2.1 a0a.To))
     (some false))
    (some false)))
def g_ref31_amount (n : Nat) (a0n : Int) : Option Bool :=
 cond (leI 0 a0n)
  (some (leI a0n 1000000000))
  (some false)
def g_ref31_checked (n : Nat) (a0n : Int) : Option (Int × Int) :=
 (g_ref31_amount n a0n).bind fun r1 =>
 cond (!r1)
  (some (0, 3))
  (some (a0n, 0))
def g_ref31_Started (n : Nat) (a0price : Int) (a1quantity : Int) (a2unit : Int) : Option (Int × Int) :=
 ((g_ref31_amount n a0price).bind fun r2 =>
 cond (!r2)
  (some true)
  ((g_ref31_amount n a1quantity).bind fun r4 =>
  cond (!r4)
   (some true)
   (cond (ltI a2unit 1)
    (some true)
    (some (ltI 1000000000 a2unit))))).bind fun j1 =>
 cond j1
  (some (0, 1))
  (cond (!eqI a2unit 0) (
   (g_ref31_checked n (wi (a0price * (wi (Int.tdiv (wi ((wi (a1quantity + a2unit)) - 1)) a2unit))))).bind fun r7 =>
   some (r7.1, r7.2)) none)
def g_ref31_divided (n : Nat) (a0n : Int) (a1d : Int) : Option Int :=
 cond (!eqI (wi (2 * a1d)) 0) (
  some (wi (Int.tdiv (wi ((wi (2 * a0n)) + a1d)) (wi (2 * a1d))))) none
def g_ref31_Times (n : Nat) (a0price : Int) (a1quantity : Int) (a2per : Int) : Option (Int × Int) :=
 ((g_ref31_amount n a0price).bind fun r2 =>
 cond (!r2)
  (some true)
  ((g_ref31_amount n a1quantity).bind fun r4 =>
  cond (!r4)
   (some true)
   (cond (ltI a2per 1)
    (some true)
    (some (ltI 1000000000 a2per))))).bind fun j1 =>
 cond j1
  (some (0, 1))
  ((g_ref31_divided n (wi (a0price * a1quantity)) a2per).bind fun r7 =>
  (g_ref31_checked n r7).bind fun r8 =>
  some (r8.1, r8.2))
def g_ref31_Tax (n : Nat) (a0n : Int) (a1rate : Int) : Option (Int × Int) :=
 ((g_ref31_amount n a0n).bind fun r2 =>
 cond (!r2)
  (some true)
  (cond (ltI a1rate 0)
   (some true)
   (some (ltI 100000 a1rate)))).bind fun j1 =>
 cond j1
  (some (0, 1))
  ((g_ref31_divided n (wi (a0n * a1rate)) 10000).bind fun r5 =>
  (g_ref31_checked n r5).bind fun r6 =>
  some (r6.1, r6.2))
def g_ref33_Valid_l8 (a0s : GSession) (recl8 : Int → Option Bool) (l8 : Int) : Option Bool :=
 cond (ltI l8 (lenI (List.map GSlice.cs a0s.Slices)))
  ((getI a0s.Slices l8).bind fun x9 =>
  (cond (ltI x9.Minute a0s.From)
   (some true)
   (cond (leI a0s.End x9.Minute)
    (some true)
    (cond (ltI x9.Energy 0)
     (some true)
     (cond (ltI 10000 x9.Energy)
      (some true)
      (cond (ltI 0 l8)
       ((getI a0s.Slices (wi (l8 - 1))).bind fun x16 =>
       some (leI x9.Minute x16.Minute))
       (some false)))))).bind fun j10 =>
  cond j10
   (some false)
   (recl8 (wi (l8 + 1))))
  (some true)
def g_ref33_Valid (n : Nat) (a0s : GSession) : Option Bool :=
 (cond (ltI a0s.From 0)
  (some true)
  (cond (leI a0s.To a0s.From)
   (some true)
   (cond (ltI 52560000 a0s.To)
    (some true)
    (cond (ltI 2880 (wi (a0s.To - a0s.From)))
     (some true)
     (cond (ltI a0s.End a0s.From)
      (some true)
      (cond (ltI a0s.To a0s.End)
       (some true)
       (some (ltI 48 (lenI (List.map GSlice.cs a0s.Slices)))))))))).bind fun j1 =>
 cond j1
  (some false)
  (loopN (fun recl8 l8 => g_ref33_Valid_l8 a0s recl8 l8) n 0)
structure GReading where
 Serial : Int
 Number : Int
 Minute : Int
 Register : Int
 Link : Int
deriving DecidableEq
def GReading.cs (x : GReading) : List PV := [VI x.Serial, VI x.Number, VI x.Minute, VI x.Register, VU x.Link]
structure GClaim where
 Tariff : GTariff
 Calendar : GCalendar
 Readings : List GReading
 Seed : Int
 Session : GSession
 Bill : GBill
deriving DecidableEq
def GClaim.cs (x : GClaim) : List PV := [VS x.Tariff.Name, .sl 7 (List.map GArticle.cs x.Tariff.Articles), VI x.Calendar.Offset, .sl 2 (List.map GChange.cs x.Calendar.Changes), .sl 1 (List.map ci x.Calendar.Holidays), .sl 5 (List.map GReading.cs x.Readings), VU x.Seed, VI x.Session.From, VI x.Session.To, VI x.Session.End, .sl 2 (List.map GSlice.cs x.Session.Slices), .sl 2 (List.map GLine.cs x.Bill.Lines), VI x.Bill.Net, VI x.Bill.Tax, VI x.Bill.Total]
structure GAE where
 Claim : GClaim
 follows : GSession
 bill : GBill
 rate : Int
deriving DecidableEq
def GAE.cs (x : GAE) : List PV := [VS x.Claim.Tariff.Name, .sl 7 (List.map GArticle.cs x.Claim.Tariff.Articles), VI x.Claim.Calendar.Offset, .sl 2 (List.map GChange.cs x.Claim.Calendar.Changes), .sl 1 (List.map ci x.Claim.Calendar.Holidays), .sl 5 (List.map GReading.cs x.Claim.Readings), VU x.Claim.Seed, VI x.Claim.Session.From, VI x.Claim.Session.To, VI x.Claim.Session.End, .sl 2 (List.map GSlice.cs x.Claim.Session.Slices), .sl 2 (List.map GLine.cs x.Claim.Bill.Lines), VI x.Claim.Bill.Net, VI x.Claim.Bill.Tax, VI x.Claim.Bill.Total, VI x.follows.From, VI x.follows.To, VI x.follows.End, .sl 2 (List.map GSlice.cs x.follows.Slices), .sl 2 (List.map GLine.cs x.bill.Lines), VI x.bill.Net, VI x.bill.Tax, VI x.bill.Total, VI x.rate]
def g_a_inside (n : Nat) (a0n : Int) (a1least : Int) (a2greatest : Int) : Option Bool :=
 cond (leI a1least a0n)
  (some (leI a0n a2greatest))
  (some false)
def g_a_isKey (n : Nat) (a0word : List UInt8) : Option Bool :=
 (cond (eqS a0word [102, 101, 101, 100, 101, 114])
  (some (eqS a0word [102, 101, 101, 100, 101, 114]))
  (cond (eqS a0word [99, 97, 98, 108, 101])
   (some (eqS a0word [99, 97, 98, 108, 101]))
   (cond (eqS a0word [111, 119, 110, 101, 114])
    (some (eqS a0word [111, 119, 110, 101, 114]))
    (cond (eqS a0word [99, 111, 110, 116, 114, 97, 99, 116])
     (some (eqS a0word [99, 111, 110, 116, 114, 97, 99, 116]))
     (cond (eqS a0word [99, 104, 97, 114, 103, 101, 114])
      (some (eqS a0word [99, 104, 97, 114, 103, 101, 114]))
      (cond (eqS a0word [98, 97, 121])
       (some (eqS a0word [98, 97, 121]))
       (some (eqS a0word [116, 97, 114, 105, 102, 102])))))))).bind fun j1 =>
 cond j1
  (some true)
  ((cond (eqS a0word [108, 105, 109, 105, 116])
   (some (eqS a0word [108, 105, 109, 105, 116]))
   (cond (eqS a0word [110, 101, 117, 116, 114, 97, 108])
    (some (eqS a0word [110, 101, 117, 116, 114, 97, 108]))
    (cond (eqS a0word [102, 117, 115, 101])
     (some (eqS a0word [102, 117, 115, 101]))
     (cond (eqS a0word [116, 104, 101, 114, 109, 97, 108])
      (some (eqS a0word [116, 104, 101, 114, 109, 97, 108]))
      (cond (eqS a0word [102, 114, 111, 109])
       (some (eqS a0word [102, 114, 111, 109]))
       (cond (eqS a0word [97, 116])
        (some (eqS a0word [97, 116]))
        (cond (eqS a0word [112, 104, 97, 115, 101, 115])
         (some (eqS a0word [112, 104, 97, 115, 101, 115]))
         (cond (eqS a0word [97, 109, 112, 115])
          (some (eqS a0word [97, 109, 112, 115]))
          (cond (eqS a0word [102, 97, 108, 108, 98, 97, 99, 107])
           (some (eqS a0word [102, 97, 108, 108, 98, 97, 99, 107]))
           (cond (eqS a0word [99, 97, 114, 100])
            (some (eqS a0word [99, 97, 114, 100]))
            (some (eqS a0word [114, 97, 110, 107])))))))))))).bind fun j2 =>
  cond j2
   (some true)
   ((cond (eqS a0word [115, 116, 97, 114, 116])
    (some (eqS a0word [115, 116, 97, 114, 116]))
    (cond (eqS a0word [101, 110, 101, 114, 103, 121])
     (some (eqS a0word [101, 110, 101, 114, 103, 121]))
     (cond (eqS a0word [116, 105, 109, 101])
      (some (eqS a0word [116, 105, 109, 101]))
      (cond (eqS a0word [105, 100, 108, 101])
       (some (eqS a0word [105, 100, 108, 101]))
       (cond (eqS a0word [99, 97, 112])
        (some (eqS a0word [99, 97, 112]))
        (some (eqS a0word [116, 97, 120]))))))).bind fun j3 =>
   cond j3
    (some true)
    ((cond (eqS a0word [111, 110])
     (some (eqS a0word [111, 110]))
     (cond (eqS a0word [119, 111, 114, 107])
      (some (eqS a0word [119, 111, 114, 107]))
      (cond (eqS a0word [115, 97, 116, 117, 114, 100, 97, 121])
       (some (eqS a0word [115, 97, 116, 117, 114, 100, 97, 121]))
       (cond (eqS a0word [115, 117, 110, 100, 97, 121])
        (some (eqS a0word [115, 117, 110, 100, 97, 121]))
        (cond (eqS a0word [98, 101, 116, 119, 101, 101, 110])
         (some (eqS a0word [98, 101, 116, 119, 101, 101, 110]))
         (cond (eqS a0word [112, 101, 114])
          (some (eqS a0word [112, 101, 114]))
          (some (eqS a0word [102, 114, 101, 101])))))))).bind fun j4 =>
    cond j4
     (some true)
     (some false))))
def g_a_validArticle (n : Nat) (a0a : GArticle) : Option Bool :=
 ((g_a_inside n a0a.Kind 1 6).bind fun r2 =>
 cond (!r2)
  (some true)
  ((g_a_inside n a0a.Days 1 7).bind fun r4 =>
  some (!r4))).bind fun j1 =>
 cond j1
  (some false)
  (((g_a_inside n a0a.From 0 1439).bind fun r6 =>
  cond (!r6)
   (some true)
   (cond (leI a0a.To a0a.From)
    (some true)
    (some (ltI 1440 a0a.To)))).bind fun j5 =>
  cond j5
   (some false)
   ((cond (eqI a0a.From 0)
    (cond (eqI a0a.To 1440)
     (some (eqI a0a.Days 7))
     (some false))
    (some false)).bind fun j9 =>
   (cond (eqI a0a.Unit 0)
    (some (eqI a0a.Free 0))
    (some false)).bind fun j12 =>
   (g_a_inside n a0a.Price 0 1000000).bind fun r14 =>
   (cond (eqI a0a.Kind 3)
    (some (eqI a0a.Kind 3))
    (some (eqI a0a.Kind 4))).bind fun j15 =>
   cond j15
    ((cond r14
     ((g_a_inside n a0a.Unit 1 1440).bind fun r18 =>
     cond r18
      ((g_a_inside n a0a.Free 0 1440).bind fun r20 =>
      some r20)
      (some false))
     (some false)).bind fun j16 =>
    some j16)
    (cond (eqI a0a.Kind 5)
     ((cond r14
      (cond j12
       (some j9)
       (some false))
      (some false)).bind fun j21 =>
     some j21)
     (cond (eqI a0a.Kind 6)
      (((g_a_inside n a0a.Price 0 10000).bind fun r25 =>
      cond r25
       (cond j12
        (some j9)
        (some false))
       (some false)).bind fun j24 =>
      some j24)
      (cond r14
       (some j12)
       (some false))))))
def g_ref33_Minutes_l1 (n : Nat) (a0a : GArticle) (a1c : GCalendar) (a3to : Int) (recl1 : (Int × Int) → Option Int) (l1_1 : Int) (l1_2 : Int) : Option Int :=
 cond (ltI l1_2 a3to)
  ((g_ref32_Applies n a0a a1c l1_2).bind fun r2 =>
  cond r2
   (recl1 (wi (l1_1 + 1), wi (l1_2 + 1)))
   (recl1 (l1_1, wi (l1_2 + 1))))
  (some l1_1)
def g_ref33_Minutes (n : Nat) (a0a : GArticle) (a1c : GCalendar) (a2from : Int) (a3to : Int) : Option Int :=
 loopN (fun recl1 (l1_1, l1_2) => g_ref33_Minutes_l1 n a0a a1c a3to recl1 l1_1 l1_2) n (0, a2from)
def g_ref33_Energy_l1 (n : Nat) (a0a : GArticle) (a1c : GCalendar) (a2s : GSession) (recl1 : (Int × Int) → Option Int) (l1_1 : Int) (l1_2 : Int) : Option Int :=
 cond (ltI l1_2 (lenI (List.map GSlice.cs a2s.Slices)))
  ((getI a2s.Slices l1_2).bind fun x2 =>
  (g_ref32_Applies n a0a a1c x2.Minute).bind fun r3 =>
  cond r3
   ((getI a2s.Slices l1_2).bind fun x4 =>
   recl1 (wi (l1_1 + x4.Energy), wi (l1_2 + 1)))
   (recl1 (l1_1, wi (l1_2 + 1))))
  (some l1_1)
def g_ref33_Energy (n : Nat) (a0a : GArticle) (a1c : GCalendar) (a2s : GSession) : Option Int :=
 loopN (fun recl1 (l1_1, l1_2) => g_ref33_Energy_l1 n a0a a1c a2s recl1 l1_1 l1_2) n (0, 0)
def g_ref33_Line (n : Nat) (a0a : GArticle) (a1c : GCalendar) (a2s : GSession) : Option (Int × Int) :=
 (g_ref32_Article n a0a).bind fun r1 =>
 (g_ref26_Valid n a1c).bind fun r2 =>
 (g_ref33_Valid n a2s).bind fun r3 =>
 (cond (!r1)
  (some true)
  (cond (!r2)
   (some true)
   (some (!r3)))).bind fun j4 =>
 cond j4
  (some (0, 1))
  (cond (eqI a0a.Kind 1)
   ((g_ref33_Minutes n a0a a1c a2s.From (wi (a2s.From + 1))).bind fun r7 =>
   some (wi (a0a.Price * r7), 0))
   (cond (eqI a0a.Kind 2)
    ((g_ref33_Energy n a0a a1c a2s).bind fun r8 =>
    (g_ref31_Times n a0a.Price r8 1000).bind fun r9 =>
    some (r9.1, r9.2))
    (cond (eqI a0a.Kind 3)
     ((g_ref33_Minutes n a0a a1c a2s.From a2s.To).bind fun r10 =>
     (g_ref31_Started n a0a.Price (maxI 0 (wi (r10 - a0a.Free))) a0a.Unit).bind fun r11 =>
     some (r11.1, r11.2))
     (cond (eqI a0a.Kind 4)
      ((g_ref33_Minutes n a0a a1c a2s.End a2s.To).bind fun r12 =>
      (g_ref31_Started n a0a.Price (maxI 0 (wi (r12 - a0a.Free))) a0a.Unit).bind fun r13 =>
      some (r13.1, r13.2))
      (some (0, 0))))))
end Go.Proofs
namespace Go.Proofs
open Go Go.Abs Go.ChangeShapes Go.WideShapes Go.ChangeAt Go.RowKit Go.Proofs.Ytehocmildcedeaa
set_option maxRecDepth 100000
set_option linter.unusedVariables false
structure GArticle.wf (x : GArticle) : Prop where
 Kind : i64b x.Kind
 Days : i64b x.Days
 From : i64b x.From
 To : i64b x.To
 Price : i64b x.Price
 Unit : i64b x.Unit
 Free : i64b x.Free
theorem sh_GArticle {d : Nat} {cs : List PV} (h : Sh Try.prog (d + 2) 44 cs) : ∃ r : GArticle, cs = GArticle.cs r ∧ GArticle.wf r := by
 have h := sh_struct Try.underlying44 h
 obtain ⟨_, _, rfl, h0, _, _, rfl, h1, _, _, rfl, h2, _, _, rfl, h3, _, _, rfl, h4, _, _, rfl, h5, _, _, rfl, h6, rfl⟩ := h
 obtain ⟨x0, rfl, w0⟩ := sh_i64 Try.underlying3 h0
 obtain ⟨x1, rfl, w1⟩ := sh_i64 Try.underlying3 h1
 obtain ⟨x2, rfl, w2⟩ := sh_i64 Try.underlying3 h2
 obtain ⟨x3, rfl, w3⟩ := sh_i64 Try.underlying3 h3
 obtain ⟨x4, rfl, w4⟩ := sh_i64 Try.underlying3 h4
 obtain ⟨x5, rfl, w5⟩ := sh_i64 Try.underlying3 h5
 obtain ⟨x6, rfl, w6⟩ := sh_i64 Try.underlying3 h6
 exact ⟨⟨x0, x1, x2, x3, x4, x5, x6⟩, rfl, ⟨w0, w1, w2, w3, w4, w5, w6⟩⟩
structure GTariff.wf (x : GTariff) : Prop where
 Name : strb x.Name
 Articles : (listb GArticle.wf) x.Articles
theorem sh_GTariff {d : Nat} {cs : List PV} (h : Sh Try.prog (d + 4) 24 cs) : ∃ r : GTariff, cs = GTariff.cs r ∧ GTariff.wf r := by
 have h := sh_struct Try.underlying24 h
 obtain ⟨_, _, rfl, h0, _, _, rfl, h1, rfl⟩ := h
 obtain ⟨x0, rfl, w0⟩ := sh_str Try.underlying9 h0
 obtain ⟨x1, rfl, w1⟩ := sh_list (S := 7) (f := GArticle.cs) (W := GArticle.wf) Try.underlying22 krf (fun c h => sh_GArticle h) h1
 exact ⟨⟨x0, x1⟩, rfl, ⟨w0, w1⟩⟩
structure GChange.wf (x : GChange) : Prop where
 At : i64b x.At
 Offset : i64b x.Offset
theorem sh_GChange {d : Nat} {cs : List PV} (h : Sh Try.prog (d + 2) 78 cs) : ∃ r : GChange, cs = GChange.cs r ∧ GChange.wf r := by
 have h := sh_struct Try.underlying78 h
 obtain ⟨_, _, rfl, h0, _, _, rfl, h1, rfl⟩ := h
 obtain ⟨x0, rfl, w0⟩ := sh_i64 Try.underlying3 h0
 obtain ⟨x1, rfl, w1⟩ := sh_i64 Try.underlying3 h1
 exact ⟨⟨x0, x1⟩, rfl, ⟨w0, w1⟩⟩
structure GCalendar.wf (x : GCalendar) : Prop where
 Offset : i64b x.Offset
 Changes : (listb GChange.wf) x.Changes
 Holidays : (listb i64b) x.Holidays
theorem sh_GCalendar {d : Nat} {cs : List PV} (h : Sh Try.prog (d + 4) 28 cs) : ∃ r : GCalendar, cs = GCalendar.cs r ∧ GCalendar.wf r := by
 have h := sh_struct Try.underlying28 h
 obtain ⟨_, _, rfl, h0, _, _, rfl, h1, _, _, rfl, h2, rfl⟩ := h
 obtain ⟨x0, rfl, w0⟩ := sh_i64 Try.underlying3 h0
 obtain ⟨x1, rfl, w1⟩ := sh_list (S := 2) (f := GChange.cs) (W := GChange.wf) Try.underlying25 krf (fun c h => sh_GChange h) h1
 obtain ⟨x2, rfl, w2⟩ := sh_list (S := 1) (f := ci) (W := i64b) Try.underlying26 krf (fun c h => sh_i64 Try.underlying3 h) h2
 exact ⟨⟨x0, x1, x2⟩, rfl, ⟨w0, w1, w2⟩⟩
structure GSlice.wf (x : GSlice) : Prop where
 Minute : i64b x.Minute
 Energy : i64b x.Energy
theorem sh_GSlice {d : Nat} {cs : List PV} (h : Sh Try.prog (d + 2) 49 cs) : ∃ r : GSlice, cs = GSlice.cs r ∧ GSlice.wf r := by
 have h := sh_struct Try.underlying49 h
 obtain ⟨_, _, rfl, h0, _, _, rfl, h1, rfl⟩ := h
 obtain ⟨x0, rfl, w0⟩ := sh_i64 Try.underlying3 h0
 obtain ⟨x1, rfl, w1⟩ := sh_i64 Try.underlying3 h1
 exact ⟨⟨x0, x1⟩, rfl, ⟨w0, w1⟩⟩
structure GSession.wf (x : GSession) : Prop where
 From : i64b x.From
 To : i64b x.To
 End : i64b x.End
 Slices : (listb GSlice.wf) x.Slices
theorem sh_GSession {d : Nat} {cs : List PV} (h : Sh Try.prog (d + 4) 31 cs) : ∃ r : GSession, cs = GSession.cs r ∧ GSession.wf r := by
 have h := sh_struct Try.underlying31 h
 obtain ⟨_, _, rfl, h0, _, _, rfl, h1, _, _, rfl, h2, _, _, rfl, h3, rfl⟩ := h
 obtain ⟨x0, rfl, w0⟩ := sh_i64 Try.underlying3 h0
 obtain ⟨x1, rfl, w1⟩ := sh_i64 Try.underlying3 h1
 obtain ⟨x2, rfl, w2⟩ := sh_i64 Try.underlying3 h2
 obtain ⟨x3, rfl, w3⟩ := sh_list (S := 2) (f := GSlice.cs) (W := GSlice.wf) Try.underlying29 krf (fun c h => sh_GSlice h) h3
 exact ⟨⟨x0, x1, x2, x3⟩, rfl, ⟨w0, w1, w2, w3⟩⟩
def QuoteBoundsPlain : Prop := ∀ (a0 : GTariff) (a1 : GCalendar) (a2 : Int) (a3 : Int) (a4 : Int) (a5 : GSession), GTariff.wf a0 → GCalendar.wf a1 → i64b a2 → i64b a3 → i64b a4 → GSession.wf a5 → ∃ n, g_law35_QuoteBounds n a0 a1 a2 a3 a4 a5 = some true
theorem quoteBounds_call (h : QuoteBoundsPlain) : ∀ xs, ArgsSh Try.prog 9 Try.f8.params.toList xs → PCall Try.prog 8 xs (.ret (.p (.val (.bool true)))) := by
 intro xs ha
 rw [Try.params8] at ha
 obtain ⟨_, _, rfl, h0, _, _, rfl, h1, _, _, rfl, h2, _, _, rfl, h3, _, _, rfl, h4, _, _, rfl, h5, rfl⟩ := ha
 obtain ⟨a0, rfl, w0⟩ := sh_GTariff h0
 obtain ⟨a1, rfl, w1⟩ := sh_GCalendar h1
 obtain ⟨a2, rfl, w2⟩ := sh_i64 Try.underlying3 h2
 obtain ⟨a3, rfl, w3⟩ := sh_i64 Try.underlying3 h3
 obtain ⟨a4, rfl, w4⟩ := sh_i64 Try.underlying3 h4
 obtain ⟨a5, rfl, w5⟩ := sh_GSession h5
 obtain ⟨n, hn⟩ := h a0 a1 a2 a3 a4 a5 w0 w1 w2 w3 w4 w5
 simp only [avOf_struct Try.underlying24, avOf_struct Try.underlying28, avOf_int Try.underlying3, avOf_struct Try.underlying31]
 exact g_law35_QuoteBounds_ok n a0 a1 a2 a3 a4 a5 true hn
set_option maxRecDepth 100000 in
theorem quoteBounds_lifted (h : QuoteBoundsPlain) (os : Os) (started : os.Started) (H : Type) (enc : TypeId × Value → H) :
  ReturnsInHanded {} Try.checked os 8 .any (Rows.quoteBoundsSpec.pre6 enc Try.prog Try.f8 Rows.quoteBoundsRow.domain false) (Rows.quoteBoundsSpec.post enc Try.prog Try.f8 false true false false) := by
 refine returnsInHanded_of_change (C := Try.checked) krf started krf Try.func8
  (ChangeSpec.witness6 (enc := enc) (C := Try.checked) false ⟨#[], #[.agg #[.string ⟨#[]⟩, .slice none 0 0], .agg #[.int .i64 0, .slice none 0 0, .slice none 0 0], .int .i64 0, .int .i64 0, .int .i64 0, .agg #[.int .i64 0, .int .i64 0, .int .i64 0, .slice none 0 0]], []⟩ 8 krf krf krf krf) ?_
 intro W base args ds gs before hval hW _ _
 exact law_contract (P := Try.prog) (f := 8) (fn := Try.f8) (s := Rows.quoteBoundsSpec) (tb := 4) (d := 9) krf krf krf krf Try.underlying4 rfl
  (fun ds hd => by
   have hd : ds.length = 6 := by rw [hd, show Try.f8.params.size = 6 from by kernel_rfl]
   match ds, hd with
   | [d0, d1, d2, d3, d4, d5], _ => rfl)
  (quoteBounds_call h) hval hW
theorem quoteBounds_said (h : QuoteBoundsPlain) : Rows.QuoteBoundsSaid :=
 OpenClaim.holds_of_wide 8 Try.f8 rfl rfl rfl rfl rfl rfl rfl ⟨rfl, rfl, rfl, rfl, rfl⟩ rfl rfl rfl rfl rfl krf Try.func8 krf
  (of_decide_eq_true krf) (by unfold Func.isWrapper; first | (rw [if_pos (by decide +kernel)]; kernel_rfl) | (rw [if_neg (by decide +kernel)]; exact ⟨rfl, rfl⟩))
  (fun os started H enc _ => quoteBounds_lifted h os started H enc)
end Go.Proofs
namespace Go.Proofs
open Go Go.Abs
set_option maxRecDepth 100000
set_option linter.unusedVariables false
def Does {α : Type} (m : Option α) (Q : α → Prop) : Prop := ∃ r, m = some r ∧ Q r
section
variable {α β V R E : Type}
theorem does_some {x : α} {Q : α → Prop} (h : Q x) : Does (some x) Q := ⟨x, rfl, h⟩
theorem does_cond {b : Bool} {x y : Option α} {Q : α → Prop} (h1 : b = true → Does x Q) (h2 : b = false → Does y Q) : Does (cond b x y) Q := by
 cases b
 ·exact h2 rfl
 ·exact h1 rfl
theorem does_loop {B : (V → Option R) → V → Option R} {Q : V → R → Prop} (μ : V → Nat) (Inv : V → Prop)
  (hB : ∀ rec v, Inv v → (∀ v', Inv v' → μ v' < μ v → Does (rec v') (Q v')) → Does (B rec v) (Q v)) : ∀ {n : Nat} {v : V}, Inv v → μ v < n → Does (loopN B n v) (Q v)
 | 0, _, _, h => absurd h (Nat.not_lt_zero _)
 | n + 1, v, hv, h => hB _ v hv (fun v' h1 h2 => does_loop μ Inv hB h1 (by omega))
end
theorem getI_nat {α : Type} {l : List α} {i : Nat} : getI l (i : Int) = l[i]? := by
 unfold getI; rw [if_neg (by omega)]; simp
theorem wi_id {x : Int} (h1 : -9223372036854775808 ≤ x) (h2 : x ≤ 9223372036854775807) : wi x = x := by
 simp [wi, IntKind.wrap, IntKind.signed, IntKind.bits]; omega
theorem a_inside (n : Nat) (x a b : Int) : g_a_inside n x a b = some (decide (a ≤ x ∧ x ≤ b)) := by
 unfold g_a_inside leI
 by_cases h : a ≤ x <;> simp [h]
def needE (b : Bool) (p : Int) : Except Int Unit := if b then .ok () else .error p
def folB (a r : GReading) : Bool := if r.Serial = a.Serial then decide (a.Minute ≤ r.Minute ∧ a.Register ≤ r.Register) else decide (r.Minute = a.Minute)
def mixB (s x k : Int) : Int := wu ((bXor .u64 s (bAnd .u64 (shrI .u64 (wu x) k) 255)) * 1099511628211)
def mixW (s x : Int) : Int := [56, 48, 40, 32, 24, 16, 8, 0].foldl (fun s k => mixB s x k) s
def linkF (s : Int) (r : GReading) : Int := [r.Serial, r.Number, r.Minute, r.Register].foldl mixW s
theorem exc_need {R : Type} {k : Unit → Option R} {e : Int → Option R} {b : Bool} {p : Int} : exc k e (needE b p) = cond b (k ()) (e p) := by cases b <;> rfl
def prevLink (seed : Int) (l : List GReading) (i : Nat) : Int := if i = 0 then seed else ((l[i - 1]?).map (·.Link)).getD 0
def chainAt (seed : Int) (l : List GReading) (i : Nat) : Prop := ∀ r ∈ l[i]?, (1 ≤ r.Serial ∧ r.Serial ≤ 1000000) ∧ r.Number = i + 1 ∧ (0 ≤ r.Minute ∧ r.Minute ≤ 52560000) ∧ (0 ≤ r.Register ∧ r.Register ≤ 1000000000) ∧
 (i ≠ 0 → ∀ a ∈ l[i - 1]?, folB a r = true) ∧ r.Link = linkF (prevLink seed l i) r
def chainOk (seed : Int) (l : List GReading) : Prop := (1 ≤ l.length ∧ l.length ≤ 64) ∧ ∀ i, i < l.length → chainAt seed l i
end Go.Proofs
namespace Go.Proofs
open Go Go.Abs
set_option maxRecDepth 100000
set_option linter.unusedVariables false
theorem eqI_d (x y : Int) : eqI x y = decide (x = y) := by unfold eqI; by_cases h : x = y <;> simp [h]
theorem cond_some {α : Type} {b : Bool} {x y : α} : cond b (some x) (some y) = some (cond b x y) := by cases b <;> rfl
def keyB (w : List UInt8) : Bool := (g_a_isKey 0 w).getD false
def artB (a : GArticle) : Bool := (g_a_validArticle 0 a).getD false
def chrB (x : UInt8) : Bool := decide ((97 ≤ b2i x ∧ b2i x ≤ 122) ∨ (48 ≤ b2i x ∧ b2i x ≤ 57) ∨ b2i x = 95)
def nameB (s : List UInt8) : Bool := decide (1 ≤ s.length ∧ s.length ≤ 12) && decide (∀ x ∈ s.head?, 97 ≤ b2i x ∧ b2i x ≤ 122) && !keyB s && s.all chrB
theorem loop_list {α R : Type} {l : List α} {B : (Int → Option R) → Int → Option R} {F : List α → R} (hlen : l.length ≤ 4611686018427387904)
  (hend : ∀ rec, B rec (l.length : Int) = some (F []))
  (hstep : ∀ (rec : Int → Option R) (i : Nat) (x : α) (r : List α), l.drop i = x :: r → l[i]? = some x → i < l.length → wi ((i : Int) + 1) = ((i + 1 : Nat) : Int) → (rec ((i + 1 : Nat) : Int) = some (F r)) → B rec (i : Int) = some (F (x :: r))) :
  ∀ {n : Nat} (i : Nat), i ≤ l.length → l.length - i < n → loopN B n (i : Int) = some (F (l.drop i))
 | 0, _, _, h => absurd h (Nat.not_lt_zero _)
 | n + 1, i, hi, h => by
  unfold loopN
  by_cases he : i = l.length
  ·subst he; rw [hend]; simp
  ·have hlt : i < l.length := by omega
   have hd : l.drop i = l[i] :: l.drop (i + 1) := by rw [List.drop_eq_getElem_cons hlt]
   rw [hd]
   exact hstep _ i _ _ hd (by simp [hlt]) hlt (by rw [wi_id] <;> omega) (loop_list hlen hend hstep (i + 1) (by omega) (by omega))
theorem chr_lem (c : Int) : (bif decide (97 ≤ c) then bif decide (c ≤ 122) then false else bif decide (48 ≤ c) then bif decide (c ≤ 57) then false else !(c == 95) else !(c == 95)
  else bif decide (48 ≤ c) then bif decide (c ≤ 57) then false else !(c == 95) else !(c == 95)) = !decide ((97 ≤ c ∧ c ≤ 122) ∨ (48 ≤ c ∧ c ≤ 57) ∨ c = 95) := by
 by_cases h1 : 97 ≤ c <;> by_cases h2 : c ≤ 122 <;> by_cases h3 : 48 ≤ c <;> by_cases h4 : c ≤ 57 <;> by_cases h5 : c = 95 <;> simp [h1, h2, h3, h4, h5] <;> omega
theorem loop_acc {α R A : Type} {l : List α} {B : (A × Int → Option R) → A × Int → Option R} {F : A → List α → R} (hlen : l.length ≤ 4611686018427387904)
  (hend : ∀ rec a, B rec (a, (l.length : Int)) = some (F a []))
  (hstep : ∀ (rec : A × Int → Option R) (a : A) (i : Nat) (x : α) (r : List α), l.drop i = x :: r → l[i]? = some x → i < l.length → wi ((i : Int) + 1) = ((i + 1 : Nat) : Int) → (∀ a, rec (a, ((i + 1 : Nat) : Int)) = some (F a r)) → B rec (a, (i : Int)) = some (F a (x :: r))) :
  ∀ {n : Nat} (i : Nat) (a : A), i ≤ l.length → l.length - i < n → loopN B n (a, (i : Int)) = some (F a (l.drop i))
 | 0, _, _, _, h => absurd h (Nat.not_lt_zero _)
 | n + 1, i, a, hi, h => by
  unfold loopN
  by_cases he : i = l.length
  ·subst he; rw [hend]; simp
  ·have hlt : i < l.length := by omega
   have hd : l.drop i = l[i] :: l.drop (i + 1) := by rw [List.drop_eq_getElem_cons hlt]
   rw [hd]
   exact hstep _ a i _ _ hd (by simp [hlt]) hlt (by rw [wi_id] <;> omega) (fun a => loop_acc hlen hend hstep (i + 1) a (by omega) (by omega))
def holB : Int → List Int → Bool
 | _, [] => true
 | a, x :: r => decide (a < x ∧ x ≤ 36500) && holB x r
def chgB : Int → List GChange → Bool
 | _, [] => true
 | a, x :: r => decide (a < x.At ∧ x.At ≤ 52560000 ∧ -1440 ≤ x.Offset ∧ x.Offset ≤ 1440) && chgB x.At r
def calB (c : GCalendar) : Bool := decide (-1440 ≤ c.Offset ∧ c.Offset ≤ 1440) && decide (c.Changes.length ≤ 16) && decide (c.Holidays.length ≤ 32) && chgB (-1) c.Changes && holB (-1) c.Holidays
theorem loop_gen {α R A V : Type} {l : List α} (S : A → Int → V) {B : (V → Option R) → V → Option R} {F : A → List α → R} (Inv : Nat → A → Prop) (hlen : l.length ≤ 4611686018427387904)
  (hend : ∀ rec a, Inv l.length a → B rec (S a (l.length : Int)) = some (F a []))
  (hstep : ∀ (rec : V → Option R) (a : A) (i : Nat) (x : α) (r : List α), Inv i a → l.drop i = x :: r → l[i]? = some x → i < l.length → wi ((i : Int) + 1) = ((i + 1 : Nat) : Int) → (∀ a, Inv (i + 1) a → rec (S a ((i + 1 : Nat) : Int)) = some (F a r)) → B rec (S a (i : Int)) = some (F a (x :: r))) :
  ∀ {n : Nat} (i : Nat) (a : A), Inv i a → i ≤ l.length → l.length - i < n → loopN B n (S a (i : Int)) = some (F a (l.drop i))
 | 0, _, _, _, _, h => absurd h (Nat.not_lt_zero _)
 | n + 1, i, a, ha, hi, h => by
  unfold loopN
  by_cases he : i = l.length
  ·subst he; rw [hend _ _ ha]; simp
  ·have hlt : i < l.length := by omega
   have hd : l.drop i = l[i] :: l.drop (i + 1) := by rw [List.drop_eq_getElem_cons hlt]
   rw [hd]
   exact hstep _ a i _ _ ha hd (by simp [hlt]) hlt (by rw [wi_id] <;> omega) (fun a ha => loop_gen S Inv hlen hend hstep (i + 1) a ha (by omega) (by omega))
def tarB : Int → List GArticle → Bool
 | k, [] => decide (k ≤ 1)
 | k, a :: r => artB a && tarB (if a.Kind = 6 then k + 1 else k) r
def rateF : Int → List GArticle → Int
 | z, [] => z
 | z, a :: r => rateF (if a.Kind = 6 then a.Price else z) r
def tariffB (t : GTariff) : Bool := nameB t.Name && decide (t.Articles.length ≤ 12) && tarB 0 t.Articles
end Go.Proofs
namespace Go.Proofs
open Go Go.Abs
set_option maxRecDepth 100000
set_option linter.unusedVariables false
def offF (m : Int) : Int → List GChange → Int
 | o, [] => o
 | o, x :: r => offF m (if x.At ≤ m then x.Offset else o) r
def wkF (d : Int) : Int := if Int.tmod (wi (d + 7)) 7 = 5 then 1 else if Int.tmod (wi (d + 7)) 7 = 6 then 2 else 0
def typF (d : Int) : List Int → Int
 | [] => wkF d
 | x :: r => if x = d then 2 else typF d r
theorem typF_range (d : Int) : ∀ l, 0 ≤ typF d l ∧ typF d l ≤ 2
 | [] => by
  unfold typF wkF
  split
  ·omega
  ·split <;> omega
 | x :: r => by
  have := typF_range d r
  unfold typF; split <;> omega
def appB (c : GCalendar) (a : GArticle) (m : Int) : Bool :=
 let w := wi (wi (m + offF m c.Offset c.Changes) + 1440)
 decide (a.From ≤ Int.tmod w 1440) && decide (Int.tmod w 1440 < a.To) && !decide (bAnd .i64 a.Days (shlI .i64 1 (typF (wi (wi (Int.tdiv w 1440) - 1)) c.Holidays)) = 0)
def cntF (c : GCalendar) (a : GArticle) : Nat → Int → Int → Int
 | 0, _, z => z
 | k + 1, m, z => cntF c a k (m + 1) (if appB c a m then wi (z + 1) else z)
def staF (c : GCalendar) (a : GArticle) (f t : Int) : Int :=
 wi (a.Price * wi (Int.tdiv (wi (wi (maxI 0 (cntF c a (t - f).toNat f (wi (0 - a.Free))) + a.Unit) - 1)) a.Unit))
def eneF (c : GCalendar) (a : GArticle) : Int → List GSlice → Int
 | z, [] => z
 | z, x :: r => eneF c a (if appB c a x.Minute then wi (z + x.Energy) else z) r
def cosF (c : GCalendar) (s : GSession) (a : GArticle) : Int :=
 if a.Kind = 1 then (if appB c a s.From then a.Price else 0)
 else if a.Kind = 2 then wi (Int.tdiv (wi (wi (wi (2 * a.Price) * eneF c a 0 s.Slices) + 1000)) 2000)
 else if a.Kind = 3 then staF c a s.From s.To
 else if a.Kind = 4 then staF c a s.End s.To
 else 0
end Go.Proofs
namespace Go.Proofs
open Go Go.Abs
set_option maxRecDepth 100000
set_option linter.unusedVariables false
def linF (c : GCalendar) (s : GSession) : Nat → List GArticle → List GLine
 | _, [] => []
 | i, a :: r => if a.Kind = 5 ∨ a.Kind = 6 then linF c s (i + 1) r else ⟨i, cosF c s a⟩ :: linF c s (i + 1) r
def linB (l : List GLine) : Bool := l.all (fun x => decide (x.Amount ≤ 1000000000))
def sumF : Int → List GLine → Int
 | z, [] => z
 | z, x :: r => sumF (wi (z + x.Amount)) r
def capF : Int → List GArticle → Int
 | z, [] => z
 | z, a :: r => capF (if a.Kind = 5 then minI z a.Price else z) r
def taxF (net rate : Int) : Int := wi (Int.tdiv (wi (wi (wi (2 * net) * rate) + 10000)) 20000)
def netF (t : GTariff) (z : Int) (l : List GLine) : Int := capF (sumF z l) t.Articles
def bilF (t : GTariff) (rate z : Int) (l : List GLine) : GBill := ⟨l, netF t z l, taxF (netF t z l) rate, wi (netF t z l + taxF (netF t z l) rate)⟩
def bilB (b : GBill) : Bool := decide (b.Net ≤ 1000000000) && decide (b.Total ≤ 1000000000)
end Go.Proofs
namespace Go.Proofs
open Go Go.Abs
set_option maxRecDepth 100000
set_option linter.unusedVariables false
theorem tarB_all : ∀ {l : List GArticle} {k : Int}, tarB k l = true → ∀ a ∈ l, artB a = true
 | [], _, _, a, ha => by cases ha
 | x :: r, k, h, a, ha => by
  simp only [tarB, Bool.and_eq_true] at h
  rcases List.mem_cons.1 ha with rfl | ha
  ·exact h.1
  ·exact tarB_all h.2 a ha
end Go.Proofs
namespace Go.Proofs
open Go Go.Abs
set_option maxRecDepth 100000
set_option linter.unusedVariables false
def keyL : List (List UInt8) := ((g_ref02_Kinds 0).getD []) ++ (((g_ref02_Attrs 0).getD []) ++ (((g_ref02_Articles 0).getD []) ++ ((g_ref02_Words 0).getD [])))
theorem cse (b c : Bool) : (bif b then b else c) = (b || c) := by cases b <;> rfl
theorem cst (b c : Bool) : (bif b then true else c) = (b || c) := by cases b <;> rfl
def keyA : List (List UInt8) := [[102, 101, 101, 100, 101, 114], [99, 97, 98, 108, 101], [111, 119, 110, 101, 114], [99, 111, 110, 116, 114, 97, 99, 116], [99, 104, 97, 114, 103, 101, 114], [98, 97, 121], [116, 97, 114, 105, 102, 102], [108, 105, 109, 105, 116], [110, 101, 117, 116, 114, 97, 108], [102, 117, 115, 101], [116, 104, 101, 114, 109, 97, 108], [102, 114, 111, 109], [97, 116], [112, 104, 97, 115, 101, 115], [97, 109, 112, 115], [102, 97, 108, 108, 98, 97, 99, 107], [99, 97, 114, 100], [114, 97, 110, 107], [115, 116, 97, 114, 116], [101, 110, 101, 114, 103, 121], [116, 105, 109, 101], [105, 100, 108, 101], [99, 97, 112], [116, 97, 120], [111, 110], [119, 111, 114, 107], [115, 97, 116, 117, 114, 100, 97, 121], [115, 117, 110, 100, 97, 121], [98, 101, 116, 119, 101, 101, 110], [112, 101, 114], [102, 114, 101, 101]]
theorem keyB_any (s : List UInt8) : keyB s = keyA.contains s := by
 unfold keyB g_a_isKey keyA
 simp only [cond_some, Option.bind_some, Option.getD_some, cse, cst, eqS, List.contains_cons, List.contains_nil, Bool.or_assoc, Bool.or_false]
theorem keyB_mem (s : List UInt8) : keyB s = keyL.contains s := by
 rw [keyB_any, Bool.eq_iff_iff, List.contains_iff_mem, List.contains_iff_mem]
 have h1 : ∀ x ∈ keyA, x ∈ keyL := by decide
 have h2 : ∀ x ∈ keyL, x ∈ keyA := by decide
 exact ⟨h1 s, h2 s⟩
theorem r_article (n : Nat) (a : GArticle) : g_ref32_Article n a = some (artB a) := by
 unfold g_ref32_Article artB g_a_validArticle
 simp only [a_inside, cond_some, Option.bind_some, Option.getD_some, eqI_d, ltI, leI]
 rw [Option.some.injEq, Bool.eq_iff_iff]
 obtain ⟨k, d, f, t, p, u, v⟩ := a
 simp only [Bool.cond_eq_ite]
 by_cases k1 : k = 1
 ·subst k1; simp; omega
 by_cases k2 : k = 2
 ·subst k2; simp; omega
 by_cases k3 : k = 3
 ·subst k3; simp; omega
 by_cases k4 : k = 4
 ·subst k4; simp; omega
 by_cases k5 : k = 5
 ·subst k5; simp; omega
 by_cases k6 : k = 6
 ·subst k6; simp; omega
 simp [k1, k2, k3, k4, k5, k6]
 omega
theorem r_off (n : Nat) (x : Int) : g_ref26_offset n x = some (decide (-1440 ≤ x ∧ x ≤ 1440)) := by
 unfold g_ref26_offset
 by_cases h : -1440 ≤ x <;> simp [leI, h]
theorem r_cal5 (n : Nat) (c : GCalendar) (hn : 1000 ≤ n) (hl : c.Holidays.length ≤ 900) : g_ref26_Valid_j5 n c = some (holB (-1) c.Holidays) := by
 unfold g_ref26_Valid_j5
 have := loop_gen (l := c.Holidays) (fun (_ : Int) i => i) (B := fun recl6 l6 => g_ref26_Valid_l6 c recl6 l6) (F := holB) (fun i a => -1 ≤ a ∧ (i = 0 → a = -1) ∧ (i ≠ 0 → c.Holidays[i - 1]? = some a)) (by omega) ?_ ?_ (n := n) 0 (-1) (by simp) (by omega) (by omega)
 ·exact this
 ·intro rec a ha
  simp only [g_ref26_Valid_l6, lenI, List.length_map, ltI]
  rw [decide_eq_false (by omega), cond_false]
  rfl
 ·intro rec a i x r ha hd hx hi hw hr
  simp only [g_ref26_Valid_l6, lenI, List.length_map, ltI, leI, getI_nat, hx, Option.bind_some, hw]
  rw [decide_eq_true (by omega), cond_true, holB]
  by_cases c1 : x < 0
  ·rw [decide_eq_true c1]
   simp only [cond_true, Option.bind_some]
   rw [decide_eq_false (show ¬ (a < x ∧ x ≤ 36500) by omega)]; rfl
  rw [decide_eq_false c1, cond_false]
  by_cases c2 : 36500 < x
  ·rw [decide_eq_true c2]
   simp only [cond_true, Option.bind_some]
   rw [decide_eq_false (show ¬ (a < x ∧ x ≤ 36500) by omega)]; rfl
  rw [decide_eq_false c2, cond_false]
  have hrr := hr x ⟨by omega, by omega, fun _ => by simpa using hx⟩
  by_cases c3 : i = 0
  ·rw [decide_eq_false (show ¬ (0 : Int) < i by omega)]
   simp only [cond_false, Option.bind_some]
   rw [hrr, decide_eq_true (show a < x ∧ x ≤ 36500 by have := ha.2.1 c3; omega)]; rfl
  ·rw [decide_eq_true (show (0 : Int) < i by omega), cond_true, show wi ((i : Int) - 1) = ((i - 1 : Nat) : Int) from by rw [wi_id] <;> omega, getI_nat, ha.2.2 c3]
   simp only [Option.bind_some]
   by_cases c4 : x ≤ a
   ·rw [decide_eq_true c4, cond_true, decide_eq_false (show ¬ (a < x ∧ x ≤ 36500) by omega)]; rfl
   ·rw [decide_eq_false c4, cond_false, hrr, decide_eq_true (show a < x ∧ x ≤ 36500 by omega)]; rfl
theorem r_cal (n : Nat) (c : GCalendar) (hn : 1000 ≤ n) (h1 : c.Changes.length ≤ 900) (h2 : c.Holidays.length ≤ 900) : g_ref26_Valid n c = some (calB c) := by
 have key : loopN (fun recl13 l13 => g_ref26_Valid_l13 n c recl13 l13) n 0 = some (chgB (-1) c.Changes && holB (-1) c.Holidays) := by
  have := loop_gen (l := c.Changes) (fun (_ : Int) i => i) (B := fun recl13 l13 => g_ref26_Valid_l13 n c recl13 l13) (F := fun a r => chgB a r && holB (-1) c.Holidays) (fun i a => -1 ≤ a ∧ (i = 0 → a = -1) ∧ (i ≠ 0 → ∃ x, c.Changes[i - 1]? = some x ∧ x.At = a)) (by omega) ?_ ?_ (n := n) 0 (-1) (by simp) (by omega) (by omega)
  ·exact this
  ·intro rec a ha
   simp only [g_ref26_Valid_l13, lenI, List.length_map, ltI]
   rw [decide_eq_false (by omega), cond_false, r_cal5 n c hn h2]
   rfl
  ·intro rec a i x r ha hd hx hi hw hr
   simp only [g_ref26_Valid_l13, lenI, List.length_map, ltI, leI, getI_nat, hx, Option.bind_some, hw, r_off]
   rw [decide_eq_true (by omega), cond_true, chgB]
   by_cases c0 : -1440 ≤ x.Offset ∧ x.Offset ≤ 1440
   rotate_left
   ·rw [decide_eq_false c0]
    simp only [Bool.not_false, cond_true, Option.bind_some]
    rw [decide_eq_false (show ¬ (a < x.At ∧ x.At ≤ 52560000 ∧ -1440 ≤ x.Offset ∧ x.Offset ≤ 1440) by omega)]; rfl
   rw [decide_eq_true c0, Bool.not_true, cond_false]
   by_cases c1 : x.At < 0
   ·rw [decide_eq_true c1]
    simp only [cond_true, Option.bind_some]
    rw [decide_eq_false (show ¬ (a < x.At ∧ x.At ≤ 52560000 ∧ -1440 ≤ x.Offset ∧ x.Offset ≤ 1440) by omega)]; rfl
   rw [decide_eq_false c1, cond_false]
   by_cases c2 : 52560000 < x.At
   ·rw [decide_eq_true c2]
    simp only [cond_true, Option.bind_some]
    rw [decide_eq_false (show ¬ (a < x.At ∧ x.At ≤ 52560000 ∧ -1440 ≤ x.Offset ∧ x.Offset ≤ 1440) by omega)]; rfl
   rw [decide_eq_false c2, cond_false]
   have hrr := hr x.At ⟨by omega, by omega, fun _ => ⟨x, by simpa using hx, rfl⟩⟩
   by_cases c3 : i = 0
   ·rw [decide_eq_false (show ¬ (0 : Int) < i by omega)]
    simp only [cond_false, Option.bind_some]
    rw [hrr, decide_eq_true (show a < x.At ∧ x.At ≤ 52560000 ∧ -1440 ≤ x.Offset ∧ x.Offset ≤ 1440 by have := ha.2.1 c3; omega)]; rfl
   ·obtain ⟨y, hy, hya⟩ := ha.2.2 c3
    rw [decide_eq_true (show (0 : Int) < i by omega), cond_true, show wi ((i : Int) - 1) = ((i - 1 : Nat) : Int) from by rw [wi_id] <;> omega, getI_nat, hy]
    simp only [Option.bind_some, hya]
    by_cases c4 : x.At ≤ a
    ·rw [decide_eq_true c4, cond_true, decide_eq_false (show ¬ (a < x.At ∧ x.At ≤ 52560000 ∧ -1440 ≤ x.Offset ∧ x.Offset ≤ 1440) by omega)]; rfl
    ·rw [decide_eq_false c4, cond_false, hrr, decide_eq_true (show a < x.At ∧ x.At ≤ 52560000 ∧ -1440 ≤ x.Offset ∧ x.Offset ≤ 1440 by omega)]; rfl
 unfold g_ref26_Valid calB
 rw [key]
 simp only [r_off, Option.bind_some, cond_some, lenI, List.length_map, ltI]
 by_cases c0 : -1440 ≤ c.Offset ∧ c.Offset ≤ 1440
 rotate_left
 ·rw [decide_eq_false c0]; rfl
 rw [decide_eq_true c0]
 by_cases c1 : c.Changes.length ≤ 16
 rotate_left
 ·rw [decide_eq_true (show (16 : Int) < c.Changes.length by omega), decide_eq_false c1]; rfl
 rw [decide_eq_false (show ¬ (16 : Int) < c.Changes.length by omega), decide_eq_true c1]
 by_cases c2 : c.Holidays.length ≤ 32
 rotate_left
 ·rw [decide_eq_true (show (32 : Int) < c.Holidays.length by omega), decide_eq_false c2]; rfl
 rw [decide_eq_false (show ¬ (32 : Int) < c.Holidays.length by omega), decide_eq_true c2]
 rfl
end Go.Proofs
namespace Go.Proofs
open Go Go.Abs
set_option maxRecDepth 100000
set_option linter.unusedVariables false
structure Art (a : GArticle) : Prop where
 days : 1 ≤ a.Days ∧ a.Days ≤ 7
 from_ : 0 ≤ a.From ∧ a.From ≤ 1439
 to_ : a.From < a.To ∧ a.To ≤ 1440
 price : 0 ≤ a.Price ∧ a.Price ≤ 1000000
 kind : 1 ≤ a.Kind ∧ a.Kind ≤ 6
 unit : a.Kind = 3 ∨ a.Kind = 4 → 1 ≤ a.Unit ∧ a.Unit ≤ 1440 ∧ 0 ≤ a.Free ∧ a.Free ≤ 1440
 rate : a.Kind = 6 → a.Price ≤ 10000
theorem artB_art {a : GArticle} (h : artB a = true) : Art a := by
 unfold artB g_a_validArticle at h
 simp only [a_inside, cond_some, Option.bind_some, Option.getD_some, eqI_d, ltI, leI] at h
 obtain ⟨k, d, f, t, p, u, v⟩ := a
 simp only [Bool.cond_eq_ite] at h
 by_cases k1 : k = 1
 ·subst k1; simp at h; constructor <;> simp <;> omega
 by_cases k2 : k = 2
 ·subst k2; simp at h; constructor <;> simp <;> omega
 by_cases k3 : k = 3
 ·subst k3; simp at h; constructor <;> simp <;> omega
 by_cases k4 : k = 4
 ·subst k4; simp at h; constructor <;> simp <;> omega
 by_cases k5 : k = 5
 ·subst k5; simp at h; constructor <;> simp <;> omega
 by_cases k6 : k = 6
 ·subst k6; simp at h; constructor <;> simp <;> omega
 exfalso
 simp [k3, k4, k5, k6] at h
 omega
theorem offF_range (m : Int) : ∀ (l : List GChange) (p o : Int), chgB p l = true → (-1440 ≤ o ∧ o ≤ 1440) → -1440 ≤ offF m o l ∧ offF m o l ≤ 1440
 | [], _, o, _, h => h
 | x :: r, p, o, hc, h => by
  simp only [chgB, Bool.and_eq_true, decide_eq_true_eq] at hc
  unfold offF
  refine offF_range m r x.At _ hc.2 ?_
  split
  ·exact ⟨hc.1.2.2.1, hc.1.2.2.2⟩
  ·exact h
theorem cal_off {c : GCalendar} (m : Int) (h : calB c = true) : -1440 ≤ offF m c.Offset c.Changes ∧ offF m c.Offset c.Changes ≤ 1440 := by
 simp only [calB, Bool.and_eq_true, decide_eq_true_eq] at h
 exact offF_range m _ _ _ h.1.2 h.1.1.1.1
theorem r_offset (n : Nat) (c : GCalendar) (m : Int) (hn : 1000 ≤ n) (hl : c.Changes.length ≤ 900) : g_ref26_Offset n c m = some (offF m c.Offset c.Changes) := by
 unfold g_ref26_Offset
 have := loop_acc (l := c.Changes) (B := fun recl1 (v : Int × Int) => g_ref26_Offset_l1 c m recl1 v.1 v.2) (F := offF m) (by omega) ?_ ?_ (n := n) 0 c.Offset (by omega) (by omega)
 ·exact this
 ·intro rec a; simp [g_ref26_Offset_l1, ltI, lenI, offF]
 ·intro rec a i x r hd hx hi hw hr
  simp only [g_ref26_Offset_l1, lenI, List.length_map, getI_nat, hx, Option.bind_some, hw, hr, ltI, leI, offF]
  rw [decide_eq_true (by omega), cond_true]
  by_cases h : x.At ≤ m <;> simp [h]
theorem r_type (n : Nat) (c : GCalendar) (d : Int) (hn : 1000 ≤ n) (h1 : c.Changes.length ≤ 900) (h2 : c.Holidays.length ≤ 900) (hc : calB c = true) (hd : -1 ≤ d ∧ d ≤ 36501) : g_ref26_Type n c d = some (typF d c.Holidays, 0) := by
 unfold g_ref26_Type
 rw [r_cal n c hn h1 h2, hc]
 simp only [Option.bind_some, Bool.not_true, cond_false, ltI]
 rw [decide_eq_false (show ¬ d < -1 by omega), cond_false, Option.bind_some, decide_eq_false (show ¬ 36501 < d by omega), cond_false]
 have := loop_list (l := c.Holidays) (B := fun recl6 l6 => g_ref26_Type_l6 c d recl6 l6) (F := fun r => (typF d r, (0 : Int))) (by omega) ?_ ?_ (n := n) 0 (by omega) (by omega)
 ·exact this
 ·intro rec
  simp only [g_ref26_Type_l6, g_ref26_Type_j5, lenI, List.length_map, ltI, eqI_d, typF, wkF]
  rw [decide_eq_false (by omega), cond_false]
  by_cases k1 : Int.tmod (wi (d + 7)) 7 = 5
  ·simp [k1]
  ·by_cases k2 : Int.tmod (wi (d + 7)) 7 = 6 <;> simp [k1, k2]
 ·intro rec i x r hd hx hi hw hr
  simp only [g_ref26_Type_l6, lenI, List.length_map, getI_nat, hx, Option.bind_some, hw, hr, ltI, eqI_d, typF]
  rw [decide_eq_true (by omega), cond_true]
  by_cases h : x = d <;> simp [h]
theorem days_lem (d t : Int) (hd : 1 ≤ d ∧ d ≤ 7) (ht : 0 ≤ t ∧ t ≤ 2) :
  (bif decide (t = 2) then decide (Int.tmod (wi (Int.tdiv d 4)) 2 = 1) else bif decide (t = 1) then decide (Int.tmod (wi (Int.tdiv d 2)) 2 = 1) else decide (Int.tmod d 2 = 1)) = !decide (bAnd .i64 d (shlI .i64 1 t) = 0) := by
 have hd' : d = 1 ∨ d = 2 ∨ d = 3 ∨ d = 4 ∨ d = 5 ∨ d = 6 ∨ d = 7 := by omega
 have ht' : t = 0 ∨ t = 1 ∨ t = 2 := by omega
 rcases hd' with rfl | rfl | rfl | rfl | rfl | rfl | rfl <;> rcases ht' with rfl | rfl | rfl <;> decide
theorem r_applies (n : Nat) (c : GCalendar) (a : GArticle) (m : Int) (hn : 1000 ≤ n) (h1 : c.Changes.length ≤ 900) (h2 : c.Holidays.length ≤ 900) (hc : calB c = true) (ha : artB a = true) (hm : 0 ≤ m ∧ m ≤ 52560000) :
  g_ref32_Applies n a c m = some (appB c a m) := by
 have ho := cal_off m hc
 have hA := artB_art ha
 have hloc : g_ref26_Local n c m = some ((m + offF m c.Offset c.Changes + 1440) / 1440 - 1, (m + offF m c.Offset c.Changes + 1440) % 1440, 0) := by
  unfold g_ref26_Local
  rw [r_cal n c hn h1 h2, hc]
  simp only [Option.bind_some, Bool.not_true, cond_false, ltI]
  rw [decide_eq_false (show ¬ m < 0 by omega), cond_false, Option.bind_some, decide_eq_false (show ¬ 52560000 < m by omega), cond_false, r_offset n c m hn h1, Option.bind_some]
  generalize offF m c.Offset c.Changes = o at ho
  rw [wi_id (x := m + o) (by omega) (by omega)]
  by_cases hneg : m + o < 0
  ·rw [decide_eq_true hneg, cond_true, wi_id (x := m + o - -1440) (by omega) (by omega)]
   congr 2
   ·omega
   ·congr 1
    omega
  ·rw [decide_eq_false hneg, cond_false, Int.tdiv_eq_ediv_of_nonneg (by omega)]
   rw [wi_id (x := (m + o) / 1440) (by omega) (by omega), wi_id (x := 1440 * ((m + o) / 1440)) (by omega) (by omega), wi_id (by omega) (by omega)]
   congr 2
   ·omega
   ·congr 1
    omega
 unfold g_ref32_Applies appB
 rw [r_article, ha, hloc]
 simp only [Option.bind_some, Bool.not_true, cond_false, eqI_d, decide_true]
 generalize offF m c.Offset c.Changes = o at ho
 rw [wi_id (x := m + o) (by omega) (by omega), wi_id (x := m + o + 1440) (by omega) (by omega)]
 rw [Int.tdiv_eq_ediv_of_nonneg (a := m + o + 1440) (by omega), Int.tmod_eq_emod_of_nonneg (a := m + o + 1440) (by omega)]
 rw [wi_id (x := (m + o + 1440) / 1440) (by omega) (by omega), wi_id (x := (m + o + 1440) / 1440 - 1) (by omega) (by omega)]
 rw [r_type n c _ hn h1 h2 hc (by omega)]
 simp only [Option.bind_some, cond_some, leI, ltI]
 rw [days_lem _ _ hA.days (typF_range _ _)]
 generalize decide (bAnd .i64 a.Days (shlI .i64 1 (typF ((m + o + 1440) / 1440 - 1) c.Holidays)) = 0) = b
 generalize decide (a.From ≤ (m + o + 1440) % 1440) = b1
 generalize decide ((m + o + 1440) % 1440 < a.To) = b2
 cases b <;> cases b1 <;> cases b2 <;> rfl
def cN (c : GCalendar) (a : GArticle) : Nat → Int → Int
 | 0, _ => 0
 | k + 1, m => (if appB c a m then 1 else 0) + cN c a k (m + 1)
theorem cN_range (c : GCalendar) (a : GArticle) : ∀ (k : Nat) (m : Int), 0 ≤ cN c a k m ∧ cN c a k m ≤ k
 | 0, _ => by simp [cN]
 | k + 1, m => by
  have := cN_range c a k (m + 1)
  unfold cN
  split <;> omega
theorem cntF_cN (c : GCalendar) (a : GArticle) : ∀ (k : Nat) (m z : Int), k ≤ 1000000 → -1000000 ≤ z ∧ z ≤ 2000000 - k → cntF c a k m z = z + cN c a k m
 | 0, m, z, _, _ => by simp [cntF, cN]
 | k + 1, m, z, hk, hz => by
  unfold cntF cN
  split
  ·rw [wi_id (by omega) (by omega), cntF_cN c a k (m + 1) (z + 1) (by omega) (by omega)]
   omega
  ·rw [cntF_cN c a k (m + 1) z (by omega) (by omega)]
   omega
theorem r_minutes (n : Nat) (c : GCalendar) (a : GArticle) (f t : Int) (hn : 10000 ≤ n) (h1 : c.Changes.length ≤ 900) (h2 : c.Holidays.length ≤ 900) (hc : calB c = true) (ha : artB a = true) (hf : 0 ≤ f) (ht : t ≤ 52560000) (hk : t - f ≤ 2880) :
  g_ref33_Minutes n a c f t = some (cN c a (t - f).toNat f) := by
 unfold g_ref33_Minutes
 have key : ∀ (k j : Nat) (z m : Int), (t - m).toNat = k → k < j → 0 ≤ m → k ≤ 2880 → 0 ≤ z ∧ z ≤ 3000 - k →
   loopN (fun recl1 (v : Int × Int) => g_ref33_Minutes_l1 n a c t recl1 v.1 v.2) j (z, m) = some (z + cN c a k m) := by
  intro k
  induction k with
  | zero =>
   intro j z m h3 h4 h5 h6 h7
   obtain ⟨j, rfl⟩ : ∃ j', j = j' + 1 := ⟨j - 1, by omega⟩
   unfold loopN
   simp only [g_ref33_Minutes_l1, ltI]
   rw [decide_eq_false (by omega), cond_false]
   simp [cN]
  | succ k ih =>
   intro j z m h3 h4 h5 h6 h7
   obtain ⟨j, rfl⟩ : ∃ j', j = j' + 1 := ⟨j - 1, by omega⟩
   have i0 := ih j z (m + 1) (by omega) (by omega) (by omega) (by omega) (by omega)
   have i1 := ih j (z + 1) (m + 1) (by omega) (by omega) (by omega) (by omega) (by omega)
   unfold loopN
   generalize loopN (fun recl1 (v : Int × Int) => g_ref33_Minutes_l1 n a c t recl1 v.1 v.2) j = L at i0 i1 ⊢
   show g_ref33_Minutes_l1 n a c t L z m = _
   unfold g_ref33_Minutes_l1
   simp only [ltI]
   rw [decide_eq_true (by omega), cond_true, r_applies n c a m (by omega) h1 h2 hc ha (by omega), Option.bind_some, wi_id (x := m + 1) (by omega) (by omega), wi_id (x := z + 1) (by omega) (by omega)]
   unfold cN
   cases appB c a m
   ·rw [cond_false, i0]
    simp
   ·rw [cond_true, i1]
    simp
    omega
 have := key (t - f).toNat n 0 f rfl (by omega) hf (by omega) (by omega)
 rw [Int.zero_add] at this
 exact this
def slB (f e : Int) : Int → List GSlice → Bool
 | _, [] => true
 | p, x :: r => decide (f ≤ x.Minute ∧ x.Minute < e ∧ 0 ≤ x.Energy ∧ x.Energy ≤ 10000 ∧ p < x.Minute) && slB f e x.Minute r
def valB (s : GSession) : Bool := decide (0 ≤ s.From ∧ s.From < s.To ∧ s.To ≤ 52560000 ∧ s.To - s.From ≤ 2880 ∧ s.From ≤ s.End ∧ s.End ≤ s.To ∧ s.Slices.length ≤ 48) && slB s.From s.End (s.From - 1) s.Slices
theorem r_session_valid (n : Nat) (s : GSession) (hn : 1000 ≤ n) (hl : s.Slices.length ≤ 900) (hb : i64b s.From) : g_ref33_Valid n s = some (valB s) := by
 unfold i64b at hb
 unfold g_ref33_Valid valB
 simp only [ltI, leI, lenI, List.length_map]
 have key : loopN (fun recl8 l8 => g_ref33_Valid_l8 s recl8 l8) n 0 = some (slB s.From s.End (s.From - 1) s.Slices) := by
  have := loop_gen (l := s.Slices) (fun (_ : Int) i => i) (B := fun recl8 l8 => g_ref33_Valid_l8 s recl8 l8) (F := slB s.From s.End) (fun i a => s.From - 1 ≤ a ∧ (i = 0 → a = s.From - 1) ∧ (i ≠ 0 → ∃ x, s.Slices[i - 1]? = some x ∧ x.Minute = a)) (by omega) ?_ ?_ (n := n) 0 (s.From - 1) (by simp) (by omega) (by omega)
  ·exact this
  ·intro rec a ha
   simp only [g_ref33_Valid_l8, lenI, List.length_map, ltI]
   rw [decide_eq_false (by omega), cond_false]
   rfl
  ·intro rec a i x r ha hd hx hi hw hr
   simp only [g_ref33_Valid_l8, lenI, List.length_map, ltI, leI, getI_nat, hx, Option.bind_some, hw]
   rw [decide_eq_true (by omega), cond_true, slB]
   by_cases c1 : x.Minute < s.From
   ·rw [decide_eq_true c1, cond_true, Option.bind_some, cond_true, decide_eq_false (by omega)]; rfl
   rw [decide_eq_false c1, cond_false]
   by_cases c2 : s.End ≤ x.Minute
   ·rw [decide_eq_true c2, cond_true, Option.bind_some, cond_true, decide_eq_false (by omega)]; rfl
   rw [decide_eq_false c2, cond_false]
   by_cases c3 : x.Energy < 0
   ·rw [decide_eq_true c3, cond_true, Option.bind_some, cond_true, decide_eq_false (by omega)]; rfl
   rw [decide_eq_false c3, cond_false]
   by_cases c4 : 10000 < x.Energy
   ·rw [decide_eq_true c4, cond_true, Option.bind_some, cond_true, decide_eq_false (by omega)]; rfl
   rw [decide_eq_false c4, cond_false]
   have hrr := hr x.Minute ⟨by omega, by omega, fun _ => ⟨x, by simpa using hx, rfl⟩⟩
   by_cases c5 : i = 0
   ·rw [decide_eq_false (show ¬ (0 : Int) < i by omega), cond_false, Option.bind_some, cond_false, hrr, decide_eq_true (show s.From ≤ x.Minute ∧ x.Minute < s.End ∧ 0 ≤ x.Energy ∧ x.Energy ≤ 10000 ∧ a < x.Minute by have := ha.2.1 c5; omega)]; rfl
   ·obtain ⟨y, hy, hya⟩ := ha.2.2 c5
    rw [decide_eq_true (show (0 : Int) < i by omega), cond_true, show wi ((i : Int) - 1) = ((i - 1 : Nat) : Int) from by rw [wi_id] <;> omega, getI_nat, hy]
    simp only [Option.bind_some, hya]
    by_cases c6 : x.Minute ≤ a
    ·rw [decide_eq_true c6, cond_true, decide_eq_false (show ¬ (s.From ≤ x.Minute ∧ x.Minute < s.End ∧ 0 ≤ x.Energy ∧ x.Energy ≤ 10000 ∧ a < x.Minute) by omega)]; rfl
    ·rw [decide_eq_false c6, cond_false, hrr, decide_eq_true (show s.From ≤ x.Minute ∧ x.Minute < s.End ∧ 0 ≤ x.Energy ∧ x.Energy ≤ 10000 ∧ a < x.Minute by omega)]; rfl
 rw [key]
 by_cases c1 : s.From < 0
 ·rw [decide_eq_true c1, cond_true, Option.bind_some, cond_true, decide_eq_false (by omega)]; rfl
 rw [decide_eq_false c1, cond_false]
 by_cases c2 : s.To ≤ s.From
 ·rw [decide_eq_true c2, cond_true, Option.bind_some, cond_true, decide_eq_false (by omega)]; rfl
 rw [decide_eq_false c2, cond_false]
 by_cases c3 : 52560000 < s.To
 ·rw [decide_eq_true c3, cond_true, Option.bind_some, cond_true, decide_eq_false (by omega)]; rfl
 rw [decide_eq_false c3, cond_false, wi_id (x := s.To - s.From) (by omega) (by omega)]
 by_cases c4 : 2880 < s.To - s.From
 ·rw [decide_eq_true c4, cond_true, Option.bind_some, cond_true, decide_eq_false (by omega)]; rfl
 rw [decide_eq_false c4, cond_false]
 by_cases c5 : s.End < s.From
 ·rw [decide_eq_true c5, cond_true, Option.bind_some, cond_true, decide_eq_false (by omega)]; rfl
 rw [decide_eq_false c5, cond_false]
 by_cases c6 : s.To < s.End
 ·rw [decide_eq_true c6, cond_true, Option.bind_some, cond_true, decide_eq_false (by omega)]; rfl
 rw [decide_eq_false c6, cond_false, Option.bind_some]
 by_cases c7 : s.Slices.length ≤ 48
 ·rw [decide_eq_false (show ¬ (48 : Int) < s.Slices.length by omega), cond_false, decide_eq_true (show 0 ≤ s.From ∧ s.From < s.To ∧ s.To ≤ 52560000 ∧ s.To - s.From ≤ 2880 ∧ s.From ≤ s.End ∧ s.End ≤ s.To ∧ s.Slices.length ≤ 48 by omega)]; rfl
 ·rw [decide_eq_true (show (48 : Int) < s.Slices.length by omega), cond_true, decide_eq_false (show ¬ (0 ≤ s.From ∧ s.From < s.To ∧ s.To ≤ 52560000 ∧ s.To - s.From ≤ 2880 ∧ s.From ≤ s.End ∧ s.End ≤ s.To ∧ s.Slices.length ≤ 48) by omega)]; rfl
end Go.Proofs
namespace Go.Proofs
open Go Go.Abs
set_option maxRecDepth 100000
set_option linter.unusedVariables false
theorem slB_mem {f e : Int} : ∀ {l : List GSlice} {p : Int}, slB f e p l = true → ∀ x ∈ l, f ≤ x.Minute ∧ x.Minute < e ∧ 0 ≤ x.Energy ∧ x.Energy ≤ 10000
 | [], _, _, x, hx => by cases hx
 | y :: r, p, h, x, hx => by
  simp only [slB, Bool.and_eq_true, decide_eq_true_eq] at h
  rcases List.mem_cons.1 hx with rfl | hx
  ·omega
  ·exact slB_mem h.2 x hx
theorem eneF_range (c : GCalendar) (a : GArticle) : ∀ (l : List GSlice) (z : Int), (∀ x ∈ l, 0 ≤ x.Energy ∧ x.Energy ≤ 10000) → 0 ≤ z → z + 10000 * l.length ≤ 10000000 → 0 ≤ eneF c a z l ∧ eneF c a z l ≤ z + 10000 * l.length
 | [], z, _, h0, h1 => by
  show 0 ≤ z ∧ z ≤ z + 10000 * ((0 : Nat) : Int)
  omega
 | x :: r, z, h, h0, h1 => by
  have hx := h x List.mem_cons_self
  simp only [List.length_cons] at h1 ⊢
  unfold eneF
  split
  ·rw [wi_id (by omega) (by omega)]
   have := eneF_range c a r (z + x.Energy) (fun y hy => h y (List.mem_cons_of_mem _ hy)) (by omega) (by omega)
   omega
  ·have := eneF_range c a r z (fun y hy => h y (List.mem_cons_of_mem _ hy)) (by omega) (by omega)
   omega
theorem r_energy (n : Nat) (c : GCalendar) (a : GArticle) (s : GSession) (hn : 1000 ≤ n) (h1 : c.Changes.length ≤ 900) (h2 : c.Holidays.length ≤ 900) (hc : calB c = true) (ha : artB a = true) (hl : s.Slices.length ≤ 900) (hs : ∀ x ∈ s.Slices, 0 ≤ x.Minute ∧ x.Minute ≤ 52560000) :
  g_ref33_Energy n a c s = some (eneF c a 0 s.Slices) := by
 unfold g_ref33_Energy
 have := loop_acc (l := s.Slices) (B := fun recl1 (v : Int × Int) => g_ref33_Energy_l1 n a c s recl1 v.1 v.2) (F := eneF c a) (by omega) ?_ ?_ (n := n) 0 0 (by omega) (by omega)
 ·exact this
 ·intro rec z
  have h : ltI ((s.Slices.length : Nat) : Int) (lenI (List.map GSlice.cs s.Slices)) = false := by simp [ltI, lenI]
  show g_ref33_Energy_l1 n a c s rec z ((s.Slices.length : Nat) : Int) = some z
  unfold g_ref33_Energy_l1
  rw [h, cond_false]
 ·intro rec z i x r hd hx hi hw hr
  have h3 : ltI (i : Int) (lenI (List.map GSlice.cs s.Slices)) = true := by
   simp only [ltI, lenI, List.length_map]
   rw [decide_eq_true (by omega)]
  show g_ref33_Energy_l1 n a c s rec z (i : Int) = some (eneF c a z (x :: r))
  unfold g_ref33_Energy_l1 eneF
  rw [h3, cond_true, getI_nat, hx, Option.bind_some, r_applies n c a x.Minute hn h1 h2 hc ha (hs x (List.mem_of_getElem? hx)), Option.bind_some, Option.bind_some, hw, hr, hr]
  cases appB c a x.Minute
  ·rfl
  ·rfl
theorem r_amount (n : Nat) (x : Int) : g_ref31_amount n x = some (decide (0 ≤ x ∧ x ≤ 1000000000)) := by
 unfold g_ref31_amount
 by_cases h : 0 ≤ x <;> simp [leI, h]
theorem r_checked (n : Nat) (x : Int) (h : 0 ≤ x) : g_ref31_checked n x = some (if x ≤ 1000000000 then (x, 0) else (0, 3)) := by
 unfold g_ref31_checked
 rw [r_amount, Option.bind_some]
 by_cases h1 : x ≤ 1000000000
 ·rw [decide_eq_true ⟨h, h1⟩, if_pos h1]; rfl
 ·rw [decide_eq_false (fun h => h1 h.2), if_neg h1]; rfl
theorem mul_bound {x y X Y : Int} (hx : 0 ≤ x ∧ x ≤ X) (hy : 0 ≤ y ∧ y ≤ Y) : 0 ≤ x * y ∧ x * y ≤ X * Y :=
 ⟨Int.mul_nonneg hx.1 hy.1, Int.mul_le_mul hx.2 hy.2 hy.1 (Int.le_trans hx.1 hx.2)⟩
theorem r_times (n : Nat) (p q : Int) (hp : 0 ≤ p ∧ p ≤ 1000000) (hq : 0 ≤ q ∧ q ≤ 480000) :
  g_ref31_Times n p q 1000 = some (if wi (Int.tdiv (wi (wi (wi (2 * p) * q) + 1000)) 2000) ≤ 1000000000 then (wi (Int.tdiv (wi (wi (wi (2 * p) * q) + 1000)) 2000), 0) else (0, 3)) ∧ 0 ≤ wi (Int.tdiv (wi (wi (wi (2 * p) * q) + 1000)) 2000) := by
 have hb := mul_bound hp hq
 have e1 : wi (p * q) = p * q := wi_id (by omega) (by omega)
 have e2 : wi (2 * p) = 2 * p := wi_id (by omega) (by omega)
 have e3 : 2 * p * q = 2 * (p * q) := Int.mul_assoc ..
 have e4 : wi (2 * (p * q)) = 2 * (p * q) := wi_id (by omega) (by omega)
 have e5 : wi (2 * (p * q) + 1000) = 2 * (p * q) + 1000 := wi_id (by omega) (by omega)
 have e6 : Int.tdiv (2 * (p * q) + 1000) 2000 = (2 * (p * q) + 1000) / 2000 := Int.tdiv_eq_ediv_of_nonneg (by omega)
 have e7 : wi ((2 * (p * q) + 1000) / 2000) = (2 * (p * q) + 1000) / 2000 := wi_id (by omega) (by omega)
 rw [e2, e3, e4, e5, e6, e7]
 refine ⟨?_, by omega⟩
 unfold g_ref31_Times g_ref31_divided
 simp only [r_amount, Option.bind_some]
 rw [decide_eq_true (show 0 ≤ p ∧ p ≤ 1000000000 by omega), decide_eq_true (show 0 ≤ q ∧ q ≤ 1000000000 by omega)]
 simp only [Bool.not_true, cond_false, Option.bind_some, show ltI 1000 1 = false from rfl, show ltI 1000000000 1000 = false from rfl]
 rw [show wi (2 * 1000) = 2000 from rfl, show (!eqI 2000 0) = true from rfl, cond_true, Option.bind_some, e1, e4, e5, e6, e7, r_checked n _ (by omega), Option.bind_some]
theorem r_started (n : Nat) (p q u : Int) (hp : 0 ≤ p ∧ p ≤ 1000000) (hq : 0 ≤ q ∧ q ≤ 3000) (hu : 1 ≤ u ∧ u ≤ 1440) :
  g_ref31_Started n p q u = some (if wi (p * wi (Int.tdiv (wi (wi (q + u) - 1)) u)) ≤ 1000000000 then (wi (p * wi (Int.tdiv (wi (wi (q + u) - 1)) u)), 0) else (0, 3)) ∧ 0 ≤ wi (p * wi (Int.tdiv (wi (wi (q + u) - 1)) u)) := by
 have e1 : wi (q + u) = q + u := wi_id (by omega) (by omega)
 have e2 : wi (q + u - 1) = q + u - 1 := wi_id (by omega) (by omega)
 have e3 : Int.tdiv (q + u - 1) u = (q + u - 1) / u := Int.tdiv_eq_ediv_of_nonneg (by omega)
 have hd : 0 ≤ (q + u - 1) / u ∧ (q + u - 1) / u ≤ 5000 := by
  constructor
  ·exact Int.ediv_nonneg (by omega) (by omega)
  ·have := Int.ediv_le_self (a := q + u - 1) u (by omega)
   omega
 have e4 : wi ((q + u - 1) / u) = (q + u - 1) / u := wi_id (by omega) (by omega)
 have hb := mul_bound hp hd
 have e5 : wi (p * ((q + u - 1) / u)) = p * ((q + u - 1) / u) := wi_id (by omega) (by omega)
 rw [e1, e2, e3, e4, e5]
 refine ⟨?_, hb.1⟩
 unfold g_ref31_Started
 simp only [r_amount, Option.bind_some]
 rw [decide_eq_true (show 0 ≤ p ∧ p ≤ 1000000000 by omega), decide_eq_true (show 0 ≤ q ∧ q ≤ 1000000000 by omega)]
 simp only [Bool.not_true, cond_false, ltI, eqI_d]
 rw [decide_eq_false (show ¬ u < 1 by omega), cond_false, Option.bind_some, decide_eq_false (show ¬ 1000000000 < u by omega), cond_false, decide_eq_false (show ¬ u = 0 by omega), Bool.not_false, cond_true, e1, e2, e3, e4, e5, r_checked n _ hb.1, Option.bind_some]
theorem r_sta (n : Nat) (c : GCalendar) (a : GArticle) (f t : Int) (hn : 10000 ≤ n) (h1 : c.Changes.length ≤ 900) (h2 : c.Holidays.length ≤ 900) (hc : calB c = true) (ha : artB a = true) (hk34 : a.Kind = 3 ∨ a.Kind = 4) (hf : 0 ≤ f) (ht : t ≤ 52560000) (hk : t - f ≤ 2880) :
  ((g_ref33_Minutes n a c f t).bind fun r => (g_ref31_Started n a.Price (maxI 0 (wi (r - a.Free))) a.Unit).bind fun r => some (r.1, r.2)) = some (if staF c a f t ≤ 1000000000 then (staF c a f t, 0) else (0, 3)) ∧ 0 ≤ staF c a f t := by
 have hA := artB_art ha
 have hU := hA.unit hk34
 have hcn := cN_range c a (t - f).toNat f
 have eq : maxI 0 (wi (cN c a (t - f).toNat f - a.Free)) = maxI 0 (cntF c a (t - f).toNat f (wi (0 - a.Free))) := by
  rw [wi_id (x := 0 - a.Free) (by omega) (by omega), cntF_cN c a _ _ _ (by omega) (by omega), wi_id (by omega) (by omega)]
  congr 1
  omega
 have hq : 0 ≤ maxI 0 (wi (cN c a (t - f).toNat f - a.Free)) ∧ maxI 0 (wi (cN c a (t - f).toNat f - a.Free)) ≤ 3000 := by
  rw [wi_id (by omega) (by omega)]
  unfold maxI
  split <;> omega
 have hs := r_started n a.Price _ a.Unit hA.price hq ⟨hU.1, hU.2.1⟩
 rw [eq] at hs
 unfold staF
 refine ⟨?_, hs.2⟩
 rw [r_minutes n c a f t hn h1 h2 hc ha hf ht hk, Option.bind_some, eq, hs.1, Option.bind_some]
theorem r_line (n : Nat) (c : GCalendar) (a : GArticle) (s : GSession) (hn : 10000 ≤ n) (h1 : c.Changes.length ≤ 900) (h2 : c.Holidays.length ≤ 900) (hc : calB c = true) (ha : artB a = true) (hv : valB s = true) :
  g_ref33_Line n a c s = some (if cosF c s a ≤ 1000000000 then (cosF c s a, 0) else (0, 3)) ∧ 0 ≤ cosF c s a := by
 have hA := artB_art ha
 have hv' := hv
 simp only [valB, Bool.and_eq_true, decide_eq_true_eq] at hv'
 obtain ⟨hr, hs⟩ := hv'
 unfold g_ref33_Line cosF
 rw [r_article, r_cal n c (by omega) h1 h2, r_session_valid n s (by omega) (by omega) (by unfold i64b; omega), ha, hc, hv]
 simp only [Option.bind_some, Bool.not_true, cond_false, eqI_d]
 by_cases k1 : a.Kind = 1
 ·rw [decide_eq_true k1, cond_true, if_pos k1, wi_id (x := s.From + 1) (by omega) (by omega), r_minutes n c a s.From (s.From + 1) hn h1 h2 hc ha hr.1 (by omega) (by omega), Option.bind_some]
  rw [show (s.From + 1 - s.From).toNat = 1 from by omega]
  unfold cN cN
  have := hA.price
  cases appB c a s.From
  ·refine ⟨?_, by simp⟩
   simp
   rfl
  ·rw [if_pos rfl, if_pos rfl, if_pos (by omega), show (1 : Int) + 0 = 1 from rfl, Int.mul_one, wi_id (by omega) (by omega)]
   exact ⟨rfl, this.1⟩
 rw [decide_eq_false k1, cond_false, if_neg k1]
 by_cases k2 : a.Kind = 2
 ·rw [decide_eq_true k2, cond_true, if_pos k2]
  have hm := slB_mem hs
  rw [r_energy n c a s (by omega) h1 h2 hc ha (by omega) (fun x hx => by have := hm x hx; omega), Option.bind_some]
  have he := eneF_range c a s.Slices 0 (fun x hx => by have := hm x hx; omega) (by omega) (by omega)
  have ht := r_times n a.Price (eneF c a 0 s.Slices) hA.price (by omega)
  refine ⟨?_, ht.2⟩
  rw [ht.1, Option.bind_some]
 rw [decide_eq_false k2, cond_false, if_neg k2]
 by_cases k3 : a.Kind = 3
 ·rw [decide_eq_true k3, cond_true, if_pos k3]
  exact r_sta n c a s.From s.To hn h1 h2 hc ha (Or.inl k3) hr.1 (by omega) (by omega)
 rw [decide_eq_false k3, cond_false, if_neg k3]
 by_cases k4 : a.Kind = 4
 ·rw [decide_eq_true k4, cond_true, if_pos k4]
  exact r_sta n c a s.End s.To hn h1 h2 hc ha (Or.inr k4) (by omega) (by omega) (by omega)
 rw [decide_eq_false k4, cond_false, if_neg k4]
 exact ⟨rfl, by omega⟩
end Go.Proofs
namespace Go.Proofs
open Go Go.Abs
set_option maxRecDepth 100000
set_option linter.unusedVariables false
theorem drop_idx {α : Type} {l : List α} {i : Nat} {x : α} {r : List α} (h : l.drop i = x :: r) (hi : i < l.length) : l.length - (r.length + 1) = i ∧ l.length - r.length = i + 1 := by
 have := congrArg List.length h
 simp only [List.length_drop, List.length_cons] at this
 omega
theorem linB_cons (x : GLine) (r : List GLine) : linB (x :: r) = (decide (x.Amount ≤ 1000000000) && linB r) := by
 unfold linB
 rw [List.all_cons]
def capR : Int → List GArticle → Int
 | k, [] => k
 | k, a :: r => capR (if a.Kind = 5 then (if k < 0 ∨ a.Price < k then a.Price else k) else k) r
def capV (k z : Int) : Int := if 0 ≤ k ∧ k < z then k else z
theorem capF_R : ∀ (l : List GArticle) (k z : Int), (∀ a ∈ l, 0 ≤ a.Price) → capF (capV k z) l = capV (capR k l) z
 | [], k, z, _ => rfl
 | a :: r, k, z, h => by
  have ha := h a List.mem_cons_self
  unfold capF capR
  by_cases h5 : a.Kind = 5
  ·rw [if_pos h5, if_pos h5, ← capF_R r _ z (fun x hx => h x (List.mem_cons_of_mem _ hx))]
   congr 1
   unfold capV minI
   by_cases c1 : 0 ≤ k ∧ k < z
   ·rw [if_pos c1]
    by_cases c2 : k < 0 ∨ a.Price < k
    ·rw [if_pos c2]
     split <;> first | omega | (split <;> omega)
    ·rw [if_neg c2]
     split <;> first | omega | (split <;> omega)
   ·rw [if_neg c1]
    by_cases c2 : k < 0 ∨ a.Price < k
    ·rw [if_pos c2]
     split <;> first | omega | (split <;> omega)
    ·rw [if_neg c2]
     split <;> first | omega | (split <;> omega)
  ·rw [if_neg h5, if_neg h5]
   exact capF_R r k z (fun x hx => h x (List.mem_cons_of_mem _ hx))
theorem rateF_range : ∀ (l : List GArticle) (z : Int), (∀ a ∈ l, 0 ≤ a.Price ∧ (a.Kind = 6 → a.Price ≤ 10000)) → (0 ≤ z ∧ z ≤ 10000) → 0 ≤ rateF z l ∧ rateF z l ≤ 10000
 | [], z, _, hz => hz
 | a :: r, z, h, hz => by
  have ha := h a List.mem_cons_self
  unfold rateF
  refine rateF_range r _ (fun x hx => h x (List.mem_cons_of_mem _ hx)) ?_
  split
  ·rename_i h6
   exact ⟨ha.1, ha.2 h6⟩
  ·exact hz
theorem r_tax (n : Nat) (net rate : Int) (hn : 0 ≤ net ∧ net ≤ 1000000000) (hr : 0 ≤ rate ∧ rate ≤ 10000) : g_ref31_Tax n net rate = some (taxF net rate, 0) ∧ 0 ≤ taxF net rate ∧ taxF net rate ≤ net + 1 := by
 have hb := mul_bound hn hr
 have hb2 : net * rate ≤ net * 10000 := Int.mul_le_mul_of_nonneg_left hr.2 hn.1
 have e1 : wi (net * rate) = net * rate := wi_id (by omega) (by omega)
 have e2 : wi (2 * net) = 2 * net := wi_id (by omega) (by omega)
 have e3 : 2 * net * rate = 2 * (net * rate) := Int.mul_assoc ..
 have e4 : wi (2 * (net * rate)) = 2 * (net * rate) := wi_id (by omega) (by omega)
 have e5 : wi (2 * (net * rate) + 10000) = 2 * (net * rate) + 10000 := wi_id (by omega) (by omega)
 have e6 : Int.tdiv (2 * (net * rate) + 10000) 20000 = (2 * (net * rate) + 10000) / 20000 := Int.tdiv_eq_ediv_of_nonneg (by omega)
 have e7 : wi ((2 * (net * rate) + 10000) / 20000) = (2 * (net * rate) + 10000) / 20000 := wi_id (by omega) (by omega)
 unfold taxF
 rw [e2, e3, e4, e5, e6, e7]
 refine ⟨?_, by omega, by omega⟩
 unfold g_ref31_Tax g_ref31_divided
 simp only [r_amount, Option.bind_some, ltI]
 rw [decide_eq_true (show 0 ≤ net ∧ net ≤ 1000000000 by omega), Bool.not_true, cond_false, decide_eq_false (show ¬ rate < 0 by omega), cond_false, Option.bind_some, decide_eq_false (show ¬ 100000 < rate by omega), cond_false]
 rw [show wi (2 * 10000) = 20000 from rfl, show (!eqI 20000 0) = true from rfl, cond_true, Option.bind_some, e1, e4, e5, e6, e7, r_checked n _ (by omega), Option.bind_some, if_pos (by omega)]
def zeroBill : GBill := ⟨[], 0, 0, 0⟩
end Go.Proofs
namespace Go.Proofs
open Go Go.Abs
set_option maxRecDepth 100000
set_option linter.unusedVariables false
theorem b_goodWord (n : Nat) (s : List UInt8) (hn : 1000 ≤ n) : g_parser_goodWord n s = some (decide (1 ≤ s.length ∧ s.length ≤ 12) && decide (∀ x ∈ s.head?, 97 ≤ b2i x ∧ b2i x ≤ 122) && s.all chrB) := by
 unfold g_parser_goodWord
 simp only [lenI, ltI]
 cases s with
 | nil => simp
 | cons x r =>
  rw [decide_eq_false (show ¬ (((x :: r).length : Nat) : Int) < 1 by simp only [List.length_cons]; omega), cond_false]
  by_cases hl : (x :: r).length ≤ 12
  rotate_left
  ·rw [decide_eq_true (show (12 : Int) < (((x :: r).length : Nat) : Int) by omega), decide_eq_false (show ¬ (1 ≤ (x :: r).length ∧ (x :: r).length ≤ 12) by omega)]; rfl
  rw [decide_eq_false (show ¬ (12 : Int) < (((x :: r).length : Nat) : Int) by omega), cond_false, decide_eq_true (show 1 ≤ (x :: r).length ∧ (x :: r).length ≤ 12 by simp only [List.length_cons] at hl ⊢; omega)]
  rw [show getI (x :: r) 0 = some x from rfl]
  have hloop : loopN (fun recl7 l7 => g_parser_goodWord_l7 (x :: r) recl7 l7) n 1 = some (r.all chrB) := by
   have := loop_list (l := x :: r) (B := fun recl7 l7 => g_parser_goodWord_l7 (x :: r) recl7 l7) (F := fun r => r.all chrB) (by omega) ?_ ?_ (n := n) 1 (by simp) (by omega)
   ·simpa using this
   ·intro rec; simp [g_parser_goodWord_l7, ltI, lenI]
   ·intro rec i y q hd hx hi hw hr
    unfold g_parser_goodWord_l7
    simp only [lenI, getI_nat, hx, Option.bind_some, hw, hr, ltI, leI, eqI, cond_some]
    rw [decide_eq_true (by omega), cond_true, List.all_cons]
    rw [chr_lem, chrB]
    cases decide ((97 ≤ b2i y ∧ b2i y ≤ 122) ∨ (48 ≤ b2i y ∧ b2i y ≤ 57) ∨ b2i y = 95) <;> simp
  rw [hloop]
  simp only [Option.bind_some, cond_some, List.head?_cons, Option.mem_def, Option.some.injEq, forall_eq', Bool.true_and, List.all_cons]
  by_cases h1 : b2i x < 97
  ·rw [decide_eq_true h1, decide_eq_false (show ¬ (97 ≤ b2i x ∧ b2i x ≤ 122) by omega)]; rfl
  ·rw [decide_eq_false h1, cond_false]
   by_cases h2 : 122 < b2i x
   ·rw [decide_eq_true h2, decide_eq_false (show ¬ (97 ≤ b2i x ∧ b2i x ≤ 122) by omega)]; rfl
   ·have h3 : 97 ≤ b2i x ∧ b2i x ≤ 122 := by omega
    have h4 : chrB x = true := by unfold chrB; rw [decide_eq_true]; exact Or.inl h3
    rw [decide_eq_false h2, decide_eq_true h3, h4]; rfl
theorem cnz (b : Bool) (k r : Int) (hk : k ≠ 0) : (!eqI (bif b then k else r) 0) = (b || !eqI r 0) := by
 cases b
 ·rfl
 ·simp [eqI, hk]
theorem b_isKey (n : Nat) (s : List UInt8) : g_parser_isKey n s = some (keyB s) := by
 unfold g_parser_isKey g_parser_kindOf g_parser_isAttr g_parser_isArticle g_parser_isWord
 rw [keyB_mem]
 simp only [cond_some, Option.bind_some, cse, cst, keyL, g_ref02_Kinds, g_ref02_Attrs, g_ref02_Articles, g_ref02_Words, Option.getD_some, List.cons_append, List.nil_append, List.contains_cons, List.contains_nil, Bool.or_false, eqS]
 rw [cnz _ 1 _ (by decide), cnz _ 2 _ (by decide), cnz _ 3 _ (by decide), cnz _ 4 _ (by decide), cnz _ 5 _ (by decide), cnz _ 6 _ (by decide), cnz _ 7 _ (by decide), show (!eqI 0 0) = false from rfl]
 simp only [Bool.or_assoc, Bool.or_false]
theorem b_goodName (n : Nat) (s : List UInt8) (hn : 1000 ≤ n) : g_parser_goodName n s = some (nameB s) := by
 unfold g_parser_goodName nameB
 rw [b_goodWord n s hn, Option.bind_some, b_isKey, Option.bind_some, cond_some]
 generalize decide (1 ≤ s.length ∧ s.length ≤ 12) = a
 generalize decide (∀ x ∈ s.head?, 97 ≤ b2i x ∧ b2i x ≤ 122) = b
 generalize s.all chrB = c
 generalize keyB s = d
 cases a <;> cases b <;> cases c <;> cases d <;> rfl
theorem of_cs' (k : Int) (s : List UInt8) (m t : Int) (l : List (List PV)) : GNode.of (GNode.cs ⟨k, s, m, t, l⟩) = some ⟨k, s, m, t, l⟩ := by
 unfold GNode.cs GNode.of
 simp only [map_idc, byt_mkS, if_true]
theorem b_parser (n : Nat) (s : List UInt8) (hn : 1000 ≤ n) : g_parser_Valid n (⟨1, [], 0, 0, [GNode.cs (⟨2, s, 3, 0, []⟩ : GNode)]⟩ : GNode) = some (nameB s) := by
 obtain ⟨m, rfl⟩ : ∃ m, n = m + 2 := ⟨n - 2, by omega⟩
 have hitem : g_parser_validItem (m + 2) (⟨2, s, 3, 0, []⟩ : GNode) 1498 = some (nameB s, 1498) := by
  unfold g_parser_validItem
  rw [b_goodName (m + 2) s hn]
  simp only [show (!eqI 2 2) = false from rfl, show ltI 3 1 = false from rfl, show ltI 7 3 = false from rfl, cond_false, Option.bind_some]
  cases nameB s
  ·rfl
  ·unfold loopN; rfl
 unfold g_parser_Valid
 have e1 : ((bif !eqI 1 1 then some true else bif !eqS [] [] then some true else bif !eqI 0 0 then some true else some (ltI (wi (1499 - lenI (List.map idc [GNode.cs (⟨2, s, 3, 0, []⟩ : GNode)]))) 0))) = some false := rfl
 have e2 : wi (1499 - lenI (List.map idc [GNode.cs (⟨2, s, 3, 0, []⟩ : GNode)])) = 1498 := rfl
 simp only
 rw [e1, Option.bind_some, cond_false, e2]
 unfold loopN
 simp only [g_parser_Valid_l5]
 rw [show ltI 0 (lenI (List.map idc [GNode.cs (⟨2, s, 3, 0, []⟩ : GNode)])) = true from rfl, cond_true, show getI [GNode.cs (⟨2, s, 3, 0, []⟩ : GNode)] 0 = some (GNode.cs (⟨2, s, 3, 0, []⟩ : GNode)) from rfl, Option.bind_some, of_cs', Option.bind_some, hitem, Option.bind_some]
 cases nameB s
 ·rfl
 ·unfold loopN; rfl
theorem b_inside (n : Nat) (x a b : Int) : g_tariff_inside n x a b = some (decide (a ≤ x ∧ x ≤ b)) := by
 unfold g_tariff_inside leI
 by_cases h : a ≤ x <;> simp [h]
theorem b_article (n : Nat) (a : GArticle) : g_tariff_validArticle n a = some (artB a) := by
 have bad : ¬ Art a → some false = some (artB a) := by
  intro h
  cases hb : artB a
  ·rfl
  ·exact absurd (artB_art hb) h
 unfold g_tariff_validArticle g_tariff_isWhole g_tariff_isTime
 simp only [b_inside, Option.bind_some]
 by_cases c2 : 1 ≤ a.Kind ∧ a.Kind ≤ 6
 rotate_left
 ·rw [decide_eq_false c2]; exact bad (fun h => c2 h.kind)
 rw [decide_eq_true c2]
 by_cases c4 : 0 ≤ a.From ∧ a.From ≤ 1439
 rotate_left
 ·rw [decide_eq_false c4]; exact bad (fun h => c4 h.from_)
 rw [decide_eq_true c4, wi_id (x := a.From + 1) (by omega) (by omega)]
 by_cases c6 : a.From + 1 ≤ a.To ∧ a.To ≤ 1440
 rotate_left
 ·rw [decide_eq_false c6]; exact bad (fun h => by have := h.to_; omega)
 rw [decide_eq_true c6]
 by_cases c8 : 1 ≤ a.Days ∧ a.Days ≤ 7
 rotate_left
 ·rw [decide_eq_false c8]; exact bad (fun h => c8 h.days)
 rw [decide_eq_true c8]
 unfold artB g_a_validArticle
 simp only [a_inside, cond_some, Option.bind_some, Option.getD_some, eqI_d, Bool.not_true, cond_false]
 rw [Option.some.injEq, Bool.eq_iff_iff]
 obtain ⟨k, d, f, t, p, u, v⟩ := a
 simp only at c2 c4 c6 c8
 simp only [Bool.cond_eq_ite]
 have hk : k = 1 ∨ k = 2 ∨ k = 3 ∨ k = 4 ∨ k = 5 ∨ k = 6 := by omega
 rcases hk with rfl | rfl | rfl | rfl | rfl | rfl <;> simp [leI, ltI] <;> omega
theorem b_tariff (n : Nat) (t : GTariff) (hn : 1000 ≤ n) : g_tariff_Valid n t = some (tariffB t) := by
 unfold g_tariff_Valid tariffB
 rw [b_parser n t.Name hn]
 simp only [Option.bind_some, cond_some, lenI, List.length_map, ltI]
 cases hname : nameB t.Name
 ·rfl
 by_cases h2 : t.Articles.length ≤ 12
 rotate_left
 ·rw [decide_eq_true (show (12 : Int) < t.Articles.length by omega), decide_eq_false h2]; rfl
 rw [decide_eq_false (show ¬ (12 : Int) < t.Articles.length by omega), decide_eq_true h2]
 simp only [Bool.not_true, cond_false, Bool.true_and]
 have := loop_gen (l := t.Articles) (fun (a : Int) i => (a, i)) (B := fun recl4 (v : Int × Int) => g_tariff_Valid_l4 n t recl4 v.1 v.2) (F := tarB) (fun i a => 0 ≤ a ∧ a ≤ i) (by omega) ?_ ?_ (n := n) 0 0 (by omega) (by omega) (by omega)
 ·exact this
 ·intro rec a ha
  simp only [g_tariff_Valid_l4, lenI, List.length_map, ltI, leI]
  rw [decide_eq_false (by omega), cond_false]
  rfl
 ·intro rec a i x r ha hd hx hi hw hr
  simp only [g_tariff_Valid_l4, lenI, List.length_map, ltI, getI_nat, hx, Option.bind_some, b_article, hw, eqI_d]
  rw [decide_eq_true (by omega), cond_true, tarB]
  cases hb : artB x
  ·rfl
  ·have hw2 : wi (a + 1) = a + 1 := wi_id (by omega) (by omega)
   simp only [Bool.not_true, cond_false, Bool.true_and]
   by_cases h6 : x.Kind = 6
   ·rw [decide_eq_true h6, cond_true, if_pos h6, hw2, hr _ (by omega)]
   ·rw [decide_eq_false h6, cond_false, if_neg h6, hr _ (by omega)]
def chK : Int → List GChange → Bool
 | _, [] => true
 | a, x :: r => decide (a < x.At ∧ x.At ≤ 52560000) && chK x.At r
def chO (l : List GChange) : Bool := l.all (fun x => decide (-1440 ≤ x.Offset ∧ x.Offset ≤ 1440))
theorem chgB_KO : ∀ (l : List GChange) (a : Int), chgB a l = (chO l && chK a l)
 | [], _ => rfl
 | x :: r, a => by
  unfold chgB chK
  rw [chgB_KO r x.At, show chO (x :: r) = (decide (-1440 ≤ x.Offset ∧ x.Offset ≤ 1440) && chO r) from List.all_cons]
  by_cases c1 : a < x.At ∧ x.At ≤ 52560000
  ·by_cases c2 : -1440 ≤ x.Offset ∧ x.Offset ≤ 1440
   ·rw [decide_eq_true (show a < x.At ∧ x.At ≤ 52560000 ∧ -1440 ≤ x.Offset ∧ x.Offset ≤ 1440 by omega), decide_eq_true c1, decide_eq_true c2]; rfl
   ·rw [decide_eq_false (show ¬ (a < x.At ∧ x.At ≤ 52560000 ∧ -1440 ≤ x.Offset ∧ x.Offset ≤ 1440) by omega), decide_eq_false c2]; rfl
  ·rw [decide_eq_false (show ¬ (a < x.At ∧ x.At ≤ 52560000 ∧ -1440 ≤ x.Offset ∧ x.Offset ≤ 1440) by omega), decide_eq_false c1]
   simp
theorem b_dinside (n : Nat) (x a b : Int) : g_days_inside n x a b = some (decide (a ≤ x ∧ x ≤ b)) := by
 unfold g_days_inside leI
 by_cases h : a ≤ x <;> simp [h]
theorem b_listC (n : Nat) (l : List GChange) (hn : 1000 ≤ n) (hl : l.length ≤ 900) : g_dv_api_Change n l 52560000 = some (chK (-1) l) := by
 unfold g_dv_api_Change
 have := loop_acc (l := l) (B := fun recl1 (v : Int × Int) => g_dv_api_Change_l1 n l 52560000 recl1 v.1 v.2) (F := chK) (by omega) ?_ ?_ (n := n) 0 (-1) (by omega) (by omega)
 ·exact this
 ·intro rec a; simp [g_dv_api_Change_l1, ltI, lenI, chK]
 ·intro rec a i x r hd hx hi hw hr
  simp only [g_dv_api_Change_l1, g_days_keys_1, lenI, List.length_map, getI_nat, hx, Option.bind_some, hw, hr, ltI, leI, chK, cond_some]
  rw [decide_eq_true (by omega), cond_true]
  by_cases h1 : x.At ≤ a
  ·rw [decide_eq_true h1, decide_eq_false (show ¬ (a < x.At ∧ x.At ≤ 52560000) by omega)]; rfl
  ·rw [decide_eq_false h1]
   by_cases h2 : 52560000 < x.At
   ·rw [decide_eq_true h2, decide_eq_false (show ¬ (a < x.At ∧ x.At ≤ 52560000) by omega)]; rfl
   ·rw [decide_eq_false h2, decide_eq_true (show a < x.At ∧ x.At ≤ 52560000 by omega)]; rfl
theorem b_listI (n : Nat) (l : List Int) (hn : 1000 ≤ n) (hl : l.length ≤ 900) : g_dv_int n l 36500 = some (holB (-1) l) := by
 unfold g_dv_int
 have := loop_acc (l := l) (B := fun recl1 (v : Int × Int) => g_dv_int_l1 n l 36500 recl1 v.1 v.2) (F := holB) (by omega) ?_ ?_ (n := n) 0 (-1) (by omega) (by omega)
 ·exact this
 ·intro rec a; simp [g_dv_int_l1, ltI, lenI, holB]
 ·intro rec a i x r hd hx hi hw hr
  simp only [g_dv_int_l1, g_days_keys_2, lenI, List.length_map, getI_nat, hx, Option.bind_some, hw, hr, ltI, leI, holB, cond_some]
  rw [decide_eq_true (by omega), cond_true]
  by_cases h1 : x ≤ a
  ·rw [decide_eq_true h1, decide_eq_false (show ¬ (a < x ∧ x ≤ 36500) by omega)]; rfl
  ·rw [decide_eq_false h1]
   by_cases h2 : 36500 < x
   ·rw [decide_eq_true h2, decide_eq_false (show ¬ (a < x ∧ x ≤ 36500) by omega)]; rfl
   ·rw [decide_eq_false h2, decide_eq_true (show a < x ∧ x ≤ 36500 by omega)]; rfl
theorem b_cal (n : Nat) (c : GCalendar) (hn : 1000 ≤ n) (h1 : c.Changes.length ≤ 900) (h2 : c.Holidays.length ≤ 900) : g_days_Valid n c = some (calB c) := by
 have key : loopN (fun recl9 l9 => g_days_Valid_l9 n c recl9 l9) n 0 = some (chO c.Changes && (chK (-1) c.Changes && holB (-1) c.Holidays)) := by
  have := loop_list (l := c.Changes) (B := fun recl9 l9 => g_days_Valid_l9 n c recl9 l9) (F := fun r => chO r && (chK (-1) c.Changes && holB (-1) c.Holidays)) (by omega) ?_ ?_ (n := n) 0 (by omega) (by omega)
  ·exact this
  ·intro rec
   simp only [g_days_Valid_l9, g_days_Valid_j5, lenI, List.length_map, ltI, b_listC n _ hn h1, b_listI n _ hn h2, Option.bind_some, cond_some]
   rw [decide_eq_false (by omega), cond_false]
   cases chK (-1) c.Changes <;> rfl
  ·intro rec i x r hd hx hi hw hr
   simp only [g_days_Valid_l9, lenI, List.length_map, getI_nat, hx, Option.bind_some, hw, hr, ltI, b_dinside]
   rw [decide_eq_true (by omega), cond_true, show chO (x :: r) = (decide (-1440 ≤ x.Offset ∧ x.Offset ≤ 1440) && chO r) from List.all_cons]
   cases decide (-1440 ≤ x.Offset ∧ x.Offset ≤ 1440) <;> rfl
 unfold g_days_Valid calB
 rw [key, chgB_KO]
 simp only [b_dinside, Option.bind_some, cond_some, lenI, List.length_map, ltI]
 by_cases c1 : c.Changes.length ≤ 16
 rotate_left
 ·rw [decide_eq_true (show (16 : Int) < c.Changes.length by omega), decide_eq_false c1]; simp
 rw [decide_eq_false (show ¬ (16 : Int) < c.Changes.length by omega), decide_eq_true c1]
 by_cases c2 : c.Holidays.length ≤ 32
 rotate_left
 ·rw [decide_eq_true (show (32 : Int) < c.Holidays.length by omega), decide_eq_false c2]; simp
 rw [decide_eq_false (show ¬ (32 : Int) < c.Holidays.length by omega), decide_eq_true c2]
 generalize decide (-1440 ≤ c.Offset ∧ c.Offset ≤ 1440) = b0
 generalize chO c.Changes = b1
 generalize chK (-1) c.Changes = b2
 generalize holB (-1) c.Holidays = b3
 cases b0 <;> cases b1 <;> cases b2 <;> cases b3 <;> rfl
end Go.Proofs
namespace Go.Proofs
open Go Go.Abs
set_option maxRecDepth 100000
set_option linter.unusedVariables false
theorem chK_lt : ∀ (l : List GChange) (a : Int), chK a l = true → (∀ x ∈ l, a < x.At) ∧ l.Pairwise (fun x y => x.At < y.At)
 | [], _, _ => ⟨(fun x h => by cases h), List.Pairwise.nil⟩
 | x :: r, a, h => by
  simp only [chK, Bool.and_eq_true, decide_eq_true_eq] at h
  obtain ⟨h1, h2⟩ := chK_lt r x.At h.2
  refine ⟨fun y hy => ?_, List.pairwise_cons.2 ⟨h1, h2⟩⟩
  rcases List.mem_cons.1 hy with rfl | hy
  ·exact h.1.1
  ·have := h1 y hy; omega
theorem holB_lt : ∀ (l : List Int) (a : Int), holB a l = true → (∀ x ∈ l, a < x) ∧ l.Pairwise (fun x y => x < y)
 | [], _, _ => ⟨(fun x h => by cases h), List.Pairwise.nil⟩
 | x :: r, a, h => by
  simp only [holB, Bool.and_eq_true, decide_eq_true_eq] at h
  obtain ⟨h1, h2⟩ := holB_lt r x h.2
  refine ⟨fun y hy => ?_, List.pairwise_cons.2 ⟨h1, h2⟩⟩
  rcases List.mem_cons.1 hy with rfl | hy
  ·exact h.1.1
  ·have := h1 y hy; omega
structure LastOf {α : Type} (key : α → Int) (l : List α) (m r : Int) : Prop where
 lo : -1 ≤ r
 hi : r < l.length
 le : ∀ (i : Nat) (x : α), (i : Int) ≤ r → l[i]? = some x → key x ≤ m
 gt : ∀ (i : Nat) (x : α), r < (i : Int) → l[i]? = some x → m < key x
theorem last_gen {α : Type} {key : α → Int} {l : List α} {m : Int} {B : (Int × Int → Option Int) → Int × Int → Option Int} (hl : l.length ≤ 900) (hs : l.Pairwise (fun x y => key x < key y))
  (hB : ∀ rec lo hi, B rec (lo, hi) = cond (ltI lo hi) ((getI l (wi (lo + wi (Int.tdiv (wi (wi (hi - lo) + 1)) 2)))).bind fun x => cond (leI (key x) m) (rec (wi (lo + wi (Int.tdiv (wi (wi (hi - lo) + 1)) 2)), hi)) (rec (lo, wi (wi (lo + wi (Int.tdiv (wi (wi (hi - lo) + 1)) 2)) - 1)))) (some lo))
  {n : Nat} (hn : 1000 ≤ n) : Does (loopN B n (-1, (l.length : Int) - 1)) (LastOf key l m) := by
 have := does_loop (B := B) (Q := fun _ r => LastOf key l m r) (fun v => (v.2 - v.1).toNat) (fun v => -1 ≤ v.1 ∧ v.1 ≤ v.2 ∧ v.2 < l.length ∧ (∀ (i : Nat) (x : α), (i : Int) ≤ v.1 → l[i]? = some x → key x ≤ m) ∧ (∀ (i : Nat) (x : α), v.2 < (i : Int) → l[i]? = some x → m < key x)) ?_ (n := n) (v := (-1, (l.length : Int) - 1)) ⟨by simp, by simp; omega, by simp; omega, fun i x h => by simp only at h; omega, fun i x h hx => by
  have := (List.getElem?_eq_some_iff.1 hx).1
  simp only at h
  omega⟩ (by simp only; omega)
 ·exact this
 ·rintro rec ⟨lo, hi⟩ ⟨h1, h2, h3, h4, h5⟩ ih
  simp only at h1 h2 h3 h4 h5 ih
  rw [hB]
  by_cases hlt : lo < hi
  rotate_left
  ·rw [show ltI lo hi = false from by simp only [ltI]; rw [decide_eq_false hlt], cond_false]
   exact does_some ⟨h1, by omega, h4, fun i x hi' hx => h5 i x (by omega) hx⟩
  rw [show ltI lo hi = true from by simp only [ltI]; rw [decide_eq_true hlt], cond_true]
  rw [wi_id (x := hi - lo) (by omega) (by omega), wi_id (x := hi - lo + 1) (by omega) (by omega), Int.tdiv_eq_ediv_of_nonneg (by omega), wi_id (x := (hi - lo + 1) / 2) (by omega) (by omega), wi_id (x := lo + (hi - lo + 1) / 2) (by omega) (by omega), wi_id (x := lo + (hi - lo + 1) / 2 - 1) (by omega) (by omega)]
  generalize hmid : lo + (hi - lo + 1) / 2 = mid
  have hm : lo < mid ∧ mid ≤ hi := by omega
  obtain ⟨j, rfl⟩ : ∃ j : Nat, mid = (j : Int) := ⟨mid.toNat, by omega⟩
  have hx : l[j]? = some (l[j]'(by omega)) := by rw [List.getElem?_eq_getElem]
  generalize l[j]'(by omega) = x at hx
  rw [getI_nat, hx, Option.bind_some]
  refine does_cond (fun hc => ?_) (fun hc => ?_)
  ·simp only [leI, decide_eq_true_eq] at hc
   refine ih (j, hi) ⟨by simp only; omega, by simp only; omega, h3, fun i y hi' hy => ?_, h5⟩ (by simp only; omega)
   simp only at hi'
   by_cases e : i = j
   ·subst e
    rw [hx] at hy; cases hy
    exact hc
   ·have hij : i < j := by omega
    have hy' := List.getElem?_eq_some_iff.1 hy
    have hx' := List.getElem?_eq_some_iff.1 hx
    have := List.pairwise_iff_getElem.1 hs i j hy'.1 hx'.1 hij
    rw [hy'.2, hx'.2] at this
    omega
  ·simp only [leI, decide_eq_false_iff_not] at hc
   refine ih (lo, (j : Int) - 1) ⟨h1, by simp only; omega, by simp only; omega, h4, fun i y hi' hy => ?_⟩ (by simp only; omega)
   simp only at hi'
   by_cases e : i = j
   ·subst e
    rw [hx] at hy; cases hy
    omega
   ·have hij : j < i := by omega
    have hy' := List.getElem?_eq_some_iff.1 hy
    have hx' := List.getElem?_eq_some_iff.1 hx
    have := List.pairwise_iff_getElem.1 hs j i hx'.1 hy'.1 hij
    rw [hy'.2, hx'.2] at this
    omega
theorem b_lastC (n : Nat) (l : List GChange) (m : Int) (hn : 1000 ≤ n) (hl : l.length ≤ 900) (hs : chK (-1) l = true) : Does (g_days_last_api_Change n l m) (LastOf GChange.At l m) := by
 unfold g_days_last_api_Change
 simp only [lenI, List.length_map]
 rw [wi_id (x := (l.length : Int) - 1) (by omega) (by omega)]
 exact last_gen (B := fun recl1 (v : Int × Int) => g_days_last_api_Change_l1 n l m recl1 v.1 v.2) hl (chK_lt l _ hs).2 (fun rec lo hi => rfl) hn
theorem b_lastI (n : Nat) (l : List Int) (m : Int) (hn : 1000 ≤ n) (hl : l.length ≤ 900) (hs : holB (-1) l = true) : Does (g_days_last_int n l m) (LastOf (fun x => x) l m) := by
 unfold g_days_last_int
 simp only [lenI, List.length_map]
 rw [wi_id (x := (l.length : Int) - 1) (by omega) (by omega)]
 exact last_gen (key := fun x => x) (B := fun recl1 (v : Int × Int) => g_days_last_int_l1 n l m recl1 v.1 v.2) hl (holB_lt l _ hs).2 (fun rec lo hi => rfl) hn
theorem offF_gt (m : Int) : ∀ (l : List GChange) (o : Int), (∀ x ∈ l, m < x.At) → offF m o l = o
 | [], _, _ => rfl
 | x :: r, o, h => by
  have := h x List.mem_cons_self
  unfold offF
  rw [if_neg (by omega)]
  exact offF_gt m r o (fun y hy => h y (List.mem_cons_of_mem _ hy))
theorem offF_at (m : Int) : ∀ (l : List GChange) (o : Int) (k : Nat) (x : GChange), l[k]? = some x → (∀ (i : Nat) (y : GChange), i ≤ k → l[i]? = some y → y.At ≤ m) → (∀ (i : Nat) (y : GChange), k < i → l[i]? = some y → m < y.At) → offF m o l = x.Offset
 | [], _, _, _, h, _, _ => by simp at h
 | z :: r, o, 0, x, h, h1, h2 => by
  simp at h
  subst h
  unfold offF
  rw [if_pos (h1 0 z (Nat.le_refl _) rfl)]
  exact offF_gt m r _ (fun y hy => by
   obtain ⟨i, hi⟩ := List.mem_iff_getElem?.1 hy
   exact h2 (i + 1) y (by omega) (by simpa using hi))
 | z :: r, o, k + 1, x, h, h1, h2 => by
  unfold offF
  exact offF_at m r _ k x (by simpa using h) (fun i y hi hy => h1 (i + 1) y (by omega) (by simpa using hy)) (fun i y hi hy => h2 (i + 1) y (by omega) (by simpa using hy))
theorem typF_mem (d : Int) : ∀ (l : List Int), typF d l = if d ∈ l then 2 else wkF d
 | [] => by simp [typF]
 | x :: r => by
  unfold typF
  rw [typF_mem d r]
  by_cases h : x = d
  ·simp [h]
  ·simp [h, Ne.symm h]
theorem tdiv_neg' (x : Int) (b : Int) (h : x ≤ 0) : Int.tdiv x b = -((-x) / b) ∧ Int.tmod x b = -((-x) % b) := by
 obtain ⟨y, rfl⟩ : ∃ y : Int, x = -y := ⟨-x, by omega⟩
 rw [Int.neg_tdiv, Int.neg_tmod, Int.neg_neg, Int.tdiv_eq_ediv_of_nonneg (by omega), Int.tmod_eq_emod_of_nonneg (by omega)]
 exact ⟨rfl, rfl⟩
theorem b_split1440 (n : Nat) (x : Int) (h : -1440 ≤ x ∧ x ≤ 100000000) : g_days_split n x 1440 = some ((x + 1440) / 1440 - 1, (x + 1440) % 1440) := by
 unfold g_days_split
 rw [show (!eqI 1440 0) = true from rfl, cond_true, cond_true]
 simp only [ltI]
 by_cases hx : 0 ≤ x
 ·rw [Int.tdiv_eq_ediv_of_nonneg hx, Int.tmod_eq_emod_of_nonneg hx, decide_eq_false (by omega), cond_false, wi_id (x := x / 1440) (by omega) (by omega)]
  congr 2
  ·omega
  ·omega
 ·obtain ⟨e1, e2⟩ := tdiv_neg' x 1440 (by omega)
  rw [e1, e2]
  by_cases hm : -((-x) % 1440) < 0
  ·rw [decide_eq_true hm, cond_true, wi_id (x := -((-x) / 1440)) (by omega) (by omega), wi_id (by omega) (by omega), wi_id (by omega) (by omega)]
   congr 2
   ·omega
   ·omega
  ·rw [decide_eq_false hm, cond_false, wi_id (x := -((-x) / 1440)) (by omega) (by omega)]
   congr 2
   ·omega
   ·omega
theorem b_local (n : Nat) (c : GCalendar) (m : Int) (hn : 1000 ≤ n) (h1 : c.Changes.length ≤ 900) (h2 : c.Holidays.length ≤ 900) (hc : calB c = true) (hm : 0 ≤ m ∧ m ≤ 52560000) :
  g_days_Local n c m = some ((m + offF m c.Offset c.Changes + 1440) / 1440 - 1, (m + offF m c.Offset c.Changes + 1440) % 1440, 0) := by
 have ho := cal_off m hc
 have hc' := hc
 simp only [calB, Bool.and_eq_true] at hc'
 have hK : chK (-1) c.Changes = true := by
  have := hc'.1.2
  rw [chgB_KO, Bool.and_eq_true] at this
  exact this.2
 unfold g_days_Local
 rw [b_cal n c hn h1 h2, hc, b_dinside, decide_eq_true hm]
 simp only [Option.bind_some, Bool.not_true, cond_false]
 obtain ⟨r, e, L⟩ := b_lastC n c.Changes m hn h1 hK
 rw [e]
 simp only [Option.bind_some]
 have hoff : (bif leI 0 r then (getI c.Changes r).bind fun x7 => some x7.Offset else some c.Offset) = some (offF m c.Offset c.Changes) := by
  by_cases h0 : 0 ≤ r
  ·obtain ⟨k, rfl⟩ : ∃ k : Nat, r = (k : Int) := ⟨r.toNat, by omega⟩
   have hk := L.hi
   have hx : c.Changes[k]? = some (c.Changes[k]'(by omega)) := by rw [List.getElem?_eq_getElem]
   rw [show leI 0 (k : Int) = true from by simp only [leI]; rw [decide_eq_true h0], cond_true, getI_nat, hx, Option.bind_some]
   rw [offF_at m c.Changes c.Offset k _ hx (fun i y hi hy => L.le i y (by omega) hy) (fun i y hi hy => L.gt i y (by omega) hy)]
  ·rw [show leI 0 r = false from by simp only [leI]; rw [decide_eq_false h0], cond_false]
   rw [offF_gt m c.Changes c.Offset (fun x hx => by
    obtain ⟨i, hi⟩ := List.mem_iff_getElem?.1 hx
    exact L.gt i x (by omega) hi)]
 rw [hoff, Option.bind_some]
 generalize offF m c.Offset c.Changes = o at ho
 rw [wi_id (x := m + o) (by omega) (by omega), b_split1440 n (m + o) (by omega), Option.bind_some]
theorem b_split7 (n : Nat) (d : Int) (h : -1 ≤ d ∧ d ≤ 36501) : g_days_split n d 7 = some ((d + 7) / 7 - 1, (d + 7) % 7) := by
 unfold g_days_split
 rw [show (!eqI 7 0) = true from rfl, cond_true, cond_true]
 simp only [ltI]
 by_cases hx : 0 ≤ d
 ·rw [Int.tdiv_eq_ediv_of_nonneg hx, Int.tmod_eq_emod_of_nonneg hx, decide_eq_false (by omega), cond_false, wi_id (x := d / 7) (by omega) (by omega)]
  congr 2
  ·omega
  ·omega
 ·have : d = -1 := by omega
  subst this
  rfl
theorem b_type (n : Nat) (c : GCalendar) (d : Int) (hn : 1000 ≤ n) (h1 : c.Changes.length ≤ 900) (h2 : c.Holidays.length ≤ 900) (hc : calB c = true) (hd : -1 ≤ d ∧ d ≤ 36501) : g_days_Type n c d = some (typF d c.Holidays, 0) := by
 have hc' := hc
 simp only [calB, Bool.and_eq_true] at hc'
 unfold g_days_Type
 rw [b_cal n c hn h1 h2, hc, b_dinside, decide_eq_true hd]
 simp only [Option.bind_some, Bool.not_true, cond_false]
 obtain ⟨r, e, L⟩ := b_lastI n c.Holidays d hn h2 hc'.2
 have hpw := (holB_lt _ _ hc'.2).2
 rw [e]
 simp only [Option.bind_some]
 have hj : (bif leI 0 r then (getI c.Holidays r).bind fun x8 => some (eqI x8 d) else some false) = some (decide (d ∈ c.Holidays)) := by
  by_cases h0 : 0 ≤ r
  ·obtain ⟨k, rfl⟩ : ∃ k : Nat, r = (k : Int) := ⟨r.toNat, by omega⟩
   have hk := L.hi
   have hx : c.Holidays[k]? = some (c.Holidays[k]'(by omega)) := by rw [List.getElem?_eq_getElem]
   rw [show leI 0 (k : Int) = true from by simp only [leI]; rw [decide_eq_true h0], cond_true, getI_nat, hx, Option.bind_some, eqI_d]
   generalize c.Holidays[k]'(by omega) = x at hx
   by_cases hxd : x = d
   ·rw [decide_eq_true hxd, decide_eq_true]
    rw [← hxd]
    exact List.mem_of_getElem? hx
   ·rw [decide_eq_false hxd, decide_eq_false]
    intro hmem
    obtain ⟨i, hi⟩ := List.mem_iff_getElem?.1 hmem
    have hik : (i : Int) ≤ k := by
     apply Classical.byContradiction
     intro h
     have := L.gt i d (by omega) hi
     omega
    by_cases e : i = k
    ·subst e
     rw [hx] at hi; cases hi
     exact hxd rfl
    ·have hi' := List.getElem?_eq_some_iff.1 hi
     have hx' := List.getElem?_eq_some_iff.1 hx
     have := List.pairwise_iff_getElem.1 hpw i k hi'.1 hx'.1 (by omega)
     rw [hi'.2, hx'.2] at this
     have := L.le k x (Int.le_refl _) hx
     omega
  ·rw [show leI 0 r = false from by simp only [leI]; rw [decide_eq_false h0], cond_false, decide_eq_false]
   intro hmem
   obtain ⟨i, hi⟩ := List.mem_iff_getElem?.1 hmem
   have := L.gt i d (by omega) hi
   omega
 rw [hj, Option.bind_some, typF_mem]
 by_cases hmem : d ∈ c.Holidays
 ·rw [decide_eq_true hmem, if_pos hmem]; rfl
 ·rw [decide_eq_false hmem, if_neg hmem, cond_false, b_split7 n d hd]
  unfold g_days_week wkF
  simp only [Option.bind_some]
  rw [wi_id (x := d + 7) (by omega) (by omega), Int.tmod_eq_emod_of_nonneg (a := d + 7) (by omega)]
  have hr : 0 ≤ (d + 7) % 7 ∧ (d + 7) % 7 < 7 := by omega
  generalize (d + 7) % 7 = w at hr
  have hw : w = 0 ∨ w = 1 ∨ w = 2 ∨ w = 3 ∨ w = 4 ∨ w = 5 ∨ w = 6 := by omega
  rcases hw with rfl | rfl | rfl | rfl | rfl | rfl | rfl <;> rfl
theorem b_applies (n : Nat) (c : GCalendar) (a : GArticle) (m : Int) (hn : 1000 ≤ n) (h1 : c.Changes.length ≤ 900) (h2 : c.Holidays.length ≤ 900) (hc : calB c = true) (ha : artB a = true) (hm : 0 ≤ m ∧ m ≤ 52560000) :
  g_tariff_Applies n a c m = some (appB c a m) := by
 have ho := cal_off m hc
 unfold g_tariff_Applies appB
 rw [b_article, ha, b_local n c m hn h1 h2 hc hm]
 simp only [Option.bind_some, Bool.not_true, cond_false, eqI_d, decide_true]
 generalize offF m c.Offset c.Changes = o at ho
 rw [wi_id (x := m + o) (by omega) (by omega), wi_id (x := m + o + 1440) (by omega) (by omega)]
 rw [Int.tdiv_eq_ediv_of_nonneg (a := m + o + 1440) (by omega), Int.tmod_eq_emod_of_nonneg (a := m + o + 1440) (by omega)]
 rw [wi_id (x := (m + o + 1440) / 1440) (by omega) (by omega), wi_id (x := (m + o + 1440) / 1440 - 1) (by omega) (by omega)]
 rw [b_type n c _ hn h1 h2 hc (by omega)]
 have ht := typF_range ((m + o + 1440) / 1440 - 1) c.Holidays
 simp only [Option.bind_some, cond_some, leI, ltI, decide_true, cond_true]
 rw [decide_eq_false (show ¬ typF ((m + o + 1440) / 1440 - 1) c.Holidays < 0 by omega)]
 generalize decide (bAnd .i64 a.Days (shlI .i64 1 (typF ((m + o + 1440) / 1440 - 1) c.Holidays)) = 0) = b
 generalize (m + o + 1440) % 1440 = w
 by_cases c1 : a.From ≤ w
 ·by_cases c2 : w < a.To
  ·rw [decide_eq_false (show ¬ w < a.From by omega), decide_eq_false (show ¬ a.To ≤ w by omega), decide_eq_true c1, decide_eq_true c2]
   cases b <;> rfl
  ·rw [decide_eq_false (show ¬ w < a.From by omega), decide_eq_true (show a.To ≤ w by omega), decide_eq_false c2]
   cases b <;> simp
 ·rw [decide_eq_true (show w < a.From by omega), decide_eq_false c1]; rfl
end Go.Proofs
namespace Go.Proofs
open Go Go.Abs
set_option maxRecDepth 100000
set_option linter.unusedVariables false
theorem b_minside (n : Nat) (x a b : Int) : g_money_inside n x a b = some (decide (a ≤ x ∧ x ≤ b)) := by
 unfold g_money_inside leI
 by_cases h : a ≤ x <;> simp [h]
theorem b_amount (n : Nat) (x : Int) : g_money_isAmount n x = some (decide (0 ≤ x ∧ x ≤ 1000000000)) := by
 unfold g_money_isAmount
 rw [b_minside, Option.bind_some]
theorem b_need (n : Nat) (b : Bool) (e : Int) : g_money_need n b e = some (needE b e) := by cases b <;> rfl
theorem b_checked (n : Nat) (x : Int) : g_money_checked n x = some (if 0 ≤ x ∧ x ≤ 1000000000 then .ok x else .error 3) := by
 unfold g_money_checked
 rw [b_amount, Option.bind_some, b_need, Option.bind_some, exc_need]
 by_cases h : 0 ≤ x ∧ x ≤ 1000000000
 ·rw [decide_eq_true h, if_pos h]; rfl
 ·rw [decide_eq_false h, if_neg h]; rfl
theorem r_checked' (n : Nat) (x : Int) : g_ref31_checked n x = some (if 0 ≤ x ∧ x ≤ 1000000000 then (x, 0) else (0, 3)) := by
 unfold g_ref31_checked
 rw [r_amount, Option.bind_some]
 by_cases h : 0 ≤ x ∧ x ≤ 1000000000
 ·rw [decide_eq_true h, if_pos h]; rfl
 ·rw [decide_eq_false h, if_neg h]; rfl
theorem b_end (n : Nat) (x : Int) : ((g_money_checked n x).bind (exc (fun r3 => (g_money_caught n 0).bind fun r5 => some (r3, r5)) fun e4 => (g_money_caught_2 n e4 0).bind fun r6 => some (0, r6))) = ((g_ref31_checked n x).bind fun r8 => some (r8.1, r8.2)) := by
 rw [b_checked, r_checked', Option.bind_some, Option.bind_some]
 by_cases h : 0 ≤ x ∧ x ≤ 1000000000
 ·rw [if_pos h, if_pos h]; rfl
 ·rw [if_neg h, if_neg h]; rfl
theorem b_times (n : Nat) (p q d : Int) : g_money_Times n p q d = g_ref31_Times n p q d := by
 unfold g_money_Times g_ref31_Times g_money_Times_j1
 simp only [b_amount, r_amount, b_minside, b_need, Option.bind_some, exc_need, b_end]
 unfold g_money_half g_ref31_divided
 by_cases c1 : 0 ≤ p ∧ p ≤ 1000000000
 rotate_left
 ·rw [decide_eq_false c1]; rfl
 rw [decide_eq_true c1]
 by_cases c2 : 0 ≤ q ∧ q ≤ 1000000000
 rotate_left
 ·rw [decide_eq_false c2]; rfl
 rw [decide_eq_true c2]
 simp only [Bool.not_true, cond_false, cond_true, ltI]
 by_cases c3 : 1 ≤ d
 ·rw [decide_eq_false (show ¬ d < 1 by omega)]
  by_cases c4 : d ≤ 1000000000
  ·rw [decide_eq_true (show 1 ≤ d ∧ d ≤ 1000000000 from ⟨c3, c4⟩), decide_eq_false (show ¬ 1000000000 < d by omega)]; rfl
  ·rw [decide_eq_false (show ¬ (1 ≤ d ∧ d ≤ 1000000000) by omega), decide_eq_true (show 1000000000 < d by omega)]; rfl
 ·rw [decide_eq_true (show d < 1 by omega), decide_eq_false (show ¬ (1 ≤ d ∧ d ≤ 1000000000) by omega)]; rfl
theorem b_started (n : Nat) (p q u : Int) : g_money_Started n p q u = g_ref31_Started n p q u := by
 unfold g_money_Started g_ref31_Started g_money_Started_j1
 simp only [b_amount, r_amount, b_minside, b_need, Option.bind_some, exc_need, b_end]
 by_cases c1 : 0 ≤ p ∧ p ≤ 1000000000
 rotate_left
 ·rw [decide_eq_false c1]; rfl
 rw [decide_eq_true c1]
 by_cases c2 : 0 ≤ q ∧ q ≤ 1000000000
 rotate_left
 ·rw [decide_eq_false c2]; rfl
 rw [decide_eq_true c2]
 simp only [Bool.not_true, cond_false, cond_true, ltI]
 by_cases c3 : 1 ≤ u
 ·rw [decide_eq_false (show ¬ u < 1 by omega)]
  by_cases c4 : u ≤ 1000000000
  ·rw [decide_eq_true (show 1 ≤ u ∧ u ≤ 1000000000 from ⟨c3, c4⟩), decide_eq_false (show ¬ 1000000000 < u by omega)]; rfl
  ·rw [decide_eq_false (show ¬ (1 ≤ u ∧ u ≤ 1000000000) by omega), decide_eq_true (show 1000000000 < u by omega)]; rfl
 ·rw [decide_eq_true (show u < 1 by omega), decide_eq_false (show ¬ (1 ≤ u ∧ u ≤ 1000000000) by omega)]; rfl
theorem b_tax (n : Nat) (x r : Int) : g_money_Tax n x r = g_ref31_Tax n x r := by
 unfold g_money_Tax g_ref31_Tax g_money_Tax_j1
 simp only [b_amount, r_amount, b_minside, b_need, Option.bind_some, exc_need, b_end]
 unfold g_money_half g_ref31_divided
 by_cases c1 : 0 ≤ x ∧ x ≤ 1000000000
 rotate_left
 ·rw [decide_eq_false c1]; rfl
 rw [decide_eq_true c1]
 simp only [Bool.not_true, cond_false, cond_true, ltI]
 by_cases c3 : 0 ≤ r
 ·rw [decide_eq_false (show ¬ r < 0 by omega)]
  by_cases c4 : r ≤ 100000
  ·rw [decide_eq_true (show 0 ≤ r ∧ r ≤ 100000 from ⟨c3, c4⟩), decide_eq_false (show ¬ 100000 < r by omega)]; rfl
  ·rw [decide_eq_false (show ¬ (0 ≤ r ∧ r ≤ 100000) by omega), decide_eq_true (show 100000 < r by omega)]; rfl
 ·rw [decide_eq_true (show r < 0 by omega), decide_eq_false (show ¬ (0 ≤ r ∧ r ≤ 100000) by omega)]; rfl
def amt (x : Int) : Except Int Int := if x ≤ 1000000000 then .ok x else .error 3
theorem b_must (n : Nat) (x : Int) : g_bill_must n (if x ≤ 1000000000 then (x, 0) else (0, 3) : Int × Int).1 (if x ≤ 1000000000 then (x, 0) else (0, 3) : Int × Int).2 = some (amt x) := by
 unfold amt
 by_cases h : x ≤ 1000000000
 ·rw [if_pos h, if_pos h]; rfl
 ·rw [if_neg h, if_neg h]; rfl
theorem b_session (n : Nat) (s : GSession) (hn : 1000 ≤ n) (hl : s.Slices.length ≤ 900) (hb : i64b s.To) : g_bill_Valid n s = some (valB s) := by
 unfold i64b at hb
 unfold g_bill_Valid valB
 simp only [ltI, leI, lenI, List.length_map]
 by_cases c1 : s.From < 0
 ·rw [decide_eq_true c1, cond_true, Option.bind_some, cond_true, decide_eq_false (by omega)]; rfl
 rw [decide_eq_false c1, cond_false]
 by_cases c2 : s.To ≤ s.From
 ·rw [decide_eq_true c2, cond_true, Option.bind_some, cond_true, decide_eq_false (by omega)]; rfl
 rw [decide_eq_false c2, cond_false, wi_id (x := s.To - s.From) (by omega) (by omega)]
 by_cases c4 : 2880 < s.To - s.From
 ·rw [decide_eq_true c4, cond_true, Option.bind_some, cond_true, decide_eq_false (by omega)]; rfl
 rw [decide_eq_false c4, cond_false, Option.bind_some]
 by_cases c3 : 52560000 < s.To
 ·rw [decide_eq_true c3, cond_true, decide_eq_false (by omega)]; rfl
 rw [decide_eq_false c3, cond_false]
 by_cases c5 : s.End < s.From
 ·rw [decide_eq_true c5, cond_true, Option.bind_some, cond_true, decide_eq_false (by omega)]; rfl
 rw [decide_eq_false c5, cond_false]
 by_cases c6 : s.To < s.End
 ·rw [decide_eq_true c6, cond_true, Option.bind_some, cond_true, decide_eq_false (by omega)]; rfl
 rw [decide_eq_false c6, cond_false, Option.bind_some]
 by_cases c7 : s.Slices.length ≤ 48
 rotate_left
 ·rw [decide_eq_true (show (48 : Int) < s.Slices.length by omega), cond_true, decide_eq_false (show ¬ (0 ≤ s.From ∧ s.From < s.To ∧ s.To ≤ 52560000 ∧ s.To - s.From ≤ 2880 ∧ s.From ≤ s.End ∧ s.End ≤ s.To ∧ s.Slices.length ≤ 48) by omega)]; rfl
 rw [decide_eq_false (show ¬ (48 : Int) < s.Slices.length by omega), cond_false, decide_eq_true (show 0 ≤ s.From ∧ s.From < s.To ∧ s.To ≤ 52560000 ∧ s.To - s.From ≤ 2880 ∧ s.From ≤ s.End ∧ s.End ≤ s.To ∧ s.Slices.length ≤ 48 by omega), Bool.true_and, wi_id (x := s.From - 1) (by omega) (by omega)]
 have := loop_gen (l := s.Slices) (fun (a : Int) i => (a, i)) (B := fun recl8 (v : Int × Int) => g_bill_Valid_l8 s recl8 v.1 v.2) (F := slB s.From s.End) (fun i a => s.From - 1 ≤ a) (by omega) ?_ ?_ (n := n) 0 (s.From - 1) (Int.le_refl _) (by omega) (by omega)
 ·exact this
 ·intro rec a ha
  simp only [g_bill_Valid_l8, lenI, List.length_map, ltI]
  rw [decide_eq_false (by omega), cond_false]
  rfl
 ·intro rec a i x r ha hd hx hi hw hr
  simp only [g_bill_Valid_l8, lenI, List.length_map, ltI, leI, getI_nat, hx, Option.bind_some, hw]
  rw [decide_eq_true (by omega), cond_true, slB]
  by_cases d1 : x.Minute ≤ a
  ·rw [decide_eq_true d1, cond_true, Option.bind_some, cond_true, decide_eq_false (by omega)]; rfl
  rw [decide_eq_false d1, cond_false]
  by_cases d2 : s.End ≤ x.Minute
  ·rw [decide_eq_true d2, cond_true, Option.bind_some, cond_true, decide_eq_false (by omega)]; rfl
  rw [decide_eq_false d2, cond_false]
  by_cases d3 : x.Energy < 0
  ·rw [decide_eq_true d3, cond_true, Option.bind_some, cond_true, decide_eq_false (by omega)]; rfl
  rw [decide_eq_false d3, cond_false, Option.bind_some]
  by_cases d4 : 10000 < x.Energy
  ·rw [decide_eq_true d4, cond_true, decide_eq_false (by omega)]; rfl
  rw [decide_eq_false d4, cond_false, hr x.Minute (by omega), decide_eq_true (by omega)]; rfl
theorem b_stretch (n : Nat) (c : GCalendar) (a : GArticle) (s : GSession) (f t : Int) (hn : 10000 ≤ n) (h1 : c.Changes.length ≤ 900) (h2 : c.Holidays.length ≤ 900) (hc : calB c = true) (ha : artB a = true) (hk34 : a.Kind = 3 ∨ a.Kind = 4) (hf : 0 ≤ f) (ht : t ≤ 52560000) (hk : t - f ≤ 2880) :
  g_bb_stretch n (⟨a, c, s⟩ : GBB) f t = some (amt (staF c a f t)) := by
 unfold g_bb_stretch
 have key : ∀ (k j : Nat) (z m : Int), (t - m).toNat = k → k < j → 0 ≤ m → k ≤ 2880 → 0 ≤ z ∧ z ≤ 3000 - k →
   loopN (fun recl3 (v : Int × Int) => g_bb_stretch_l3 n (⟨a, c, s⟩ : GBB) t recl3 v.1 v.2) j (m, z) = some (z + cN c a k m) := by
  intro k
  induction k with
  | zero =>
   intro j z m h3 h4 h5 h6 h7
   obtain ⟨j, rfl⟩ : ∃ j', j = j' + 1 := ⟨j - 1, by omega⟩
   unfold loopN
   simp only [g_bb_stretch_l3, ltI]
   rw [decide_eq_false (by omega), cond_false]
   simp [cN]
  | succ k ih =>
   intro j z m h3 h4 h5 h6 h7
   obtain ⟨j, rfl⟩ : ∃ j', j = j' + 1 := ⟨j - 1, by omega⟩
   have i0 := ih j z (m + 1) (by omega) (by omega) (by omega) (by omega) (by omega)
   have i1 := ih j (z + 1) (m + 1) (by omega) (by omega) (by omega) (by omega) (by omega)
   unfold loopN
   generalize loopN (fun recl3 (v : Int × Int) => g_bb_stretch_l3 n (⟨a, c, s⟩ : GBB) t recl3 v.1 v.2) j = L at i0 i1 ⊢
   show g_bb_stretch_l3 n (⟨a, c, s⟩ : GBB) t L m z = _
   unfold g_bb_stretch_l3 g_bb_applies
   simp only [ltI]
   rw [decide_eq_true (by omega), cond_true, b_applies n c a m (by omega) h1 h2 hc ha (by omega), Option.bind_some, Option.bind_some, wi_id (x := m + 1) (by omega) (by omega), wi_id (x := z + 1) (by omega) (by omega)]
   unfold cN
   cases appB c a m
   ·rw [cond_false, Option.bind_some, i0]
    simp
   ·rw [cond_true, Option.bind_some, i1]
    simp
    omega
 have hloop := key (t - f).toNat n 0 f rfl (by omega) hf (by omega) (by omega)
 rw [Int.zero_add] at hloop
 obtain ⟨g1, g2⟩ := r_sta n c a f t hn h1 h2 hc ha hk34 hf ht hk
 rw [r_minutes n c a f t hn h1 h2 hc ha hf ht hk, Option.bind_some] at g1
 simp only
 refine (congrArg (fun o => Option.bind o _) hloop).trans ?_
 rw [Option.bind_some, b_started]
 cases hS : g_ref31_Started n a.Price (maxI 0 (wi (cN c a (t - f).toNat f - a.Free))) a.Unit with
 | none => rw [hS] at g1; cases g1
 | some r =>
  rw [hS, Option.bind_some] at g1
  have hr : r = if staF c a f t ≤ 1000000000 then (staF c a f t, 0) else (0, 3) := Option.some.inj g1
  rw [Option.bind_some, hr]
  rw [b_must n (staF c a f t), Option.bind_some]
  unfold amt
  by_cases h : staF c a f t ≤ 1000000000
  ·rw [if_pos h]; rfl
  ·rw [if_neg h]; rfl
def endE (rate net : Int) (l : List GLine) : Except Int GBill :=
 if net ≤ 1000000000 ∧ wi (net + taxF net rate) ≤ 1000000000 then .ok ⟨l, net, taxF net rate, wi (net + taxF net rate)⟩ else .error 3
theorem b_sum1 (n : Nat) (rate cap : Int) (l : OL GLine) (z : Int) (hr : 0 ≤ rate ∧ rate ≤ 10000) (hz : 0 ≤ z) : g_bill_sum_j1 n rate cap l z = some (endE rate (capV cap z) l.toL) := by
 unfold g_bill_sum_j1
 have e : (bif leI 0 cap then some (minI z cap) else some z) = some (capV cap z) := by
  unfold capV leI minI
  by_cases c1 : 0 ≤ cap <;> by_cases c2 : cap < z <;> simp [c1, c2]
 rw [e, Option.bind_some]
 have hnet : 0 ≤ capV cap z := by unfold capV; split <;> omega
 generalize capV cap z = net at hnet
 unfold endE
 rw [b_tax]
 by_cases c : 1000000000 < net
 ·have : g_ref31_Tax n net rate = some (0, 1) := by
   unfold g_ref31_Tax
   rw [r_amount, decide_eq_false (show ¬ (0 ≤ net ∧ net ≤ 1000000000) by omega)]; rfl
  rw [this, if_neg (by omega)]; rfl
 ·obtain ⟨g1, g2, g3⟩ := r_tax n net rate (by omega) hr
  rw [g1, Option.bind_some]
  have hm : g_bill_must n (taxF net rate) 0 = some (.ok (taxF net rate)) := rfl
  simp only [hm, Option.bind_some, exc, ltI]
  by_cases c2 : 1000000000 < wi (net + taxF net rate)
  ·rw [decide_eq_true c2, cond_true, if_neg (by omega)]
  ·rw [decide_eq_false c2, cond_false, if_pos (by omega)]
theorem b_sum (n : Nat) (t : GTariff) (c : GCalendar) (s : GSession) (hn : 10000 ≤ n) (h1 : c.Changes.length ≤ 900) (h2 : c.Holidays.length ≤ 900) (hc : calB c = true) (ht : tariffB t = true) (hv : valB s = true) :
  g_bill_sum n t c s = some (if linB (linF c s 0 t.Articles) then (if bilB (bilF t (rateF 0 t.Articles) 0 (linF c s 0 t.Articles)) then .ok (bilF t (rateF 0 t.Articles) 0 (linF c s 0 t.Articles)) else .error 3) else .error 3) := by
 have ht' := ht
 simp only [tariffB, Bool.and_eq_true, decide_eq_true_eq] at ht'
 have hall := tarB_all ht'.2
 have hArt := fun a h => artB_art (hall a h)
 have hv' := hv
 simp only [valB, Bool.and_eq_true, decide_eq_true_eq] at hv'
 obtain ⟨hrng, hsl⟩ := hv'
 have hm := slB_mem hsl
 unfold g_bill_sum
 have := loop_gen (l := t.Articles) (fun (a : Int × Int × OL GLine × Int) i => (a.1, a.2.1, i, a.2.2.1, a.2.2.2)) (B := fun recl6 (v : Int × Int × Int × (OL GLine) × Int) => g_bill_sum_l6 n t c s recl6 v.1 v.2.1 v.2.2.1 v.2.2.2.1 v.2.2.2.2)
  (F := fun a r => if linB (linF c s (t.Articles.length - r.length) r) then endE (rateF a.1 r) (capV (capR a.2.1 r) (sumF a.2.2.2 (linF c s (t.Articles.length - r.length) r))) (a.2.2.1.toL ++ linF c s (t.Articles.length - r.length) r) else .error 3)
  (fun i a => (0 ≤ a.1 ∧ a.1 ≤ 10000) ∧ a.2.2.1.toL.length ≤ i ∧ 0 ≤ a.2.2.2 ∧ a.2.2.2 ≤ 1000000000 * i) (by omega) ?_ ?_ (n := n) 0 (0, -1, OL.nil, 0) (by simp) (by omega) (by omega)
 ·rw [show ((0 : Nat) : Int) = 0 from rfl] at this
  refine this.trans ?_
  simp only [OL.toL_nil, List.nil_append, List.drop_zero, Nat.sub_self]
  rw [← capF_R _ _ _ (fun a h => (hArt a h).price.1), show ∀ z, capV (-1) z = z from fun z => by unfold capV; rw [if_neg (by omega)]]
  unfold endE bilF bilB netF
  simp only [Bool.and_eq_true, decide_eq_true_eq]
 ·intro rec a ha
  have h : ltI ((t.Articles.length : Nat) : Int) (lenI (List.map GArticle.cs t.Articles)) = false := by simp [ltI, lenI]
  show g_bill_sum_l6 n t c s rec a.1 a.2.1 ((t.Articles.length : Nat) : Int) a.2.2.1 a.2.2.2 = _
  unfold g_bill_sum_l6
  rw [h, cond_false, b_sum1 n _ _ _ _ ha.1 ha.2.2.1]
  simp [linF, linB, rateF, capR, sumF]
 ·intro rec a i x r hi0 hd hx hi hw hr
  have h3 : ltI (i : Int) (lenI (List.map GArticle.cs t.Articles)) = true := by
   simp only [ltI, lenI, List.length_map]
   rw [decide_eq_true (by omega)]
  have hidx := drop_idx hd hi
  have hxa := hall x (List.mem_of_getElem? hx)
  have hA := artB_art hxa
  simp only [List.length_cons, hidx.1]
  simp only [hidx.2] at hr
  obtain ⟨rate, cap, acc, z⟩ := a
  simp only at hi0 ⊢
  show g_bill_sum_l6 n t c s rec rate cap (i : Int) acc z = _
  unfold g_bill_sum_l6
  rw [h3, cond_true, getI_nat, hx, Option.bind_some, hw]
  simp only [eqI_d]
  unfold linF rateF capR
  by_cases k5 : x.Kind = 5
  ·rw [decide_eq_true k5, cond_true, if_pos (Or.inl k5), if_neg (show ¬ x.Kind = 6 by omega), if_pos k5]
   have hcap := fun k => hr (rate, k, acc, z) ⟨hi0.1, by simp only; omega, hi0.2.2.1, by simp only; omega⟩
   simp only at hcap
   simp only [ltI, cond_some, Option.bind_some]
   rw [hcap, hcap]
   by_cases c1 : cap < 0
   ·simp [c1]
   ·by_cases c2 : x.Price < cap <;> simp [c1, c2]
  rw [decide_eq_false k5, cond_false]
  by_cases k6 : x.Kind = 6
  ·have := hr (x.Price, cap, acc, z) ⟨⟨hA.price.1, hA.rate k6⟩, by simp only; omega, by simp only; omega, by simp only; omega⟩
   simp only at this
   rw [decide_eq_true k6, cond_true, if_pos (Or.inr k6), if_pos k6, if_neg k5, this]
  rw [decide_eq_false k6, cond_false, if_neg (show ¬ (x.Kind = 5 ∨ x.Kind = 6) by omega), if_neg k6, if_neg k5]
  have g2 := (r_line n c x s hn h1 h2 hc hxa hv).2
  have hj : ∀ y, 0 ≤ y → y ≤ 1000000000 → g_bill_sum_j10 rate cap (i : Int) acc z rec y = some (if linB (linF c s (i + 1) r) then endE (rateF rate r) (capV (capR cap r) (sumF (z + y) (linF c s (i + 1) r))) (acc.toL ++ ⟨(i : Int), y⟩ :: linF c s (i + 1) r) else .error 3) := by
   intro y hy0 hy
   unfold g_bill_sum_j10
   have hroom : roomB (List.length (acc.toL ++ [(⟨(i : Int), y⟩ : GLine)])) 16 = true := by
    simp only [roomB, List.length_append, List.length_cons, List.length_nil]
    rw [decide_eq_true]
    omega
   have := hr (rate, cap, OL.own (acc.toL ++ [(⟨(i : Int), y⟩ : GLine)]), z + y) ⟨hi0.1, by simp only [OL.toL_own, List.length_append, List.length_cons, List.length_nil]; omega, by simp only; omega, by simp only; omega⟩
   simp only at this
   rw [hroom, cond_true, wi_id (x := z + y) (by omega) (by omega), hw, this]
   simp only [OL.toL_own, List.append_assoc, List.singleton_append]
  have hgoal : ∀ (y : Int), cosF c s x = y → 0 ≤ y → ∀ (p : Option (Except Int GBill)), p = (exc (fun y => g_bill_sum_j10 rate cap (i : Int) acc z rec y) (fun e => some (.error e)) (amt y)) →
    p = some (if linB (⟨(i : Int), cosF c s x⟩ :: linF c s (i + 1) r) then endE (rateF rate r) (capV (capR cap r) (sumF z (⟨(i : Int), cosF c s x⟩ :: linF c s (i + 1) r))) (acc.toL ++ ⟨(i : Int), cosF c s x⟩ :: linF c s (i + 1) r) else .error 3) := by
   rintro y rfl hy0 p rfl
   rw [linB_cons]
   unfold amt
   by_cases hb : cosF c s x ≤ 1000000000
   ·rw [if_pos hb, decide_eq_true hb]
    simp only [exc, Bool.true_and]
    rw [hj _ hy0 hb, show ∀ l, sumF z (⟨(i : Int), cosF c s x⟩ :: l) = sumF (wi (z + cosF c s x)) l from fun _ => rfl, wi_id (x := z + cosF c s x) (by omega) (by omega)]
   ·rw [if_neg hb, decide_eq_false hb]
    rfl
  have hcos : cosF c s x = if x.Kind = 1 then (if appB c x s.From then x.Price else 0) else if x.Kind = 2 then wi (Int.tdiv (wi (wi (wi (2 * x.Price) * eneF c x 0 s.Slices) + 1000)) 2000) else if x.Kind = 3 then staF c x s.From s.To else if x.Kind = 4 then staF c x s.End s.To else 0 := rfl
  by_cases k1 : x.Kind = 1
  ·rw [decide_eq_true k1, cond_true]
   rw [if_pos k1] at hcos
   unfold g_bb_applies
   have hp := hA.price
   rw [b_applies n c x s.From (by omega) h1 h2 hc hxa (by omega), Option.bind_some, Option.bind_some]
   cases happ : appB c x s.From
   ·rw [happ] at hcos
    refine hgoal 0 hcos (Int.le_refl _) _ ?_
    rfl
   ·rw [happ] at hcos
    refine hgoal x.Price hcos hp.1 _ ?_
    unfold amt
    rw [if_pos (by omega)]; rfl
  rw [decide_eq_false k1, cond_false]
  rw [if_neg k1] at hcos
  by_cases k2 : x.Kind = 2
  ·rw [decide_eq_true k2, cond_true]
   rw [if_pos k2] at hcos
   have hloop : loopN (fun recl13 (v : Int × Int) => g_bill_sum_l13 n c s x recl13 v.1 v.2) n (0, 0) = some (eneF c x 0 s.Slices) := by
    have := loop_acc (l := s.Slices) (B := fun recl13 (v : Int × Int) => g_bill_sum_l13 n c s x recl13 v.1 v.2) (F := eneF c x) (by omega) ?_ ?_ (n := n) 0 0 (by omega) (by omega)
    ·exact this
    ·intro rec z
     have h : ltI ((s.Slices.length : Nat) : Int) (lenI (List.map GSlice.cs s.Slices)) = false := by simp [ltI, lenI]
     show g_bill_sum_l13 n c s x rec z ((s.Slices.length : Nat) : Int) = some z
     unfold g_bill_sum_l13
     rw [h, cond_false]
    ·intro rec z i y q hd hy hi hw hr
     have h3 : ltI (i : Int) (lenI (List.map GSlice.cs s.Slices)) = true := by
      simp only [ltI, lenI, List.length_map]
      rw [decide_eq_true (by omega)]
     have hym := hm y (List.mem_of_getElem? hy)
     show g_bill_sum_l13 n c s x rec z (i : Int) = some (eneF c x z (y :: q))
     unfold g_bill_sum_l13 eneF g_bb_applies
     rw [h3, cond_true, getI_nat, hy, Option.bind_some, b_applies n c x y.Minute (by omega) h1 h2 hc hxa (by omega), Option.bind_some, Option.bind_some, hw, hr, hr]
     cases appB c x y.Minute
     ·rfl
     ·rfl
   have he := eneF_range c x s.Slices 0 (fun y hy => by have := hm y hy; omega) (by omega) (by omega)
   obtain ⟨g3, g4⟩ := r_times n x.Price (eneF c x 0 s.Slices) hA.price (by omega)
   refine hgoal _ hcos g4 _ ?_
   refine (congrArg (fun o => Option.bind o _) hloop).trans ?_
   rw [Option.bind_some, b_times, g3, Option.bind_some]
   refine (congrArg (fun o => Option.bind o _) (b_must n _)).trans ?_
   rw [Option.bind_some]
  rw [decide_eq_false k2, cond_false]
  rw [if_neg k2] at hcos
  by_cases k3 : x.Kind = 3
  ·rw [decide_eq_true k3, cond_true]
   rw [if_pos k3] at hcos
   refine hgoal _ hcos (by rw [← hcos]; exact g2) _ ?_
   rw [b_stretch n c x s s.From s.To hn h1 h2 hc hxa (Or.inl k3) hrng.1 (by omega) (by omega), Option.bind_some]
  rw [decide_eq_false k3, cond_false]
  rw [if_neg k3] at hcos
  by_cases k4 : x.Kind = 4
  ·rw [decide_eq_true k4, cond_true]
   rw [if_pos k4] at hcos
   refine hgoal _ hcos (by rw [← hcos]; exact g2) _ ?_
   rw [b_stretch n c x s s.End s.To hn h1 h2 hc hxa (Or.inr k4) (by omega) (by omega) (by omega), Option.bind_some]
  have := hA.kind
  omega
theorem b_bill (n : Nat) (t : GTariff) (c : GCalendar) (s : GSession) (hn : 10000 ≤ n) (h1 : c.Changes.length ≤ 900) (h2 : c.Holidays.length ≤ 900) (h3 : s.Slices.length ≤ 900) (hb : i64b s.To) :
  g_bill_Bill n t c s = some (if (tariffB t && calB c && valB s) = true then (if linB (linF c s 0 t.Articles) then (if bilB (bilF t (rateF 0 t.Articles) 0 (linF c s 0 t.Articles)) then (bilF t (rateF 0 t.Articles) 0 (linF c s 0 t.Articles), 0) else (zeroBill, 3)) else (zeroBill, 3)) else (zeroBill, 1)) := by
 unfold g_bill_Bill
 rw [b_tariff n t (by omega), b_cal n c (by omega) h1 h2, b_session n s (by omega) h3 hb]
 simp only [Option.bind_some, cond_some]
 cases ht : tariffB t
 ·rfl
 cases hc : calB c
 ·rfl
 cases hv : valB s
 ·rfl
 rw [b_sum n t c s hn h1 h2 hc ht hv]
 simp only [Bool.not_true, cond_false, Option.bind_some, Bool.and_self, if_true]
 cases linB (linF c s 0 t.Articles)
 ·rfl
 ·cases bilB (bilF t (rateF 0 t.Articles) 0 (linF c s 0 t.Articles))
  ·rfl
  ·rfl
end Go.Proofs
namespace Go.Proofs
open Go Go.Abs
set_option maxRecDepth 100000
set_option linter.unusedVariables false
def bilV (t : GTariff) (c : GCalendar) (s : GSession) : GBill × Int := if (tariffB t && calB c && valB s) = true then (if linB (linF c s 0 t.Articles) then (if bilB (bilF t (rateF 0 t.Articles) 0 (linF c s 0 t.Articles)) then (bilF t (rateF 0 t.Articles) 0 (linF c s 0 t.Articles), 0) else (zeroBill, 3)) else (zeroBill, 3)) else (zeroBill, 1)
theorem b_billV (n : Nat) (t : GTariff) (c : GCalendar) (s : GSession) (hn : 10000 ≤ n) (h1 : c.Changes.length ≤ 900) (h2 : c.Holidays.length ≤ 900) (h3 : s.Slices.length ≤ 900) (hb : i64b s.To) : g_bill_Bill n t c s = some (bilV t c s) := b_bill n t c s hn h1 h2 h3 hb
end Go.Proofs
namespace Go.Proofs
open Go Go.Abs
set_option maxRecDepth 100000
set_option linter.unusedVariables false
def enS (c : GCalendar) (a : GArticle) : List GSlice → Int
 | [] => 0
 | x :: r => (if appB c a x.Minute then x.Energy else 0) + enS c a r
theorem enS_range (c : GCalendar) (a : GArticle) : ∀ (l : List GSlice), (∀ x ∈ l, 0 ≤ x.Energy ∧ x.Energy ≤ 10000) → 0 ≤ enS c a l ∧ enS c a l ≤ 10000 * l.length
 | [], _ => by
  show (0 : Int) ≤ 0 ∧ (0 : Int) ≤ 10000 * ((0 : Nat) : Int)
  omega
 | x :: r, h => by
  have hx := h x List.mem_cons_self
  have := enS_range c a r (fun y hy => h y (List.mem_cons_of_mem _ hy))
  unfold enS
  simp only [List.length_cons]
  split <;> omega
theorem eneF_S (c : GCalendar) (a : GArticle) : ∀ (l : List GSlice) (z : Int), (∀ x ∈ l, 0 ≤ x.Energy ∧ x.Energy ≤ 10000) → 0 ≤ z → z + 10000 * l.length ≤ 10000000 → eneF c a z l = z + enS c a l
 | [], z, _, _, _ => by
  show z = z + 0
  omega
 | x :: r, z, h, h0, h1 => by
  have hx := h x List.mem_cons_self
  simp only [List.length_cons] at h1
  unfold eneF enS
  split
  ·rw [wi_id (by omega) (by omega), eneF_S c a r (z + x.Energy) (fun y hy => h y (List.mem_cons_of_mem _ hy)) (by omega) (by omega)]
   omega
  ·rw [eneF_S c a r z (fun y hy => h y (List.mem_cons_of_mem _ hy)) (by omega) (by omega)]
   omega
theorem val_sl {s : GSession} (hv : valB s = true) : (0 ≤ s.From ∧ s.From < s.To ∧ s.To ≤ 52560000 ∧ s.To - s.From ≤ 2880 ∧ s.From ≤ s.End ∧ s.End ≤ s.To ∧ s.Slices.length ≤ 48) ∧ ∀ x ∈ s.Slices, s.From ≤ x.Minute ∧ x.Minute < s.End ∧ 0 ≤ x.Energy ∧ x.Energy ≤ 10000 := by
 simp only [valB, Bool.and_eq_true, decide_eq_true_eq] at hv
 exact ⟨hv.1, slB_mem hv.2⟩
theorem cosE (c : GCalendar) (s : GSession) (a : GArticle) (ha : artB a = true) (hv : valB s = true) (hk : a.Kind = 2) : cosF c s a = (2 * (a.Price * enS c a s.Slices) + 1000) / 2000 ∧ 0 ≤ enS c a s.Slices ∧ enS c a s.Slices ≤ 480000 := by
 obtain ⟨h1, h2⟩ := val_sl hv
 have he := enS_range c a s.Slices (fun x hx => by have := h2 x hx; omega)
 have hp := (artB_art ha).price
 have hS : 0 ≤ enS c a s.Slices ∧ enS c a s.Slices ≤ 480000 := by omega
 refine ⟨?_, hS⟩
 unfold cosF
 rw [if_neg (by omega), if_pos hk, eneF_S c a s.Slices 0 (fun x hx => by have := h2 x hx; omega) (by omega) (by omega), Int.zero_add]
 have hb := mul_bound hp hS
 generalize enS c a s.Slices = q at hb
 have e2 : wi (2 * a.Price) = 2 * a.Price := wi_id (by omega) (by omega)
 have e3 : 2 * a.Price * q = 2 * (a.Price * q) := Int.mul_assoc ..
 rw [e2, e3, wi_id (x := 2 * (a.Price * q)) (by omega) (by omega), wi_id (x := 2 * (a.Price * q) + 1000) (by omega) (by omega), Int.tdiv_eq_ediv_of_nonneg (by omega), wi_id (by omega) (by omega)]
def cstM (p q u : Int) : Int := p * ((q + u - 1) / u)
theorem staF_eq (c : GCalendar) (a : GArticle) (f t : Int) (ha : artB a = true) (hk : a.Kind = 3 ∨ a.Kind = 4) (hf : 0 ≤ f) (ht : t ≤ 52560000) (hd : t - f ≤ 2880) : staF c a f t = cstM a.Price (maxI 0 (cN c a (t - f).toNat f - a.Free)) a.Unit := by
 have hA := artB_art ha
 have hU := hA.unit hk
 have hp := hA.price
 have hcn := cN_range c a (t - f).toNat f
 unfold staF cstM
 rw [wi_id (x := 0 - a.Free) (by omega) (by omega), cntF_cN c a _ _ _ (by omega) (by omega), show (0 - a.Free + cN c a (t - f).toNat f) = cN c a (t - f).toNat f - a.Free from by omega]
 have hq : 0 ≤ maxI 0 (cN c a (t - f).toNat f - a.Free) ∧ maxI 0 (cN c a (t - f).toNat f - a.Free) ≤ 3000 := by
  unfold maxI
  split <;> omega
 generalize maxI 0 (cN c a (t - f).toNat f - a.Free) = q at hq
 have hdv : 0 ≤ (q + a.Unit - 1) / a.Unit ∧ (q + a.Unit - 1) / a.Unit ≤ 5000 := by
  constructor
  ·exact Int.ediv_nonneg (by omega) (by omega)
  ·have := Int.ediv_le_self (a := q + a.Unit - 1) a.Unit (by omega)
   omega
 have hb := mul_bound hp hdv
 rw [wi_id (x := q + a.Unit) (by omega) (by omega), wi_id (x := q + a.Unit - 1) (by omega) (by omega), Int.tdiv_eq_ediv_of_nonneg (by omega), wi_id (x := (q + a.Unit - 1) / a.Unit) (by omega) (by omega), wi_id (by omega) (by omega)]
end Go.Proofs
namespace Go.Proofs
open Go Go.Abs
set_option maxRecDepth 100000
set_option linter.unusedVariables false
theorem cstM_mono {p q q' u : Int} (hp : 0 ≤ p) (hu : 1 ≤ u) (h : q ≤ q') : cstM p q u ≤ cstM p q' u := by
 unfold cstM
 exact Int.mul_le_mul_of_nonneg_left (Int.ediv_le_ediv (by omega) (by omega)) hp
theorem ceil_unit {q u u' : Int} (hq : 0 ≤ q) (hu : 1 ≤ u) (h : u ≤ u') : (q + u' - 1) / u' ≤ (q + u - 1) / u := by
 have hk0 : 0 ≤ (q + u - 1) / u := Int.ediv_nonneg (by omega) (by omega)
 have hk := Int.lt_ediv_add_one_mul_self (q + u - 1) (show 0 < u by omega)
 generalize (q + u - 1) / u = k at hk hk0
 have h1 : q ≤ k * u := by
  rw [Int.add_mul, Int.one_mul] at hk
  omega
 have h2 : k * u ≤ k * u' := Int.mul_le_mul_of_nonneg_left h hk0
 have h3 : (q + u' - 1) / u' < k + 1 := by
  apply Int.ediv_lt_of_lt_mul (by omega)
  rw [Int.add_mul, Int.one_mul]
  omega
 omega
theorem cN_mono (c : GCalendar) (a : GArticle) : ∀ (k j : Nat) (m : Int), cN c a k m ≤ cN c a (k + j) m
 | 0, j, m => by
  rw [Nat.zero_add]
  exact (cN_range c a j m).1
 | k + 1, j, m => by
  rw [show k + 1 + j = (k + j) + 1 from by omega]
  unfold cN
  have := cN_mono c a k j (m + 1)
  omega
theorem cN_tail (c : GCalendar) (a : GArticle) : ∀ (j k : Nat) (m : Int), cN c a k (m + j) ≤ cN c a (j + k) m
 | 0, k, m => by simp
 | j + 1, k, m => by
  rw [show j + 1 + k = (j + k) + 1 from by omega, show cN c a (j + k + 1) m = (if appB c a m then 1 else 0) + cN c a (j + k) (m + 1) from rfl]
  have := cN_tail c a j k (m + 1)
  rw [show m + 1 + (j : Int) = m + ((j + 1 : Nat) : Int) from by omega] at this
  split <;> omega
end Go.Proofs
namespace Go.Proofs
open Go Go.Abs
set_option maxRecDepth 100000
set_option linter.unusedVariables false
def sumS : List GSlice → Int
 | [] => 0
 | x :: r => x.Energy + sumS r
theorem ceil_le {q u : Int} (hq : 0 ≤ q) (hu : 1 ≤ u) : 0 ≤ (q + u - 1) / u ∧ (q + u - 1) / u ≤ q := by
 refine ⟨Int.ediv_nonneg (by omega) (by omega), ?_⟩
 have := ceil_unit hq (show (1 : Int) ≤ 1 by omega) hu
 rw [show q + 1 - 1 = q from by omega, Int.ediv_one] at this
 exact this
end Go.Proofs
namespace Go.Proofs
open Go Go.Abs
set_option maxRecDepth 100000
set_option linter.unusedVariables false
def isLn (a : GArticle) : Bool := !(decide (a.Kind = 5) || decide (a.Kind = 6))
theorem isLn_iff (a : GArticle) : isLn a = true ↔ ¬ (a.Kind = 5 ∨ a.Kind = 6) := by
 unfold isLn
 simp
def sumA (c : GCalendar) (s : GSession) : List GArticle → Int
 | [] => 0
 | a :: r => (if isLn a then cosF c s a else 0) + sumA c s r
def okA (c : GCalendar) (s : GSession) (l : List GArticle) : Bool := l.all fun a => !isLn a || decide (cosF c s a ≤ 1000000000)
theorem linB_okA (c : GCalendar) (s : GSession) : ∀ (l : List GArticle) (i : Nat), linB (linF c s i l) = okA c s l
 | [], _ => rfl
 | a :: r, i => by
  have ih := linB_okA c s r (i + 1)
  unfold okA at ih ⊢
  rw [List.all_cons, ← ih, show linF c s i (a :: r) = if a.Kind = 5 ∨ a.Kind = 6 then linF c s (i + 1) r else ⟨(i : Int), cosF c s a⟩ :: linF c s (i + 1) r from rfl]
  by_cases h : a.Kind = 5 ∨ a.Kind = 6
  ·rw [if_pos h, show isLn a = false from by cases hl : isLn a with | false => rfl | true => exact absurd h ((isLn_iff a).1 hl)]
   simp
  ·rw [if_neg h, (isLn_iff a).2 h, linB_cons]
   simp
theorem sumF_A (c : GCalendar) (s : GSession) : ∀ (l : List GArticle) (i : Nat) (z : Int), okA c s l = true → (∀ a ∈ l, 0 ≤ cosF c s a) → 0 ≤ z → z + 1000000000 * l.length ≤ 1000000000000000 → sumF z (linF c s i l) = z + sumA c s l ∧ 0 ≤ sumA c s l ∧ sumA c s l ≤ 1000000000 * l.length
 | [], i, z, _, _, h0, h1 => by
  refine ⟨?_, Int.le_refl _, ?_⟩
  ·show z = z + 0
   omega
  ·show (0 : Int) ≤ 1000000000 * ((0 : Nat) : Int)
   omega
 | a :: r, i, z, hok, hp, h0, h1 => by
  unfold okA at hok
  rw [List.all_cons, Bool.and_eq_true] at hok
  have hpa := hp a List.mem_cons_self
  simp only [List.length_cons] at h1 ⊢
  rw [show linF c s i (a :: r) = if a.Kind = 5 ∨ a.Kind = 6 then linF c s (i + 1) r else ⟨(i : Int), cosF c s a⟩ :: linF c s (i + 1) r from rfl, show sumA c s (a :: r) = (if isLn a then cosF c s a else 0) + sumA c s r from rfl]
  by_cases h : a.Kind = 5 ∨ a.Kind = 6
  ·have hl : isLn a = false := by cases hl : isLn a with | false => rfl | true => exact absurd h ((isLn_iff a).1 hl)
   obtain ⟨g1, g2, g3⟩ := sumF_A c s r (i + 1) z hok.2 (fun x hx => hp x (List.mem_cons_of_mem _ hx)) h0 (by omega)
   rw [if_pos h, hl, g1]
   simp only [Bool.false_eq_true, if_false]
   omega
  ·have hl := (isLn_iff a).2 h
   have hle : cosF c s a ≤ 1000000000 := by
    have := hok.1
    rw [hl] at this
    simpa using this
   obtain ⟨g1, g2, g3⟩ := sumF_A c s r (i + 1) (z + cosF c s a) hok.2 (fun x hx => hp x (List.mem_cons_of_mem _ hx)) (by omega) (by omega)
   rw [if_neg h, hl, show ∀ q, sumF z (⟨(i : Int), cosF c s a⟩ :: q) = sumF (wi (z + cosF c s a)) q from fun _ => rfl, wi_id (x := z + cosF c s a) (by omega) (by omega), g1]
   simp only [if_true]
   omega
end Go.Proofs
namespace Go.Proofs
open Go Go.Abs
set_option maxRecDepth 100000
set_option linter.unusedVariables false
def prS (c : GCalendar) (k m : Int) : List GArticle → Int
 | [] => 0
 | a :: r => (if a.Kind = k ∧ appB c a m = true then a.Price else 0) + prS c k m r
def gmx (f : Int → Int) : Nat → Int → Int
 | 0, _ => 0
 | j + 1, m => maxI (f m) (gmx f j (m + 1))
def enC (c : GCalendar) (j : Nat) (m : Int) : List GArticle → Int
 | [] => 0
 | a :: r => (if a.Kind = 2 ∧ 0 < cN c a j m then 1 else 0) + enC c j m r
def tiA (c : GCalendar) (j : Nat) (m : Int) (a : GArticle) : Int := cstM a.Price (maxI 0 (cN c a j m - a.Free)) a.Unit
def tiS (c : GCalendar) (j : Nat) (m : Int) : List GArticle → Int
 | [] => 0
 | a :: r => (if a.Kind = 3 ∨ a.Kind = 4 then tiA c j m a else 0) + tiS c j m r
def timE (p q : Int) : Int := (2 * (p * q) + 1000) / 2000
def grQ (c : GCalendar) (l : List GArticle) (k : Int) (j : Nat) (m : Int) : Int := gmx (fun m => prS c k m l) j m
def eneQ (c : GCalendar) (l : List GArticle) (j : Nat) (m e : Int) : Int := if e = 0 then 0 else timE (grQ c l 2 j m) e + enC c j m l
def sumQ (c : GCalendar) (l : List GArticle) (j : Nat) (m e : Int) : Int := eneQ c l j m e + grQ c l 1 j m + tiS c j m l
theorem maxI_le {a b z : Int} (h1 : a ≤ z) (h2 : b ≤ z) : maxI a b ≤ z := by unfold maxI; split <;> omega
theorem maxI_l (a b : Int) : a ≤ maxI a b := by unfold maxI; split <;> omega
theorem maxI_r (a b : Int) : b ≤ maxI a b := by unfold maxI; split <;> omega
theorem maxI_assoc (a b z : Int) : maxI (maxI a b) z = maxI a (maxI b z) := by
 unfold maxI
 split <;> split <;> (try split) <;> (try split) <;> omega
theorem prS_range (c : GCalendar) (k m : Int) : ∀ (l : List GArticle), (∀ a ∈ l, artB a = true) → 0 ≤ prS c k m l ∧ prS c k m l ≤ 1000000 * l.length
 | [], _ => by
  show (0 : Int) ≤ 0 ∧ (0 : Int) ≤ 1000000 * ((0 : Nat) : Int)
  omega
 | a :: r, h => by
  have hp := (artB_art (h a List.mem_cons_self)).price
  have := prS_range c k m r (fun x hx => h x (List.mem_cons_of_mem _ hx))
  unfold prS
  simp only [List.length_cons]
  split <;> omega
theorem gmx_range {f : Int → Int} {z : Int} (hz : 0 ≤ z) (h : ∀ m, 0 ≤ f m ∧ f m ≤ z) : ∀ (j : Nat) (m : Int), 0 ≤ gmx f j m ∧ gmx f j m ≤ z
 | 0, m => ⟨Int.le_refl _, hz⟩
 | j + 1, m => by
  have h1 := gmx_range hz h j (m + 1)
  have h2 := h m
  unfold gmx
  exact ⟨Int.le_trans h2.1 (maxI_l _ _), maxI_le h2.2 h1.2⟩
theorem enC_range (c : GCalendar) (j : Nat) (m : Int) : ∀ (l : List GArticle), 0 ≤ enC c j m l ∧ enC c j m l ≤ l.length
 | [] => by
  show (0 : Int) ≤ 0 ∧ (0 : Int) ≤ ((0 : Nat) : Int)
  omega
 | a :: r => by
  have := enC_range c j m r
  unfold enC
  simp only [List.length_cons]
  split <;> omega
theorem tiA_range (c : GCalendar) (j : Nat) (m : Int) (a : GArticle) (ha : artB a = true) (hk : a.Kind = 3 ∨ a.Kind = 4) (hj : j ≤ 2880) : 0 ≤ tiA c j m a ∧ tiA c j m a ≤ 2880000000 := by
 have hA := artB_art ha
 have hU := hA.unit hk
 have hc := cN_range c a j m
 have hq : 0 ≤ maxI 0 (cN c a j m - a.Free) ∧ maxI 0 (cN c a j m - a.Free) ≤ 2880 := by unfold maxI; split <;> omega
 unfold tiA cstM
 have hd := ceil_le (q := maxI 0 (cN c a j m - a.Free)) (u := a.Unit) hq.1 hU.1
 have := mul_bound hA.price (y := (maxI 0 (cN c a j m - a.Free) + a.Unit - 1) / a.Unit) (Y := 2880) ⟨hd.1, by omega⟩
 omega
theorem tiS_range (c : GCalendar) (j : Nat) (m : Int) (hj : j ≤ 2880) : ∀ (l : List GArticle), (∀ a ∈ l, artB a = true) → 0 ≤ tiS c j m l ∧ tiS c j m l ≤ 2880000000 * l.length
 | [], _ => by
  show (0 : Int) ≤ 0 ∧ (0 : Int) ≤ 2880000000 * ((0 : Nat) : Int)
  omega
 | a :: r, h => by
  have := tiS_range c j m hj r (fun x hx => h x (List.mem_cons_of_mem _ hx))
  unfold tiS
  simp only [List.length_cons]
  split
  ·rename_i hk
   have h1 := tiA_range c j m a (h a List.mem_cons_self) hk hj
   omega
  ·omega
theorem grQ_range (c : GCalendar) (l : List GArticle) (k : Int) (j : Nat) (m : Int) (h : ∀ a ∈ l, artB a = true) (hl : l.length ≤ 12) : 0 ≤ grQ c l k j m ∧ grQ c l k j m ≤ 12000000 :=
 gmx_range (by omega) (fun m => by have := prS_range c k m l h; omega) j m
theorem timE_range {p q : Int} (hp : 0 ≤ p ∧ p ≤ 12000000) (hq : 0 ≤ q ∧ q ≤ 480000) : 0 ≤ timE p q ∧ timE p q ≤ 6000000000 := by
 have := mul_bound hp hq
 unfold timE
 omega
theorem q_times (n : Nat) (p q : Int) (hp : 0 ≤ p ∧ p ≤ 12000000) (hq : 0 ≤ q ∧ q ≤ 480000) : g_ref31_Times n p q 1000 = some (if timE p q ≤ 1000000000 then (timE p q, 0) else (0, 3)) := by
 have hb := mul_bound hp hq
 have hr := timE_range hp hq
 have e1 : wi (p * q) = p * q := wi_id (by omega) (by omega)
 unfold g_ref31_Times
 rw [r_amount, r_amount, decide_eq_true (show 0 ≤ p ∧ p ≤ 1000000000 by omega), decide_eq_true (show 0 ≤ q ∧ q ≤ 1000000000 by omega)]
 simp only [Option.bind_some, Bool.not_true, cond_false, show ltI 1000 1 = false from rfl, show ltI 1000000000 1000 = false from rfl]
 rw [e1]
 have e2 : g_ref31_divided n (p * q) 1000 = some (timE p q) := by
  unfold g_ref31_divided
  rw [show wi (2 * 1000) = 2000 from rfl, show (!eqI 2000 0) = true from rfl, cond_true, wi_id (x := 2 * (p * q)) (by omega) (by omega), wi_id (x := 2 * (p * q) + 1000) (by omega) (by omega), Int.tdiv_eq_ediv_of_nonneg (by omega)]
  unfold timE at hr ⊢
  rw [wi_id (by omega) (by omega)]
 rw [e2, Option.bind_some, r_checked n _ hr.1, Option.bind_some]
theorem q_started (n : Nat) (p q u : Int) (hp : 0 ≤ p ∧ p ≤ 1000000) (hq : 0 ≤ q ∧ q ≤ 2880) (hu : 1 ≤ u ∧ u ≤ 1440) : g_ref31_Started n p q u = some (if cstM p q u ≤ 1000000000 then (cstM p q u, 0) else (0, 3)) := by
 have hd := ceil_le hq.1 hu.1
 have hb := mul_bound hp (y := (q + u - 1) / u) (Y := 2880) ⟨hd.1, by omega⟩
 unfold g_ref31_Started cstM
 rw [r_amount, r_amount, decide_eq_true (show 0 ≤ p ∧ p ≤ 1000000000 by omega), decide_eq_true (show 0 ≤ q ∧ q ≤ 1000000000 by omega)]
 simp only [Option.bind_some, Bool.not_true, cond_false, ltI]
 rw [decide_eq_false (show ¬ u < 1 by omega), cond_false, Option.bind_some, decide_eq_false (show ¬ 1000000000 < u by omega), cond_false, show (!eqI u 0) = true by simp [eqI]; omega, cond_true,
  wi_id (x := q + u) (by omega) (by omega), wi_id (x := q + u - 1) (by omega) (by omega), Int.tdiv_eq_ediv_of_nonneg (by omega), wi_id (x := (q + u - 1) / u) (by omega) (by omega), wi_id (x := p * ((q + u - 1) / u)) (by omega) (by omega), r_checked n _ hb.1, Option.bind_some]
theorem min_loop {to : Int} {f : Int → Int} {B : (Int × Int → Option Int) → Int × Int → Option Int} (hto : to ≤ 52560000) (hf : ∀ m, 0 ≤ f m)
  (hstep : ∀ rec m z, 0 ≤ m → m < to → B rec (m, z) = rec (m + 1, maxI z (f m))) (hend : ∀ rec m z, ¬ m < to → B rec (m, z) = some z) :
  ∀ (k j : Nat) (z m : Int), (to - m).toNat = k → k < j → 0 ≤ m → 0 ≤ z → loopN B j (m, z) = some (maxI z (gmx f k m)) := by
 intro k
 induction k with
 | zero =>
  intro j z m h1 h2 h3 h4
  obtain ⟨j, rfl⟩ : ∃ j', j = j' + 1 := ⟨j - 1, by omega⟩
  unfold loopN
  rw [hend _ _ _ (by omega)]
  unfold gmx maxI
  rw [if_neg (by omega)]
 | succ k ih =>
  intro j z m h1 h2 h3 h4
  obtain ⟨j, rfl⟩ : ∃ j', j = j' + 1 := ⟨j - 1, by omega⟩
  have hi := ih j (maxI z (f m)) (m + 1) (by omega) (by omega) (by omega) (Int.le_trans h4 (maxI_l _ _))
  unfold loopN
  generalize loopN B j = L at hi ⊢
  rw [hstep _ _ _ h3 (by omega), hi, maxI_assoc]
  rfl
theorem q_in2 (n : Nat) (t : GTariff) (c : GCalendar) (f to : Int) (hn : 10000 ≤ n) (h1 : c.Changes.length ≤ 900) (h2 : c.Holidays.length ≤ 900) (hc : calB c = true) (ht : ∀ a ∈ t.Articles, artB a = true) (hl : t.Articles.length ≤ 12) (m : Int) (hm : 0 ≤ m ∧ m ≤ 52560000) : loopN (fun recl5 (v : Int × Int) => g_quote_quoted_energy_l5 n (⟨t, c, f, to⟩ : GQuoteQuoted) m recl5 v.1 v.2) n (0, 0) = some (prS c 2 m t.Articles) := by
 have := loop_gen (l := t.Articles) (fun (a : Int) i => (a, i)) (B := fun recl5 (v : Int × Int) => g_quote_quoted_energy_l5 n (⟨t, c, f, to⟩ : GQuoteQuoted) m recl5 v.1 v.2) (F := fun a r => a + prS c 2 m r) (fun i a => 0 ≤ a ∧ a ≤ 1000000 * i) (by omega) ?_ ?_ (n := n) 0 0 (by omega) (by omega) (by omega)
 ·rw [show ((0 : Nat) : Int) = 0 from rfl] at this
  rw [this]
  simp
 ·intro rec a ha
  have h : ltI ((t.Articles.length : Nat) : Int) (lenI (List.map GArticle.cs t.Articles)) = false := by simp [ltI, lenI]
  show g_quote_quoted_energy_l5 n (⟨t, c, f, to⟩ : GQuoteQuoted) m rec a ((t.Articles.length : Nat) : Int) = _
  unfold g_quote_quoted_energy_l5
  rw [h, cond_false]
  simp [prS]
 ·intro rec a i x r ha hd hx hi hw hr
  have h3 : ltI (i : Int) (lenI (List.map GArticle.cs t.Articles)) = true := by
   simp only [ltI, lenI, List.length_map]
   rw [decide_eq_true (by omega)]
  have hxa := ht x (List.mem_of_getElem? hx)
  have hp := (artB_art hxa).price
  show g_quote_quoted_energy_l5 n (⟨t, c, f, to⟩ : GQuoteQuoted) m rec a (i : Int) = some (a + prS c 2 m (x :: r))
  unfold g_quote_quoted_energy_l5
  simp only
  rw [h3, cond_true, getI_nat, hx, Option.bind_some, hw, eqI_d, b_applies n c x m (by omega) h1 h2 hc hxa hm, Option.bind_some, wi_id (x := a + x.Price) (by omega) (by omega), hr a (by omega), hr (a + x.Price) (by omega)]
  rw [show prS c 2 m (x :: r) = (if x.Kind = 2 ∧ appB c x m = true then x.Price else 0) + prS c 2 m r from rfl]
  by_cases k2 : x.Kind = 2
  ·rw [decide_eq_true k2, cond_true, Option.bind_some]
   cases happ : appB c x m
   ·rw [cond_false, if_neg (by simp)]
    simp
   ·rw [cond_true, if_pos ⟨k2, rfl⟩, Int.add_assoc]
  ·rw [decide_eq_false k2, cond_false, Option.bind_some, cond_false, if_neg (fun h => k2 h.1)]
   simp
theorem q_in1 (n : Nat) (t : GTariff) (c : GCalendar) (f to : Int) (hn : 10000 ≤ n) (h1 : c.Changes.length ≤ 900) (h2 : c.Holidays.length ≤ 900) (hc : calB c = true) (ht : ∀ a ∈ t.Articles, artB a = true) (hl : t.Articles.length ≤ 12) (m : Int) (hm : 0 ≤ m ∧ m ≤ 52560000) : loopN (fun recl6 (v : Int × Int) => g_quote_quoted_sum_l6 n (⟨t, c, f, to⟩ : GQuoteQuoted) m recl6 v.1 v.2) n (0, 0) = some (prS c 1 m t.Articles) := by
 have := loop_gen (l := t.Articles) (fun (a : Int) i => (a, i)) (B := fun recl5 (v : Int × Int) => g_quote_quoted_sum_l6 n (⟨t, c, f, to⟩ : GQuoteQuoted) m recl5 v.1 v.2) (F := fun a r => a + prS c 1 m r) (fun i a => 0 ≤ a ∧ a ≤ 1000000 * i) (by omega) ?_ ?_ (n := n) 0 0 (by omega) (by omega) (by omega)
 ·rw [show ((0 : Nat) : Int) = 0 from rfl] at this
  rw [this]
  simp
 ·intro rec a ha
  have h : ltI ((t.Articles.length : Nat) : Int) (lenI (List.map GArticle.cs t.Articles)) = false := by simp [ltI, lenI]
  show g_quote_quoted_sum_l6 n (⟨t, c, f, to⟩ : GQuoteQuoted) m rec a ((t.Articles.length : Nat) : Int) = _
  unfold g_quote_quoted_sum_l6
  rw [h, cond_false]
  simp [prS]
 ·intro rec a i x r ha hd hx hi hw hr
  have h3 : ltI (i : Int) (lenI (List.map GArticle.cs t.Articles)) = true := by
   simp only [ltI, lenI, List.length_map]
   rw [decide_eq_true (by omega)]
  have hxa := ht x (List.mem_of_getElem? hx)
  have hp := (artB_art hxa).price
  show g_quote_quoted_sum_l6 n (⟨t, c, f, to⟩ : GQuoteQuoted) m rec a (i : Int) = some (a + prS c 1 m (x :: r))
  unfold g_quote_quoted_sum_l6
  simp only
  rw [h3, cond_true, getI_nat, hx, Option.bind_some, hw, eqI_d, b_applies n c x m (by omega) h1 h2 hc hxa hm, Option.bind_some, wi_id (x := a + x.Price) (by omega) (by omega), hr a (by omega), hr (a + x.Price) (by omega)]
  rw [show prS c 1 m (x :: r) = (if x.Kind = 1 ∧ appB c x m = true then x.Price else 0) + prS c 1 m r from rfl]
  by_cases k2 : x.Kind = 1
  ·rw [decide_eq_true k2, cond_true, Option.bind_some]
   cases happ : appB c x m
   ·rw [cond_false, if_neg (by simp)]
    simp
   ·rw [cond_true, if_pos ⟨k2, rfl⟩, Int.add_assoc]
  ·rw [decide_eq_false k2, cond_false, Option.bind_some, cond_false, if_neg (fun h => k2 h.1)]
   simp
theorem q_gr2 (n : Nat) (t : GTariff) (c : GCalendar) (f to : Int) (hn : 10000 ≤ n) (h1 : c.Changes.length ≤ 900) (h2 : c.Holidays.length ≤ 900) (hc : calB c = true) (ht : ∀ a ∈ t.Articles, artB a = true) (hl : t.Articles.length ≤ 12) (hf : 0 ≤ f) (hto : to ≤ 52560000) (hd : to - f ≤ 2880) : loopN (fun recl3 (v : Int × Int) => g_quote_quoted_energy_l3 n (⟨t, c, f, to⟩ : GQuoteQuoted) recl3 v.1 v.2) n (f, 0) = some (grQ c t.Articles 2 (to - f).toNat f) := by
 have hge : ∀ m, 0 ≤ prS c 2 m t.Articles := fun m => (prS_range c 2 m t.Articles ht).1
 have key := min_loop (to := to) (f := fun m => prS c 2 m t.Articles) (B := fun recl3 (v : Int × Int) => g_quote_quoted_energy_l3 n (⟨t, c, f, to⟩ : GQuoteQuoted) recl3 v.1 v.2) hto hge ?_ ?_ (to - f).toNat n 0 f rfl (by omega) hf (Int.le_refl _)
 ·rw [key]
  have := gmx_range (f := fun m => prS c 2 m t.Articles) (z := 12000000) (by omega) (fun m => by have := prS_range c 2 m t.Articles ht; omega) (to - f).toNat f
  unfold grQ maxI
  split
  ·rfl
  ·rename_i h; congr 1; omega
 ·intro rec m z h3 h4
  show g_quote_quoted_energy_l3 n (⟨t, c, f, to⟩ : GQuoteQuoted) rec m z = _
  unfold g_quote_quoted_energy_l3
  simp only [ltI]
  rw [decide_eq_true h4, cond_true]
  refine (congrArg (fun o => Option.bind o _) (q_in2 n t c f to hn h1 h2 hc ht hl m (by omega))).trans ?_
  rw [Option.bind_some, wi_id (x := m + 1) (by omega) (by omega)]
 ·intro rec m z h3
  show g_quote_quoted_energy_l3 n (⟨t, c, f, to⟩ : GQuoteQuoted) rec m z = _
  unfold g_quote_quoted_energy_l3
  simp only [ltI]
  rw [decide_eq_false h3, cond_false]
theorem q_gr1 (n : Nat) (t : GTariff) (c : GCalendar) (f to : Int) (hn : 10000 ≤ n) (h1 : c.Changes.length ≤ 900) (h2 : c.Holidays.length ≤ 900) (hc : calB c = true) (ht : ∀ a ∈ t.Articles, artB a = true) (hl : t.Articles.length ≤ 12) (hf : 0 ≤ f) (hto : to ≤ 52560000) (hd : to - f ≤ 2880) : loopN (fun recl4 (v : Int × Int) => g_quote_quoted_sum_l4 n (⟨t, c, f, to⟩ : GQuoteQuoted) recl4 v.1 v.2) n (f, 0) = some (grQ c t.Articles 1 (to - f).toNat f) := by
 have hge : ∀ m, 0 ≤ prS c 1 m t.Articles := fun m => (prS_range c 1 m t.Articles ht).1
 have key := min_loop (to := to) (f := fun m => prS c 1 m t.Articles) (B := fun recl3 (v : Int × Int) => g_quote_quoted_sum_l4 n (⟨t, c, f, to⟩ : GQuoteQuoted) recl3 v.1 v.2) hto hge ?_ ?_ (to - f).toNat n 0 f rfl (by omega) hf (Int.le_refl _)
 ·rw [key]
  have := gmx_range (f := fun m => prS c 1 m t.Articles) (z := 12000000) (by omega) (fun m => by have := prS_range c 1 m t.Articles ht; omega) (to - f).toNat f
  unfold grQ maxI
  split
  ·rfl
  ·rename_i h; congr 1; omega
 ·intro rec m z h3 h4
  show g_quote_quoted_sum_l4 n (⟨t, c, f, to⟩ : GQuoteQuoted) rec m z = _
  unfold g_quote_quoted_sum_l4
  simp only [ltI]
  rw [decide_eq_true h4, cond_true]
  refine (congrArg (fun o => Option.bind o _) (q_in1 n t c f to hn h1 h2 hc ht hl m (by omega))).trans ?_
  rw [Option.bind_some, wi_id (x := m + 1) (by omega) (by omega)]
 ·intro rec m z h3
  show g_quote_quoted_sum_l4 n (⟨t, c, f, to⟩ : GQuoteQuoted) rec m z = _
  unfold g_quote_quoted_sum_l4
  simp only [ltI]
  rw [decide_eq_false h3, cond_false]
end Go.Proofs
namespace Go.Proofs
open Go Go.Abs
set_option maxRecDepth 100000
set_option linter.unusedVariables false
def limB (f to e : Int) : Bool := decide (0 ≤ f ∧ f < to ∧ to - f ≤ 2880 ∧ to ≤ 52560000 ∧ 0 ≤ e ∧ e ≤ 480000)
theorem q_limits (n : Nat) (f to e : Int) (hb : i64b to) : g_quote_validLimits n f to e = some (limB f to e) := by
 unfold i64b at hb
 unfold g_quote_validLimits limB
 simp only [leI, ltI]
 by_cases c1 : 0 ≤ f
 rotate_left
 ·rw [decide_eq_false c1, cond_false, Option.bind_some, decide_eq_false (by omega)]
 rw [decide_eq_true c1, cond_true]
 by_cases c2 : f < to
 rotate_left
 ·rw [decide_eq_false c2, cond_false, Option.bind_some, decide_eq_false (by omega)]
 rw [decide_eq_true c2, cond_true, wi_id (x := to - f) (by omega) (by omega)]
 by_cases c3 : to - f ≤ 2880
 rotate_left
 ·rw [decide_eq_false c3, cond_false, Option.bind_some, decide_eq_false (by omega)]
 rw [decide_eq_true c3, cond_true]
 by_cases c4 : to ≤ 52560000
 rotate_left
 ·rw [decide_eq_false c4, cond_false, Option.bind_some, decide_eq_false (by omega)]
 rw [decide_eq_true c4, cond_true]
 by_cases c5 : 0 ≤ e
 rotate_left
 ·rw [decide_eq_false c5, cond_false, Option.bind_some, decide_eq_false (by omega)]
 rw [decide_eq_true c5, cond_true, Option.bind_some]
 congr 1
 by_cases c6 : e ≤ 480000
 ·rw [decide_eq_true c6, decide_eq_true (by omega)]
 ·rw [decide_eq_false c6, decide_eq_false (by omega)]
theorem limB_spec {f to e : Int} (h : limB f to e = true) : 0 ≤ f ∧ f < to ∧ to - f ≤ 2880 ∧ to ≤ 52560000 ∧ 0 ≤ e ∧ e ≤ 480000 := by
 simpa [limB] using h
theorem q_count (n : Nat) (t : GTariff) (c : GCalendar) (f to : Int) (hn : 10000 ≤ n) (h1 : c.Changes.length ≤ 900) (h2 : c.Holidays.length ≤ 900) (hc : calB c = true) (hf : 0 ≤ f) (hto : to ≤ 52560000) (hd : to - f ≤ 2880) (a : GArticle) (ha : artB a = true) : g_quote_quoted_count n (⟨t, c, f, to⟩ : GQuoteQuoted) a = some (cN c a (to - f).toNat f) := by
 unfold g_quote_quoted_count
 have key : ∀ (k j : Nat) (z m : Int), (to - m).toNat = k → k < j → 0 ≤ m → k ≤ 2880 → 0 ≤ z ∧ z ≤ 3000 - k →
   loopN (fun recl2 (v : Int × Int) => g_quote_quoted_count_l2 n (⟨t, c, f, to⟩ : GQuoteQuoted) a recl2 v.1 v.2) j (m, z) = some (z + cN c a k m) := by
  intro k
  induction k with
  | zero =>
   intro j z m h3 h4 h5 h6 h7
   obtain ⟨j, rfl⟩ : ∃ j', j = j' + 1 := ⟨j - 1, by omega⟩
   unfold loopN
   simp only [g_quote_quoted_count_l2, ltI]
   rw [decide_eq_false (by omega), cond_false]
   simp [cN]
  | succ k ih =>
   intro j z m h3 h4 h5 h6 h7
   obtain ⟨j, rfl⟩ : ∃ j', j = j' + 1 := ⟨j - 1, by omega⟩
   have i0 := ih j z (m + 1) (by omega) (by omega) (by omega) (by omega) (by omega)
   have i1 := ih j (z + 1) (m + 1) (by omega) (by omega) (by omega) (by omega) (by omega)
   unfold loopN
   generalize loopN (fun recl2 (v : Int × Int) => g_quote_quoted_count_l2 n (⟨t, c, f, to⟩ : GQuoteQuoted) a recl2 v.1 v.2) j = L at i0 i1 ⊢
   show g_quote_quoted_count_l2 n (⟨t, c, f, to⟩ : GQuoteQuoted) a L m z = _
   unfold g_quote_quoted_count_l2
   simp only [ltI]
   rw [decide_eq_true (by omega), cond_true, b_applies n c a m (by omega) h1 h2 hc ha (by omega), Option.bind_some, wi_id (x := m + 1) (by omega) (by omega), wi_id (x := z + 1) (by omega) (by omega)]
   rw [show cN c a (k + 1) m = (if appB c a m then 1 else 0) + cN c a k (m + 1) from rfl]
   cases appB c a m
   ·rw [cond_false, Option.bind_some, i0]
    simp
   ·rw [cond_true, Option.bind_some, i1]
    simp
    omega
 have := key (to - f).toNat n 0 f rfl (by omega) hf (by omega) (by omega)
 rw [Int.zero_add] at this
 exact this
theorem q_cnt (n : Nat) (t : GTariff) (c : GCalendar) (f to : Int) (hn : 10000 ≤ n) (h1 : c.Changes.length ≤ 900) (h2 : c.Holidays.length ≤ 900) (hc : calB c = true) (ht : ∀ a ∈ t.Articles, artB a = true) (hl : t.Articles.length ≤ 12) (hf : 0 ≤ f) (hto : to ≤ 52560000) (hd : to - f ≤ 2880) (x : Int) (hx : 0 ≤ x ∧ x ≤ 6000000000) : loopN (fun recl12 (v : Int × Int) => g_quote_quoted_energy_l12 n (⟨t, c, f, to⟩ : GQuoteQuoted) recl12 v.1 v.2) n (x, 0) = some (x + enC c (to - f).toNat f t.Articles) := by
 have := loop_gen (l := t.Articles) (fun (a : Int) i => (a, i)) (B := fun recl12 (v : Int × Int) => g_quote_quoted_energy_l12 n (⟨t, c, f, to⟩ : GQuoteQuoted) recl12 v.1 v.2) (F := fun a r => a + enC c (to - f).toNat f r) (fun i a => 0 ≤ a ∧ a ≤ 6000000000 + i) (by omega) ?_ ?_ (n := n) 0 x (by omega) (by omega) (by omega)
 ·exact this
 ·intro rec a ha
  have h : ltI ((t.Articles.length : Nat) : Int) (lenI (List.map GArticle.cs t.Articles)) = false := by simp [ltI, lenI]
  show g_quote_quoted_energy_l12 n (⟨t, c, f, to⟩ : GQuoteQuoted) rec a ((t.Articles.length : Nat) : Int) = _
  unfold g_quote_quoted_energy_l12
  rw [h, cond_false]
  simp [enC]
 ·intro rec a i x r ha hdr hx hi hw hr
  have h3 : ltI (i : Int) (lenI (List.map GArticle.cs t.Articles)) = true := by
   simp only [ltI, lenI, List.length_map]
   rw [decide_eq_true (by omega)]
  have hxa := ht x (List.mem_of_getElem? hx)
  show g_quote_quoted_energy_l12 n (⟨t, c, f, to⟩ : GQuoteQuoted) rec a (i : Int) = some (a + enC c (to - f).toNat f (x :: r))
  unfold g_quote_quoted_energy_l12
  rw [h3, cond_true, getI_nat, hx, Option.bind_some, hw, eqI_d, q_count n t c f to hn h1 h2 hc hf hto hd x hxa, Option.bind_some, wi_id (x := a + 1) (by omega) (by omega), hr a (by omega), hr (a + 1) (by omega)]
  rw [show enC c (to - f).toNat f (x :: r) = (if x.Kind = 2 ∧ 0 < cN c x (to - f).toNat f then 1 else 0) + enC c (to - f).toNat f r from rfl]
  by_cases k2 : x.Kind = 2
  ·rw [decide_eq_true k2, cond_true, Option.bind_some]
   by_cases hp : 0 < cN c x (to - f).toNat f
   ·rw [show ltI 0 (cN c x (to - f).toNat f) = true from decide_eq_true hp, cond_true, if_pos ⟨k2, hp⟩, Int.add_assoc]
   ·rw [show ltI 0 (cN c x (to - f).toNat f) = false from decide_eq_false hp, cond_false, if_neg (fun h => hp h.2), Int.zero_add]
  ·rw [decide_eq_false k2, cond_false, Option.bind_some, cond_false, if_neg (fun h => k2 h.1), Int.zero_add]
theorem q_energy (n : Nat) (t : GTariff) (c : GCalendar) (f to : Int) (hn : 10000 ≤ n) (h1 : c.Changes.length ≤ 900) (h2 : c.Holidays.length ≤ 900) (hc : calB c = true) (ht : ∀ a ∈ t.Articles, artB a = true) (hl : t.Articles.length ≤ 12) (hf : 0 ≤ f) (hto : to ≤ 52560000) (hd : to - f ≤ 2880) (e : Int) (he : 0 ≤ e ∧ e ≤ 480000) : g_quote_quoted_energy n (⟨t, c, f, to⟩ : GQuoteQuoted) e = some (if eneQ c t.Articles (to - f).toNat f e ≤ 1000000000 then (eneQ c t.Articles (to - f).toNat f e, 0) else (0, 3)) := by
 unfold g_quote_quoted_energy eneQ
 rw [eqI_d]
 by_cases h0 : e = 0
 ·rw [decide_eq_true h0, cond_true, if_pos h0, if_pos (by omega)]
 rw [decide_eq_false h0, cond_false, if_neg h0]
 refine (congrArg (fun o => Option.bind o _) (q_gr2 n t c f to hn h1 h2 hc ht hl hf hto hd)).trans ?_
 have hg := grQ_range c t.Articles 2 (to - f).toNat f ht hl
 have hr := timE_range hg he
 have hE := enC_range c (to - f).toNat f t.Articles
 rw [Option.bind_some, b_times, q_times n _ e hg he, Option.bind_some]
 generalize timE (grQ c t.Articles 2 (to - f).toNat f) e = T at hr
 by_cases hT : T ≤ 1000000000
 ·rw [if_pos hT]
  simp only [eqI_d, decide_true, Bool.not_true, cond_false]
  refine (congrArg (fun o => Option.bind o _) (q_cnt n t c f to hn h1 h2 hc ht hl hf hto hd T hr)).trans ?_
  rw [Option.bind_some]
  by_cases hs : T + enC c (to - f).toNat f t.Articles ≤ 1000000000
  ·rw [if_pos hs, show ltI 1000000000 (T + enC c (to - f).toNat f t.Articles) = false from decide_eq_false (by omega), cond_false]
  ·rw [if_neg hs, show ltI 1000000000 (T + enC c (to - f).toNat f t.Articles) = true from decide_eq_true (by omega), cond_true]
 ·rw [if_neg hT, if_neg (by omega)]
  rfl
theorem q_tis (n : Nat) (t : GTariff) (c : GCalendar) (f to : Int) (hn : 10000 ≤ n) (h1 : c.Changes.length ≤ 900) (h2 : c.Holidays.length ≤ 900) (hc : calB c = true) (ht : ∀ a ∈ t.Articles, artB a = true) (hl : t.Articles.length ≤ 12) (hf : 0 ≤ f) (hto : to ≤ 52560000) (hd : to - f ≤ 2880) (x : Int) (hx : 0 ≤ x ∧ x ≤ 2000000000) : loopN (fun recl12 (v : Int × Int) => g_quote_quoted_sum_l12 n (⟨t, c, f, to⟩ : GQuoteQuoted) recl12 v.1 v.2) n (x, 0) = some (if x + tiS c (to - f).toNat f t.Articles ≤ 1000000000 then (x + tiS c (to - f).toNat f t.Articles, 0) else (0, 3)) := by
 have hj : (to - f).toNat ≤ 2880 := by omega
 have := loop_gen (l := t.Articles) (fun (a : Int) i => (a, i)) (B := fun recl12 (v : Int × Int) => g_quote_quoted_sum_l12 n (⟨t, c, f, to⟩ : GQuoteQuoted) recl12 v.1 v.2) (F := fun a r => if a + tiS c (to - f).toNat f r ≤ 1000000000 then (a + tiS c (to - f).toNat f r, 0) else (0, 3)) (fun i a => 0 ≤ a ∧ a ≤ 2000000000 + 1000000000 * i) (by omega) ?_ ?_ (n := n) 0 x (by omega) (by omega) (by omega)
 ·exact this
 ·intro rec a ha
  have h : ltI ((t.Articles.length : Nat) : Int) (lenI (List.map GArticle.cs t.Articles)) = false := by simp [ltI, lenI]
  show g_quote_quoted_sum_l12 n (⟨t, c, f, to⟩ : GQuoteQuoted) rec a ((t.Articles.length : Nat) : Int) = _
  unfold g_quote_quoted_sum_l12 g_quote_quoted_sum_j11
  rw [h, cond_false, show tiS c (to - f).toNat f [] = 0 from rfl, Int.add_zero]
  by_cases hs : a ≤ 1000000000
  ·rw [if_pos hs, show ltI 1000000000 a = false from decide_eq_false (by omega), cond_false]
  ·rw [if_neg hs, show ltI 1000000000 a = true from decide_eq_true (by omega), cond_true]
 ·intro rec a i x r ha hdr hx hi hw hr
  have h3 : ltI (i : Int) (lenI (List.map GArticle.cs t.Articles)) = true := by
   simp only [ltI, lenI, List.length_map]
   rw [decide_eq_true (by omega)]
  have hxa := ht x (List.mem_of_getElem? hx)
  have hA := artB_art hxa
  have htr := tiS_range c (to - f).toNat f hj r (fun y hy => ht y (by
   have : y ∈ t.Articles.drop i := by rw [hdr]; exact List.mem_cons_of_mem _ hy
   exact List.mem_of_mem_drop this))
  show g_quote_quoted_sum_l12 n (⟨t, c, f, to⟩ : GQuoteQuoted) rec a (i : Int) = _
  unfold g_quote_quoted_sum_l12
  rw [h3, cond_true, getI_nat, hx, Option.bind_some, hw, eqI_d, eqI_d]
  rw [show tiS c (to - f).toNat f (x :: r) = (if x.Kind = 3 ∨ x.Kind = 4 then tiA c (to - f).toNat f x else 0) + tiS c (to - f).toNat f r from rfl]
  by_cases k : x.Kind = 3 ∨ x.Kind = 4
  rotate_left
  ·have e : (bif !decide (x.Kind = 3) then some (!decide (x.Kind = 4)) else some false) = some true := by
    rw [decide_eq_false (fun h => k (Or.inl h)), decide_eq_false (fun h => k (Or.inr h))]; rfl
   rw [e, Option.bind_some, cond_true, if_neg k, Int.zero_add, hr a (by omega)]
  ·have e : (bif !decide (x.Kind = 3) then some (!decide (x.Kind = 4)) else some false) = some false := by
    rcases k with k | k
    ·rw [decide_eq_true k]; rfl
    ·rw [decide_eq_true k, decide_eq_false (show ¬ x.Kind = 3 by omega)]; rfl
   have hU := hA.unit k
   have hcn := cN_range c x (to - f).toNat f
   have hq : 0 ≤ maxI 0 (cN c x (to - f).toNat f - x.Free) ∧ maxI 0 (cN c x (to - f).toNat f - x.Free) ≤ 2880 := by unfold maxI; split <;> omega
   have hti := tiA_range c (to - f).toNat f x hxa k hj
   rw [e, Option.bind_some, cond_false, if_pos k, q_count n t c f to hn h1 h2 hc hf hto hd x hxa, Option.bind_some, b_started, wi_id (x := cN c x (to - f).toNat f - x.Free) (by omega) (by omega),
    q_started n x.Price _ x.Unit hA.price hq ⟨hU.1, hU.2.1⟩, Option.bind_some]
   rw [show cstM x.Price (maxI 0 (cN c x (to - f).toNat f - x.Free)) x.Unit = tiA c (to - f).toNat f x from rfl]
   generalize tiA c (to - f).toNat f x = A at hti
   by_cases hA1 : A ≤ 1000000000
   ·rw [if_pos hA1]
    simp only [eqI_d, decide_true, Bool.not_true, cond_false]
    rw [wi_id (x := a + A) (by omega) (by omega), hr (a + A) (by omega), Int.add_assoc]
   ·rw [if_neg hA1, if_neg (by omega)]
    rfl
theorem q_sum (n : Nat) (t : GTariff) (c : GCalendar) (f to : Int) (hn : 10000 ≤ n) (h1 : c.Changes.length ≤ 900) (h2 : c.Holidays.length ≤ 900) (hc : calB c = true) (ht : ∀ a ∈ t.Articles, artB a = true) (hl : t.Articles.length ≤ 12) (hf : 0 ≤ f) (hto : to ≤ 52560000) (hd : to - f ≤ 2880) (e : Int) (he : 0 ≤ e ∧ e ≤ 480000) : g_quote_quoted_sum n (⟨t, c, f, to⟩ : GQuoteQuoted) e = some (if sumQ c t.Articles (to - f).toNat f e ≤ 1000000000 then (sumQ c t.Articles (to - f).toNat f e, 0) else (0, 3)) := by
 unfold g_quote_quoted_sum sumQ
 rw [q_energy n t c f to hn h1 h2 hc ht hl hf hto hd e he, Option.bind_some]
 have hg := grQ_range c t.Articles 1 (to - f).toNat f ht hl
 have hti := tiS_range c (to - f).toNat f (by omega) t.Articles ht
 have hE : 0 ≤ eneQ c t.Articles (to - f).toNat f e := by
  unfold eneQ
  split
  ·omega
  ·have := timE_range (grQ_range c t.Articles 2 (to - f).toNat f ht hl) he
   have := enC_range c (to - f).toNat f t.Articles
   omega
 generalize eneQ c t.Articles (to - f).toNat f e = E at hE
 by_cases hE1 : E ≤ 1000000000
 ·rw [if_pos hE1]
  simp only [eqI_d, decide_true, Bool.not_true, cond_false]
  refine (congrArg (fun o => Option.bind o _) (q_gr1 n t c f to hn h1 h2 hc ht hl hf hto hd)).trans ?_
  rw [Option.bind_some, wi_id (x := E + grQ c t.Articles 1 (to - f).toNat f) (by omega) (by omega)]
  exact q_tis n t c f to hn h1 h2 hc ht hl hf hto hd _ (by omega)
 ·rw [if_neg hE1, if_neg (by omega)]
  rfl
def quoV (t : GTariff) (c : GCalendar) (f to e : Int) : Int × Int :=
 if (tariffB t && calB c && limB f to e) = true then
  (if sumQ c t.Articles (to - f).toNat f e ≤ 1000000000 then
   (if capF (sumQ c t.Articles (to - f).toNat f e) t.Articles + taxF (capF (sumQ c t.Articles (to - f).toNat f e) t.Articles) (rateF 0 t.Articles) ≤ 1000000000 then (capF (sumQ c t.Articles (to - f).toNat f e) t.Articles + taxF (capF (sumQ c t.Articles (to - f).toNat f e) t.Articles) (rateF 0 t.Articles), 0) else (0, 3))
  else (0, 3)) else (0, 1)
theorem sumQ_nonneg (c : GCalendar) (l : List GArticle) (j : Nat) (m e : Int) (h : ∀ a ∈ l, artB a = true) (hl : l.length ≤ 12) (hj : j ≤ 2880) (he : 0 ≤ e ∧ e ≤ 480000) : 0 ≤ sumQ c l j m e := by
 have h1 := grQ_range c l 1 j m h hl
 have h2 := tiS_range c j m hj l h
 have h3 : 0 ≤ eneQ c l j m e := by
  unfold eneQ
  split
  ·omega
  ·have := timE_range (grQ_range c l 2 j m h hl) he
   have := enC_range c j m l
   omega
 unfold sumQ
 omega
theorem capF_range : ∀ (l : List GArticle) (z : Int), (∀ a ∈ l, 0 ≤ a.Price) → 0 ≤ z → 0 ≤ capF z l ∧ capF z l ≤ z
 | [], z, _, h => ⟨h, Int.le_refl _⟩
 | a :: r, z, hp, h => by
  have ha := hp a List.mem_cons_self
  rw [show capF z (a :: r) = capF (if a.Kind = 5 then minI z a.Price else z) r from rfl]
  have hz : 0 ≤ (if a.Kind = 5 then minI z a.Price else z) ∧ (if a.Kind = 5 then minI z a.Price else z) ≤ z := by
   split
   ·unfold minI; split <;> omega
   ·omega
  have := capF_range r _ (fun x hx => hp x (List.mem_cons_of_mem _ hx)) hz.1
  omega
theorem rateQ {l : List GArticle} (h : ∀ a ∈ l, artB a = true) : 0 ≤ rateF 0 l ∧ rateF 0 l ≤ 10000 := rateF_range l 0 (fun a ha => ⟨(artB_art (h a ha)).price.1, (artB_art (h a ha)).rate⟩) (by omega)
theorem q_caps (n : Nat) (t : GTariff) (z : Int) (hn : 1000 ≤ n) (hl : t.Articles.length ≤ 900) : loopN (fun recl9 (v : Int × Int × Int) => g_quote_Quote_l9 t recl9 v.1 v.2.1 v.2.2) n (z, 0, 0) = some (capF z t.Articles, rateF 0 t.Articles) := by
 have := loop_gen (l := t.Articles) (fun (a : Int × Int) i => (a.1, a.2, i)) (B := fun recl9 (v : Int × Int × Int) => g_quote_Quote_l9 t recl9 v.1 v.2.1 v.2.2) (F := fun a r => (capF a.1 r, rateF a.2 r)) (fun _ _ => True) (by omega) ?_ ?_ (n := n) 0 (z, 0) trivial (by omega) (by omega)
 ·exact this
 ·intro rec a _
  have h : ltI ((t.Articles.length : Nat) : Int) (lenI (List.map GArticle.cs t.Articles)) = false := by simp [ltI, lenI]
  show g_quote_Quote_l9 t rec a.1 a.2 ((t.Articles.length : Nat) : Int) = _
  unfold g_quote_Quote_l9
  rw [h]; rfl
 ·intro rec a i x r _ hd hx hi hw hr
  have h3 : ltI (i : Int) (lenI (List.map GArticle.cs t.Articles)) = true := by
   simp only [ltI, lenI, List.length_map]
   rw [decide_eq_true (by omega)]
  have hr' := fun (u v : Int) => hr (u, v) trivial
  simp only at hr'
  show g_quote_Quote_l9 t rec a.1 a.2 (i : Int) = some (capF a.1 (x :: r), rateF a.2 (x :: r))
  unfold g_quote_Quote_l9
  rw [h3, cond_true, getI_nat, hx, Option.bind_some, hw, eqI_d, eqI_d, hr', hr', hr']
  rw [show capF a.1 (x :: r) = capF (if x.Kind = 5 then minI a.1 x.Price else a.1) r from rfl, show rateF a.2 (x :: r) = rateF (if x.Kind = 6 then x.Price else a.2) r from rfl]
  by_cases k5 : x.Kind = 5
  ·rw [decide_eq_true k5, cond_true, if_pos k5, if_neg (by omega)]
  ·rw [decide_eq_false k5, cond_false, if_neg k5]
   by_cases k6 : x.Kind = 6
   ·rw [decide_eq_true k6, cond_true, if_pos k6]
   ·rw [decide_eq_false k6, cond_false, if_neg k6]
theorem tariffB_spec {t : GTariff} (h : tariffB t = true) : (∀ a ∈ t.Articles, artB a = true) ∧ t.Articles.length ≤ 12 := by
 simp only [tariffB, Bool.and_eq_true, decide_eq_true_eq] at h
 exact ⟨tarB_all h.2, h.1.2⟩
theorem q_quote (n : Nat) (t : GTariff) (c : GCalendar) (f to e : Int) (hn : 10000 ≤ n) (h1 : c.Changes.length ≤ 900) (h2 : c.Holidays.length ≤ 900) (hb : i64b to) : g_quote_Quote n t c f to e = some (quoV t c f to e) := by
 unfold g_quote_Quote quoV
 rw [b_tariff n t (by omega), b_cal n c (by omega) h1 h2, q_limits n f to e hb]
 simp only [Option.bind_some, cond_some]
 cases ht : tariffB t
 ·rfl
 cases hc : calB c
 ·rfl
 cases hv : limB f to e
 ·rfl
 have hL := limB_spec hv
 obtain ⟨hall, hlen⟩ := tariffB_spec ht
 simp only [Bool.not_true, cond_false, Bool.and_self, if_true]
 rw [q_sum n t c f to hn h1 h2 hc hall hlen hL.1 (by omega) (by omega) e (by omega), Option.bind_some]
 have hs := sumQ_nonneg c t.Articles (to - f).toNat f e hall hlen (by omega) (by omega)
 generalize sumQ c t.Articles (to - f).toNat f e = Z at hs
 by_cases hz : Z ≤ 1000000000
 ·rw [if_pos hz, if_pos hz]
  simp only [eqI_d, decide_true, Bool.not_true, cond_false]
  refine (congrArg (fun o => Option.bind o _) (q_caps n t Z (by omega) (by omega))).trans ?_
  have hcap := capF_range t.Articles Z (fun a ha => (artB_art (hall a ha)).price.1) hs
  have hrt := rateQ hall
  rw [Option.bind_some]
  generalize capF Z t.Articles = N at hcap
  generalize rateF 0 t.Articles = R at hrt
  obtain ⟨g1, g2, g3⟩ := r_tax n N R (by omega) hrt
  simp only
  rw [b_tax, g1, Option.bind_some, wi_id (x := N + taxF N R) (by omega) (by omega)]
  simp only [decide_true, Bool.not_true, cond_false]
  by_cases hs2 : N + taxF N R ≤ 1000000000
  ·rw [if_pos hs2, show ltI 1000000000 (N + taxF N R) = false from decide_eq_false (by omega), cond_false]
  ·rw [if_neg hs2, show ltI 1000000000 (N + taxF N R) = true from decide_eq_true (by omega), cond_true]
 ·rw [if_neg hz, if_neg hz]
  rfl
def covB (s : GSession) (f to e : Int) : Bool := limB f to e && valB s && decide (f ≤ s.From) && decide (s.To ≤ to) && decide (sumS s.Slices ≤ e)
theorem sumS_range : ∀ (l : List GSlice), (∀ x ∈ l, 0 ≤ x.Energy ∧ x.Energy ≤ 10000) → 0 ≤ sumS l ∧ sumS l ≤ 10000 * l.length
 | [], _ => by
  show (0 : Int) ≤ 0 ∧ (0 : Int) ≤ 10000 * ((0 : Nat) : Int)
  omega
 | x :: r, h => by
  have hx := h x List.mem_cons_self
  have := sumS_range r (fun y hy => h y (List.mem_cons_of_mem _ hy))
  rw [show sumS (x :: r) = x.Energy + sumS r from rfl]
  simp only [List.length_cons]
  omega
theorem q_covers (n : Nat) (s : GSession) (f to e : Int) (hn : 1000 ≤ n) (hl : s.Slices.length ≤ 900) (hb : i64b to) (hs : i64b s.To) : g_quote_Covers n s f to e = some (covB s f to e) := by
 unfold g_quote_Covers covB
 rw [q_limits n f to e hb, b_session n s hn hl hs]
 simp only [Option.bind_some, cond_some, ltI]
 cases hv : limB f to e
 ·rfl
 cases hw : valB s
 ·rfl
 obtain ⟨g1, g2⟩ := val_sl hw
 have hloop : loopN (fun recl7 (v : Int × Int) => g_quote_Covers_l7 s e recl7 v.1 v.2) n (0, 0) = some (decide (sumS s.Slices ≤ e)) := by
  have := loop_gen (l := s.Slices) (fun (a : Int) i => (a, i)) (B := fun recl7 (v : Int × Int) => g_quote_Covers_l7 s e recl7 v.1 v.2) (F := fun a r => decide (a + sumS r ≤ e)) (fun i a => 0 ≤ a ∧ a ≤ 10000 * i) (by omega) ?_ ?_ (n := n) 0 0 (by omega) (by omega) (by omega)
  ·rw [show ((0 : Nat) : Int) = 0 from rfl] at this
   rw [this]
   simp
  ·intro rec a ha
   have h : ltI ((s.Slices.length : Nat) : Int) (lenI (List.map GSlice.cs s.Slices)) = false := by simp [ltI, lenI]
   show g_quote_Covers_l7 s e rec a ((s.Slices.length : Nat) : Int) = _
   unfold g_quote_Covers_l7
   rw [h, cond_false, show sumS [] = 0 from rfl, Int.add_zero]
   rfl
  ·intro rec a i x r ha hd hx hi hw' hr
   have h3 : ltI (i : Int) (lenI (List.map GSlice.cs s.Slices)) = true := by
    simp only [ltI, lenI, List.length_map]
    rw [decide_eq_true (by omega)]
   have hxm := g2 x (List.mem_of_getElem? hx)
   show g_quote_Covers_l7 s e rec a (i : Int) = _
   unfold g_quote_Covers_l7
   rw [h3, cond_true, getI_nat, hx, Option.bind_some, hw', wi_id (x := a + x.Energy) (by omega) (by omega), hr _ (by omega), show sumS (x :: r) = x.Energy + sumS r from rfl, Int.add_assoc]
 by_cases c1 : s.From < f
 ·rw [decide_eq_true c1, decide_eq_false (show ¬ f ≤ s.From by omega)]; rfl
 rw [decide_eq_false c1, decide_eq_true (show f ≤ s.From by omega)]
 by_cases c2 : to < s.To
 ·rw [decide_eq_true c2, decide_eq_false (show ¬ s.To ≤ to by omega)]; rfl
 rw [decide_eq_false c2, decide_eq_true (show s.To ≤ to by omega)]
 exact hloop
end Go.Proofs
namespace Go.Proofs
open Go Go.Abs
set_option maxRecDepth 100000
set_option linter.unusedVariables false
theorem head35_big : g_law35_head 36893488147419103232 = some true := by kernel_rfl
theorem few35 (n : Nat) (t : GTariff) (k : GCalendar) (s : GSession) : ∃ b, g_ref35_Few n t k s = some b ∧ (b = true → t.Articles.length ≤ 20 ∧ s.Slices.length ≤ 60 ∧ k.Changes.length ≤ 30 ∧ k.Holidays.length ≤ 60 ∧ t.Name.length ≤ 40) := by
 unfold g_ref35_Few g_ref32_Few g_ref26_Few
 simp only [cond_some, Option.bind_some, lenI, List.length_map, leI]
 refine ⟨_, rfl, fun h => ?_⟩
 simp [Bool.cond_eq_ite] at h
 omega
theorem cN_wider (c : GCalendar) (x : GArticle) {a b a' b' : Int} (h1 : a' ≤ a) (h2 : b ≤ b') (h : a ≤ b) : cN c x (b - a).toNat a ≤ cN c x (b' - a').toNat a' := by
 have h3 := cN_tail c x (a - a').toNat (b - a).toNat a'
 rw [show a' + ((a - a').toNat : Int) = a from by omega] at h3
 have h4 := cN_mono c x ((a - a').toNat + (b - a).toNat) (b' - b).toNat a'
 rw [show (a - a').toNat + (b - a).toNat + (b' - b).toNat = (b' - a').toNat from by omega] at h4
 exact Int.le_trans h3 h4
theorem tiA_le (c : GCalendar) {j j' : Nat} {m m' : Int} {x : GArticle} (ha : artB x = true) (hk : x.Kind = 3 ∨ x.Kind = 4) (h : cN c x j m ≤ cN c x j' m') : tiA c j m x ≤ tiA c j' m' x := by
 have hA := artB_art ha
 unfold tiA
 refine cstM_mono hA.price.1 (hA.unit hk).1 ?_
 unfold maxI
 split <;> split <;> omega
theorem capF_mono : ∀ (l : List GArticle) {z z' : Int}, z ≤ z' → capF z l ≤ capF z' l
 | [], z, z', h => h
 | a :: r, z, z', h => by
  rw [show capF z (a :: r) = capF (if a.Kind = 5 then minI z a.Price else z) r from rfl, show capF z' (a :: r) = capF (if a.Kind = 5 then minI z' a.Price else z') r from rfl]
  refine capF_mono r ?_
  split
  ·unfold minI
   split <;> split <;> omega
  ·exact h
theorem taxE {N R : Int} (hN : 0 ≤ N ∧ N ≤ 1000000000) (hR : 0 ≤ R ∧ R ≤ 10000) : taxF N R = (2 * (N * R) + 10000) / 20000 ∧ 0 ≤ N * R := by
 have hb := mul_bound hN hR
 unfold taxF
 rw [wi_id (x := 2 * N) (by omega) (by omega), show 2 * N * R = 2 * (N * R) from Int.mul_assoc .., wi_id (x := 2 * (N * R)) (by omega) (by omega), wi_id (x := 2 * (N * R) + 10000) (by omega) (by omega), Int.tdiv_eq_ediv_of_nonneg (by omega), wi_id (by omega) (by omega)]
 exact ⟨rfl, hb.1⟩
theorem tax_mono {N N' R R' : Int} (hN : 0 ≤ N) (h : N ≤ N') (hN' : N' ≤ 1000000000) (hR : 0 ≤ R) (h2 : R ≤ R') (hR' : R' ≤ 10000) : taxF N R ≤ taxF N' R' := by
 have h3 : N * R ≤ N' * R' := Int.le_trans (Int.mul_le_mul_of_nonneg_right h hR) (Int.mul_le_mul_of_nonneg_left h2 (by omega))
 rw [(taxE (N := N) (R := R) (by omega) (by omega)).1, (taxE (N := N') (R := R') (by omega) (by omega)).1]
 omega
theorem quo_ok {t : GTariff} {c : GCalendar} {f to e : Int} (h : (quoV t c f to e).2 = 0) : tariffB t = true ∧ calB c = true ∧ limB f to e = true ∧ sumQ c t.Articles (to - f).toNat f e ≤ 1000000000 ∧
  (quoV t c f to e).1 = capF (sumQ c t.Articles (to - f).toNat f e) t.Articles + taxF (capF (sumQ c t.Articles (to - f).toNat f e) t.Articles) (rateF 0 t.Articles) ∧ (quoV t c f to e).1 ≤ 1000000000 := by
 unfold quoV at h ⊢
 by_cases c1 : (tariffB t && calB c && limB f to e) = true
 ·rw [if_pos c1] at h ⊢
  simp only [Bool.and_eq_true] at c1
  by_cases c2 : sumQ c t.Articles (to - f).toNat f e ≤ 1000000000
  ·rw [if_pos c2] at h ⊢
   by_cases c3 : capF (sumQ c t.Articles (to - f).toNat f e) t.Articles + taxF (capF (sumQ c t.Articles (to - f).toNat f e) t.Articles) (rateF 0 t.Articles) ≤ 1000000000
   ·rw [if_pos c3]
    exact ⟨c1.1.1, c1.1.2, c1.2, c2, rfl, c3⟩
   ·rw [if_neg c3] at h; cases h
  ·rw [if_neg c2] at h; cases h
 ·rw [if_neg c1] at h; cases h
end Go.Proofs
namespace Go.Proofs
open Go Go.Abs
set_option maxRecDepth 100000
set_option linter.unusedVariables false
theorem gmx_mem {f : Int → Int} : ∀ (j : Nat) (a m : Int), a ≤ m → m < a + j → f m ≤ gmx f j a
 | 0, a, m, h1, h2 => by omega
 | j + 1, a, m, h1, h2 => by
  rw [show gmx f (j + 1) a = maxI (f a) (gmx f j (a + 1)) from rfl]
  by_cases h : m = a
  ·rw [h]; exact maxI_l _ _
  ·exact Int.le_trans (gmx_mem j (a + 1) m (by omega) (by omega)) (maxI_r _ _)
theorem cN_pos (c : GCalendar) (x : GArticle) : ∀ (j : Nat) (a m : Int), a ≤ m → m < a + j → appB c x m = true → 0 < cN c x j a
 | 0, a, m, h1, h2, _ => by omega
 | j + 1, a, m, h1, h2, hm => by
  rw [show cN c x (j + 1) a = (if appB c x a then 1 else 0) + cN c x j (a + 1) from rfl]
  have hr := cN_range c x j (a + 1)
  by_cases h : m = a
  ·subst h
   rw [if_pos hm]
   omega
  ·have := cN_pos c x j (a + 1) m (by omega) (by omega) hm
   split <;> omega
def rnS (c : GCalendar) (sl : List GSlice) : List GArticle → Int
 | [] => 0
 | a :: r => (if a.Kind = 2 then (2 * (a.Price * enS c a sl) + 1000) / 2000 else 0) + rnS c sl r
def xS (c : GCalendar) (sl : List GSlice) : List GArticle → Int
 | [] => 0
 | a :: r => (if a.Kind = 2 then a.Price * enS c a sl else 0) + xS c sl r
theorem xS_nil (c : GCalendar) : ∀ (l : List GArticle), xS c [] l = 0
 | [] => rfl
 | a :: r => by
  rw [show xS c [] (a :: r) = (if a.Kind = 2 then a.Price * 0 else 0) + xS c [] r from rfl, xS_nil c r, Int.mul_zero]
  split <;> rfl
theorem xS_cons (c : GCalendar) (x : GSlice) (sl : List GSlice) : ∀ (l : List GArticle), xS c (x :: sl) l = prS c 2 x.Minute l * x.Energy + xS c sl l
 | [] => by
  show (0 : Int) = 0 * x.Energy + 0
  omega
 | a :: r => by
  rw [show xS c (x :: sl) (a :: r) = (if a.Kind = 2 then a.Price * ((if appB c a x.Minute then x.Energy else 0) + enS c a sl) else 0) + xS c (x :: sl) r from rfl, xS_cons c x sl r,
   show prS c 2 x.Minute (a :: r) = (if a.Kind = 2 ∧ appB c a x.Minute = true then a.Price else 0) + prS c 2 x.Minute r from rfl, show xS c sl (a :: r) = (if a.Kind = 2 then a.Price * enS c a sl else 0) + xS c sl r from rfl, Int.add_mul]
  by_cases k2 : a.Kind = 2
  ·rw [if_pos k2, if_pos k2]
   cases appB c a x.Minute
   ·rw [if_neg (by simp), if_neg (by simp), Int.zero_add, Int.zero_mul]
    omega
   ·rw [if_pos rfl, if_pos ⟨k2, rfl⟩, Int.mul_add]
    omega
  ·rw [if_neg k2, if_neg k2, if_neg (fun h => k2 h.1), Int.zero_mul]
   omega
theorem xS_le (c : GCalendar) (l : List GArticle) (G : Int) (hG : 0 ≤ G) : ∀ (sl : List GSlice), (∀ x ∈ sl, 0 ≤ x.Energy ∧ prS c 2 x.Minute l ≤ G) → xS c sl l ≤ G * sumS sl
 | [], _ => by
  rw [xS_nil, show sumS [] = 0 from rfl, Int.mul_zero]
  exact Int.le_refl _
 | x :: sl, h => by
  have hx := h x List.mem_cons_self
  have h1 := xS_le c l G hG sl (fun y hy => h y (List.mem_cons_of_mem _ hy))
  have h2 := Int.mul_le_mul_of_nonneg_right hx.2 hx.1
  rw [xS_cons, show sumS (x :: sl) = x.Energy + sumS sl from rfl, Int.mul_add]
  omega
theorem rnS_le (c : GCalendar) (sl : List GSlice) (j : Nat) (m : Int) : ∀ (l : List GArticle), (∀ a ∈ l, artB a = true) → (∀ a, 0 ≤ enS c a sl) → (∀ a, cN c a j m ≤ 0 → enS c a sl = 0) → 2000 * rnS c sl l ≤ 2 * xS c sl l + 1000 * enC c j m l ∧ (enC c j m l ≤ 0 → rnS c sl l = 0) ∧ 0 ≤ rnS c sl l ∧ 0 ≤ xS c sl l
 | [], _, _, _ => ⟨by show (2000 : Int) * 0 ≤ 2 * 0 + 1000 * 0; omega, fun _ => rfl, Int.le_refl _, Int.le_refl _⟩
 | a :: r, ha, he, hz => by
  obtain ⟨h1, h2, h3, h4⟩ := rnS_le c sl j m r (fun y hy => ha y (List.mem_cons_of_mem _ hy)) he hz
  have hE := enC_range c j m r
  rw [show rnS c sl (a :: r) = (if a.Kind = 2 then (2 * (a.Price * enS c a sl) + 1000) / 2000 else 0) + rnS c sl r from rfl, show xS c sl (a :: r) = (if a.Kind = 2 then a.Price * enS c a sl else 0) + xS c sl r from rfl,
   show enC c j m (a :: r) = (if a.Kind = 2 ∧ 0 < cN c a j m then 1 else 0) + enC c j m r from rfl]
  by_cases k2 : a.Kind = 2
  ·rw [if_pos k2, if_pos k2]
   have hm := Int.mul_nonneg (artB_art (ha a List.mem_cons_self)).price.1 (he a)
   by_cases hc : 0 < cN c a j m
   ·rw [if_pos ⟨k2, hc⟩]
    generalize a.Price * enS c a sl = M at hm
    refine ⟨by omega, fun h => by omega, by omega, by omega⟩
   ·have h0 := hz a (by omega)
    rw [if_neg (fun h => hc h.2), h0, Int.mul_zero]
    refine ⟨by omega, fun h => by have := h2 (by omega); omega, by omega, by omega⟩
  ·rw [if_neg k2, if_neg k2, if_neg (fun h => k2 h.1)]
   refine ⟨by omega, fun h => by have := h2 (by omega); omega, by omega, by omega⟩
theorem enS_zero (c : GCalendar) (a : GArticle) : ∀ (sl : List GSlice), (∀ x ∈ sl, appB c a x.Minute = false ∨ x.Energy = 0) → enS c a sl = 0
 | [], _ => rfl
 | x :: r, h => by
  rw [show enS c a (x :: r) = (if appB c a x.Minute then x.Energy else 0) + enS c a r from rfl, enS_zero c a r (fun y hy => h y (List.mem_cons_of_mem _ hy))]
  rcases h x List.mem_cons_self with h1 | h1
  ·rw [h1]; rfl
  ·rw [h1]; split <;> rfl
theorem sumS_zero : ∀ (sl : List GSlice), (∀ x ∈ sl, 0 ≤ x.Energy ∧ x.Energy ≤ 10000) → sumS sl ≤ 0 → ∀ x ∈ sl, x.Energy = 0
 | [], _, _, x, hx => by cases hx
 | y :: r, h, h0, x, hx => by
  rw [show sumS (y :: r) = y.Energy + sumS r from rfl] at h0
  have hy := h y List.mem_cons_self
  have hr := sumS_range r (fun z hz => h z (List.mem_cons_of_mem _ hz))
  rcases List.mem_cons.1 hx with rfl | hx
  ·omega
  ·exact sumS_zero r (fun z hz => h z (List.mem_cons_of_mem _ hz)) (by omega) x hx
theorem sumA_le (c : GCalendar) (s : GSession) (j : Nat) (m : Int) (hv : valB s = true) (hm : m ≤ s.From) (hj : s.To ≤ m + j) : ∀ (l : List GArticle), (∀ a ∈ l, artB a = true) → sumA c s l ≤ prS c 1 s.From l + rnS c s.Slices l + tiS c j m l
 | [], _ => by
  show (0 : Int) ≤ 0 + 0 + 0
  omega
 | a :: r, ha => by
  have ih := sumA_le c s j m hv hm hj r (fun y hy => ha y (List.mem_cons_of_mem _ hy))
  have haa := ha a List.mem_cons_self
  have hA := artB_art haa
  obtain ⟨g1, g2⟩ := val_sl hv
  rw [show sumA c s (a :: r) = (if isLn a then cosF c s a else 0) + sumA c s r from rfl, show prS c 1 s.From (a :: r) = (if a.Kind = 1 ∧ appB c a s.From = true then a.Price else 0) + prS c 1 s.From r from rfl,
   show rnS c s.Slices (a :: r) = (if a.Kind = 2 then (2 * (a.Price * enS c a s.Slices) + 1000) / 2000 else 0) + rnS c s.Slices r from rfl, show tiS c j m (a :: r) = (if a.Kind = 3 ∨ a.Kind = 4 then tiA c j m a else 0) + tiS c j m r from rfl]
  by_cases k1 : a.Kind = 1
  ·have e : cosF c s a = if appB c a s.From then a.Price else 0 := by unfold cosF; rw [if_pos k1]
   rw [(isLn_iff a).2 (by omega), if_pos rfl, e, if_neg (show ¬ a.Kind = 2 by omega), if_neg (show ¬ (a.Kind = 3 ∨ a.Kind = 4) by omega)]
   cases appB c a s.From
   ·rw [if_neg (by simp), if_neg (by simp)]; omega
   ·rw [if_pos rfl, if_pos ⟨k1, rfl⟩]; omega
  rw [if_neg (show ¬ (a.Kind = 1 ∧ _) from fun h => k1 h.1)]
  by_cases k2 : a.Kind = 2
  ·rw [(isLn_iff a).2 (by omega), if_pos rfl, (cosE c s a haa hv k2).1, if_pos k2, if_neg (show ¬ (a.Kind = 3 ∨ a.Kind = 4) by omega)]
   omega
  rw [if_neg k2]
  by_cases k : a.Kind = 3 ∨ a.Kind = 4
  ·rw [(isLn_iff a).2 (by omega), if_pos rfl, if_pos k]
   have hle : cosF c s a ≤ tiA c j m a := by
    have key : ∀ f t : Int, m ≤ f → f ≤ t → t ≤ m + j → 0 ≤ f → t ≤ 52560000 → t - f ≤ 2880 → staF c a f t ≤ tiA c j m a := by
     intro f t h1 h2 h3 h4 h5 h6
     rw [staF_eq c a f t haa k h4 h5 h6]
     have hw := cN_wider c a (a := f) (b := t) (a' := m) (b' := m + j) h1 h3 h2
     rw [show (m + (j : Int) - m).toNat = j from by omega] at hw
     exact tiA_le c haa k hw
    unfold cosF
    rw [if_neg k1, if_neg k2]
    by_cases k3 : a.Kind = 3
    ·rw [if_pos k3]
     exact key s.From s.To hm (by omega) hj (by omega) (by omega) (by omega)
    ·rw [if_neg k3, if_pos (by omega)]
     exact key s.End s.To (by omega) (by omega) hj (by omega) (by omega) (by omega)
   omega
  ·have hk := hA.kind
   have hl : isLn a = false := by
    cases hl : isLn a with
    | false => rfl
    | true => exact absurd (show a.Kind = 5 ∨ a.Kind = 6 by omega) ((isLn_iff a).1 hl)
   rw [hl, if_neg (by simp), if_neg k]
   omega
theorem sumA_Q (c : GCalendar) (s : GSession) (l : List GArticle) (f to e : Int) (hl : l.length ≤ 12) (ha : ∀ a ∈ l, artB a = true) (hcov : covB s f to e = true) : sumA c s l ≤ sumQ c l (to - f).toNat f e := by
 simp only [covB, Bool.and_eq_true, decide_eq_true_eq] at hcov
 obtain ⟨⟨⟨⟨hL, hv⟩, c3⟩, c4⟩, c5⟩ := hcov
 have L := limB_spec hL
 obtain ⟨g1, g2⟩ := val_sl hv
 have h1 := sumA_le c s (to - f).toNat f hv c3 (by omega) l ha
 have h2 : prS c 1 s.From l ≤ grQ c l 1 (to - f).toNat f := gmx_mem (f := fun m => prS c 1 m l) (to - f).toNat f s.From c3 (by omega)
 have hG := grQ_range c l 2 (to - f).toNat f ha hl
 have hsl : ∀ x ∈ s.Slices, 0 ≤ x.Energy ∧ x.Energy ≤ 10000 := fun x hx => by have := g2 x hx; omega
 have hS := sumS_range s.Slices hsl
 have hen : ∀ a, 0 ≤ enS c a s.Slices := fun a => (enS_range c a s.Slices hsl).1
 have hez : ∀ a, cN c a (to - f).toNat f ≤ 0 → enS c a s.Slices = 0 := by
  intro a h0
  refine enS_zero c a s.Slices (fun x hx => .inl ?_)
  have hxm := g2 x hx
  cases hap : appB c a x.Minute with
  | false => rfl
  | true =>
   have := cN_pos c a (to - f).toNat f x.Minute (by omega) (by omega) hap
   omega
 obtain ⟨r1, r2, r3, r4⟩ := rnS_le c s.Slices (to - f).toNat f l ha hen hez
 have hx := xS_le c l (grQ c l 2 (to - f).toNat f) hG.1 s.Slices (fun x hx => by
  have hxm := g2 x hx
  exact ⟨by omega, gmx_mem (f := fun m => prS c 2 m l) (to - f).toNat f x.Minute (by omega) (by omega)⟩)
 have hx2 := Int.mul_le_mul_of_nonneg_left c5 hG.1
 have hE := enC_range c (to - f).toNat f l
 have h3 : rnS c s.Slices l ≤ eneQ c l (to - f).toNat f e := by
  unfold eneQ
  by_cases h0 : e = 0
  ·rw [if_pos h0]
   have hz := sumS_zero s.Slices hsl (by omega)
   have : ∀ (q : List GArticle), rnS c s.Slices q = 0 := by
    intro q
    induction q with
    | nil => rfl
    | cons a q ih =>
     rw [show rnS c s.Slices (a :: q) = (if a.Kind = 2 then (2 * (a.Price * enS c a s.Slices) + 1000) / 2000 else 0) + rnS c s.Slices q from rfl, ih, enS_zero c a s.Slices (fun x hx => .inr (hz x hx)), Int.mul_zero]
     split <;> rfl
   rw [this]
   exact Int.le_refl _
  ·rw [if_neg h0]
   unfold timE
   generalize grQ c l 2 (to - f).toNat f * e = M at hx2
   by_cases hk : enC c (to - f).toNat f l ≤ 0
   ·have := r2 hk
    omega
   ·omega
 unfold sumQ
 omega
theorem sumA_mem (c : GCalendar) (s : GSession) : ∀ (l : List GArticle), (∀ a ∈ l, 0 ≤ cosF c s a) → 0 ≤ sumA c s l ∧ ∀ a ∈ l, isLn a = true → cosF c s a ≤ sumA c s l
 | [], _ => ⟨Int.le_refl _, fun a ha => by cases ha⟩
 | x :: r, h => by
  obtain ⟨h1, h2⟩ := sumA_mem c s r (fun y hy => h y (List.mem_cons_of_mem _ hy))
  have hx := h x List.mem_cons_self
  rw [show sumA c s (x :: r) = (if isLn x then cosF c s x else 0) + sumA c s r from rfl]
  refine ⟨by split <;> omega, fun a ha hl => ?_⟩
  rcases List.mem_cons.1 ha with rfl | ha
  ·rw [hl, if_pos rfl]; omega
  ·have := h2 a ha hl
   split <;> omega
theorem bill_val (t : GTariff) (c : GCalendar) (s : GSession) (ht : tariffB t = true) (hc : calB c = true) (hv : valB s = true) (hcc : c.Changes.length ≤ 900) (hch : c.Holidays.length ≤ 900) (hsum : sumA c s t.Articles ≤ 1000000000)
  (htot : capF (sumA c s t.Articles) t.Articles + taxF (capF (sumA c s t.Articles) t.Articles) (rateF 0 t.Articles) ≤ 1000000000) :
  (bilV t c s).2 = 0 ∧ (bilV t c s).1.Total = capF (sumA c s t.Articles) t.Articles + taxF (capF (sumA c s t.Articles) t.Articles) (rateF 0 t.Articles) := by
 obtain ⟨hall, hlen⟩ := tariffB_spec ht
 have hp : ∀ a ∈ t.Articles, 0 ≤ cosF c s a := fun a ha => (r_line 10000 c a s (Nat.le_refl _) hcc hch hc (hall a ha) hv).2
 obtain ⟨m1, m2⟩ := sumA_mem c s t.Articles hp
 have hok : okA c s t.Articles = true := by
  unfold okA
  rw [List.all_eq_true]
  intro a ha
  cases hl : isLn a with
  | false => rfl
  | true =>
   have := m2 a ha hl
   rw [decide_eq_true (show cosF c s a ≤ 1000000000 by omega)]; rfl
 obtain ⟨g1, g2, g3⟩ := sumF_A c s t.Articles 0 0 hok hp (Int.le_refl _) (by omega)
 rw [Int.zero_add] at g1
 have hrt := rateQ hall
 have k1 := capF_range t.Articles _ (fun a ha => (artB_art (hall a ha)).price.1) m1
 have ht2 := (r_tax 0 (capF (sumA c s t.Articles) t.Articles) (rateF 0 t.Articles) (by omega) hrt).2
 have hnet : netF t 0 (linF c s 0 t.Articles) = capF (sumA c s t.Articles) t.Articles := by unfold netF; rw [g1]
 have hbil : bilF t (rateF 0 t.Articles) 0 (linF c s 0 t.Articles) = ⟨linF c s 0 t.Articles, capF (sumA c s t.Articles) t.Articles, taxF (capF (sumA c s t.Articles) t.Articles) (rateF 0 t.Articles), capF (sumA c s t.Articles) t.Articles + taxF (capF (sumA c s t.Articles) t.Articles) (rateF 0 t.Articles)⟩ := by
  unfold bilF
  rw [hnet, wi_id (by omega) (by omega)]
 have hB : bilB (bilF t (rateF 0 t.Articles) 0 (linF c s 0 t.Articles)) = true := by
  rw [hbil]
  simp only [bilB, Bool.and_eq_true, decide_eq_true_eq]
  omega
 unfold bilV
 rw [ht, hc, hv, linB_okA, hok, hB, hbil]
 exact ⟨rfl, rfl⟩
theorem bounds35_plain (t : GTariff) (c : GCalendar) (f to e : Int) (s : GSession) (hto : i64b to) (hst : i64b s.To) : g_law35_QuoteBounds 36893488147419103232 t c f to e s = some true := by
 unfold g_law35_QuoteBounds
 generalize hn : (36893488147419103232 : Nat) = n
 have hh : g_law35_head n = some true := by rw [← hn]; exact head35_big
 obtain ⟨b, f1, f2⟩ := few35 n t c s
 rw [hh, Option.bind_some, f1, Option.bind_some]
 cases b
 ·rfl
 have f3 := f2 rfl
 rw [Bool.not_true, cond_false, q_covers n s f to e (by omega) (by omega) hto hst, Option.bind_some, Option.bind_some]
 cases hcov : covB s f to e
 ·rfl
 rw [Bool.not_true, cond_false, q_quote n t c f to e (by omega) (by omega) (by omega) hto, Option.bind_some, eqI_d]
 by_cases h0 : (quoV t c f to e).2 = 0
 rotate_left
 ·rw [decide_eq_false h0]; rfl
 rw [decide_eq_true h0, Bool.not_true, cond_false, b_billV n t c s (by omega) (by omega) (by omega) (by omega) hst, Option.bind_some, cond_true, eqI_d]
 obtain ⟨ht, hc, hL, g1, g2, g3⟩ := quo_ok h0
 obtain ⟨hall, hlen⟩ := tariffB_spec ht
 have hv : valB s = true := by
  simp only [covB, Bool.and_eq_true] at hcov
  exact hcov.1.1.1.2
 have hle := sumA_Q c s t.Articles f to e hlen hall hcov
 have hp : ∀ a ∈ t.Articles, 0 ≤ cosF c s a := fun a ha => (r_line 10000 c a s (Nat.le_refl _) (by omega) (by omega) hc (hall a ha) hv).2
 have m1 := (sumA_mem c s t.Articles hp).1
 have hpr : ∀ a ∈ t.Articles, 0 ≤ a.Price := fun a ha => (artB_art (hall a ha)).price.1
 have k1 := capF_range t.Articles _ hpr m1
 have k2 := capF_range t.Articles (sumQ c t.Articles (to - f).toNat f e) hpr (by omega)
 have k3 := capF_mono t.Articles hle
 have hrt := rateQ hall
 have k4 := tax_mono (R := rateF 0 t.Articles) (R' := rateF 0 t.Articles) k1.1 k3 (by omega) hrt.1 (Int.le_refl _) hrt.2
 rw [g2] at g3
 obtain ⟨q1, q2⟩ := bill_val t c s ht hc hv (by omega) (by omega) (by omega) (by omega)
 rw [q1, q2, g2, decide_eq_true rfl, cond_true, show leI _ _ = true from decide_eq_true (show _ ≤ _ by omega)]
end Go.Proofs
namespace Go.Proofs.Ytehocmildcedeaa
open Go Go.Abs Go.Proofs
theorem quoteBounds_holds : Rows.QuoteBoundsSaid :=
 quoteBounds_said (fun t c f to e s _ _ _ h2 _ hs => ⟨_, bounds35_plain t c f to e s h2 hs.To⟩)
end Go.Proofs.Ytehocmildcedeaa
