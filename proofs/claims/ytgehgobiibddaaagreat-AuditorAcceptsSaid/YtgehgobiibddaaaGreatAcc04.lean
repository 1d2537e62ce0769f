/-
  A part of the proof of a statement of the seat YtgehgobiibddaaaGreat.
-/
import Derived.Test.YtgehgobiibddaaaGreatAcc03
namespace Go.Proofs
open Go Go.Abs
set_option maxRecDepth 100000
set_option linter.unusedVariables false
theorem g_a_caught_2_ok (n:Nat) (a0x_0:Int) (a1part:Int):∀ r,g_a_caught_2 n a0x_0 a1part=some r→ACall Tryz.prog 40 [.ifc 128 (.agg [I a0x_0]), .ptr 1001 0] (Go.Abs.look [(1001, .box 3 [I a1part])]) (heapR (fun r:Int=>((.ret (.tup []),[(1001, .box 3 [I r])]):AEnd × List (Nat × Blk))) r):=by
 refine acall_sim (X:=fun r:Int=>((.ret (.tup []),[(1001, .box 3 [I r])]):AEnd × List (Nat × Blk))) [(1001, .box 3 [I a1part])] Tryz.func40 rfl Tryz.ntmps40 rfl ?_
 unfold g_a_caught_2
 refine sS (sR tfm ⟨[0,1,7],[1001],[],[]⟩ ⟨[(0, .ifc 128 (.agg [I a0x_0])),(1, .ptr 1001 0),(7,B false)],[(1001, .box 3 [I a1part])]⟩ krf (sim_condF krf (sK (sN ⟨[0,1],[1001],[],[]⟩ ⟨[(0, .ifc 128 (.agg [I a0x_0])),(1, .ptr 1001 0)],[(1001, .box 3 [I a1part])]⟩ krf (sR tfm ⟨[0,1,4,5],[4,1001],[],[]⟩ ⟨[(0, .ifc 128 (.agg [I a0x_0])),(1, .ptr 1001 0),(4, .ptr 4 0),(5,B true)],[(4, .box 128 [I a0x_0]),(1001, .box 3 [I a1part])]⟩ krf (sS (sR tfm ⟨[0,1,4,5,14],[4,1001],[],[]⟩ ⟨[(0, .ifc 128 (.agg [I a0x_0])),(1, .ptr 1001 0),(4, .ptr 4 0),(5,B true),(14,B false)],[(4, .box 128 [I a0x_0]),(1001, .box 3 [I a1part])]⟩ krf ?_)))))))
 refine sim_condF krf (sK (sN ⟨[1,4,5],[4,1001],[],[]⟩ ⟨[(1, .ptr 1001 0),(4, .ptr 4 0),(5,B true)],[(4, .box 128 [I a0x_0]),(1001, .box 3 [I a1part])]⟩ krf (sL tfm krf ?_)))
 exact hq_n (.id) [1001] [] krf krf krf krf
def g_a_examine_j12 (n:Nat) (a0c:GClaim) (a1own:Bool) (r10:GAE):Option (GAE × Int) :=
 (g_ae_add n r10).bind (exc (fun r13 =>
  cond (!a1own)
   ((g_a_need n true 5).bind (exc (fun r16 =>
    (g_a_caught n 0).bind fun r18 =>
    some (r13,r18)) fun e17=>(g_a_caught_2 n e17 0).bind fun r19 =>
   some (r13,r19)))
   (cond (eqI a0c.Bill.Net r13.bill.Net)
    (cond (eqI a0c.Bill.Tax r13.bill.Tax)
     ((g_a_need n (eqI a0c.Bill.Total r13.bill.Total) 5).bind (exc (fun r22 =>
      (g_a_caught n 0).bind fun r24 =>
      some (r13,r24)) fun e23=>(g_a_caught_2 n e23 0).bind fun r25 =>
     some (r13,r25)))
     ((g_a_need n false 5).bind (exc (fun r26 =>
      (g_a_caught n 0).bind fun r28 =>
      some (r13,r28)) fun e27=>(g_a_caught_2 n e27 0).bind fun r29 =>
     some (r13,r29))))
    ((g_a_need n false 5).bind (exc (fun r30 =>
     (g_a_caught n 0).bind fun r32 =>
     some (r13,r32)) fun e31=>(g_a_caught_2 n e31 0).bind fun r33 =>
    some (r13,r33))))) fun e14=>(g_a_caught_2 n e14.1 0).bind fun r34 =>
 some (e14.2,r34))
def g_a_examine_j9 (n:Nat) (a0c:GClaim) (a1own:Bool) (r7:GAE):Option (GAE × Int) :=
 (g_ae_price n (⟨r7.Claim,r7.follows,(⟨[],r7.bill.Net,r7.bill.Tax,r7.bill.Total⟩:GBill),r7.rate⟩:GAE)).bind (exc (fun r10 =>
  cond (!a1own)
   ((g_a_need n true 4).bind (exc (fun r36 =>
    g_a_examine_j12 n a0c a1own r10) fun e37=>(g_a_caught_2 n e37 0).bind fun r38 =>
   some (r10,r38)))
   ((g_a_same_api_Line n a0c.Bill.Lines r10.bill.Lines).bind fun r39 =>
   (g_a_need n r39 4).bind (exc (fun r40 =>
    g_a_examine_j12 n a0c a1own r10) fun e41=>(g_a_caught_2 n e41 0).bind fun r42 =>
   some (r10,r42)))) fun e11=>(g_a_caught_2 n e11.1 0).bind fun r43 =>
 some (e11.2,r43))
def g_a_examine (n:Nat) (a0c:GClaim) (a1own:Bool):Option (GAE × Int) :=
 (g_ae_chained n (⟨a0c,(⟨0,0,0,[]⟩:GSs),(⟨[],0,0,0⟩:GBill),0⟩:GAE)).bind (exc (fun r1 =>
  (g_ae_tariffed n (⟨a0c,(⟨0,0,0,[]⟩:GSs),(⟨[],0,0,0⟩:GBill),0⟩:GAE)).bind (exc (fun r3 =>
   (g_ae_dated n (⟨r3.Claim,(⟨r3.follows.From,r3.follows.To,r3.follows.End,[]⟩:GSs),(⟨[],r3.bill.Net,r3.bill.Tax,r3.bill.Total⟩:GBill),r3.rate⟩:GAE)).bind (exc (fun r5 =>
    (g_ae_derive n (⟨r3.Claim,(⟨r3.follows.From,r3.follows.To,r3.follows.End,[]⟩:GSs),(⟨[],r3.bill.Net,r3.bill.Tax,r3.bill.Total⟩:GBill),r3.rate⟩:GAE)).bind (exc (fun r7 =>
     cond a1own
      ((g_ae_compared n (⟨r7.Claim,r7.follows,(⟨[],r7.bill.Net,r7.bill.Tax,r7.bill.Total⟩:GBill),r7.rate⟩:GAE)).bind (exc (fun r44 =>
       g_a_examine_j9 n a0c a1own r7) fun e45=>(g_a_caught_2 n e45 0).bind fun r46 =>
      some ((⟨r7.Claim,r7.follows,(⟨[],r7.bill.Net,r7.bill.Tax,r7.bill.Total⟩:GBill),r7.rate⟩:GAE),r46)))
      (g_a_examine_j9 n a0c a1own r7)) fun e8=>(g_a_caught_2 n e8.1 0).bind fun r47 =>
    some ((⟨e8.2.Claim,e8.2.follows,(⟨[],e8.2.bill.Net,e8.2.bill.Tax,e8.2.bill.Total⟩:GBill),e8.2.rate⟩:GAE),r47))) fun e6=>(g_a_caught_2 n e6 0).bind fun r48 =>
   some ((⟨r3.Claim,(⟨r3.follows.From,r3.follows.To,r3.follows.End,[]⟩:GSs),(⟨[],r3.bill.Net,r3.bill.Tax,r3.bill.Total⟩:GBill),r3.rate⟩:GAE),r48))) fun e4=>(g_a_caught_2 n e4.1 0).bind fun r49 =>
  some ((⟨e4.2.Claim,(⟨e4.2.follows.From,e4.2.follows.To,e4.2.follows.End,[]⟩:GSs),(⟨[],e4.2.bill.Net,e4.2.bill.Tax,e4.2.bill.Total⟩:GBill),e4.2.rate⟩:GAE),r49))) fun e2=>(g_a_caught_2 n e2 0).bind fun r50 =>
 some ((⟨a0c,(⟨0,0,0,[]⟩:GSs),(⟨[],0,0,0⟩:GBill),0⟩:GAE),r50))
theorem g_a_examine_ok (n:Nat) (a0c:GClaim) (a1own:Bool):∀ r,g_a_examine n a0c a1own=some r→ACall Tryz.prog 21 [ag (GClaim.cs a0c),B a1own] (Go.Abs.look []) (heapR (fun r:GAE × Int=>((.ret (.tup [.ptr 9 0,I r.2]),[(9, .box 67 (bxc (GAE.cs r.1)))]):AEnd × List (Nat × Blk))) r):=by
 refine defer_sim (X:=fun r:GAE × Int=>((.ret (.tup [.ptr 9 0,I r.2]),[(9, .box 67 (bxc (GAE.cs r.1)))]):AEnd × List (Nat × Blk))) [] (⟨Tryz.f39,_,_,_,1,_,_,Tryz.func39,rfl,rfl,rfl,rfl,rfl,rfl,by decide,by decide,rfl,by kernel_rfl⟩:Catcher Tryz.prog 39 40) (⟨_,_,_,_,_,5,6,_,rfl,rfl,rfl,rfl,rfl,rfl,rfl,by decide⟩:Deferrer Tryz.f21 39) 5 Tryz.func21 Tryz.ntmps21 rfl krf rfl tfm rfl krf krf krf ?_
 unfold g_a_examine
 refine sP ⟨[1,2,4,5],[2,2000],[],[]⟩ ⟨[(1,B a1own),(2, .ptr 2 0),(4, .p (.val (.pointer none))),(5, .ptr 2000 0)],[(2, .box 41 (bxc (GClaim.cs a0c))),(2000, .box 3 [I 0])]⟩ krf (sR tfm ⟨[1,2,4,5],[2,9,2000],[],[]⟩ ⟨[(1,B a1own),(2, .ptr 2 0),(4, .ptr 9 0),(5, .ptr 2000 0)],[(2, .box 41 (bxc (GClaim.cs a0c))),(9, .box 67 (List.set (List.set (bxc (GAE.cs ⟨a0c,(⟨0,0,0,[]⟩:GSs),(⟨[],0,0,0⟩:GBill),0⟩)) 18 (zS)) 19 (zS))),(2000, .box 3 [I 0])]⟩ krf (sS (sG (xR 1 krf ?_))))
 refine xs_roE [.ro [.id, .id, .id, .id, .id, .id, .id, .id, .id, .id, .id, .id, .id, .id, .id, .id, .id, .id, .sl 2, .sl 2, .id, .id, .id, .id]] krf (g_ae_chained_ok n (⟨a0c,(⟨0,0,0,[]⟩:GSs),(⟨[],0,0,0⟩:GBill),0⟩:GAE)) krf krf (fun _=>by kernel_rfl) (fun _=>by kernel_rfl) (fun r1=>?_) (fun e2=>?_)
 ·refine xE (sN ⟨[1,2,4,5],[2,9,2000],[],[]⟩ ⟨[(1,B a1own),(2, .ptr 2 0),(4, .ptr 9 0),(5, .ptr 2000 0)],[(2, .box 41 (bxc (GClaim.cs a0c))),(9, .box 67 (List.set (List.set (bxc (GAE.cs ⟨a0c,(⟨0,0,0,[]⟩:GSs),(⟨[],0,0,0⟩:GBill),0⟩)) 18 (zS)) 19 (zS))),(2000, .box 3 [I 0])]⟩ krf (sS (sG (xR 1 krf ?_))))
  refine xs_heapE [(1000,9)] [] [] krf (g_ae_tariffed_ok n (⟨a0c,(⟨0,0,0,[]⟩:GSs),(⟨[],0,0,0⟩:GBill),0⟩:GAE)) krf krf krf (fun _=>by kernel_rfl) (fun _=>by kernel_rfl) (fun _=>by kernel_rfl) (fun _=>by kernel_rfl) (fun r3=>?_) (fun e4=>?_)
  ·refine xE (sN ⟨[1,2,4,5],[2,9,2000],[],[]⟩ ⟨[(1,B a1own),(2, .ptr 2 0),(4, .ptr 9 0),(5, .ptr 2000 0)],[(2, .box 41 (bxc (GClaim.cs a0c))),(9, .box 67 (List.set (List.set (bxc (GAE.cs ⟨r3.Claim,(⟨r3.follows.From,r3.follows.To,r3.follows.End,[]⟩:GSs),(⟨[],r3.bill.Net,r3.bill.Tax,r3.bill.Total⟩:GBill),r3.rate⟩)) 18 (zS)) 19 (zS))),(2000, .box 3 [I 0])]⟩ krf (sS (sG (xR 1 krf ?_))))
   refine xs_roE [.ro [.id, .id, .id, .id, .id, .id, .id, .id, .id, .id, .id, .id, .id, .id, .id, .id, .id, .id, .sl 2, .sl 2, .id, .id, .id, .id]] krf (g_ae_dated_ok n (⟨r3.Claim,(⟨r3.follows.From,r3.follows.To,r3.follows.End,[]⟩:GSs),(⟨[],r3.bill.Net,r3.bill.Tax,r3.bill.Total⟩:GBill),r3.rate⟩:GAE)) krf krf (fun _=>by kernel_rfl) (fun _=>by kernel_rfl) (fun r5=>?_) (fun e6=>?_)
   ·refine xE (sN ⟨[1,2,4,5],[2,9,2000],[],[]⟩ ⟨[(1,B a1own),(2, .ptr 2 0),(4, .ptr 9 0),(5, .ptr 2000 0)],[(2, .box 41 (bxc (GClaim.cs a0c))),(9, .box 67 (List.set (List.set (bxc (GAE.cs ⟨r3.Claim,(⟨r3.follows.From,r3.follows.To,r3.follows.End,[]⟩:GSs),(⟨[],r3.bill.Net,r3.bill.Tax,r3.bill.Total⟩:GBill),r3.rate⟩)) 18 (zS)) 19 (zS))),(2000, .box 3 [I 0])]⟩ krf (sS (sG (xR 1 krf ?_))))
    refine xs_heapE [(1000,9)] [] [] krf (g_ae_derive_ok n (⟨r3.Claim,(⟨r3.follows.From,r3.follows.To,r3.follows.End,[]⟩:GSs),(⟨[],r3.bill.Net,r3.bill.Tax,r3.bill.Total⟩:GBill),r3.rate⟩:GAE)) krf krf krf (fun _=>by kernel_rfl) (fun _=>by kernel_rfl) (fun _=>by kernel_rfl) (fun _=>by kernel_rfl) (fun r7=>?_) (fun e8=>?_)
    ·refine xE (sN ⟨[1,2,4,5],[2,9,2000],[],[]⟩ ⟨[(1,B a1own),(2, .ptr 2 0),(4, .ptr 9 0),(5, .ptr 2000 0)],[(2, .box 41 (bxc (GClaim.cs a0c))),(9, .box 67 (List.set (bxc (GAE.cs ⟨r7.Claim,r7.follows,(⟨[],r7.bill.Net,r7.bill.Tax,r7.bill.Total⟩:GBill),r7.rate⟩)) 19 (zS))),(2000, .box 3 [I 0])]⟩ krf (sim_cps (fun _=>⟨[(1,B a1own),(2, .ptr 2 0),(4, .ptr 9 0),(5, .ptr 2000 0)],[(2, .box 41 (bxc (GClaim.cs a0c))),(9, .box 67 (List.set (bxc (GAE.cs ⟨r7.Claim,r7.follows,(⟨[],r7.bill.Net,r7.bill.Tax,r7.bill.Total⟩:GBill),r7.rate⟩)) 19 (zS))),(2000, .box 3 [I 0])]⟩:Unit→St) (fun _=>g_a_examine_j9 n a0c a1own r7) ?_ ?_))
     ·rintro _
      show SimE (g_a_examine_j9 n a0c a1own r7) _ _ _ _ _ _
      unfold g_a_examine_j9
      refine sS (sG (xR 1 krf ?_))
      refine xs_heapE [(1000,9)] [] [] krf (g_ae_price_ok n (⟨r7.Claim,r7.follows,(⟨[],r7.bill.Net,r7.bill.Tax,r7.bill.Total⟩:GBill),r7.rate⟩:GAE)) krf krf krf (fun _=>by kernel_rfl) (fun _=>by kernel_rfl) (fun _=>by kernel_rfl) (fun _=>by kernel_rfl) (fun r10=>?_) (fun e11=>?_)
      ·refine xE (sN ⟨[1,2,4,5],[2,9,2000],[],[]⟩ ⟨[(1,B a1own),(2, .ptr 2 0),(4, .ptr 9 0),(5, .ptr 2000 0)],[(2, .box 41 (bxc (GClaim.cs a0c))),(9, .box 67 (bxc (GAE.cs r10))),(2000, .box 3 [I 0])]⟩ krf (sim_cps (fun _=>⟨[(1,B a1own),(2, .ptr 2 0),(4, .ptr 9 0),(5, .ptr 2000 0)],[(2, .box 41 (bxc (GClaim.cs a0c))),(9, .box 67 (bxc (GAE.cs r10))),(2000, .box 3 [I 0])]⟩:Unit→St) (fun _=>g_a_examine_j12 n a0c a1own r10) ?_ ?_))
       ·rintro _
        show SimE (g_a_examine_j12 n a0c a1own r10) _ _ _ _ _ _
        unfold g_a_examine_j12
        refine sS (sG (xR 1 krf ?_))
        refine xs_heapE [(1000,9)] [] [] krf (g_ae_add_ok n r10) krf krf krf (fun _=>by kernel_rfl) (fun _=>by kernel_rfl) (fun _=>by kernel_rfl) (fun _=>by kernel_rfl) (fun r13=>?_) (fun e14=>?_)
        ·refine xE (sN ⟨[1,2,4,5],[2,9,2000],[],[]⟩ ⟨[(1,B a1own),(2, .ptr 2 0),(4, .ptr 9 0),(5, .ptr 2000 0)],[(2, .box 41 (bxc (GClaim.cs a0c))),(9, .box 67 (bxc (GAE.cs r13))),(2000, .box 3 [I 0])]⟩ krf (sS (sim_drw tfm rfl (xR 3 krf ?_))))
         refine xS (!a1own) (fun h15=>?_) (fun h15=>?_)
         ·refine xN (want_ft krf h15) krf (xR 31 krf ?_)
          refine xs_excL [] krf (g_a_need_ok n true 5) krf krf (fun _=>by kernel_rfl) (fun _=>by kernel_rfl) (fun r16=>?_) (fun e17=>?_)
          ·refine sN ⟨[4,5],[9,2000],[],[]⟩ ⟨[(4, .ptr 9 0),(5, .ptr 2000 0)],[(9, .box 67 (bxc (GAE.cs r13))),(2000, .box 3 [I 0])]⟩ krf (sR tfm ⟨[4,5],[9,2000],[],[]⟩ ⟨[(4, .ptr 9 0),(5, .ptr 2000 0)],[(9, .box 67 (bxc (GAE.cs r13))),(2000, .box 3 [I 0])]⟩ krf (sT (dq_ret ?_)))
           refine sc_heap [(1001,2000)] [] [] (g_a_caught_ok n 0) krf krf krf (fun _=>by kernel_rfl) (fun _=>by kernel_rfl) (fun r18=>?_)
           exact ke_end (.id) [9] [] krf krf krf krf
          ·refine sq_p (dq_p ?_)
           refine sc_heap [(1001,2000)] [] [] (g_a_caught_2_ok n e17 0) krf krf krf (fun _=>by kernel_rfl) (fun _=>by kernel_rfl) (fun r19=>?_)
           exact ke_end (.id) [9] [] krf krf krf krf
         ·refine xO (want_ff krf h15) krf (xR 9 krf ?_)
          refine xS (eqI a0c.Bill.Net r13.bill.Net) (fun h20=>?_) (fun h20=>?_)
          ·refine xO (want_tt krf h20) krf (xR 10 krf ?_)
           refine xS (eqI a0c.Bill.Tax r13.bill.Tax) (fun h21=>?_) (fun h21=>?_)
           ·refine xO (want_tt krf h21) krf (xR 10 krf ?_)
            refine xs_excL [] krf (g_a_need_ok n (eqI a0c.Bill.Total r13.bill.Total) 5) krf krf (fun _=>by kernel_rfl) (fun _=>by kernel_rfl) (fun r22=>?_) (fun e23=>?_)
            ·refine sN ⟨[4,5],[9,2000],[],[]⟩ ⟨[(4, .ptr 9 0),(5, .ptr 2000 0)],[(9, .box 67 (bxc (GAE.cs r13))),(2000, .box 3 [I 0])]⟩ krf (sR tfm ⟨[4,5],[9,2000],[],[]⟩ ⟨[(4, .ptr 9 0),(5, .ptr 2000 0)],[(9, .box 67 (bxc (GAE.cs r13))),(2000, .box 3 [I 0])]⟩ krf (sT (dq_ret ?_)))
             refine sc_heap [(1001,2000)] [] [] (g_a_caught_ok n 0) krf krf krf (fun _=>by kernel_rfl) (fun _=>by kernel_rfl) (fun r24=>?_)
             exact ke_end (.id) [9] [] krf krf krf krf
            ·refine sq_p (dq_p ?_)
             refine sc_heap [(1001,2000)] [] [] (g_a_caught_2_ok n e23 0) krf krf krf (fun _=>by kernel_rfl) (fun _=>by kernel_rfl) (fun r25=>?_)
             exact ke_end (.id) [9] [] krf krf krf krf
           ·refine xN (want_tf krf h21) krf (xR 10 krf ?_)
            refine xs_excL [] krf (g_a_need_ok n false 5) krf krf (fun _=>by kernel_rfl) (fun _=>by kernel_rfl) (fun r26=>?_) (fun e27=>?_)
            ·refine sN ⟨[4,5],[9,2000],[],[]⟩ ⟨[(4, .ptr 9 0),(5, .ptr 2000 0)],[(9, .box 67 (bxc (GAE.cs r13))),(2000, .box 3 [I 0])]⟩ krf (sR tfm ⟨[4,5],[9,2000],[],[]⟩ ⟨[(4, .ptr 9 0),(5, .ptr 2000 0)],[(9, .box 67 (bxc (GAE.cs r13))),(2000, .box 3 [I 0])]⟩ krf (sT (dq_ret ?_)))
             refine sc_heap [(1001,2000)] [] [] (g_a_caught_ok n 0) krf krf krf (fun _=>by kernel_rfl) (fun _=>by kernel_rfl) (fun r28=>?_)
             exact ke_end (.id) [9] [] krf krf krf krf
            ·refine sq_p (dq_p ?_)
             refine sc_heap [(1001,2000)] [] [] (g_a_caught_2_ok n e27 0) krf krf krf (fun _=>by kernel_rfl) (fun _=>by kernel_rfl) (fun r29=>?_)
             exact ke_end (.id) [9] [] krf krf krf krf
          ·refine xN (want_tf krf h20) krf (xR 21 krf ?_)
           refine xs_excL [] krf (g_a_need_ok n false 5) krf krf (fun _=>by kernel_rfl) (fun _=>by kernel_rfl) (fun r30=>?_) (fun e31=>?_)
           ·refine sN ⟨[4,5],[9,2000],[],[]⟩ ⟨[(4, .ptr 9 0),(5, .ptr 2000 0)],[(9, .box 67 (bxc (GAE.cs r13))),(2000, .box 3 [I 0])]⟩ krf (sR tfm ⟨[4,5],[9,2000],[],[]⟩ ⟨[(4, .ptr 9 0),(5, .ptr 2000 0)],[(9, .box 67 (bxc (GAE.cs r13))),(2000, .box 3 [I 0])]⟩ krf (sT (dq_ret ?_)))
            refine sc_heap [(1001,2000)] [] [] (g_a_caught_ok n 0) krf krf krf (fun _=>by kernel_rfl) (fun _=>by kernel_rfl) (fun r32=>?_)
            exact ke_end (.id) [9] [] krf krf krf krf
           ·refine sq_p (dq_p ?_)
            refine sc_heap [(1001,2000)] [] [] (g_a_caught_2_ok n e31 0) krf krf krf (fun _=>by kernel_rfl) (fun _=>by kernel_rfl) (fun r33=>?_)
            exact ke_end (.id) [9] [] krf krf krf krf
        ·refine sq_p (dq_p ?_)
         refine sc_heap [(1001,2000)] [] [] (g_a_caught_2_ok n e14.1 0) krf krf krf (fun _=>by kernel_rfl) (fun _=>by kernel_rfl) (fun r34=>?_)
         exact ke_end (.id) [9] [] krf krf krf krf
       ·refine sim_drw tfm rfl (xR 3 krf ?_)
        refine xS (!a1own) (fun h35=>?_) (fun h35=>?_)
        ·refine xN (want_ft krf h35) krf (xR 9 krf ?_)
         refine xs_excL [] krf (g_a_need_ok n true 4) krf krf (fun _=>by kernel_rfl) (fun _=>by kernel_rfl) (fun r36=>?_) (fun e37=>?_)
         ·exact kq_n (k:=fun _=>g_a_examine_j12 n a0c a1own r10) () ⟨[1,2,4,5],[2,9,2000],[],[]⟩ krf
         ·refine kq_p (dq_p ?_)
          refine sc_heap [(1001,2000)] [] [] (g_a_caught_2_ok n e37 0) krf krf krf (fun _=>by kernel_rfl) (fun _=>by kernel_rfl) (fun r38=>?_)
          exact ke_end (.id) [9] [] krf krf krf krf
        ·refine xO (want_ff krf h35) krf (xR 7 krf ?_)
         refine xC [] krf (g_a_same_api_Line_ok n a0c.Bill.Lines r10.bill.Lines) krf krf (fun _=>by kernel_rfl) (fun r39=>?_)
         refine xR 1 krf ?_
         refine xs_excL [] krf (g_a_need_ok n r39 4) krf krf (fun _=>by kernel_rfl) (fun _=>by kernel_rfl) (fun r40=>?_) (fun e41=>?_)
         ·exact kq_n (k:=fun _=>g_a_examine_j12 n a0c a1own r10) () ⟨[1,2,4,5],[2,9,2000],[],[]⟩ krf
         ·refine kq_p (dq_p ?_)
          refine sc_heap [(1001,2000)] [] [] (g_a_caught_2_ok n e41 0) krf krf krf (fun _=>by kernel_rfl) (fun _=>by kernel_rfl) (fun r42=>?_)
          exact ke_end (.id) [9] [] krf krf krf krf
      ·refine sq_p (dq_p ?_)
       refine sc_heap [(1001,2000)] [] [] (g_a_caught_2_ok n e11.1 0) krf krf krf (fun _=>by kernel_rfl) (fun _=>by kernel_rfl) (fun r43=>?_)
       exact ke_end (.id) [9] [] krf krf krf krf
     ·refine sR tfm ⟨[1,2,4,5,18],[2,9,2000],[],[]⟩ ⟨[(1,B a1own),(2, .ptr 2 0),(4, .ptr 9 0),(5, .ptr 2000 0),(18,B a1own)],[(2, .box 41 (bxc (GClaim.cs a0c))),(9, .box 67 (List.set (bxc (GAE.cs ⟨r7.Claim,r7.follows,(⟨[],r7.bill.Net,r7.bill.Tax,r7.bill.Total⟩:GBill),r7.rate⟩)) 19 (zS))),(2000, .box 3 [I 0])]⟩ krf (sC a1own krf ?_ ?_)
      ·refine sG (xR 1 krf ?_)
       refine xs_roE [.ro [.id, .id, .id, .id, .id, .id, .id, .id, .id, .id, .id, .id, .id, .id, .id, .id, .id, .id, .id, .sl 2, .id, .id, .id, .id]] krf (g_ae_compared_ok n (⟨r7.Claim,r7.follows,(⟨[],r7.bill.Net,r7.bill.Tax,r7.bill.Total⟩:GBill),r7.rate⟩:GAE)) krf krf (fun _=>by kernel_rfl) (fun _=>by kernel_rfl) (fun r44=>?_) (fun e45=>?_)
       ·refine xE ?_
        exact kq_n (k:=fun _=>g_a_examine_j9 n a0c a1own r7) () ⟨[1,2,4,5],[2,9,2000],[],[]⟩ krf
       ·refine kq_p (dq_p ?_)
        refine sc_heap [(1001,2000)] [] [] (g_a_caught_2_ok n e45 0) krf krf krf (fun _=>by kernel_rfl) (fun _=>by kernel_rfl) (fun r46=>?_)
        exact ke_end (.id) [9] [(9,[.id, .id, .id, .id, .id, .id, .id, .id, .id, .id, .id, .id, .id, .id, .id, .id, .id, .id, .id, .sl 2, .id, .id, .id, .id])] krf krf krf krf
      ·refine sK ?_
       exact kq_n (k:=fun _=>g_a_examine_j9 n a0c a1own r7) () ⟨[1,2,4,5],[2,9,2000],[],[]⟩ krf
    ·refine sq_p (dq_p ?_)
     refine sc_heap [(1001,2000)] [] [] (g_a_caught_2_ok n e8.1 0) krf krf krf (fun _=>by kernel_rfl) (fun _=>by kernel_rfl) (fun r47=>?_)
     exact ke_end (.id) [9] [(9,[.id, .id, .id, .id, .id, .id, .id, .id, .id, .id, .id, .id, .id, .id, .id, .id, .id, .id, .id, .sl 2, .id, .id, .id, .id])] krf krf krf krf
   ·refine sq_p (dq_p ?_)
    refine sc_heap [(1001,2000)] [] [] (g_a_caught_2_ok n e6 0) krf krf krf (fun _=>by kernel_rfl) (fun _=>by kernel_rfl) (fun r48=>?_)
    exact ke_end (.id) [9] [(9,[.id, .id, .id, .id, .id, .id, .id, .id, .id, .id, .id, .id, .id, .id, .id, .id, .id, .id, .sl 2, .sl 2, .id, .id, .id, .id])] krf krf krf krf
  ·refine sq_p (dq_p ?_)
   refine sc_heap [(1001,2000)] [] [] (g_a_caught_2_ok n e4.1 0) krf krf krf (fun _=>by kernel_rfl) (fun _=>by kernel_rfl) (fun r49=>?_)
   exact ke_end (.id) [9] [(9,[.id, .id, .id, .id, .id, .id, .id, .id, .id, .id, .id, .id, .id, .id, .id, .id, .id, .id, .sl 2, .sl 2, .id, .id, .id, .id])] krf krf krf krf
 ·refine sq_p (dq_p ?_)
  refine sc_heap [(1001,2000)] [] [] (g_a_caught_2_ok n e2 0) krf krf krf (fun _=>by kernel_rfl) (fun _=>by kernel_rfl) (fun r50=>?_)
  exact ke_end (.id) [9] [(9,[.id, .id, .id, .id, .id, .id, .id, .id, .id, .id, .id, .id, .id, .id, .id, .id, .id, .id, .sl 2, .sl 2, .id, .id, .id, .id])] krf krf krf krf
def g_a_Replay (n:Nat) (a0c:GClaim):Option (GBill × Int) :=
 (g_a_examine n a0c false).bind fun r1 =>
 cond (eqI r1.2 0)
  (some (r1.1.bill,0))
  (cond (eqI r1.2 1)
   (some ((⟨[],0,0,0⟩:GBill),11))
   (cond (eqI r1.2 2)
    (some ((⟨[],0,0,0⟩:GBill),1))
    (cond (eqI r1.2 3)
     (some ((⟨[],0,0,0⟩:GBill),6))
     (some ((⟨[],0,0,0⟩:GBill),3)))))
theorem g_a_Replay_ok (n:Nat) (a0c:GClaim):∀ r,g_a_Replay n a0c=some r→PCall Tryz.prog 9 [ag (GClaim.cs a0c)] (.ret (.tup [ag (GBill.cs r.1),I r.2])):=by
 refine pcall_sim (X:=fun r:GBill × Int=>AEnd.ret (.tup [ag (GBill.cs r.1),I r.2])) Tryz.func9 rfl Tryz.ntmps9 rfl ?_
 unfold g_a_Replay
 refine sR tfm ⟨[1,2],[1,2],[],[]⟩ ⟨[(1, .ptr 1 0),(2, .ptr 2 0)],[(1, .box 41 (bxc (GClaim.cs a0c))),(2, .box 39 [zS,I 0,I 0,I 0])]⟩ krf (sS (sG (xR 1 krf ?_)))
 refine xs_heap [(9,409)] [] [] krf (g_a_examine_ok n a0c false) krf krf krf (fun _=>by kernel_rfl) (fun _=>by kernel_rfl) (fun r1=>?_)
 refine xR 5 krf (xE (sN ⟨[2,4,5],[2,409],[],[]⟩ ⟨[(2, .ptr 2 0),(4, .ptr 409 0),(5,I r1.2)],[(2, .box 39 [zS,I 0,I 0,I 0]),(409, .box 67 (bxc (GAE.cs r1.1)))]⟩ krf (sS (sR tfm ⟨[2,4,11],[2,409],[],[]⟩ ⟨[(2, .ptr 2 0),(4, .ptr 409 0),(11,I r1.2)],[(2, .box 39 [zS,I 0,I 0,I 0]),(409, .box 67 (bxc (GAE.cs r1.1)))]⟩ krf (sB (sR tfm ⟨[2,4,11,12],[2,409],[],[]⟩ ⟨[(2, .ptr 2 0),(4, .ptr 409 0),(11,I r1.2),(12,B (eqI r1.2 0))],[(2, .box 39 [zS,I 0,I 0,I 0]),(409, .box 67 (bxc (GAE.cs r1.1)))]⟩ krf (sC (eqI r1.2 0) krf ?_ ?_)))))))
 ·refine sR tfm ⟨[2,3],[2],[],[]⟩ ⟨[(2, .ptr 2 0),(3,I 0)],[(2, .box 39 (bxc (GBill.cs r1.1.bill)))]⟩ krf (sT (bq_r (sq_r ?_)))
  exact qR (.id) krf krf krf
 ·refine sR tfm ⟨[2,11,18],[2],[],[]⟩ ⟨[(2, .ptr 2 0),(11,I r1.2),(18,B (eqI r1.2 1))],[(2, .box 39 [zS,I 0,I 0,I 0])]⟩ krf (sC (eqI r1.2 1) krf ?_ ?_)
  ·refine sR tfm ⟨[2,3],[2],[],[]⟩ ⟨[(2, .ptr 2 0),(3,I 11)],[(2, .box 39 [zS,I 0,I 0,I 0])]⟩ krf (sT (bq_r (sq_r ?_)))
   exact qR (.agg [.agg [.sl 2, .id, .id, .id], .id]) krf krf krf
  ·refine sR tfm ⟨[2,11,21],[2],[],[]⟩ ⟨[(2, .ptr 2 0),(11,I r1.2),(21,B (eqI r1.2 2))],[(2, .box 39 [zS,I 0,I 0,I 0])]⟩ krf (sC (eqI r1.2 2) krf ?_ ?_)
   ·refine sR tfm ⟨[2,3],[2],[],[]⟩ ⟨[(2, .ptr 2 0),(3,I 1)],[(2, .box 39 [zS,I 0,I 0,I 0])]⟩ krf (sT (bq_r (sq_r ?_)))
    exact qR (.agg [.agg [.sl 2, .id, .id, .id], .id]) krf krf krf
   ·refine sR tfm ⟨[2,24],[2],[],[]⟩ ⟨[(2, .ptr 2 0),(24,B (eqI r1.2 3))],[(2, .box 39 [zS,I 0,I 0,I 0])]⟩ krf (sC (eqI r1.2 3) krf ?_ ?_)
    ·refine sR tfm ⟨[2,3],[2],[],[]⟩ ⟨[(2, .ptr 2 0),(3,I 6)],[(2, .box 39 [zS,I 0,I 0,I 0])]⟩ krf (sT (bq_r (sq_r ?_)))
     exact qR (.agg [.agg [.sl 2, .id, .id, .id], .id]) krf krf krf
    ·refine sK (bq_n (sN ⟨[2],[2],[],[]⟩ ⟨[(2, .ptr 2 0)],[(2, .box 39 [zS,I 0,I 0,I 0])]⟩ krf (sR tfm ⟨[2,3],[2],[],[]⟩ ⟨[(2, .ptr 2 0),(3,I 3)],[(2, .box 39 [zS,I 0,I 0,I 0])]⟩ krf (sT ?_))))
     exact qR (.agg [.agg [.sl 2, .id, .id, .id], .id]) krf krf krf
def g_ref33_Same_j1 (a0a:GBill) (a1b:GBill):Option Bool :=
 cond (eqI a0a.Net a1b.Net)
  (cond (eqI a0a.Tax a1b.Tax)
   (some (eqI a0a.Total a1b.Total))
   (some false))
  (some false)
def g_ref33_Same_l4 (a0a:GBill) (a1b:GBill) (recl4:Int→Option Bool) (l4:Int):Option Bool :=
 cond (ltI l4 (lenI (List.map GLine.cs a0a.Lines)))
  ((getI a0a.Lines l4).bind fun x5 =>
  (getI a1b.Lines l4).bind fun x6 =>
  cond (!opq ((eqI x5.Article x6.Article)&&((eqI x5.Amount x6.Amount)&&true)))
   (some false)
   (recl4 (wi (l4+1))))
  (g_ref33_Same_j1 a0a a1b)
def g_ref33_Same (n:Nat) (a0a:GBill) (a1b:GBill):Option Bool :=
 cond (!eqI (lenI (List.map GLine.cs a0a.Lines)) (lenI (List.map GLine.cs a1b.Lines)))
  (some false)
  (loopN (fun recl4 l4=>g_ref33_Same_l4 a0a a1b recl4 l4) n 0)
theorem g_ref33_Same_ok (n:Nat) (a0a:GBill) (a1b:GBill):∀ r,g_ref33_Same n a0a a1b=some r→PCall Tryz.prog 11 [ag (GBill.cs a0a),ag (GBill.cs a1b)] (.ret (B r)):=by
 refine pcall_sim (X:=fun r:Bool=>AEnd.ret (B r)) Tryz.func11 rfl Tryz.ntmps11 rfl ?_
 unfold g_ref33_Same
 refine sR tfm ⟨[2,3],[2,3],[],[]⟩ ⟨[(2, .ptr 2 0),(3, .ptr 3 0)],[(2, .box 39 (bxc (GBill.cs a0a))),(3, .box 39 (bxc (GBill.cs a1b)))]⟩ krf (sS (sR tfm ⟨[2,3,12],[2,3],[],[]⟩ ⟨[(2, .ptr 2 0),(3, .ptr 3 0),(12,B (!eqI (lenI (mLine a0a.Lines)) (lenI (mLine a1b.Lines))))],[(2, .box 39 (bxc (GBill.cs a0a))),(3, .box 39 (bxc (GBill.cs a1b)))]⟩ krf (sC (!eqI (lenI (mLine a0a.Lines)) (lenI (mLine a1b.Lines))) krf ?_ ?_)))
 ·refine sR tfm ⟨[4],[],[],[]⟩ ⟨[(4,B false)],[]⟩ krf (sT (sq_r ?_))
  exact qR (.id) krf krf krf
 ·refine sK (sN ⟨[2,3],[2,3],[],[]⟩ ⟨[(2, .ptr 2 0),(3, .ptr 3 0)],[(2, .box 39 (bxc (GBill.cs a0a))),(3, .box 39 (bxc (GBill.cs a1b)))]⟩ krf (sim_cps (fun _=>⟨[(2, .ptr 2 0),(3, .ptr 3 0)],[(2, .box 39 (bxc (GBill.cs a0a))),(3, .box 39 (bxc (GBill.cs a1b)))]⟩:Unit→St) (fun _=>g_ref33_Same_j1 a0a a1b) ?_ ?_))
  ·rintro _
   show SimE (g_ref33_Same_j1 a0a a1b) _ _ _ _ _ _
   unfold g_ref33_Same_j1
   refine sS (sG (xR 6 krf ?_))
   refine xS (eqI a0a.Net a1b.Net) (fun h2=>?_) (fun h2=>?_)
   ·refine xO (want_tt krf h2) krf (xR 6 krf ?_)
    refine xS (eqI a0a.Tax a1b.Tax) (fun h3=>?_) (fun h3=>?_)
    ·refine xO (want_tt krf h3) krf (xR 6 krf (xE (sN ⟨[4],[],[],[]⟩ ⟨[(4,B (eqI a0a.Total a1b.Total))],[]⟩ krf (sT ?_))))
     exact qR (.id) krf krf krf
    ·refine xN (want_tf krf h3) krf (xR 6 krf (xE (sN ⟨[4],[],[],[]⟩ ⟨[(4,B false)],[]⟩ krf (sT ?_))))
     exact qR (.id) krf krf krf
   ·refine xN (want_tf krf h2) krf (xR 13 krf (xE (sN ⟨[4],[],[],[]⟩ ⟨[(4,B false)],[]⟩ krf (sT ?_))))
    exact qR (.id) krf krf krf
  ·refine sR tfm ⟨[2,3,5],[2,3],[],[]⟩ ⟨[(2, .ptr 2 0),(3, .ptr 3 0),(5,I 0)],[(2, .box 39 (bxc (GBill.cs a0a))),(3, .box 39 (bxc (GBill.cs a1b)))]⟩ krf (sB (sim_loop (fun l4=>⟨[(2, .ptr 2 0),(3, .ptr 3 0),(5,I l4)],[(2, .box 39 (bxc (GBill.cs a0a))),(3, .box 39 (bxc (GBill.cs a1b)))]⟩:Int→St) (weak_shr (K:=⟨[2,3,5],[2,3],[],[]⟩) krf) ?_))
   rintro recl4 l4
   show SimE (g_ref33_Same_l4 a0a a1b recl4 l4) _ _ _ _ _ _
   unfold g_ref33_Same_l4
   refine sS (sR tfm ⟨[2,3,5,17],[2,3],[],[]⟩ ⟨[(2, .ptr 2 0),(3, .ptr 3 0),(5,I l4),(17,B (ltI l4 (lenI (mLine a0a.Lines))))],[(2, .box 39 (bxc (GBill.cs a0a))),(3, .box 39 (bxc (GBill.cs a1b)))]⟩ krf (sC (ltI l4 (lenI (mLine a0a.Lines))) krf ?_ ?_))
   ·refine sK (sN ⟨[2,3,5],[2,3],[],[]⟩ ⟨[(2, .ptr 2 0),(3, .ptr 3 0),(5,I l4)],[(2, .box 39 (bxc (GBill.cs a0a))),(3, .box 39 (bxc (GBill.cs a1b)))]⟩ krf (sS (sB (sS (sim_drw tfm rfl (xR 3 krf ?_))))))
    refine xG krf krf (aop_idx (e:=69) (S:=2) (enc:=GLine.cs) (l:=a0a.Lines) (k:=.i64) (n:=l4) (sv:=.p (.sl 2 (mLine a0a.Lines))) rfl krf krf krf krf krf) (fun x5=>?_)
    refine xR 4 krf ?_
    refine xG krf krf (aop_idx (e:=69) (S:=2) (enc:=GLine.cs) (l:=a1b.Lines) (k:=.i64) (n:=l4) (sv:=.p (.sl 2 (mLine a1b.Lines))) rfl krf krf krf krf krf) (fun x6=>?_)
    refine xR 1 krf (xs_u krf krf (aop_neq (xs:=[I x5.Article,I x5.Amount]) (ys:=[I x6.Article,I x6.Amount]) (vx:=[.int .i64 x5.Article, .int .i64 x5.Amount]) (vy:=[.int .i64 x6.Article, .int .i64 x6.Amount]) (b:=(eqI x5.Article x6.Article)&&((eqI x5.Amount x6.Amount)&&true)) rfl krf krf krf krf krf krf) (xs_endD krf (sN ⟨[2,3,5,30],[2,3],[],[]⟩ ⟨[(2, .ptr 2 0),(3, .ptr 3 0),(5,I l4),(30,B (!opq ((eqI x5.Article x6.Article)&&((eqI x5.Amount x6.Amount)&&true))))],[(2, .box 39 (bxc (GBill.cs a0a))),(3, .box 39 (bxc (GBill.cs a1b)))]⟩ krf (sC (!opq ((eqI x5.Article x6.Article)&&((eqI x5.Amount x6.Amount)&&true))) krf ?_ ?_))))
    ·refine sR tfm ⟨[4],[],[],[]⟩ ⟨[(4,B false)],[]⟩ krf (sT (bq_r (sq_r (kq_r (bq_r (kq_r ?_))))))
     exact qR (.id) krf krf krf
    ·refine sK (bq_n (sN ⟨[2,3,5],[2,3],[],[]⟩ ⟨[(2, .ptr 2 0),(3, .ptr 3 0),(5,I l4)],[(2, .box 39 (bxc (GBill.cs a0a))),(3, .box 39 (bxc (GBill.cs a1b)))]⟩ krf (sL tfm krf ?_)))
     exact kq_n (wi (l4+1)) ⟨[2,3,5],[2,3],[],[]⟩ krf
   ·refine sim_exit (sq_x (kq_x (bq_hit ?_)))
    exact kq_n (k:=fun _=>g_ref33_Same_j1 a0a a1b) () ⟨[2,3],[2,3],[],[]⟩ krf
def g_a_Verify (n:Nat) (a0c:GClaim):Option Int :=
 (g_a_examine n a0c true).bind fun r1 =>
 some r1.2
theorem g_a_Verify_ok (n:Nat) (a0c:GClaim):∀ r,g_a_Verify n a0c=some r→PCall Tryz.prog 10 [ag (GClaim.cs a0c)] (.ret (I r)):=by
 refine pcall_sim (X:=fun r:Int=>AEnd.ret (I r)) Tryz.func10 rfl Tryz.ntmps10 rfl ?_
 unfold g_a_Verify
 refine sR tfm ⟨[1],[1],[],[]⟩ ⟨[(1, .ptr 1 0)],[(1, .box 41 (bxc (GClaim.cs a0c)))]⟩ krf (sS (sG (xR 1 krf ?_)))
 refine xs_heap [(9,409)] [] [] krf (g_a_examine_ok n a0c true) krf krf krf (fun _=>by kernel_rfl) (fun _=>by kernel_rfl) (fun r1=>?_)
 refine xR 5 krf (xE (sN ⟨[4],[],[],[]⟩ ⟨[(4,I r1.2)],[]⟩ krf (sR tfm ⟨[2],[],[],[]⟩ ⟨[(2,I r1.2)],[]⟩ krf (sT ?_))))
 exact qR (.id) krf krf krf
def g_law43_head (n:Nat):Option Bool :=
 (g_law43_example n).bind fun r1 =>
 cond (!eqI (lenI (List.map GReading.cs r1.Readings)) 3)
  (some false)
  ((g_a_Replay n r1).bind fun r2 =>
  cond (sliceB 0 1 (List.length r1.Bill.Lines)) (
   (cond (eqI r2.2 0)
    ((g_ref33_Same n r2.1 r1.Bill).bind fun r5 =>
    cond r5
     ((g_a_Verify n r1).bind fun r7 =>
     cond (eqI r7 0)
      ((g_a_Verify n (⟨r1.Tariff,r1.Calendar,r1.Readings,wu (r1.Seed+1),r1.Session,r1.Bill⟩:GClaim)).bind fun r9 =>
      cond (eqI r9 1)
       ((g_a_Verify n (⟨r1.Tariff,r1.Calendar,[],r1.Seed,r1.Session,r1.Bill⟩:GClaim)).bind fun r11 =>
       cond (eqI r11 1)
        ((g_a_Verify n (⟨(⟨[116,97,120],r1.Tariff.Articles⟩:GTf),r1.Calendar,r1.Readings,r1.Seed,r1.Session,r1.Bill⟩:GClaim)).bind fun r13 =>
        cond (eqI r13 2)
         ((g_a_Verify n (⟨r1.Tariff,r1.Calendar,r1.Readings,r1.Seed,(⟨r1.Session.From,r1.Session.To,wi (r1.Session.End+1),r1.Session.Slices⟩:GSs),r1.Bill⟩:GClaim)).bind fun r15 =>
         cond (eqI r15 3)
          ((g_a_Verify n (⟨r1.Tariff,r1.Calendar,r1.Readings,r1.Seed,r1.Session,(⟨List.drop (Int.toNat 0) (List.take (Int.toNat 1) r1.Bill.Lines),r1.Bill.Net,r1.Bill.Tax,r1.Bill.Total⟩:GBill)⟩:GClaim)).bind fun r17 =>
          cond (eqI r17 4)
           ((g_a_Verify n (⟨r1.Tariff,r1.Calendar,r1.Readings,r1.Seed,r1.Session,(⟨r1.Bill.Lines,r1.Bill.Net,r1.Bill.Tax,wi (r1.Bill.Total+1)⟩:GBill)⟩:GClaim)).bind fun r19 =>
           some (eqI r19 5))
           (some false))
          (some false))
         (some false))
        (some false))
       (some false))
      (some false))
     (some false))
    (some false)).bind fun j3 =>
   some j3) none)
theorem g_law43_head_ok (n:Nat):∀ r,g_law43_head n=some r→PCall Tryz.prog 6 [] (.ret (B r)):=by
 refine pcall_sim (X:=fun r:Bool=>AEnd.ret (B r)) Tryz.func6 rfl Tryz.ntmps6 rfl ?_
 unfold g_law43_head
 refine sR tfm ⟨[],[],[],[]⟩ ⟨[],[]⟩ krf (sS (sG ?_))
 refine xC [] krf (g_law43_example_ok n) krf krf (fun _=>by kernel_rfl) (fun r1=>?_)
 refine xR 2 krf (xE (sN ⟨[1],[1],[],[]⟩ ⟨[(1, .ptr 1 0)],[(1, .box 41 (bxc (GClaim.cs r1)))]⟩ krf (sS (sR tfm ⟨[1,14],[1],[],[]⟩ ⟨[(1, .ptr 1 0),(14,B (!eqI (lenI (mReading r1.Readings)) 3))],[(1, .box 41 (bxc (GClaim.cs r1)))]⟩ krf (sC (!eqI (lenI (mReading r1.Readings)) 3) krf ?_ ?_)))))
 ·refine sR tfm ⟨[0],[],[],[]⟩ ⟨[(0,B false)],[]⟩ krf (sT (sq_r ?_))
  exact qR (.id) krf krf krf
 ·refine sK (sN ⟨[1],[1],[],[]⟩ ⟨[(1, .ptr 1 0)],[(1, .box 41 (bxc (GClaim.cs r1)))]⟩ krf (sS (sG (xR 1 krf ?_))))
  refine xC [] krf (g_a_Replay_ok n r1) krf krf (fun _=>by kernel_rfl) (fun r2=>?_)
  refine xR 6 krf (xE (sN ⟨[1,2,3],[1,2],[],[]⟩ ⟨[(1, .ptr 1 0),(2, .ptr 2 0),(3,I r2.2)],[(1, .box 41 (bxc (GClaim.cs r1))),(2, .box 39 (bxc (GBill.cs r2.1)))]⟩ krf (sR tfm ⟨[1,2,3,4,5,6,7,8],[1,2,4,5,6,7,8],[],[]⟩ ⟨[(1, .ptr 1 0),(2, .ptr 2 0),(3,I r2.2),(4, .ptr 4 0),(5, .ptr 5 0),(6, .ptr 6 0),(7, .ptr 7 0),(8, .ptr 8 0)],[(1, .box 41 (bxc (GClaim.cs r1))),(2, .box 39 (bxc (GBill.cs r2.1))),(4, .box 41 (bxc (GClaim.cs r1))),(5, .box 41 (bxc (GClaim.cs r1))),(6, .box 41 (bxc (GClaim.cs r1))),(7, .box 41 (bxc (GClaim.cs r1))),(8, .box 41 (bxc (GClaim.cs r1)))]⟩ krf (sR tfm ⟨[1,2,3,4,5,6,7,8],[1,2,4,5,6,7,8],[],[]⟩ ⟨[(1, .ptr 1 0),(2, .ptr 2 0),(3,I r2.2),(4, .ptr 4 0),(5, .ptr 5 0),(6, .ptr 6 0),(7, .ptr 7 0),(8, .ptr 8 0)],[(1, .box 41 (bxc (GClaim.cs r1))),(2, .box 39 (bxc (GBill.cs r2.1))),(4, .box 41 (bxc (GClaim.cs ⟨r1.Tariff,r1.Calendar,r1.Readings,wu (r1.Seed+1),r1.Session,r1.Bill⟩))),(5, .box 41 (bxc (GClaim.cs r1))),(6, .box 41 (bxc (GClaim.cs r1))),(7, .box 41 (bxc (GClaim.cs r1))),(8, .box 41 (bxc (GClaim.cs r1)))]⟩ krf (sR tfm ⟨[1,2,3,4,5,6,7,8],[1,2,4,5,6,7,8],[],[]⟩ ⟨[(1, .ptr 1 0),(2, .ptr 2 0),(3,I r2.2),(4, .ptr 4 0),(5, .ptr 5 0),(6, .ptr 6 0),(7, .ptr 7 0),(8, .ptr 8 0)],[(1, .box 41 (bxc (GClaim.cs r1))),(2, .box 39 (bxc (GBill.cs r2.1))),(4, .box 41 (bxc (GClaim.cs ⟨r1.Tariff,r1.Calendar,r1.Readings,wu (r1.Seed+1),r1.Session,r1.Bill⟩))),(5, .box 41 (bxc (GClaim.cs ⟨(⟨[116,97,120],r1.Tariff.Articles⟩:GTf),r1.Calendar,r1.Readings,r1.Seed,r1.Session,r1.Bill⟩))),(6, .box 41 (bxc (GClaim.cs r1))),(7, .box 41 (bxc (GClaim.cs r1))),(8, .box 41 (bxc (GClaim.cs r1)))]⟩ krf (sR tfm ⟨[1,2,3,4,5,6,7,8],[1,2,4,5,6,7,8],[],[]⟩ ⟨[(1, .ptr 1 0),(2, .ptr 2 0),(3,I r2.2),(4, .ptr 4 0),(5, .ptr 5 0),(6, .ptr 6 0),(7, .ptr 7 0),(8, .ptr 8 0)],[(1, .box 41 (bxc (GClaim.cs r1))),(2, .box 39 (bxc (GBill.cs r2.1))),(4, .box 41 (bxc (GClaim.cs ⟨r1.Tariff,r1.Calendar,r1.Readings,wu (r1.Seed+1),r1.Session,r1.Bill⟩))),(5, .box 41 (bxc (GClaim.cs ⟨(⟨[116,97,120],r1.Tariff.Articles⟩:GTf),r1.Calendar,r1.Readings,r1.Seed,r1.Session,r1.Bill⟩))),(6, .box 41 (bxc (GClaim.cs ⟨r1.Tariff,r1.Calendar,r1.Readings,r1.Seed,(⟨r1.Session.From,r1.Session.To,wi (r1.Session.End+1),r1.Session.Slices⟩:GSs),r1.Bill⟩))),(7, .box 41 (bxc (GClaim.cs r1))),(8, .box 41 (bxc (GClaim.cs r1)))]⟩ krf (sS ?_)))))))
  refine sG (xR 3 krf (xF krf krf (aop_slice (e:=69) (S:=2) (enc:=GLine.cs) (l:=r1.Bill.Lines) (sv:=.p (.sl 2 (mLine r1.Bill.Lines))) (a:=0) (b:=1) rfl krf krf krf krf krf krf) (xR 3 krf (xE (sN ⟨[1,2,3,4,5,6,7,8],[1,2,4,5,6,7,8],[],[]⟩ ⟨[(1, .ptr 1 0),(2, .ptr 2 0),(3,I r2.2),(4, .ptr 4 0),(5, .ptr 5 0),(6, .ptr 6 0),(7, .ptr 7 0),(8, .ptr 8 0)],[(1, .box 41 (bxc (GClaim.cs r1))),(2, .box 39 (bxc (GBill.cs r2.1))),(4, .box 41 (bxc (GClaim.cs ⟨r1.Tariff,r1.Calendar,r1.Readings,wu (r1.Seed+1),r1.Session,r1.Bill⟩))),(5, .box 41 (bxc (GClaim.cs ⟨(⟨[116,97,120],r1.Tariff.Articles⟩:GTf),r1.Calendar,r1.Readings,r1.Seed,r1.Session,r1.Bill⟩))),(6, .box 41 (bxc (GClaim.cs ⟨r1.Tariff,r1.Calendar,r1.Readings,r1.Seed,(⟨r1.Session.From,r1.Session.To,wi (r1.Session.End+1),r1.Session.Slices⟩:GSs),r1.Bill⟩))),(7, .box 41 (bxc (GClaim.cs ⟨r1.Tariff,r1.Calendar,r1.Readings,r1.Seed,r1.Session,(⟨List.drop (Int.toNat 0) (List.take (Int.toNat 1) r1.Bill.Lines),r1.Bill.Net,r1.Bill.Tax,r1.Bill.Total⟩:GBill)⟩))),(8, .box 41 (bxc (GClaim.cs r1)))]⟩ krf (sR tfm ⟨[1,2,3,4,5,6,7,8],[1,2,4,5,6,7,8],[],[]⟩ ⟨[(1, .ptr 1 0),(2, .ptr 2 0),(3,I r2.2),(4, .ptr 4 0),(5, .ptr 5 0),(6, .ptr 6 0),(7, .ptr 7 0),(8, .ptr 8 0)],[(1, .box 41 (bxc (GClaim.cs r1))),(2, .box 39 (bxc (GBill.cs r2.1))),(4, .box 41 (bxc (GClaim.cs ⟨r1.Tariff,r1.Calendar,r1.Readings,wu (r1.Seed+1),r1.Session,r1.Bill⟩))),(5, .box 41 (bxc (GClaim.cs ⟨(⟨[116,97,120],r1.Tariff.Articles⟩:GTf),r1.Calendar,r1.Readings,r1.Seed,r1.Session,r1.Bill⟩))),(6, .box 41 (bxc (GClaim.cs ⟨r1.Tariff,r1.Calendar,r1.Readings,r1.Seed,(⟨r1.Session.From,r1.Session.To,wi (r1.Session.End+1),r1.Session.Slices⟩:GSs),r1.Bill⟩))),(7, .box 41 (bxc (GClaim.cs ⟨r1.Tariff,r1.Calendar,r1.Readings,r1.Seed,r1.Session,(⟨List.drop (Int.toNat 0) (List.take (Int.toNat 1) r1.Bill.Lines),r1.Bill.Net,r1.Bill.Tax,r1.Bill.Total⟩:GBill)⟩))),(8, .box 41 (bxc (GClaim.cs ⟨r1.Tariff,r1.Calendar,r1.Readings,r1.Seed,r1.Session,(⟨r1.Bill.Lines,r1.Bill.Net,r1.Bill.Tax,wi (r1.Bill.Total+1)⟩:GBill)⟩)))]⟩ krf (sR tfm ⟨[1,2,3,4,5,6,7,8,9],[1,2,4,5,6,7,8,9],[],[]⟩ ⟨[(1, .ptr 1 0),(2, .ptr 2 0),(3,I r2.2),(4, .ptr 4 0),(5, .ptr 5 0),(6, .ptr 6 0),(7, .ptr 7 0),(8, .ptr 8 0),(9, .ptr 9 0)],[(1, .box 41 (bxc (GClaim.cs r1))),(2, .box 39 (bxc (GBill.cs r2.1))),(4, .box 41 (bxc (GClaim.cs ⟨r1.Tariff,r1.Calendar,r1.Readings,wu (r1.Seed+1),r1.Session,r1.Bill⟩))),(5, .box 41 (bxc (GClaim.cs ⟨(⟨[116,97,120],r1.Tariff.Articles⟩:GTf),r1.Calendar,r1.Readings,r1.Seed,r1.Session,r1.Bill⟩))),(6, .box 41 (bxc (GClaim.cs ⟨r1.Tariff,r1.Calendar,r1.Readings,r1.Seed,(⟨r1.Session.From,r1.Session.To,wi (r1.Session.End+1),r1.Session.Slices⟩:GSs),r1.Bill⟩))),(7, .box 41 (bxc (GClaim.cs ⟨r1.Tariff,r1.Calendar,r1.Readings,r1.Seed,r1.Session,(⟨List.drop (Int.toNat 0) (List.take (Int.toNat 1) r1.Bill.Lines),r1.Bill.Net,r1.Bill.Tax,r1.Bill.Total⟩:GBill)⟩))),(8, .box 41 (bxc (GClaim.cs ⟨r1.Tariff,r1.Calendar,r1.Readings,r1.Seed,r1.Session,(⟨r1.Bill.Lines,r1.Bill.Net,r1.Bill.Tax,wi (r1.Bill.Total+1)⟩:GBill)⟩))),(9, .box 41 (bxc (GClaim.cs r1)))]⟩ krf ?_)))))))
  refine sR tfm ⟨[1,2,3,4,5,6,7,8,9],[1,2,4,5,6,7,8,9],[],[]⟩ ⟨[(1, .ptr 1 0),(2, .ptr 2 0),(3,I r2.2),(4, .ptr 4 0),(5, .ptr 5 0),(6, .ptr 6 0),(7, .ptr 7 0),(8, .ptr 8 0),(9, .ptr 9 0)],[(1, .box 41 (bxc (GClaim.cs r1))),(2, .box 39 (bxc (GBill.cs r2.1))),(4, .box 41 (bxc (GClaim.cs ⟨r1.Tariff,r1.Calendar,r1.Readings,wu (r1.Seed+1),r1.Session,r1.Bill⟩))),(5, .box 41 (bxc (GClaim.cs ⟨(⟨[116,97,120],r1.Tariff.Articles⟩:GTf),r1.Calendar,r1.Readings,r1.Seed,r1.Session,r1.Bill⟩))),(6, .box 41 (bxc (GClaim.cs ⟨r1.Tariff,r1.Calendar,r1.Readings,r1.Seed,(⟨r1.Session.From,r1.Session.To,wi (r1.Session.End+1),r1.Session.Slices⟩:GSs),r1.Bill⟩))),(7, .box 41 (bxc (GClaim.cs ⟨r1.Tariff,r1.Calendar,r1.Readings,r1.Seed,r1.Session,(⟨List.drop (Int.toNat 0) (List.take (Int.toNat 1) r1.Bill.Lines),r1.Bill.Net,r1.Bill.Tax,r1.Bill.Total⟩:GBill)⟩))),(8, .box 41 (bxc (GClaim.cs ⟨r1.Tariff,r1.Calendar,r1.Readings,r1.Seed,r1.Session,(⟨r1.Bill.Lines,r1.Bill.Net,r1.Bill.Tax,wi (r1.Bill.Total+1)⟩:GBill)⟩))),(9, .box 41 (List.set (bxc (GClaim.cs ⟨r1.Tariff,r1.Calendar,[],r1.Seed,r1.Session,r1.Bill⟩)) 5 (zS)))]⟩ krf (sim_bind (fun j3=>⟨[(0,B j3)],[]⟩:Bool→St) ?_ ?_)
  ·refine sG (xR 3 krf ?_)
   refine xS (eqI r2.2 0) (fun h4=>?_) (fun h4=>?_)
   ·refine xO (want_tt krf h4) krf (xR 2 krf ?_)
    refine xC [] krf (g_ref33_Same_ok n r2.1 r1.Bill) krf krf (fun _=>by kernel_rfl) (fun r5=>?_)
    refine xR 2 krf ?_
    refine xS r5 (fun h6=>?_) (fun h6=>?_)
    ·refine xO (want_tt krf h6) krf ?_
     refine xC [] krf (g_a_Verify_ok n r1) krf krf (fun _=>by kernel_rfl) (fun r7=>?_)
     refine xR 3 krf ?_
     refine xS (eqI r7 0) (fun h8=>?_) (fun h8=>?_)
     ·refine xO (want_tt krf h8) krf ?_
      refine xC [] krf (g_a_Verify_ok n (⟨r1.Tariff,r1.Calendar,r1.Readings,wu (r1.Seed+1),r1.Session,r1.Bill⟩:GClaim)) krf krf (fun _=>by kernel_rfl) (fun r9=>?_)
      refine xR 3 krf ?_
      refine xS (eqI r9 1) (fun h10=>?_) (fun h10=>?_)
      ·refine xO (want_tt krf h10) krf ?_
       refine xC [.agg [.id, .id, .id, .id, .id, .sl 5, .id, .id, .id, .id, .id, .id, .id, .id, .id]] krf (g_a_Verify_ok n (⟨r1.Tariff,r1.Calendar,[],r1.Seed,r1.Session,r1.Bill⟩:GClaim)) krf krf (fun _=>by kernel_rfl) (fun r11=>?_)
       refine xR 3 krf ?_
       refine xS (eqI r11 1) (fun h12=>?_) (fun h12=>?_)
       ·refine xO (want_tt krf h12) krf ?_
        refine xC [] krf (g_a_Verify_ok n (⟨(⟨[116,97,120],r1.Tariff.Articles⟩:GTf),r1.Calendar,r1.Readings,r1.Seed,r1.Session,r1.Bill⟩:GClaim)) krf krf (fun _=>by kernel_rfl) (fun r13=>?_)
        refine xR 3 krf ?_
        refine xS (eqI r13 2) (fun h14=>?_) (fun h14=>?_)
        ·refine xO (want_tt krf h14) krf ?_
         refine xC [] krf (g_a_Verify_ok n (⟨r1.Tariff,r1.Calendar,r1.Readings,r1.Seed,(⟨r1.Session.From,r1.Session.To,wi (r1.Session.End+1),r1.Session.Slices⟩:GSs),r1.Bill⟩:GClaim)) krf krf (fun _=>by kernel_rfl) (fun r15=>?_)
         refine xR 3 krf ?_
         refine xS (eqI r15 3) (fun h16=>?_) (fun h16=>?_)
         ·refine xO (want_tt krf h16) krf ?_
          refine xC [] krf (g_a_Verify_ok n (⟨r1.Tariff,r1.Calendar,r1.Readings,r1.Seed,r1.Session,(⟨List.drop (Int.toNat 0) (List.take (Int.toNat 1) r1.Bill.Lines),r1.Bill.Net,r1.Bill.Tax,r1.Bill.Total⟩:GBill)⟩:GClaim)) krf krf (fun _=>by kernel_rfl) (fun r17=>?_)
          refine xR 3 krf ?_
          refine xS (eqI r17 4) (fun h18=>?_) (fun h18=>?_)
          ·refine xO (want_tt krf h18) krf ?_
           refine xC [] krf (g_a_Verify_ok n (⟨r1.Tariff,r1.Calendar,r1.Readings,r1.Seed,r1.Session,(⟨r1.Bill.Lines,r1.Bill.Net,r1.Bill.Tax,wi (r1.Bill.Total+1)⟩:GBill)⟩:GClaim)) krf krf (fun _=>by kernel_rfl) (fun r19=>?_)
           refine xR 3 krf (xE ?_)
           exact nq_n (eqI r19 5) ⟨[0],[],[],[]⟩ krf
          ·refine xN (want_tf krf h18) krf (xR 4 krf (xE ?_))
           exact nq_n false ⟨[0],[],[],[]⟩ krf
         ·refine xN (want_tf krf h16) krf (xR 9 krf (xE ?_))
          exact nq_n false ⟨[0],[],[],[]⟩ krf
        ·refine xN (want_tf krf h14) krf (xR 14 krf (xE ?_))
         exact nq_n false ⟨[0],[],[],[]⟩ krf
       ·refine xN (want_tf krf h12) krf (xR 19 krf (xE ?_))
        exact nq_n false ⟨[0],[],[],[]⟩ krf
      ·refine xN (want_tf krf h10) krf (xR 24 krf (xE ?_))
       exact nq_n false ⟨[0],[],[],[]⟩ krf
     ·refine xN (want_tf krf h8) krf (xR 29 krf (xE ?_))
      exact nq_n false ⟨[0],[],[],[]⟩ krf
    ·refine xN (want_tf krf h6) krf (xR 34 krf (xE ?_))
     exact nq_n false ⟨[0],[],[],[]⟩ krf
   ·refine xN (want_tf krf h4) krf (xR 40 krf (xE ?_))
    exact nq_n false ⟨[0],[],[],[]⟩ krf
  ·rintro j3
   refine sT ?_
   exact qR (.id) krf krf krf
def g_ref26_Few (n:Nat) (a0c:GCl):Option Bool :=
 cond (leI (lenI (List.map GCh.cs a0c.Changes)) 30)
  (some (leI (lenI (List.map ci a0c.Holidays)) 60))
  (some false)
theorem g_ref26_Few_ok (n:Nat) (a0c:GCl):∀ r,g_ref26_Few n a0c=some r→PCall Tryz.prog 19 [ag (GCl.cs a0c)] (.ret (B r)):=by
 refine pcall_sim (X:=fun r:Bool=>AEnd.ret (B r)) Tryz.func19 rfl Tryz.ntmps19 rfl ?_
 unfold g_ref26_Few
 refine sR tfm ⟨[1],[1],[],[]⟩ ⟨[(1, .ptr 1 0)],[(1, .box 28 (bxc (GCl.cs a0c)))]⟩ krf (sS (sG (xR 5 krf ?_)))
 refine xS (leI (lenI (mCh a0c.Changes)) 30) (fun h1=>?_) (fun h1=>?_)
 ·refine xO (want_tt krf h1) krf (xR 5 krf (xE (sN ⟨[2],[],[],[]⟩ ⟨[(2,B (leI (lenI (List.map ci a0c.Holidays)) 60))],[]⟩ krf (sT ?_))))
  exact qR (.id) krf krf krf
 ·refine xN (want_tf krf h1) krf (xR 5 krf (xE (sN ⟨[2],[],[],[]⟩ ⟨[(2,B false)],[]⟩ krf (sT ?_))))
  exact qR (.id) krf krf krf
def g_ref33_Few (n:Nat) (a0t:GTf) (a1c:GCl) (a2s:GSs):Option Bool :=
 (g_ref26_Few n a1c).bind fun r1 =>
 cond r1
  (cond (leI (lenI a0t.Name) 50)
   (cond (leI (lenI (List.map GAr.cs a0t.Articles)) 20)
    (some (leI (lenI (List.map GSl.cs a2s.Slices)) 60))
    (some false))
   (some false))
  (some false)
theorem g_ref33_Few_ok (n:Nat) (a0t:GTf) (a1c:GCl) (a2s:GSs):∀ r,g_ref33_Few n a0t a1c a2s=some r→PCall Tryz.prog 7 [ag (GTf.cs a0t),ag (GCl.cs a1c),ag (GSs.cs a2s)] (.ret (B r)):=by
 refine pcall_sim (X:=fun r:Bool=>AEnd.ret (B r)) Tryz.func7 rfl Tryz.ntmps7 rfl ?_
 unfold g_ref33_Few
 refine sR tfm ⟨[3,4,5],[3,4,5],[],[]⟩ ⟨[(3, .ptr 3 0),(4, .ptr 4 0),(5, .ptr 5 0)],[(3, .box 24 (bxc (GTf.cs a0t))),(4, .box 28 (bxc (GCl.cs a1c))),(5, .box 35 (bxc (GSs.cs a2s)))]⟩ krf (sS (sG (xR 1 krf ?_)))
 refine xC [] krf (g_ref26_Few_ok n a1c) krf krf (fun _=>by kernel_rfl) (fun r1=>?_)
 refine xR 1 krf (xE (sN ⟨[3,5,7],[3,5],[],[]⟩ ⟨[(3, .ptr 3 0),(5, .ptr 5 0),(7,B r1)],[(3, .box 24 (bxc (GTf.cs a0t))),(5, .box 35 (bxc (GSs.cs a2s)))]⟩ krf (sS (sG (xR 2 krf ?_)))))
 refine xS r1 (fun h2=>?_) (fun h2=>?_)
 ·refine xO (want_tt krf h2) krf (xR 5 krf ?_)
  refine xS (leI (lenI a0t.Name) 50) (fun h3=>?_) (fun h3=>?_)
  ·refine xO (want_tt krf h3) krf (xR 5 krf ?_)
   refine xS (leI (lenI (mAr a0t.Articles)) 20) (fun h4=>?_) (fun h4=>?_)
   ·refine xO (want_tt krf h4) krf (xR 5 krf (xE (sN ⟨[6],[],[],[]⟩ ⟨[(6,B (leI (lenI (mSl a2s.Slices)) 60))],[]⟩ krf (sT ?_))))
    exact qR (.id) krf krf krf
   ·refine xN (want_tf krf h4) krf (xR 5 krf (xE (sN ⟨[6],[],[],[]⟩ ⟨[(6,B false)],[]⟩ krf (sT ?_))))
    exact qR (.id) krf krf krf
  ·refine xN (want_tf krf h3) krf (xR 11 krf (xE (sN ⟨[6],[],[],[]⟩ ⟨[(6,B false)],[]⟩ krf (sT ?_))))
   exact qR (.id) krf krf krf
 ·refine xN (want_tf krf h2) krf (xR 17 krf (xE (sN ⟨[6],[],[],[]⟩ ⟨[(6,B false)],[]⟩ krf (sT ?_))))
  exact qR (.id) krf krf krf
def g_p_goodWord_l7 (a0text:List UInt8) (recl7:Int→Option Bool) (l7:Int):Option Bool :=
 cond (ltI l7 (lenI a0text))
  ((getI a0text l7).bind fun x8 =>
  (cond (leI 97 (b2i x8))
   (cond (leI (b2i x8) 122)
    (some false)
    (cond (leI 48 (b2i x8))
     (cond (leI (b2i x8) 57)
      (some false)
      (some (!(eqI (b2i x8) 95))))
     (some (!(eqI (b2i x8) 95)))))
   (cond (leI 48 (b2i x8))
    (cond (leI (b2i x8) 57)
     (some false)
     (some (!(eqI (b2i x8) 95))))
    (some (!(eqI (b2i x8) 95))))).bind fun j9 =>
  cond j9
   (some false)
   (recl7 (wi (l7+1))))
  (some true)
def g_p_goodWord (n:Nat) (a0text:List UInt8):Option Bool :=
 (cond (ltI (lenI a0text) 1)
  (some true)
  (cond (ltI 12 (lenI a0text))
   (some true)
   ((getI a0text 0).bind fun x4 =>
   cond (ltI (b2i x4) 97)
    (some true)
    ((getI a0text 0).bind fun x6 =>
    some (ltI 122 (b2i x6)))))).bind fun j1 =>
 cond j1
  (some false)
  (loopN (fun recl7 l7=>g_p_goodWord_l7 a0text recl7 l7) n 1)
theorem g_p_goodWord_ok (n:Nat) (a0text:List UInt8):∀ r,g_p_goodWord n a0text=some r→PCall Tryz.prog 104 [S a0text] (.ret (B r)):=by
 refine pcall_sim (X:=fun r:Bool=>AEnd.ret (B r)) Tryz.func104 rfl Tryz.ntmps104 rfl ?_
 unfold g_p_goodWord
 refine sR tfm ⟨[0],[],[],[]⟩ ⟨[(0,S a0text)],[]⟩ krf (sS (sim_bind (fun j1=>⟨[(0,S a0text),(6,I (lenI a0text)),(7,B (ltI (lenI a0text) 1)),(22,B j1)],[]⟩:Bool→St) ?_ ?_))
 ·refine sG (xR 4 krf ?_)
  refine xS (ltI (lenI a0text) 1) (fun h2=>?_) (fun h2=>?_)
  ·refine xN (want_ft krf h2) krf (xR 13 krf (xE ?_))
   exact nq_n true ⟨[0,6,7,22],[],[],[]⟩ krf
  ·refine xO (want_ff krf h2) krf (xR 4 krf ?_)
   refine xS (ltI 12 (lenI a0text)) (fun h3=>?_) (fun h3=>?_)
   ·refine xN (want_ft krf h3) krf (xR 8 krf (xE ?_))
    exact nq_n true ⟨[0,6,7,22],[],[],[]⟩ krf
   ·refine xO (want_ff krf h3) krf ?_
    refine xG krf krf (aop_sidx (l:=a0text) (k:=.i64) (n:=0) rfl krf krf krf) (fun x4=>?_)
    refine xR 3 krf ?_
    refine xS (ltI (b2i x4) 97) (fun h5=>?_) (fun h5=>?_)
    ·refine xN (want_ft krf h5) krf (xR 3 krf (xE ?_))
     exact nq_n true ⟨[0,6,7,22],[],[],[]⟩ krf
    ·refine xO (want_ff krf h5) krf ?_
     refine xG krf krf (aop_sidx (l:=a0text) (k:=.i64) (n:=0) rfl krf krf krf) (fun x6=>?_)
     refine xR 2 krf (xE ?_)
     exact nq_n (ltI 122 (b2i x6)) ⟨[0,6,7,22],[],[],[]⟩ krf
 ·rintro j1
  refine sC j1 krf ?_ ?_
  ·refine sR tfm ⟨[2],[],[],[]⟩ ⟨[(2,B false)],[]⟩ krf (sT (sq_r ?_))
   exact qR (.id) krf krf krf
  ·refine sK (sN ⟨[0,6,7],[],[],[]⟩ ⟨[(0,S a0text),(6,I (lenI a0text)),(7,B (ltI (lenI a0text) 1))],[]⟩ krf (sS (sR tfm ⟨[0,3,6,7],[],[],[]⟩ ⟨[(0,S a0text),(3,I 1),(6,I (lenI a0text)),(7,B (ltI (lenI a0text) 1))],[]⟩ krf (sB (sim_loop (fun l7=>⟨[(0,S a0text),(3,I l7),(6,I (lenI a0text)),(7,B (ltI (lenI a0text) 1))],[]⟩:Int→St) (weak_shr (K:=⟨[0,3,6,7],[],[],[]⟩) krf) ?_)))))
   rintro recl7 l7
   show SimE (g_p_goodWord_l7 a0text recl7 l7) _ _ _ _ _ _
   unfold g_p_goodWord_l7
   refine sS (sR tfm ⟨[0,3,6,7,26],[],[],[]⟩ ⟨[(0,S a0text),(3,I l7),(6,I (lenI a0text)),(7,B (ltI (lenI a0text) 1)),(26,B (ltI l7 (lenI a0text)))],[]⟩ krf (sC (ltI l7 (lenI a0text)) krf ?_ ?_))
   ·refine sK (sN ⟨[0,3,6,7],[],[],[]⟩ ⟨[(0,S a0text),(3,I l7),(6,I (lenI a0text)),(7,B (ltI (lenI a0text) 1))],[]⟩ krf (sS (sB (sS (sG (xR 2 krf ?_))))))
    refine xG krf krf (aop_sidx (l:=a0text) (k:=.i64) (n:=l7) rfl krf krf krf) (fun x8=>?_)
    refine xR 1 krf (xE (sN ⟨[0,3,4,6,7],[],[],[]⟩ ⟨[(0,S a0text),(3,I l7),(4,B8 (b2i x8)),(6,I (lenI a0text)),(7,B (ltI (lenI a0text) 1))],[]⟩ krf (sim_bind (fun j9=>⟨[(0,S a0text),(3,I l7),(6,I (lenI a0text)),(7,B (ltI (lenI a0text) 1)),(50,B j9)],[]⟩:Bool→St) ?_ ?_)))
    ·refine sG (xR 3 krf ?_)
     refine xS (leI 97 (b2i x8)) (fun h10=>?_) (fun h10=>?_)
     ·refine xO (want_tt krf h10) krf (xR 3 krf ?_)
      refine xS (leI (b2i x8) 122) (fun h11=>?_) (fun h11=>?_)
      ·refine xN (want_ft krf h11) krf (xR 11 krf (xE ?_))
       exact nq_n false ⟨[0,3,6,7,50],[],[],[]⟩ krf
      ·refine xO (want_ff krf h11) krf (xR 2 krf ?_)
       refine xS (leI 48 (b2i x8)) (fun h12=>?_) (fun h12=>?_)
       ·refine xO (want_tt krf h12) krf (xR 4 krf ?_)
        refine xS (leI (b2i x8) 57) (fun h13=>?_) (fun h13=>?_)
        ·refine xN (want_ft krf h13) krf (xR 3 krf (xE ?_))
         exact nq_n false ⟨[0,3,6,7,50],[],[],[]⟩ krf
        ·refine xO (want_ff krf h13) krf (xR 3 krf (xE ?_))
         exact nq_n (!(eqI (b2i x8) 95)) ⟨[0,3,6,7,50],[],[],[]⟩ krf
       ·refine xN (want_tf krf h12) krf (xR 8 krf (xE ?_))
        exact nq_n (!(eqI (b2i x8) 95)) ⟨[0,3,6,7,50],[],[],[]⟩ krf
     ·refine xN (want_tf krf h10) krf (xR 6 krf ?_)
      refine xS (leI 48 (b2i x8)) (fun h14=>?_) (fun h14=>?_)
      ·refine xO (want_tt krf h14) krf (xR 4 krf ?_)
       refine xS (leI (b2i x8) 57) (fun h15=>?_) (fun h15=>?_)
       ·refine xN (want_ft krf h15) krf (xR 3 krf (xE ?_))
        exact nq_n false ⟨[0,3,6,7,50],[],[],[]⟩ krf
       ·refine xO (want_ff krf h15) krf (xR 3 krf (xE ?_))
        exact nq_n (!(eqI (b2i x8) 95)) ⟨[0,3,6,7,50],[],[],[]⟩ krf
      ·refine xN (want_tf krf h14) krf (xR 8 krf (xE ?_))
       exact nq_n (!(eqI (b2i x8) 95)) ⟨[0,3,6,7,50],[],[],[]⟩ krf
    ·rintro j9
     refine sC j9 krf ?_ ?_
     ·refine sR tfm ⟨[2],[],[],[]⟩ ⟨[(2,B false)],[]⟩ krf (sT (bq_r (sq_r (kq_r (bq_r (sq_r ?_))))))
      exact qR (.id) krf krf krf
     ·refine sK (bq_n (sN ⟨[0,3,6,7],[],[],[]⟩ ⟨[(0,S a0text),(3,I l7),(6,I (lenI a0text)),(7,B (ltI (lenI a0text) 1))],[]⟩ krf (sL tfm krf ?_)))
      exact kq_n (wi (l7+1)) ⟨[0,3,6,7],[],[],[]⟩ krf
   ·refine sim_exit (sq_x (kq_x (bq_hit (sN ⟨[6,7],[],[],[]⟩ ⟨[(6,I (lenI a0text)),(7,B (ltI (lenI a0text) 1))],[]⟩ krf (sR tfm ⟨[2],[],[],[]⟩ ⟨[(2,B true)],[]⟩ krf (sT ?_))))))
    exact qR (.id) krf krf krf
def g_p_kindOf (n:Nat) (a0w:List UInt8):Option Int :=
 cond (eqS a0w [102,101,101,100,101,114])
  (some 1)
  (cond (eqS a0w [99,97,98,108,101])
   (some 2)
   (cond (eqS a0w [111,119,110,101,114])
    (some 3)
    (cond (eqS a0w [99,111,110,116,114,97,99,116])
     (some 4)
     (cond (eqS a0w [99,104,97,114,103,101,114])
      (some 5)
      (cond (eqS a0w [98,97,121])
       (some 6)
       (cond (eqS a0w [116,97,114,105,102,102])
        (some 7)
        (some 0)))))))
theorem g_p_kindOf_ok (n:Nat) (a0w:List UInt8):∀ r,g_p_kindOf n a0w=some r→PCall Tryz.prog 113 [S a0w] (.ret (I r)):=by
 refine pcall_sim (X:=fun r:Int=>AEnd.ret (I r)) Tryz.func113 rfl Tryz.ntmps113 rfl ?_
 unfold g_p_kindOf
 refine sR tfm ⟨[0],[],[],[]⟩ ⟨[(0,S a0w)],[]⟩ krf (sS (sR tfm ⟨[3],[],[],[]⟩ ⟨[(3,S a0w)],[]⟩ krf (sB (sR tfm ⟨[3,4],[],[],[]⟩ ⟨[(3,S a0w),(4,B (eqS a0w [102,101,101,100,101,114]))],[]⟩ krf (sC (eqS a0w [102,101,101,100,101,114]) krf ?_ ?_)))))
 ·refine sR tfm ⟨[2],[],[],[]⟩ ⟨[(2,I 1)],[]⟩ krf (sT (bq_r (sq_r ?_)))
  exact qR (.id) krf krf krf
 ·refine sR tfm ⟨[3,6,7],[],[],[]⟩ ⟨[(3,S a0w),(6,B (eqS a0w [99,97,98,108,101])),(7,B (eqS a0w [99,97,98,108,101]))],[]⟩ krf (sC (eqS a0w [99,97,98,108,101]) krf ?_ ?_)
  ·refine sR tfm ⟨[2],[],[],[]⟩ ⟨[(2,I 2)],[]⟩ krf (sT (bq_r (sq_r ?_)))
   exact qR (.id) krf krf krf
  ·refine sR tfm ⟨[3,6,7,8],[],[],[]⟩ ⟨[(3,S a0w),(6,B (eqS a0w [99,97,98,108,101])),(7,B (eqS a0w [99,97,98,108,101])),(8,B (eqS a0w [111,119,110,101,114]))],[]⟩ krf (sC (eqS a0w [111,119,110,101,114]) krf ?_ ?_)
   ·refine sR tfm ⟨[2],[],[],[]⟩ ⟨[(2,I 3)],[]⟩ krf (sT (bq_r (sq_r ?_)))
    exact qR (.id) krf krf krf
   ·refine sR tfm ⟨[3,6,7,10],[],[],[]⟩ ⟨[(3,S a0w),(6,B (eqS a0w [99,97,98,108,101])),(7,B (eqS a0w [99,97,98,108,101])),(10,B (eqS a0w [99,111,110,116,114,97,99,116]))],[]⟩ krf (sC (eqS a0w [99,111,110,116,114,97,99,116]) krf ?_ ?_)
    ·refine sR tfm ⟨[2],[],[],[]⟩ ⟨[(2,I 4)],[]⟩ krf (sT (bq_r (sq_r ?_)))
     exact qR (.id) krf krf krf
    ·refine sR tfm ⟨[3,6,7,12],[],[],[]⟩ ⟨[(3,S a0w),(6,B (eqS a0w [99,97,98,108,101])),(7,B (eqS a0w [99,97,98,108,101])),(12,B (eqS a0w [99,104,97,114,103,101,114]))],[]⟩ krf (sC (eqS a0w [99,104,97,114,103,101,114]) krf ?_ ?_)
     ·refine sR tfm ⟨[2],[],[],[]⟩ ⟨[(2,I 5)],[]⟩ krf (sT (bq_r (sq_r ?_)))
      exact qR (.id) krf krf krf
     ·refine sR tfm ⟨[3,6,7,14],[],[],[]⟩ ⟨[(3,S a0w),(6,B (eqS a0w [99,97,98,108,101])),(7,B (eqS a0w [99,97,98,108,101])),(14,B (eqS a0w [98,97,121]))],[]⟩ krf (sC (eqS a0w [98,97,121]) krf ?_ ?_)
      ·refine sR tfm ⟨[2],[],[],[]⟩ ⟨[(2,I 6)],[]⟩ krf (sT (bq_r (sq_r ?_)))
       exact qR (.id) krf krf krf
      ·refine sR tfm ⟨[6,7,16],[],[],[]⟩ ⟨[(6,B (eqS a0w [99,97,98,108,101])),(7,B (eqS a0w [99,97,98,108,101])),(16,B (eqS a0w [116,97,114,105,102,102]))],[]⟩ krf (sC (eqS a0w [116,97,114,105,102,102]) krf ?_ ?_)
       ·refine sR tfm ⟨[2],[],[],[]⟩ ⟨[(2,I 7)],[]⟩ krf (sT (bq_r (sq_r ?_)))
        exact qR (.id) krf krf krf
       ·refine sK (bq_n (sN ⟨[6,7],[],[],[]⟩ ⟨[(6,B (eqS a0w [99,97,98,108,101])),(7,B (eqS a0w [99,97,98,108,101]))],[]⟩ krf (sR tfm ⟨[2],[],[],[]⟩ ⟨[(2,I 0)],[]⟩ krf (sT ?_))))
        exact qR (.id) krf krf krf
def g_p_isAttr (n:Nat) (a0w:List UInt8):Option Bool :=
 (cond (eqS a0w [108,105,109,105,116])
  (some (eqS a0w [108,105,109,105,116]))
  (cond (eqS a0w [110,101,117,116,114,97,108])
   (some (eqS a0w [110,101,117,116,114,97,108]))
   (cond (eqS a0w [102,117,115,101])
    (some (eqS a0w [102,117,115,101]))
    (cond (eqS a0w [116,104,101,114,109,97,108])
     (some (eqS a0w [116,104,101,114,109,97,108]))
     (cond (eqS a0w [102,114,111,109])
      (some (eqS a0w [102,114,111,109]))
      (cond (eqS a0w [97,116])
       (some (eqS a0w [97,116]))
       (cond (eqS a0w [112,104,97,115,101,115])
        (some (eqS a0w [112,104,97,115,101,115]))
        (cond (eqS a0w [97,109,112,115])
         (some (eqS a0w [97,109,112,115]))
         (cond (eqS a0w [102,97,108,108,98,97,99,107])
          (some (eqS a0w [102,97,108,108,98,97,99,107]))
          (cond (eqS a0w [111,119,110,101,114])
           (some (eqS a0w [111,119,110,101,114]))
           (cond (eqS a0w [99,97,114,100])
            (some (eqS a0w [99,97,114,100]))
            (cond (eqS a0w [114,97,110,107])
             (some (eqS a0w [114,97,110,107]))
             (some (eqS a0w [99,104,97,114,103,101,114])))))))))))))).bind fun j1 =>
 cond j1
  (some true)
  (some false)
theorem g_p_isAttr_ok (n:Nat) (a0w:List UInt8):∀ r,g_p_isAttr n a0w=some r→PCall Tryz.prog 106 [S a0w] (.ret (B r)):=by
 refine pcall_sim (X:=fun r:Bool=>AEnd.ret (B r)) Tryz.func106 rfl Tryz.ntmps106 rfl ?_
 unfold g_p_isAttr
 refine sR tfm ⟨[0],[],[],[]⟩ ⟨[(0,S a0w)],[]⟩ krf (sS (sR tfm ⟨[3],[],[],[]⟩ ⟨[(3,S a0w)],[]⟩ krf (sB (sim_bind (fun j1=>⟨[(4,B j1)],[]⟩:Bool→St) ?_ ?_))))
 ·refine sR tfm ⟨[3,4],[],[],[]⟩ ⟨[(3,S a0w),(4,B (eqS a0w [108,105,109,105,116]))],[]⟩ krf (sC (eqS a0w [108,105,109,105,116]) krf ?_ ?_)
  ·refine sK ?_
   exact nq_n (eqS a0w [108,105,109,105,116]) ⟨[4],[],[],[]⟩ krf
  ·refine sR tfm ⟨[3,4,6],[],[],[]⟩ ⟨[(3,S a0w),(4,B (eqS a0w [110,101,117,116,114,97,108])),(6,B (eqS a0w [110,101,117,116,114,97,108]))],[]⟩ krf (sC (eqS a0w [110,101,117,116,114,97,108]) krf ?_ ?_)
   ·refine sK ?_
    exact nq_n (eqS a0w [110,101,117,116,114,97,108]) ⟨[4],[],[],[]⟩ krf
   ·refine sR tfm ⟨[3,4,6,7],[],[],[]⟩ ⟨[(3,S a0w),(4,B (eqS a0w [102,117,115,101])),(6,B (eqS a0w [110,101,117,116,114,97,108])),(7,B (eqS a0w [102,117,115,101]))],[]⟩ krf (sC (eqS a0w [102,117,115,101]) krf ?_ ?_)
    ·refine sK ?_
     exact nq_n (eqS a0w [102,117,115,101]) ⟨[4],[],[],[]⟩ krf
    ·refine sR tfm ⟨[3,4,6,7],[],[],[]⟩ ⟨[(3,S a0w),(4,B (eqS a0w [116,104,101,114,109,97,108])),(6,B (eqS a0w [110,101,117,116,114,97,108])),(7,B (eqS a0w [102,117,115,101]))],[]⟩ krf (sC (eqS a0w [116,104,101,114,109,97,108]) krf ?_ ?_)
     ·refine sK ?_
      exact nq_n (eqS a0w [116,104,101,114,109,97,108]) ⟨[4],[],[],[]⟩ krf
     ·refine sR tfm ⟨[3,4,6,7],[],[],[]⟩ ⟨[(3,S a0w),(4,B (eqS a0w [102,114,111,109])),(6,B (eqS a0w [110,101,117,116,114,97,108])),(7,B (eqS a0w [102,117,115,101]))],[]⟩ krf (sC (eqS a0w [102,114,111,109]) krf ?_ ?_)
      ·refine sK ?_
       exact nq_n (eqS a0w [102,114,111,109]) ⟨[4],[],[],[]⟩ krf
      ·refine sR tfm ⟨[3,4,6,7],[],[],[]⟩ ⟨[(3,S a0w),(4,B (eqS a0w [97,116])),(6,B (eqS a0w [110,101,117,116,114,97,108])),(7,B (eqS a0w [102,117,115,101]))],[]⟩ krf (sC (eqS a0w [97,116]) krf ?_ ?_)
       ·refine sK ?_
        exact nq_n (eqS a0w [97,116]) ⟨[4],[],[],[]⟩ krf
       ·refine sR tfm ⟨[3,4,6,7],[],[],[]⟩ ⟨[(3,S a0w),(4,B (eqS a0w [112,104,97,115,101,115])),(6,B (eqS a0w [110,101,117,116,114,97,108])),(7,B (eqS a0w [102,117,115,101]))],[]⟩ krf (sC (eqS a0w [112,104,97,115,101,115]) krf ?_ ?_)
        ·refine sK ?_
         exact nq_n (eqS a0w [112,104,97,115,101,115]) ⟨[4],[],[],[]⟩ krf
        ·refine sR tfm ⟨[3,4,6,7],[],[],[]⟩ ⟨[(3,S a0w),(4,B (eqS a0w [97,109,112,115])),(6,B (eqS a0w [110,101,117,116,114,97,108])),(7,B (eqS a0w [102,117,115,101]))],[]⟩ krf (sC (eqS a0w [97,109,112,115]) krf ?_ ?_)
         ·refine sK ?_
          exact nq_n (eqS a0w [97,109,112,115]) ⟨[4],[],[],[]⟩ krf
         ·refine sR tfm ⟨[3,4,6,7],[],[],[]⟩ ⟨[(3,S a0w),(4,B (eqS a0w [102,97,108,108,98,97,99,107])),(6,B (eqS a0w [110,101,117,116,114,97,108])),(7,B (eqS a0w [102,117,115,101]))],[]⟩ krf (sC (eqS a0w [102,97,108,108,98,97,99,107]) krf ?_ ?_)
          ·refine sK ?_
           exact nq_n (eqS a0w [102,97,108,108,98,97,99,107]) ⟨[4],[],[],[]⟩ krf
          ·refine sR tfm ⟨[3,4,6,7],[],[],[]⟩ ⟨[(3,S a0w),(4,B (eqS a0w [111,119,110,101,114])),(6,B (eqS a0w [110,101,117,116,114,97,108])),(7,B (eqS a0w [102,117,115,101]))],[]⟩ krf (sC (eqS a0w [111,119,110,101,114]) krf ?_ ?_)
           ·refine sK ?_
            exact nq_n (eqS a0w [111,119,110,101,114]) ⟨[4],[],[],[]⟩ krf
           ·refine sR tfm ⟨[3,4,6,7],[],[],[]⟩ ⟨[(3,S a0w),(4,B (eqS a0w [99,97,114,100])),(6,B (eqS a0w [110,101,117,116,114,97,108])),(7,B (eqS a0w [102,117,115,101]))],[]⟩ krf (sC (eqS a0w [99,97,114,100]) krf ?_ ?_)
            ·refine sK ?_
             exact nq_n (eqS a0w [99,97,114,100]) ⟨[4],[],[],[]⟩ krf
            ·refine sR tfm ⟨[3,4,6,7],[],[],[]⟩ ⟨[(3,S a0w),(4,B (eqS a0w [114,97,110,107])),(6,B (eqS a0w [110,101,117,116,114,97,108])),(7,B (eqS a0w [102,117,115,101]))],[]⟩ krf (sC (eqS a0w [114,97,110,107]) krf ?_ ?_)
             ·refine sK ?_
              exact nq_n (eqS a0w [114,97,110,107]) ⟨[4],[],[],[]⟩ krf
             ·refine sL tfm krf ?_
              exact nq_n (eqS a0w [99,104,97,114,103,101,114]) ⟨[4],[],[],[]⟩ krf
 ·rintro j1
  refine sC j1 krf ?_ ?_
  ·refine sR tfm ⟨[2],[],[],[]⟩ ⟨[(2,B true)],[]⟩ krf (sT (bq_r (sq_r ?_)))
   exact qR (.id) krf krf krf
  ·refine sK (bq_n (sN ⟨[],[],[],[]⟩ ⟨[],[]⟩ krf (sR tfm ⟨[2],[],[],[]⟩ ⟨[(2,B false)],[]⟩ krf (sT ?_))))
   exact qR (.id) krf krf krf
def g_p_isArticle (n:Nat) (a0w:List UInt8):Option Bool :=
 (cond (eqS a0w [115,116,97,114,116])
  (some (eqS a0w [115,116,97,114,116]))
  (cond (eqS a0w [101,110,101,114,103,121])
   (some (eqS a0w [101,110,101,114,103,121]))
   (cond (eqS a0w [116,105,109,101])
    (some (eqS a0w [116,105,109,101]))
    (cond (eqS a0w [105,100,108,101])
     (some (eqS a0w [105,100,108,101]))
     (cond (eqS a0w [99,97,112])
      (some (eqS a0w [99,97,112]))
      (some (eqS a0w [116,97,120]))))))).bind fun j1 =>
 cond j1
  (some true)
  (some false)
theorem g_p_isArticle_ok (n:Nat) (a0w:List UInt8):∀ r,g_p_isArticle n a0w=some r→PCall Tryz.prog 107 [S a0w] (.ret (B r)):=by
 refine pcall_sim (X:=fun r:Bool=>AEnd.ret (B r)) Tryz.func107 rfl Tryz.ntmps107 rfl ?_
 unfold g_p_isArticle
 refine sR tfm ⟨[0],[],[],[]⟩ ⟨[(0,S a0w)],[]⟩ krf (sS (sR tfm ⟨[3],[],[],[]⟩ ⟨[(3,S a0w)],[]⟩ krf (sB (sim_bind (fun j1=>⟨[(4,B j1)],[]⟩:Bool→St) ?_ ?_))))
 ·refine sR tfm ⟨[3,4],[],[],[]⟩ ⟨[(3,S a0w),(4,B (eqS a0w [115,116,97,114,116]))],[]⟩ krf (sC (eqS a0w [115,116,97,114,116]) krf ?_ ?_)
  ·refine sK ?_
   exact nq_n (eqS a0w [115,116,97,114,116]) ⟨[4],[],[],[]⟩ krf
  ·refine sR tfm ⟨[3,4,6],[],[],[]⟩ ⟨[(3,S a0w),(4,B (eqS a0w [101,110,101,114,103,121])),(6,B (eqS a0w [101,110,101,114,103,121]))],[]⟩ krf (sC (eqS a0w [101,110,101,114,103,121]) krf ?_ ?_)
   ·refine sK ?_
    exact nq_n (eqS a0w [101,110,101,114,103,121]) ⟨[4],[],[],[]⟩ krf
   ·refine sR tfm ⟨[3,4,6,7],[],[],[]⟩ ⟨[(3,S a0w),(4,B (eqS a0w [116,105,109,101])),(6,B (eqS a0w [101,110,101,114,103,121])),(7,B (eqS a0w [116,105,109,101]))],[]⟩ krf (sC (eqS a0w [116,105,109,101]) krf ?_ ?_)
    ·refine sK ?_
     exact nq_n (eqS a0w [116,105,109,101]) ⟨[4],[],[],[]⟩ krf
    ·refine sR tfm ⟨[3,4,6,7],[],[],[]⟩ ⟨[(3,S a0w),(4,B (eqS a0w [105,100,108,101])),(6,B (eqS a0w [101,110,101,114,103,121])),(7,B (eqS a0w [116,105,109,101]))],[]⟩ krf (sC (eqS a0w [105,100,108,101]) krf ?_ ?_)
     ·refine sK ?_
      exact nq_n (eqS a0w [105,100,108,101]) ⟨[4],[],[],[]⟩ krf
     ·refine sR tfm ⟨[3,4,6,7],[],[],[]⟩ ⟨[(3,S a0w),(4,B (eqS a0w [99,97,112])),(6,B (eqS a0w [101,110,101,114,103,121])),(7,B (eqS a0w [116,105,109,101]))],[]⟩ krf (sC (eqS a0w [99,97,112]) krf ?_ ?_)
      ·refine sK ?_
       exact nq_n (eqS a0w [99,97,112]) ⟨[4],[],[],[]⟩ krf
      ·refine sL tfm krf ?_
       exact nq_n (eqS a0w [116,97,120]) ⟨[4],[],[],[]⟩ krf
 ·rintro j1
  refine sC j1 krf ?_ ?_
  ·refine sR tfm ⟨[2],[],[],[]⟩ ⟨[(2,B true)],[]⟩ krf (sT (bq_r (sq_r ?_)))
   exact qR (.id) krf krf krf
  ·refine sK (bq_n (sN ⟨[],[],[],[]⟩ ⟨[],[]⟩ krf (sR tfm ⟨[2],[],[],[]⟩ ⟨[(2,B false)],[]⟩ krf (sT ?_))))
   exact qR (.id) krf krf krf
def g_p_isWord (n:Nat) (a0w:List UInt8):Option Bool :=
 (cond (eqS a0w [111,110])
  (some (eqS a0w [111,110]))
  (cond (eqS a0w [119,111,114,107])
   (some (eqS a0w [119,111,114,107]))
   (cond (eqS a0w [115,97,116,117,114,100,97,121])
    (some (eqS a0w [115,97,116,117,114,100,97,121]))
    (cond (eqS a0w [115,117,110,100,97,121])
     (some (eqS a0w [115,117,110,100,97,121]))
     (cond (eqS a0w [98,101,116,119,101,101,110])
      (some (eqS a0w [98,101,116,119,101,101,110]))
      (cond (eqS a0w [112,101,114])
       (some (eqS a0w [112,101,114]))
       (some (eqS a0w [102,114,101,101])))))))).bind fun j1 =>
 cond j1
  (some true)
  (some false)
theorem g_p_isWord_ok (n:Nat) (a0w:List UInt8):∀ r,g_p_isWord n a0w=some r→PCall Tryz.prog 114 [S a0w] (.ret (B r)):=by
 refine pcall_sim (X:=fun r:Bool=>AEnd.ret (B r)) Tryz.func114 rfl Tryz.ntmps114 rfl ?_
 unfold g_p_isWord
 refine sR tfm ⟨[0],[],[],[]⟩ ⟨[(0,S a0w)],[]⟩ krf (sS (sR tfm ⟨[3],[],[],[]⟩ ⟨[(3,S a0w)],[]⟩ krf (sB (sim_bind (fun j1=>⟨[(4,B j1)],[]⟩:Bool→St) ?_ ?_))))
 ·refine sR tfm ⟨[3,4],[],[],[]⟩ ⟨[(3,S a0w),(4,B (eqS a0w [111,110]))],[]⟩ krf (sC (eqS a0w [111,110]) krf ?_ ?_)
  ·refine sK ?_
   exact nq_n (eqS a0w [111,110]) ⟨[4],[],[],[]⟩ krf
  ·refine sR tfm ⟨[3,4,6],[],[],[]⟩ ⟨[(3,S a0w),(4,B (eqS a0w [119,111,114,107])),(6,B (eqS a0w [119,111,114,107]))],[]⟩ krf (sC (eqS a0w [119,111,114,107]) krf ?_ ?_)
   ·refine sK ?_
    exact nq_n (eqS a0w [119,111,114,107]) ⟨[4],[],[],[]⟩ krf
   ·refine sR tfm ⟨[3,4,6,7],[],[],[]⟩ ⟨[(3,S a0w),(4,B (eqS a0w [115,97,116,117,114,100,97,121])),(6,B (eqS a0w [119,111,114,107])),(7,B (eqS a0w [115,97,116,117,114,100,97,121]))],[]⟩ krf (sC (eqS a0w [115,97,116,117,114,100,97,121]) krf ?_ ?_)
    ·refine sK ?_
     exact nq_n (eqS a0w [115,97,116,117,114,100,97,121]) ⟨[4],[],[],[]⟩ krf
    ·refine sR tfm ⟨[3,4,6,7],[],[],[]⟩ ⟨[(3,S a0w),(4,B (eqS a0w [115,117,110,100,97,121])),(6,B (eqS a0w [119,111,114,107])),(7,B (eqS a0w [115,97,116,117,114,100,97,121]))],[]⟩ krf (sC (eqS a0w [115,117,110,100,97,121]) krf ?_ ?_)
     ·refine sK ?_
      exact nq_n (eqS a0w [115,117,110,100,97,121]) ⟨[4],[],[],[]⟩ krf
     ·refine sR tfm ⟨[3,4,6,7],[],[],[]⟩ ⟨[(3,S a0w),(4,B (eqS a0w [98,101,116,119,101,101,110])),(6,B (eqS a0w [119,111,114,107])),(7,B (eqS a0w [115,97,116,117,114,100,97,121]))],[]⟩ krf (sC (eqS a0w [98,101,116,119,101,101,110]) krf ?_ ?_)
      ·refine sK ?_
       exact nq_n (eqS a0w [98,101,116,119,101,101,110]) ⟨[4],[],[],[]⟩ krf
      ·refine sR tfm ⟨[3,4,6,7],[],[],[]⟩ ⟨[(3,S a0w),(4,B (eqS a0w [112,101,114])),(6,B (eqS a0w [119,111,114,107])),(7,B (eqS a0w [115,97,116,117,114,100,97,121]))],[]⟩ krf (sC (eqS a0w [112,101,114]) krf ?_ ?_)
       ·refine sK ?_
        exact nq_n (eqS a0w [112,101,114]) ⟨[4],[],[],[]⟩ krf
       ·refine sL tfm krf ?_
        exact nq_n (eqS a0w [102,114,101,101]) ⟨[4],[],[],[]⟩ krf
 ·rintro j1
  refine sC j1 krf ?_ ?_
  ·refine sR tfm ⟨[2],[],[],[]⟩ ⟨[(2,B true)],[]⟩ krf (sT (bq_r (sq_r ?_)))
   exact qR (.id) krf krf krf
  ·refine sK (bq_n (sN ⟨[],[],[],[]⟩ ⟨[],[]⟩ krf (sR tfm ⟨[2],[],[],[]⟩ ⟨[(2,B false)],[]⟩ krf (sT ?_))))
   exact qR (.id) krf krf krf
def g_p_isKey (n:Nat) (a0w:List UInt8):Option Bool :=
 (g_p_kindOf n a0w).bind fun r1 =>
 cond (!eqI r1 0)
  (some true)
  ((g_p_isAttr n a0w).bind fun r3 =>
  cond r3
   (some true)
   ((g_p_isArticle n a0w).bind fun r5 =>
   cond r5
    (some true)
    ((g_p_isWord n a0w).bind fun r7 =>
    some r7)))
theorem g_p_isKey_ok (n:Nat) (a0w:List UInt8):∀ r,g_p_isKey n a0w=some r→PCall Tryz.prog 105 [S a0w] (.ret (B r)):=by
 refine pcall_sim (X:=fun r:Bool=>AEnd.ret (B r)) Tryz.func105 rfl Tryz.ntmps105 rfl ?_
 unfold g_p_isKey
 refine sR tfm ⟨[0],[],[],[]⟩ ⟨[(0,S a0w)],[]⟩ krf (sS (sG (xR 1 krf ?_)))
 refine xC [] krf (g_p_kindOf_ok n a0w) krf krf (fun _=>by kernel_rfl) (fun r1=>?_)
 refine xR 2 krf ?_
 refine xS (!eqI r1 0) (fun h2=>?_) (fun h2=>?_)
 ·refine xN (want_ft krf h2) krf (xR 11 krf (xE (sN ⟨[2],[],[],[]⟩ ⟨[(2,B true)],[]⟩ krf (sT ?_))))
  exact qR (.id) krf krf krf
 ·refine xO (want_ff krf h2) krf ?_
  refine xC [] krf (g_p_isAttr_ok n a0w) krf krf (fun _=>by kernel_rfl) (fun r3=>?_)
  refine xR 2 krf ?_
  refine xS r3 (fun h4=>?_) (fun h4=>?_)
  ·refine xN (want_ft krf h4) krf (xR 7 krf (xE (sN ⟨[2],[],[],[]⟩ ⟨[(2,B true)],[]⟩ krf (sT ?_))))
   exact qR (.id) krf krf krf
  ·refine xO (want_ff krf h4) krf ?_
   refine xC [] krf (g_p_isArticle_ok n a0w) krf krf (fun _=>by kernel_rfl) (fun r5=>?_)
   refine xR 2 krf ?_
   refine xS r5 (fun h6=>?_) (fun h6=>?_)
   ·refine xN (want_ft krf h6) krf (xR 3 krf (xE (sN ⟨[2],[],[],[]⟩ ⟨[(2,B true)],[]⟩ krf (sT ?_))))
    exact qR (.id) krf krf krf
   ·refine xO (want_ff krf h6) krf ?_
    refine xC [] krf (g_p_isWord_ok n a0w) krf krf (fun _=>by kernel_rfl) (fun r7=>?_)
    refine xR 2 krf (xE (sN ⟨[2],[],[],[]⟩ ⟨[(2,B r7)],[]⟩ krf (sT ?_)))
    exact qR (.id) krf krf krf
def g_p_goodName (n:Nat) (a0text:List UInt8):Option Bool :=
 (g_p_goodWord n a0text).bind fun r1 =>
 cond r1
  ((g_p_isKey n a0text).bind fun r3 =>
  some (!r3))
  (some false)
theorem g_p_goodName_ok (n:Nat) (a0text:List UInt8):∀ r,g_p_goodName n a0text=some r→PCall Tryz.prog 97 [S a0text] (.ret (B r)):=by
 refine pcall_sim (X:=fun r:Bool=>AEnd.ret (B r)) Tryz.func97 rfl Tryz.ntmps97 rfl ?_
 unfold g_p_goodName
 refine sR tfm ⟨[0],[],[],[]⟩ ⟨[(0,S a0text)],[]⟩ krf (sS (sG (xR 1 krf ?_)))
 refine xC [] krf (g_p_goodWord_ok n a0text) krf krf (fun _=>by kernel_rfl) (fun r1=>?_)
 refine xR 1 krf ?_
 refine xS r1 (fun h2=>?_) (fun h2=>?_)
 ·refine xO (want_tt krf h2) krf ?_
  refine xC [] krf (g_p_isKey_ok n a0text) krf krf (fun _=>by kernel_rfl) (fun r3=>?_)
  refine xR 3 krf (xE (sN ⟨[2],[],[],[]⟩ ⟨[(2,B (!r3))],[]⟩ krf (sT ?_)))
  exact qR (.id) krf krf krf
 ·refine xN (want_tf krf h2) krf (xR 4 krf (xE (sN ⟨[2],[],[],[]⟩ ⟨[(2,B false)],[]⟩ krf (sT ?_))))
  exact qR (.id) krf krf krf
def g_p_validValue (n:Nat) (a0n:GNode) (a1words:Bool):Option Bool :=
 cond (!eqI (lenI (List.map idc a0n.Kids)) 0)
  (some false)
  (cond (eqI a0n.Kind 5)
   (cond (eqI a0n.N 0)
    ((g_p_goodName n a0n.Name).bind fun r2 =>
    cond r2
     (some true)
     (cond a1words
      ((g_p_isWord n a0n.Name).bind fun r5 =>
      some r5)
      (some false)))
    (some false))
   (cond (eqI a0n.Kind 6)
    (cond (eqS a0n.Name [])
     (cond (leI 0 a0n.N)
      (some (leI a0n.N 1000000))
      (some false))
     (some false))
    (some false)))
theorem g_p_validValue_ok (n:Nat) (a0n:GNode) (a1words:Bool):∀ r,g_p_validValue n a0n a1words=some r→PCall Tryz.prog 108 [ag (GNode.cs a0n),B a1words] (.ret (B r)):=by
 refine pcall_sim (X:=fun r:Bool=>AEnd.ret (B r)) Tryz.func108 rfl Tryz.ntmps108 rfl ?_
 unfold g_p_validValue
 refine sR tfm ⟨[1,2],[2],[],[]⟩ ⟨[(1,B a1words),(2, .ptr 2 0)],[(2, .box 107 (bxc (GNode.cs a0n)))]⟩ krf (sS (sR tfm ⟨[1,2,6,7,8],[2],[],[]⟩ ⟨[(1,B a1words),(2, .ptr 2 0),(6, .p (.sl 5 (mI a0n.Kids))),(7,I (lenI (mI a0n.Kids))),(8,B (!eqI (lenI (mI a0n.Kids)) 0))],[(2, .box 107 (bxc (GNode.cs a0n)))]⟩ krf (sC (!eqI (lenI (mI a0n.Kids)) 0) krf ?_ ?_)))
 ·refine sR tfm ⟨[4],[],[],[]⟩ ⟨[(4,B false)],[]⟩ krf (sT (sq_r ?_))
  exact qR (.id) krf krf krf
 ·refine sK (sN ⟨[1,2,6,7],[2],[],[]⟩ ⟨[(1,B a1words),(2, .ptr 2 0),(6, .p (.sl 5 (mI a0n.Kids))),(7,I (lenI (mI a0n.Kids)))],[(2, .box 107 (bxc (GNode.cs a0n)))]⟩ krf (sS (sR tfm ⟨[1,2,6,7,10],[2],[],[]⟩ ⟨[(1,B a1words),(2, .ptr 2 0),(6, .p (.sl 5 (mI a0n.Kids))),(7,I (lenI (mI a0n.Kids))),(10,I a0n.Kind)],[(2, .box 107 (bxc (GNode.cs a0n)))]⟩ krf (sB (sR tfm ⟨[1,2,6,7,10,11],[2],[],[]⟩ ⟨[(1,B a1words),(2, .ptr 2 0),(6, .p (.sl 5 (mI a0n.Kids))),(7,I (lenI (mI a0n.Kids))),(10,I a0n.Kind),(11,B (eqI a0n.Kind 5))],[(2, .box 107 (bxc (GNode.cs a0n)))]⟩ krf (sC (eqI a0n.Kind 5) krf ?_ ?_))))))
  ·refine sS (sG (xR 4 krf ?_))
   refine xS (eqI a0n.N 0) (fun h1=>?_) (fun h1=>?_)
   ·refine xO (want_tt krf h1) krf (xR 1 krf ?_)
    refine xC [] krf (g_p_goodName_ok n a0n.Name) krf krf (fun _=>by kernel_rfl) (fun r2=>?_)
    refine xR 1 krf ?_
    refine xS r2 (fun h3=>?_) (fun h3=>?_)
    ·refine xN (want_ft krf h3) krf (xR 8 krf (xE (sN ⟨[4],[],[],[]⟩ ⟨[(4,B true)],[]⟩ krf (sT (bq_r (sq_r ?_))))))
     exact qR (.id) krf krf krf
    ·refine xO (want_ff krf h3) krf (xR 1 krf ?_)
     refine xS a1words (fun h4=>?_) (fun h4=>?_)
     ·refine xO (want_tt krf h4) krf (xR 1 krf ?_)
      refine xC [] krf (g_p_isWord_ok n a0n.Name) krf krf (fun _=>by kernel_rfl) (fun r5=>?_)
      refine xR 4 krf (xE (sN ⟨[4],[],[],[]⟩ ⟨[(4,B r5)],[]⟩ krf (sT (bq_r (sq_r ?_)))))
      exact qR (.id) krf krf krf
     ·refine xN (want_tf krf h4) krf (xR 6 krf (xE (sN ⟨[4],[],[],[]⟩ ⟨[(4,B false)],[]⟩ krf (sT (bq_r (sq_r ?_))))))
      exact qR (.id) krf krf krf
   ·refine xN (want_tf krf h1) krf (xR 12 krf (xE (sN ⟨[4],[],[],[]⟩ ⟨[(4,B false)],[]⟩ krf (sT (bq_r (sq_r ?_))))))
    exact qR (.id) krf krf krf
  ·refine sR tfm ⟨[2,6,7,29],[2],[],[]⟩ ⟨[(2, .ptr 2 0),(6, .p (.sl 5 (mI a0n.Kids))),(7,I (lenI (mI a0n.Kids))),(29,B (eqI a0n.Kind 6))],[(2, .box 107 (bxc (GNode.cs a0n)))]⟩ krf (sC (eqI a0n.Kind 6) krf ?_ ?_)
   ·refine sS (sG (xR 4 krf ?_))
    refine xS (eqS a0n.Name []) (fun h6=>?_) (fun h6=>?_)
    ·refine xO (want_tt krf h6) krf (xR 4 krf ?_)
     refine xS (leI 0 a0n.N) (fun h7=>?_) (fun h7=>?_)
     ·refine xO (want_tt krf h7) krf (xR 4 krf (xE (sN ⟨[4],[],[],[]⟩ ⟨[(4,B (leI a0n.N 1000000))],[]⟩ krf (sT (bq_r (sq_r ?_))))))
      exact qR (.id) krf krf krf
     ·refine xN (want_tf krf h7) krf (xR 4 krf (xE (sN ⟨[4],[],[],[]⟩ ⟨[(4,B false)],[]⟩ krf (sT (bq_r (sq_r ?_))))))
      exact qR (.id) krf krf krf
    ·refine xN (want_tf krf h6) krf (xR 9 krf (xE (sN ⟨[4],[],[],[]⟩ ⟨[(4,B false)],[]⟩ krf (sT (bq_r (sq_r ?_))))))
     exact qR (.id) krf krf krf
   ·refine sK (bq_n (sN ⟨[6,7],[],[],[]⟩ ⟨[(6, .p (.sl 5 (mI a0n.Kids))),(7,I (lenI (mI a0n.Kids)))],[]⟩ krf (sR tfm ⟨[4],[],[],[]⟩ ⟨[(4,B false)],[]⟩ krf (sT ?_))))
    exact qR (.id) krf krf krf
def g_p_validPart_l9 (n:Nat) (a0n:GNode) (a1left:Int) (recl9:Int→Option (Bool × Int)) (l9:Int):Option (Bool × Int) :=
 cond (ltI l9 (lenI (List.map idc a0n.Kids)))
  ((Option.bind (getI a0n.Kids l9) GNode.of).bind fun x10 =>
  (g_p_validValue n x10 (eqI a0n.Kind 4)).bind fun r11 =>
  cond (!r11)
   (some (false,wi (a1left - (lenI (List.map idc a0n.Kids)))))
   (recl9 (wi (l9+1))))
  (some (true,wi (a1left - (lenI (List.map idc a0n.Kids)))))
def g_p_validPart (n:Nat) (a0n:GNode) (a1left:Int):Option (Bool × Int) :=
 cond (!eqI a0n.N 0)
  (some (false,a1left))
  ((cond (eqI a0n.Kind 3)
   ((g_p_isAttr n a0n.Name).bind fun r3 =>
   some (!r3))
   (some false)).bind fun j1 =>
  cond j1
   (some (false,a1left))
   ((cond (eqI a0n.Kind 4)
    ((g_p_isArticle n a0n.Name).bind fun r6 =>
    some (!r6))
    (some false)).bind fun j4 =>
   cond j4
    (some (false,a1left))
    ((cond (!eqI a0n.Kind 3)
     (some (!eqI a0n.Kind 4))
     (some false)).bind fun j7 =>
    cond j7
     (some (false,a1left))
     (cond (ltI (wi (a1left - (lenI (List.map idc a0n.Kids)))) 0)
      (some (false,wi (a1left - (lenI (List.map idc a0n.Kids)))))
      (loopN (fun recl9 l9=>g_p_validPart_l9 n a0n a1left recl9 l9) n 0)))))
theorem g_p_validPart_ok (n:Nat) (a0n:GNode) (a1left:Int):∀ r,g_p_validPart n a0n a1left=some r→ACall Tryz.prog 98 [ag (GNode.cs a0n), .ptr 1001 0] (Go.Abs.look [(1001, .box 3 [I a1left])]) (heapR (fun r:Bool × Int=>((.ret (B r.1),[(1001, .box 3 [I r.2])]):AEnd × List (Nat × Blk))) r):=by
 refine acall_sim (X:=fun r:Bool × Int=>((.ret (B r.1),[(1001, .box 3 [I r.2])]):AEnd × List (Nat × Blk))) [(1001, .box 3 [I a1left])] Tryz.func98 rfl Tryz.ntmps98 rfl ?_
 unfold g_p_validPart
 refine sR tfm ⟨[1,2],[2,1001],[],[]⟩ ⟨[(1, .ptr 1001 0),(2, .ptr 2 0)],[(2, .box 107 (bxc (GNode.cs a0n))),(1001, .box 3 [I a1left])]⟩ krf (sR tfm ⟨[1,2,5],[2,1001],[],[]⟩ ⟨[(1, .ptr 1001 0),(2, .ptr 2 0),(5,B (eqI a0n.Kind 4))],[(2, .box 107 (bxc (GNode.cs a0n))),(1001, .box 3 [I a1left])]⟩ krf (sS (sB (sR tfm ⟨[1,2,5,11],[2,1001],[],[]⟩ ⟨[(1, .ptr 1001 0),(2, .ptr 2 0),(5,B (eqI a0n.Kind 4)),(11,B (!eqI a0n.N 0))],[(2, .box 107 (bxc (GNode.cs a0n))),(1001, .box 3 [I a1left])]⟩ krf (sC (!eqI a0n.N 0) krf ?_ ?_)))))
 ·refine sR tfm ⟨[4],[1001],[],[]⟩ ⟨[(4,B false)],[(1001, .box 3 [I a1left])]⟩ krf (sT (bq_r (sq_r ?_)))
  exact hq_ret (.id) [1001] [] krf krf krf krf
 ·refine sim_bind (fun j1=>⟨[(1, .ptr 1001 0),(2, .ptr 2 0),(5,B (eqI a0n.Kind 4)),(15,B j1)],[(2, .box 107 (bxc (GNode.cs a0n))),(1001, .box 3 [I a1left])]⟩:Bool→St) ?_ ?_
  ·refine sG (xR 4 krf ?_)
   refine xS (eqI a0n.Kind 3) (fun h2=>?_) (fun h2=>?_)
   ·refine xO (want_tt krf h2) krf (xR 1 krf ?_)
    refine xC [] krf (g_p_isAttr_ok n a0n.Name) krf krf (fun _=>by kernel_rfl) (fun r3=>?_)
    refine xR 3 krf (xE ?_)
    exact nq_n (!r3) ⟨[1,2,5,15],[2,1001],[],[]⟩ krf
   ·refine xN (want_tf krf h2) krf (xR 5 krf (xE ?_))
    exact nq_n false ⟨[1,2,5,15],[2,1001],[],[]⟩ krf
  ·rintro j1
   refine sC j1 krf ?_ ?_
   ·refine sR tfm ⟨[4],[1001],[],[]⟩ ⟨[(4,B false)],[(1001, .box 3 [I a1left])]⟩ krf (sT (bq_r (sq_r ?_)))
    exact hq_ret (.id) [1001] [] krf krf krf krf
   ·refine sim_bind (fun j4=>⟨[(1, .ptr 1001 0),(2, .ptr 2 0),(5,B (eqI a0n.Kind 4)),(25,B j4)],[(2, .box 107 (bxc (GNode.cs a0n))),(1001, .box 3 [I a1left])]⟩:Bool→St) ?_ ?_
    ·refine sG (xR 4 krf ?_)
     refine xS (eqI a0n.Kind 4) (fun h5=>?_) (fun h5=>?_)
     ·refine xO (want_tt krf h5) krf (xR 1 krf ?_)
      refine xC [] krf (g_p_isArticle_ok n a0n.Name) krf krf (fun _=>by kernel_rfl) (fun r6=>?_)
      refine xR 3 krf (xE ?_)
      exact nq_n (!r6) ⟨[1,2,5,25],[2,1001],[],[]⟩ krf
     ·refine xN (want_tf krf h5) krf (xR 5 krf (xE ?_))
      exact nq_n false ⟨[1,2,5,25],[2,1001],[],[]⟩ krf
    ·rintro j4
     refine sC j4 krf ?_ ?_
     ·refine sR tfm ⟨[4],[1001],[],[]⟩ ⟨[(4,B false)],[(1001, .box 3 [I a1left])]⟩ krf (sT (bq_r (sq_r ?_)))
      exact hq_ret (.id) [1001] [] krf krf krf krf
     ·refine sim_bind (fun j7=>⟨[(1, .ptr 1001 0),(2, .ptr 2 0),(5,B (eqI a0n.Kind 4)),(35,B j7)],[(2, .box 107 (bxc (GNode.cs a0n))),(1001, .box 3 [I a1left])]⟩:Bool→St) ?_ ?_
      ·refine sG (xR 4 krf ?_)
       refine xS (!eqI a0n.Kind 3) (fun h8=>?_) (fun h8=>?_)
       ·refine xO (want_tt krf h8) krf (xR 4 krf (xE ?_))
        exact nq_n (!eqI a0n.Kind 4) ⟨[1,2,5,35],[2,1001],[],[]⟩ krf
       ·refine xN (want_tf krf h8) krf (xR 4 krf (xE ?_))
        exact nq_n false ⟨[1,2,5,35],[2,1001],[],[]⟩ krf
      ·rintro j7
       refine sC j7 krf ?_ ?_
       ·refine sR tfm ⟨[4],[1001],[],[]⟩ ⟨[(4,B false)],[(1001, .box 3 [I a1left])]⟩ krf (sT (bq_r (sq_r ?_)))
        exact hq_ret (.id) [1001] [] krf krf krf krf
       ·refine sK (bq_n (sN ⟨[1,2,5],[2,1001],[],[]⟩ ⟨[(1, .ptr 1001 0),(2, .ptr 2 0),(5,B (eqI a0n.Kind 4))],[(2, .box 107 (bxc (GNode.cs a0n))),(1001, .box 3 [I a1left])]⟩ krf (sR tfm ⟨[1,2,5],[2,1001],[],[]⟩ ⟨[(1, .ptr 1001 0),(2, .ptr 2 0),(5,B (eqI a0n.Kind 4))],[(2, .box 107 (bxc (GNode.cs a0n))),(1001, .box 3 [I (wi (a1left - (lenI (mI a0n.Kids))))])]⟩ krf (sS (sR tfm ⟨[2,5,55],[2,1001],[],[]⟩ ⟨[(2, .ptr 2 0),(5,B (eqI a0n.Kind 4)),(55,B (ltI (wi (a1left - (lenI (mI a0n.Kids)))) 0))],[(2, .box 107 (bxc (GNode.cs a0n))),(1001, .box 3 [I (wi (a1left - (lenI (mI a0n.Kids))))])]⟩ krf (sC (ltI (wi (a1left - (lenI (mI a0n.Kids)))) 0) krf ?_ ?_))))))
        ·refine sR tfm ⟨[4],[1001],[],[]⟩ ⟨[(4,B false)],[(1001, .box 3 [I (wi (a1left - (lenI (mI a0n.Kids))))])]⟩ krf (sT (sq_r ?_))
         exact hq_ret (.id) [1001] [] krf krf krf krf
        ·refine sK (sN ⟨[2,5],[2,1001],[],[]⟩ ⟨[(2, .ptr 2 0),(5,B (eqI a0n.Kind 4))],[(2, .box 107 (bxc (GNode.cs a0n))),(1001, .box 3 [I (wi (a1left - (lenI (mI a0n.Kids))))])]⟩ krf (sS (sR tfm ⟨[5,57,58,59],[1001],[],[]⟩ ⟨[(5,B (eqI a0n.Kind 4)),(57, .p (.sl 5 (mI a0n.Kids))),(58,I (lenI (mI a0n.Kids))),(59,I 0)],[(1001, .box 3 [I (wi (a1left - (lenI (mI a0n.Kids))))])]⟩ krf (sB (sim_loop (fun l9=>⟨[(5,B (eqI a0n.Kind 4)),(57, .p (.sl 5 (mI a0n.Kids))),(58,I (lenI (mI a0n.Kids))),(59,I l9)],[(1001, .box 3 [I (wi (a1left - (lenI (mI a0n.Kids))))])]⟩:Int→St) (weak_shr (K:=⟨[5,57,58,59],[1001],[],[]⟩) krf) ?_)))))
         rintro recl9 l9
         show SimE (g_p_validPart_l9 n a0n a1left recl9 l9) _ _ _ _ _ _
         unfold g_p_validPart_l9
         refine sR tfm ⟨[5,57,58,59,60],[1001],[],[]⟩ ⟨[(5,B (eqI a0n.Kind 4)),(57, .p (.sl 5 (mI a0n.Kids))),(58,I (lenI (mI a0n.Kids))),(59,I l9),(60,B (ltI l9 (lenI (mI a0n.Kids))))],[(1001, .box 3 [I (wi (a1left - (lenI (mI a0n.Kids))))])]⟩ krf (sS (sC (ltI l9 (lenI (mI a0n.Kids))) krf ?_ ?_))
         ·refine sK (sN ⟨[5,57,58,59],[1001],[],[]⟩ ⟨[(5,B (eqI a0n.Kind 4)),(57, .p (.sl 5 (mI a0n.Kids))),(58,I (lenI (mI a0n.Kids))),(59,I l9)],[(1001, .box 3 [I (wi (a1left - (lenI (mI a0n.Kids))))])]⟩ krf (sS (sB (sS (sG ?_)))))
          refine xG krf krf (aop_idxR (e:=107) (S:=5) (enc:=GNode.cs) (dec:=GNode.of) (l:=a0n.Kids) (k:=.i64) (n:=l9) (sv:=.p (.sl 5 (mI a0n.Kids))) GNode.of_cs rfl krf krf krf krf krf) (fun x10=>?_)
          refine xR 3 krf (xE (sN ⟨[5,7,57,58,59],[7,1001],[],[]⟩ ⟨[(5,B (eqI a0n.Kind 4)),(7, .ptr 7 0),(57, .p (.sl 5 (mI a0n.Kids))),(58,I (lenI (mI a0n.Kids))),(59,I l9)],[(7, .box 107 (bxc (GNode.cs x10))),(1001, .box 3 [I (wi (a1left - (lenI (mI a0n.Kids))))])]⟩ krf (sS (sG (xR 2 krf ?_)))))
          refine xC [] krf (g_p_validValue_ok n x10 (eqI a0n.Kind 4)) krf krf (fun _=>by kernel_rfl) (fun r11=>?_)
          refine xR 1 krf (xE (sN ⟨[5,7,57,58,59,66],[7,1001],[],[]⟩ ⟨[(5,B (eqI a0n.Kind 4)),(7, .ptr 7 0),(57, .p (.sl 5 (mI a0n.Kids))),(58,I (lenI (mI a0n.Kids))),(59,I l9),(66,B (!r11))],[(7, .box 107 (bxc (GNode.cs x10))),(1001, .box 3 [I (wi (a1left - (lenI (mI a0n.Kids))))])]⟩ krf (sC (!r11) krf ?_ ?_)))
          ·refine sR tfm ⟨[4],[1001],[],[]⟩ ⟨[(4,B false)],[(1001, .box 3 [I (wi (a1left - (lenI (mI a0n.Kids))))])]⟩ krf (sT (bq_r (sq_r (kq_r (bq_r (sq_r ?_))))))
           exact hq_ret (.id) [1001] [] krf krf krf krf
          ·refine sK (bq_n (sN ⟨[5,7,57,58,59],[7,1001],[],[]⟩ ⟨[(5,B (eqI a0n.Kind 4)),(7, .ptr 7 0),(57, .p (.sl 5 (mI a0n.Kids))),(58,I (lenI (mI a0n.Kids))),(59,I l9)],[(7, .box 107 (bxc (GNode.cs x10))),(1001, .box 3 [I (wi (a1left - (lenI (mI a0n.Kids))))])]⟩ krf (sL tfm krf ?_)))
           exact kq_n (wi (l9+1)) ⟨[5,57,58,59],[1001],[],[]⟩ krf
         ·refine sim_exit (sq_x (kq_x (bq_hit (sN ⟨[],[1001],[],[]⟩ ⟨[],[(1001, .box 3 [I (wi (a1left - (lenI (mI a0n.Kids))))])]⟩ krf (sR tfm ⟨[4],[1001],[],[]⟩ ⟨[(4,B true)],[(1001, .box 3 [I (wi (a1left - (lenI (mI a0n.Kids))))])]⟩ krf (sT ?_))))))
          exact hq_ret (.id) [1001] [] krf krf krf krf
def g_p_validItem_j6 (a0n:GNode) (j6_1:Bool) (j6_2:Int):Option (Bool × Int) :=
 cond (!j6_1)
  (some (true,j6_2))
  (some (eqI a0n.N 7,j6_2))
def g_p_validItem_j10 (n:Nat) (l8_2:Int) (l8_3:Int) (recl8:(Bool × Int × Int)→Option (Bool × Int)) (x9:GNode) (j10:Bool):Option (Bool × Int) :=
 (g_p_validPart n x9 l8_3).bind fun r11 =>
 cond (!r11.1)
  (some (false,r11.2))
  (recl8 (j10,wi (l8_2+1),r11.2))
def g_p_validItem_l8 (n:Nat) (a0n:GNode) (recl8:(Bool × Int × Int)→Option (Bool × Int)) (l8_1:Bool) (l8_2:Int) (l8_3:Int):Option (Bool × Int) :=
 cond (ltI l8_2 (lenI (List.map idc a0n.Kids)))
  ((Option.bind (getI a0n.Kids l8_2) GNode.of).bind fun x9 =>
  cond (eqI x9.Kind 4)
   (g_p_validItem_j10 n l8_2 l8_3 recl8 x9 true)
   (cond l8_1
    (some (false,l8_3))
    (g_p_validItem_j10 n l8_2 l8_3 recl8 x9 l8_1)))
  (g_p_validItem_j6 a0n l8_1 l8_3)
def g_p_validItem (n:Nat) (a0n:GNode) (a1left:Int):Option (Bool × Int) :=
 (cond (!eqI a0n.Kind 2)
  (some true)
  (cond (ltI a0n.N 1)
   (some true)
   (cond (ltI 7 a0n.N)
    (some true)
    ((g_p_goodName n a0n.Name).bind fun r5 =>
    some (!r5))))).bind fun j1 =>
 cond j1
  (some (false,a1left))
  (cond (ltI (wi (a1left - (lenI (List.map idc a0n.Kids)))) 0)
   (some (false,wi (a1left - (lenI (List.map idc a0n.Kids)))))
   (loopN (fun recl8 (l8_1,l8_2,l8_3)=>g_p_validItem_l8 n a0n recl8 l8_1 l8_2 l8_3) n (false,0,wi (a1left - (lenI (List.map idc a0n.Kids))))))
theorem g_p_validItem_ok (n:Nat) (a0n:GNode) (a1left:Int):∀ r,g_p_validItem n a0n a1left=some r→ACall Tryz.prog 76 [ag (GNode.cs a0n), .ptr 1001 0] (Go.Abs.look [(1001, .box 3 [I a1left])]) (heapR (fun r:Bool × Int=>((.ret (B r.1),[(1001, .box 3 [I r.2])]):AEnd × List (Nat × Blk))) r):=by
 refine acall_sim (X:=fun r:Bool × Int=>((.ret (B r.1),[(1001, .box 3 [I r.2])]):AEnd × List (Nat × Blk))) [(1001, .box 3 [I a1left])] Tryz.func76 rfl Tryz.ntmps76 rfl ?_
 unfold g_p_validItem
 refine sR tfm ⟨[1,2],[2,1001],[],[]⟩ ⟨[(1, .ptr 1001 0),(2, .ptr 2 0)],[(2, .box 107 (bxc (GNode.cs a0n))),(1001, .box 3 [I a1left])]⟩ krf (sS (sim_bind (fun j1=>⟨[(1, .ptr 1001 0),(2, .ptr 2 0),(26,B j1)],[(2, .box 107 (bxc (GNode.cs a0n))),(1001, .box 3 [I a1left])]⟩:Bool→St) ?_ ?_))
 ·refine sG (xR 4 krf ?_)
  refine xS (!eqI a0n.Kind 2) (fun h2=>?_) (fun h2=>?_)
  ·refine xN (want_ft krf h2) krf (xR 14 krf (xE ?_))
   exact nq_n true ⟨[1,2,26],[2,1001],[],[]⟩ krf
  ·refine xO (want_ff krf h2) krf (xR 4 krf ?_)
   refine xS (ltI a0n.N 1) (fun h3=>?_) (fun h3=>?_)
   ·refine xN (want_ft krf h3) krf (xR 9 krf (xE ?_))
    exact nq_n true ⟨[1,2,26],[2,1001],[],[]⟩ krf
   ·refine xO (want_ff krf h3) krf (xR 4 krf ?_)
    refine xS (ltI 7 a0n.N) (fun h4=>?_) (fun h4=>?_)
    ·refine xN (want_ft krf h4) krf (xR 4 krf (xE ?_))
     exact nq_n true ⟨[1,2,26],[2,1001],[],[]⟩ krf
    ·refine xO (want_ff krf h4) krf (xR 1 krf ?_)
     refine xC [] krf (g_p_goodName_ok n a0n.Name) krf krf (fun _=>by kernel_rfl) (fun r5=>?_)
     refine xR 2 krf (xE ?_)
     exact nq_n (!r5) ⟨[1,2,26],[2,1001],[],[]⟩ krf
 ·rintro j1
  refine sC j1 krf ?_ ?_
  ·refine sR tfm ⟨[4],[1001],[],[]⟩ ⟨[(4,B false)],[(1001, .box 3 [I a1left])]⟩ krf (sT (sq_r ?_))
   exact hq_ret (.id) [1001] [] krf krf krf krf
  ·refine sK (sN ⟨[1,2],[2,1001],[],[]⟩ ⟨[(1, .ptr 1001 0),(2, .ptr 2 0)],[(2, .box 107 (bxc (GNode.cs a0n))),(1001, .box 3 [I a1left])]⟩ krf (sR tfm ⟨[1,2],[2,1001],[],[]⟩ ⟨[(1, .ptr 1001 0),(2, .ptr 2 0)],[(2, .box 107 (bxc (GNode.cs a0n))),(1001, .box 3 [I (wi (a1left - (lenI (mI a0n.Kids))))])]⟩ krf (sS (sR tfm ⟨[1,2,38],[2,1001],[],[]⟩ ⟨[(1, .ptr 1001 0),(2, .ptr 2 0),(38,B (ltI (wi (a1left - (lenI (mI a0n.Kids)))) 0))],[(2, .box 107 (bxc (GNode.cs a0n))),(1001, .box 3 [I (wi (a1left - (lenI (mI a0n.Kids))))])]⟩ krf (sC (ltI (wi (a1left - (lenI (mI a0n.Kids)))) 0) krf ?_ ?_)))))
   ·refine sR tfm ⟨[4],[1001],[],[]⟩ ⟨[(4,B false)],[(1001, .box 3 [I (wi (a1left - (lenI (mI a0n.Kids))))])]⟩ krf (sT (sq_r ?_))
    exact hq_ret (.id) [1001] [] krf krf krf krf
   ·refine sK (sN ⟨[1,2],[2,1001],[],[]⟩ ⟨[(1, .ptr 1001 0),(2, .ptr 2 0)],[(2, .box 107 (bxc (GNode.cs a0n))),(1001, .box 3 [I (wi (a1left - (lenI (mI a0n.Kids))))])]⟩ krf (sR tfm ⟨[1,2,5],[2,1001],[],[]⟩ ⟨[(1, .ptr 1001 0),(2, .ptr 2 0),(5,B false)],[(2, .box 107 (bxc (GNode.cs a0n))),(1001, .box 3 [I (wi (a1left - (lenI (mI a0n.Kids))))])]⟩ krf (sim_cps (fun (j6_1,j6_2)=>⟨[(2, .ptr 2 0),(5,B j6_1)],[(2, .box 107 (bxc (GNode.cs a0n))),(1001, .box 3 [I j6_2])]⟩:(Bool × Int)→St) (fun (j6_1,j6_2)=>g_p_validItem_j6 a0n j6_1 j6_2) ?_ ?_)))
    ·rintro ⟨j6_1,j6_2⟩
     show SimE (g_p_validItem_j6 a0n j6_1 j6_2) _ _ _ _ _ _
     unfold g_p_validItem_j6
     refine sS (sG (xR 3 krf ?_))
     refine xS (!j6_1) (fun h7=>?_) (fun h7=>?_)
     ·refine xN (want_ft krf h7) krf (xR 4 krf (xE (sN ⟨[4],[1001],[],[]⟩ ⟨[(4,B true)],[(1001, .box 3 [I j6_2])]⟩ krf (sT ?_))))
      exact hq_ret (.id) [1001] [] krf krf krf krf
     ·refine xO (want_ff krf h7) krf (xR 4 krf (xE (sN ⟨[4],[1001],[],[]⟩ ⟨[(4,B (eqI a0n.N 7))],[(1001, .box 3 [I j6_2])]⟩ krf (sT ?_))))
      exact hq_ret (.id) [1001] [] krf krf krf krf
    ·refine sR tfm ⟨[1,2,5,40,41,42],[2,1001],[],[]⟩ ⟨[(1, .ptr 1001 0),(2, .ptr 2 0),(5,B false),(40, .p (.sl 5 (mI a0n.Kids))),(41,I (lenI (mI a0n.Kids))),(42,I 0)],[(2, .box 107 (bxc (GNode.cs a0n))),(1001, .box 3 [I (wi (a1left - (lenI (mI a0n.Kids))))])]⟩ krf (sB (sim_loop (fun (l8_1,l8_2,l8_3)=>⟨[(1, .ptr 1001 0),(2, .ptr 2 0),(5,B l8_1),(40, .p (.sl 5 (mI a0n.Kids))),(41,I (lenI (mI a0n.Kids))),(42,I l8_2)],[(2, .box 107 (bxc (GNode.cs a0n))),(1001, .box 3 [I l8_3])]⟩:(Bool × Int × Int)→St) (weak_shr (K:=⟨[1,2,5,40,41,42],[2,1001],[],[]⟩) krf) ?_))
     rintro recl8 ⟨l8_1,l8_2,l8_3⟩
     show SimE (g_p_validItem_l8 n a0n recl8 l8_1 l8_2 l8_3) _ _ _ _ _ _
     unfold g_p_validItem_l8
     refine sR tfm ⟨[1,2,5,40,41,42,43],[2,1001],[],[]⟩ ⟨[(1, .ptr 1001 0),(2, .ptr 2 0),(5,B l8_1),(40, .p (.sl 5 (mI a0n.Kids))),(41,I (lenI (mI a0n.Kids))),(42,I l8_2),(43,B (ltI l8_2 (lenI (mI a0n.Kids))))],[(2, .box 107 (bxc (GNode.cs a0n))),(1001, .box 3 [I l8_3])]⟩ krf (sS (sC (ltI l8_2 (lenI (mI a0n.Kids))) krf ?_ ?_))
     ·refine sK (sN ⟨[1,2,5,40,41,42],[2,1001],[],[]⟩ ⟨[(1, .ptr 1001 0),(2, .ptr 2 0),(5,B l8_1),(40, .p (.sl 5 (mI a0n.Kids))),(41,I (lenI (mI a0n.Kids))),(42,I l8_2)],[(2, .box 107 (bxc (GNode.cs a0n))),(1001, .box 3 [I l8_3])]⟩ krf (sS (sB (sS (sG ?_)))))
      refine xG krf krf (aop_idxR (e:=107) (S:=5) (enc:=GNode.cs) (dec:=GNode.of) (l:=a0n.Kids) (k:=.i64) (n:=l8_2) (sv:=.p (.sl 5 (mI a0n.Kids))) GNode.of_cs rfl krf krf krf krf krf) (fun x9=>?_)
      refine xR 3 krf (xE (sN ⟨[1,2,5,7,40,41,42],[2,7,1001],[],[]⟩ ⟨[(1, .ptr 1001 0),(2, .ptr 2 0),(5,B l8_1),(7, .ptr 7 0),(40, .p (.sl 5 (mI a0n.Kids))),(41,I (lenI (mI a0n.Kids))),(42,I l8_2)],[(2, .box 107 (bxc (GNode.cs a0n))),(7, .box 107 (bxc (GNode.cs x9))),(1001, .box 3 [I l8_3])]⟩ krf (sim_cps (fun j10=>⟨[(1, .ptr 1001 0),(2, .ptr 2 0),(5,B j10),(7, .ptr 7 0),(40, .p (.sl 5 (mI a0n.Kids))),(41,I (lenI (mI a0n.Kids))),(42,I l8_2)],[(2, .box 107 (bxc (GNode.cs a0n))),(7, .box 107 (bxc (GNode.cs x9))),(1001, .box 3 [I l8_3])]⟩:Bool→St) (fun j10=>g_p_validItem_j10 n l8_2 l8_3 recl8 x9 j10) ?_ ?_)))
      ·rintro j10
       show SimE (g_p_validItem_j10 n l8_2 l8_3 recl8 x9 j10) _ _ _ _ _ _
       unfold g_p_validItem_j10
       refine sS (sG (xR 2 krf ?_))
       refine xs_heap [(1001,1001)] [] [] krf (g_p_validPart_ok n x9 l8_3) krf krf krf (fun _=>by kernel_rfl) (fun _=>by kernel_rfl) (fun r11=>?_)
       refine xR 1 krf (xE (sN ⟨[1,2,5,7,40,41,42,53],[2,7,1001],[],[]⟩ ⟨[(1, .ptr 1001 0),(2, .ptr 2 0),(5,B j10),(7, .ptr 7 0),(40, .p (.sl 5 (mI a0n.Kids))),(41,I (lenI (mI a0n.Kids))),(42,I l8_2),(53,B (!r11.1))],[(2, .box 107 (bxc (GNode.cs a0n))),(7, .box 107 (bxc (GNode.cs x9))),(1001, .box 3 [I r11.2])]⟩ krf (sC (!r11.1) krf ?_ ?_)))
       ·refine sR tfm ⟨[4],[1001],[],[]⟩ ⟨[(4,B false)],[(1001, .box 3 [I r11.2])]⟩ krf (sT (bq_r (sq_r (kq_r (bq_r (kq_r ?_))))))
        exact hq_ret (.id) [1001] [] krf krf krf krf
       ·refine sK (bq_n (sN ⟨[1,2,5,7,40,41,42],[2,7,1001],[],[]⟩ ⟨[(1, .ptr 1001 0),(2, .ptr 2 0),(5,B j10),(7, .ptr 7 0),(40, .p (.sl 5 (mI a0n.Kids))),(41,I (lenI (mI a0n.Kids))),(42,I l8_2)],[(2, .box 107 (bxc (GNode.cs a0n))),(7, .box 107 (bxc (GNode.cs x9))),(1001, .box 3 [I r11.2])]⟩ krf (sL tfm krf ?_)))
        exact kq_n (j10,wi (l8_2+1),r11.2) ⟨[1,2,5,40,41,42],[2,1001],[],[]⟩ krf
      ·refine sR tfm ⟨[1,2,5,7,40,41,42,48],[2,7,1001],[],[]⟩ ⟨[(1, .ptr 1001 0),(2, .ptr 2 0),(5,B l8_1),(7, .ptr 7 0),(40, .p (.sl 5 (mI a0n.Kids))),(41,I (lenI (mI a0n.Kids))),(42,I l8_2),(48,B (eqI x9.Kind 4))],[(2, .box 107 (bxc (GNode.cs a0n))),(7, .box 107 (bxc (GNode.cs x9))),(1001, .box 3 [I l8_3])]⟩ krf (sC (eqI x9.Kind 4) krf ?_ ?_)
       ·refine sL tfm krf ?_
        exact kq_n (k:=fun j10=>g_p_validItem_j10 n l8_2 l8_3 recl8 x9 j10) true ⟨[1,2,5,7,40,41,42],[2,7,1001],[],[]⟩ krf
       ·refine sR tfm ⟨[1,2,5,7,40,41,42,49],[2,7,1001],[],[]⟩ ⟨[(1, .ptr 1001 0),(2, .ptr 2 0),(5,B l8_1),(7, .ptr 7 0),(40, .p (.sl 5 (mI a0n.Kids))),(41,I (lenI (mI a0n.Kids))),(42,I l8_2),(49,B l8_1)],[(2, .box 107 (bxc (GNode.cs a0n))),(7, .box 107 (bxc (GNode.cs x9))),(1001, .box 3 [I l8_3])]⟩ krf (sC l8_1 krf ?_ ?_)
        ·refine sR tfm ⟨[4],[1001],[],[]⟩ ⟨[(4,B false)],[(1001, .box 3 [I l8_3])]⟩ krf (sT (kq_r (bq_r (sq_r (kq_r (bq_r (kq_r ?_)))))))
         exact hq_ret (.id) [1001] [] krf krf krf krf
        ·refine sK ?_
         exact kq_n (k:=fun j10=>g_p_validItem_j10 n l8_2 l8_3 recl8 x9 j10) l8_1 ⟨[1,2,5,7,40,41,42],[2,7,1001],[],[]⟩ krf
     ·refine sim_exit (sq_x (kq_x (bq_hit ?_)))
      exact kq_n (k:=fun (j6_1,j6_2)=>g_p_validItem_j6 a0n j6_1 j6_2) (l8_1,l8_3) ⟨[2,5],[2,1001],[],[]⟩ krf
def g_p_Valid_l5 (n:Nat) (a0n:GNode) (recl5:(Int × Int)→Option Bool) (l5_1:Int) (l5_2:Int):Option Bool :=
 cond (ltI l5_1 (lenI (List.map idc a0n.Kids)))
  ((Option.bind (getI a0n.Kids l5_1) GNode.of).bind fun x6 =>
  (g_p_validItem n x6 l5_2).bind fun r7 =>
  cond (!r7.1)
   (some false)
   (recl5 (wi (l5_1+1),r7.2)))
  (some true)
def g_p_Valid (n:Nat) (a0n:GNode):Option Bool :=
 (cond (!eqI a0n.Kind 1)
  (some true)
  (cond (!eqS a0n.Name [])
   (some true)
   (cond (!eqI a0n.N 0)
    (some true)
    (some (ltI (wi (1499 - (lenI (List.map idc a0n.Kids)))) 0))))).bind fun j1 =>
 cond j1
  (some false)
  (loopN (fun recl5 (l5_1,l5_2)=>g_p_Valid_l5 n a0n recl5 l5_1 l5_2) n (0,wi (1499 - (lenI (List.map idc a0n.Kids)))))
theorem g_p_Valid_ok (n:Nat) (a0n:GNode):∀ r,g_p_Valid n a0n=some r→PCall Tryz.prog 55 [ag (GNode.cs a0n)] (.ret (B r)):=by
 refine pcall_sim (X:=fun r:Bool=>AEnd.ret (B r)) Tryz.func55 rfl Tryz.ntmps55 rfl ?_
 unfold g_p_Valid
 refine sR tfm ⟨[1],[1],[],[]⟩ ⟨[(1, .ptr 1 0)],[(1, .box 107 (bxc (GNode.cs a0n)))]⟩ krf (sR tfm ⟨[1,3,6,7],[1,3],[],[]⟩ ⟨[(1, .ptr 1 0),(3, .ptr 3 0),(6, .ptr 1 4),(7, .p (.sl 5 (mI a0n.Kids)))],[(1, .box 107 (bxc (GNode.cs a0n))),(3, .box 3 [I (wi (1499 - (lenI (mI a0n.Kids))))])]⟩ krf (sS (sim_bind (fun j1=>⟨[(1, .ptr 1 0),(3, .ptr 3 0),(6, .ptr 1 4),(7, .p (.sl 5 (mI a0n.Kids))),(26,B j1)],[(1, .box 107 (bxc (GNode.cs a0n))),(3, .box 3 [I (wi (1499 - (lenI (mI a0n.Kids))))])]⟩:Bool→St) ?_ ?_)))
 ·refine sG (xR 4 krf ?_)
  refine xS (!eqI a0n.Kind 1) (fun h2=>?_) (fun h2=>?_)
  ·refine xN (want_ft krf h2) krf (xR 12 krf (xE ?_))
   exact nq_n true ⟨[1,3,6,7,26],[1,3],[],[]⟩ krf
  ·refine xO (want_ff krf h2) krf (xR 4 krf ?_)
   refine xS (!eqS a0n.Name []) (fun h3=>?_) (fun h3=>?_)
   ·refine xN (want_ft krf h3) krf (xR 7 krf (xE ?_))
    exact nq_n true ⟨[1,3,6,7,26],[1,3],[],[]⟩ krf
   ·refine xO (want_ff krf h3) krf (xR 4 krf ?_)
    refine xS (!eqI a0n.N 0) (fun h4=>?_) (fun h4=>?_)
    ·refine xN (want_ft krf h4) krf (xR 2 krf (xE ?_))
     exact nq_n true ⟨[1,3,6,7,26],[1,3],[],[]⟩ krf
    ·refine xO (want_ff krf h4) krf (xR 2 krf (xE ?_))
     exact nq_n (ltI (wi (1499 - (lenI (mI a0n.Kids)))) 0) ⟨[1,3,6,7,26],[1,3],[],[]⟩ krf
 ·rintro j1
  refine sC j1 krf ?_ ?_
  ·refine sR tfm ⟨[2],[],[],[]⟩ ⟨[(2,B false)],[]⟩ krf (sT (sq_r ?_))
   exact qR (.id) krf krf krf
  ·refine sK (sN ⟨[1,3,6,7],[1,3],[],[]⟩ ⟨[(1, .ptr 1 0),(3, .ptr 3 0),(6, .ptr 1 4),(7, .p (.sl 5 (mI a0n.Kids)))],[(1, .box 107 (bxc (GNode.cs a0n))),(3, .box 3 [I (wi (1499 - (lenI (mI a0n.Kids))))])]⟩ krf (sS (sR tfm ⟨[3,6,7,28,29,30],[1,3],[],[]⟩ ⟨[(3, .ptr 3 0),(6, .ptr 1 4),(7, .p (.sl 5 (mI a0n.Kids))),(28, .p (.sl 5 (mI a0n.Kids))),(29,I (lenI (mI a0n.Kids))),(30,I 0)],[(1, .box 107 (bxc (GNode.cs a0n))),(3, .box 3 [I (wi (1499 - (lenI (mI a0n.Kids))))])]⟩ krf (sB (sim_loop (fun (l5_1,l5_2)=>⟨[(3, .ptr 3 0),(6, .ptr 1 4),(7, .p (.sl 5 (mI a0n.Kids))),(28, .p (.sl 5 (mI a0n.Kids))),(29,I (lenI (mI a0n.Kids))),(30,I l5_1)],[(1, .box 107 (bxc (GNode.cs a0n))),(3, .box 3 [I l5_2])]⟩:(Int × Int)→St) (weak_shr (K:=⟨[3,6,7,28,29,30],[1,3],[],[]⟩) krf) ?_)))))
   rintro recl5 ⟨l5_1,l5_2⟩
   show SimE (g_p_Valid_l5 n a0n recl5 l5_1 l5_2) _ _ _ _ _ _
   unfold g_p_Valid_l5
   refine sR tfm ⟨[3,6,7,28,29,30,31],[1,3],[],[]⟩ ⟨[(3, .ptr 3 0),(6, .ptr 1 4),(7, .p (.sl 5 (mI a0n.Kids))),(28, .p (.sl 5 (mI a0n.Kids))),(29,I (lenI (mI a0n.Kids))),(30,I l5_1),(31,B (ltI l5_1 (lenI (mI a0n.Kids))))],[(1, .box 107 (bxc (GNode.cs a0n))),(3, .box 3 [I l5_2])]⟩ krf (sS (sC (ltI l5_1 (lenI (mI a0n.Kids))) krf ?_ ?_))
   ·refine sK (sN ⟨[3,6,7,28,29,30],[1,3],[],[]⟩ ⟨[(3, .ptr 3 0),(6, .ptr 1 4),(7, .p (.sl 5 (mI a0n.Kids))),(28, .p (.sl 5 (mI a0n.Kids))),(29,I (lenI (mI a0n.Kids))),(30,I l5_1)],[(1, .box 107 (bxc (GNode.cs a0n))),(3, .box 3 [I l5_2])]⟩ krf (sS (sB (sS (sG ?_)))))
    refine xG krf krf (aop_idxR (e:=107) (S:=5) (enc:=GNode.cs) (dec:=GNode.of) (l:=a0n.Kids) (k:=.i64) (n:=l5_1) (sv:=.p (.sl 5 (mI a0n.Kids))) GNode.of_cs rfl krf krf krf krf krf) (fun x6=>?_)
    refine xR 3 krf (xE (sN ⟨[3,5,6,7,28,29,30],[1,3,5],[],[]⟩ ⟨[(3, .ptr 3 0),(5, .ptr 5 0),(6, .ptr 1 4),(7, .p (.sl 5 (mI a0n.Kids))),(28, .p (.sl 5 (mI a0n.Kids))),(29,I (lenI (mI a0n.Kids))),(30,I l5_1)],[(1, .box 107 (bxc (GNode.cs a0n))),(3, .box 3 [I l5_2]),(5, .box 107 (bxc (GNode.cs x6)))]⟩ krf (sS (sG (xR 1 krf ?_)))))
    refine xs_heap [(1001,3)] [] [] krf (g_p_validItem_ok n x6 l5_2) krf krf krf (fun _=>by kernel_rfl) (fun _=>by kernel_rfl) (fun r7=>?_)
    refine xR 1 krf (xE (sN ⟨[3,6,7,28,29,30,36],[1,3],[],[]⟩ ⟨[(3, .ptr 3 0),(6, .ptr 1 4),(7, .p (.sl 5 (mI a0n.Kids))),(28, .p (.sl 5 (mI a0n.Kids))),(29,I (lenI (mI a0n.Kids))),(30,I l5_1),(36,B (!r7.1))],[(1, .box 107 (bxc (GNode.cs a0n))),(3, .box 3 [I r7.2])]⟩ krf (sC (!r7.1) krf ?_ ?_)))
    ·refine sR tfm ⟨[2],[],[],[]⟩ ⟨[(2,B false)],[]⟩ krf (sT (bq_r (sq_r (kq_r (bq_r (sq_r ?_))))))
     exact qR (.id) krf krf krf
    ·refine sK (bq_n (sN ⟨[3,6,7,28,29,30],[1,3],[],[]⟩ ⟨[(3, .ptr 3 0),(6, .ptr 1 4),(7, .p (.sl 5 (mI a0n.Kids))),(28, .p (.sl 5 (mI a0n.Kids))),(29,I (lenI (mI a0n.Kids))),(30,I l5_1)],[(1, .box 107 (bxc (GNode.cs a0n))),(3, .box 3 [I r7.2])]⟩ krf (sL tfm krf ?_)))
     exact kq_n (wi (l5_1+1),r7.2) ⟨[3,6,7,28,29,30],[1,3],[],[]⟩ krf
   ·refine sim_exit (sq_x (kq_x (bq_hit (sN ⟨[6,7],[1],[],[]⟩ ⟨[(6, .ptr 1 4),(7, .p (.sl 5 (mI a0n.Kids)))],[(1, .box 107 (bxc (GNode.cs a0n)))]⟩ krf (sR tfm ⟨[2],[],[],[]⟩ ⟨[(2,B true)],[]⟩ krf (sT ?_))))))
    exact qR (.id) krf krf krf
def g_t_inside (n:Nat) (a0n:Int) (a1least:Int) (a2greatest:Int):Option Bool :=
 cond (leI a1least a0n)
  (some (leI a0n a2greatest))
  (some false)
theorem g_t_inside_ok (n:Nat) (a0n:Int) (a1least:Int) (a2greatest:Int):∀ r,g_t_inside n a0n a1least a2greatest=some r→PCall Tryz.prog 77 [I a0n,I a1least,I a2greatest] (.ret (B r)):=by
 refine pcall_sim (X:=fun r:Bool=>AEnd.ret (B r)) Tryz.func77 rfl Tryz.ntmps77 rfl ?_
 unfold g_t_inside
 refine sR tfm ⟨[0,1,2,6],[],[],[]⟩ ⟨[(0,I a0n),(1,I a1least),(2,I a2greatest),(6,B false)],[]⟩ krf (sS (sG (xR 4 krf ?_)))
 refine xS (leI a1least a0n) (fun h1=>?_) (fun h1=>?_)
 ·refine xO (want_tt krf h1) krf (xR 4 krf (xE (sN ⟨[6],[],[],[]⟩ ⟨[(6,B (leI a0n a2greatest))],[]⟩ krf (sT ?_))))
  exact qR (.id) krf krf krf
 ·refine xN (want_tf krf h1) krf (xR 4 krf (xE (sN ⟨[6],[],[],[]⟩ ⟨[(6,B false)],[]⟩ krf (sT ?_))))
  exact qR (.id) krf krf krf
def g_t_isWhole (n:Nat) (a0kind:Int):Option Bool :=
 cond (eqI a0kind 5)
  (some true)
  (some (eqI a0kind 6))
theorem g_t_isWhole_ok (n:Nat) (a0kind:Int):∀ r,g_t_isWhole n a0kind=some r→PCall Tryz.prog 78 [I a0kind] (.ret (B r)):=by
 refine pcall_sim (X:=fun r:Bool=>AEnd.ret (B r)) Tryz.func78 rfl Tryz.ntmps78 rfl ?_
 unfold g_t_isWhole
 refine sR tfm ⟨[0],[],[],[]⟩ ⟨[(0,I a0kind)],[]⟩ krf (sS (sG (xR 3 krf ?_)))
 refine xS (eqI a0kind 5) (fun h1=>?_) (fun h1=>?_)
 ·refine xN (want_ft krf h1) krf (xR 3 krf (xE (sN ⟨[2],[],[],[]⟩ ⟨[(2,B true)],[]⟩ krf (sT ?_))))
  exact qR (.id) krf krf krf
 ·refine xO (want_ff krf h1) krf (xR 3 krf (xE (sN ⟨[2],[],[],[]⟩ ⟨[(2,B (eqI a0kind 6))],[]⟩ krf (sT ?_))))
  exact qR (.id) krf krf krf
def g_t_isTime (n:Nat) (a0kind:Int):Option Bool :=
 cond (eqI a0kind 3)
  (some true)
  (some (eqI a0kind 4))
theorem g_t_isTime_ok (n:Nat) (a0kind:Int):∀ r,g_t_isTime n a0kind=some r→PCall Tryz.prog 79 [I a0kind] (.ret (B r)):=by
 refine pcall_sim (X:=fun r:Bool=>AEnd.ret (B r)) Tryz.func79 rfl Tryz.ntmps79 rfl ?_
 unfold g_t_isTime
 refine sR tfm ⟨[0],[],[],[]⟩ ⟨[(0,I a0kind)],[]⟩ krf (sS (sG (xR 3 krf ?_)))
 refine xS (eqI a0kind 3) (fun h1=>?_) (fun h1=>?_)
 ·refine xN (want_ft krf h1) krf (xR 3 krf (xE (sN ⟨[2],[],[],[]⟩ ⟨[(2,B true)],[]⟩ krf (sT ?_))))
  exact qR (.id) krf krf krf
 ·refine xO (want_ff krf h1) krf (xR 3 krf (xE (sN ⟨[2],[],[],[]⟩ ⟨[(2,B (eqI a0kind 4))],[]⟩ krf (sT ?_))))
  exact qR (.id) krf krf krf
def g_t_validArticle (n:Nat) (a0a:GAr):Option Bool :=
 ((g_t_inside n a0a.Kind 1 6).bind fun r2 =>
 cond (!r2)
  (some (r2,!r2,true))
  ((g_t_inside n a0a.From 0 1439).bind fun r4 =>
  cond (!r4)
   (some (r2,!r2,true))
   ((g_t_inside n a0a.To (wi (a0a.From+1)) 1440).bind fun r6 =>
   cond (!r6)
    (some (r2,!r2,true))
    ((g_t_inside n a0a.Days 1 7).bind fun r8 =>
    some (r2,!r2,!r8))))).bind fun (j1_1,j1_2,j1_3) =>
 cond j1_3
  (some false)
  (((g_t_isWhole n a0a.Kind).bind fun r10 =>
  cond r10
   (cond (!eqI a0a.From 0)
    (some true)
    (cond (!eqI a0a.To 1440)
     (some true)
     (some (!eqI a0a.Days 7))))
   (some false)).bind fun j9 =>
  cond j9
   (some false)
   ((cond (eqI a0a.Kind 6)
    (some 10000)
    (some 1000000)).bind fun j14 =>
   (g_t_inside n a0a.Price 0 j14).bind fun r15 =>
   cond (!r15)
    (some false)
    ((g_t_isTime n a0a.Kind).bind fun r16 =>
    cond r16
     (((g_t_inside n a0a.Unit 1 1440).bind fun r18 =>
     cond r18
      ((g_t_inside n a0a.Free 0 1440).bind fun r20 =>
      some r20)
      (some false)).bind fun j17 =>
     some j17)
     (cond (eqI a0a.Unit 0)
      (some (eqI a0a.Free 0))
      (some false)))))
theorem g_t_validArticle_ok (n:Nat) (a0a:GAr):∀ r,g_t_validArticle n a0a=some r→PCall Tryz.prog 56 [ag (GAr.cs a0a)] (.ret (B r)):=by
 refine pcall_sim (X:=fun r:Bool=>AEnd.ret (B r)) Tryz.func56 rfl Tryz.ntmps56 rfl ?_
 unfold g_t_validArticle
 refine sR tfm ⟨[1],[1],[],[]⟩ ⟨[(1, .ptr 1 0)],[(1, .box 73 (bxc (GAr.cs a0a)))]⟩ krf (sS (sim_bind (fun (j1_1,j1_2,j1_3)=>⟨[(1, .ptr 1 0),(6,B j1_1),(7,B j1_2),(28,B j1_3)],[(1, .box 73 (bxc (GAr.cs a0a)))]⟩:(Bool × Bool × Bool)→St) ?_ ?_))
 ·refine sG (xR 2 krf ?_)
  refine xC [] krf (g_t_inside_ok n a0a.Kind 1 6) krf krf (fun _=>by kernel_rfl) (fun r2=>?_)
  refine xR 2 krf ?_
  refine xS (!r2) (fun h3=>?_) (fun h3=>?_)
  ·refine xN (want_ft krf h3) krf (xR 19 krf (xE ?_))
   exact nq_n (r2,!r2,true) ⟨[1,6,7,28],[1],[],[]⟩ krf
  ·refine xO (want_ff krf h3) krf (xR 1 krf ?_)
   refine xC [] krf (g_t_inside_ok n a0a.From 0 1439) krf krf (fun _=>by kernel_rfl) (fun r4=>?_)
   refine xR 3 krf ?_
   refine xS (!r4) (fun h5=>?_) (fun h5=>?_)
   ·refine xN (want_ft krf h5) krf (xR 13 krf (xE ?_))
    exact nq_n (r2,!r2,true) ⟨[1,6,7,28],[1],[],[]⟩ krf
   ·refine xO (want_ff krf h5) krf (xR 4 krf ?_)
    refine xC [] krf (g_t_inside_ok n a0a.To (wi (a0a.From+1)) 1440) krf krf (fun _=>by kernel_rfl) (fun r6=>?_)
    refine xR 3 krf ?_
    refine xS (!r6) (fun h7=>?_) (fun h7=>?_)
    ·refine xN (want_ft krf h7) krf (xR 4 krf (xE ?_))
     exact nq_n (r2,!r2,true) ⟨[1,6,7,28],[1],[],[]⟩ krf
    ·refine xO (want_ff krf h7) krf (xR 1 krf ?_)
     refine xC [] krf (g_t_inside_ok n a0a.Days 1 7) krf krf (fun _=>by kernel_rfl) (fun r8=>?_)
     refine xR 2 krf (xE ?_)
     exact nq_n (r2,!r2,!r8) ⟨[1,6,7,28],[1],[],[]⟩ krf
 ·rintro ⟨j1_1,j1_2,j1_3⟩
  refine sC j1_3 krf ?_ ?_
  ·refine sR tfm ⟨[2],[],[],[]⟩ ⟨[(2,B false)],[]⟩ krf (sT (sq_r ?_))
   exact qR (.id) krf krf krf
  ·refine sK (sN ⟨[1,6,7],[1],[],[]⟩ ⟨[(1, .ptr 1 0),(6,B j1_1),(7,B j1_2)],[(1, .box 73 (bxc (GAr.cs a0a)))]⟩ krf (sS (sim_bind (fun j9=>⟨[(1, .ptr 1 0),(6,B j1_1),(7,B j1_2),(46,B j9)],[(1, .box 73 (bxc (GAr.cs a0a)))]⟩:Bool→St) ?_ ?_)))
   ·refine sG (xR 2 krf ?_)
    refine xC [] krf (g_t_isWhole_ok n a0a.Kind) krf krf (fun _=>by kernel_rfl) (fun r10=>?_)
    refine xR 1 krf ?_
    refine xS r10 (fun h11=>?_) (fun h11=>?_)
    ·refine xO (want_tt krf h11) krf (xR 3 krf ?_)
     refine xS (!eqI a0a.From 0) (fun h12=>?_) (fun h12=>?_)
     ·refine xN (want_ft krf h12) krf (xR 9 krf (xE ?_))
      exact nq_n true ⟨[1,6,7,46],[1],[],[]⟩ krf
     ·refine xO (want_ff krf h12) krf (xR 4 krf ?_)
      refine xS (!eqI a0a.To 1440) (fun h13=>?_) (fun h13=>?_)
      ·refine xN (want_ft krf h13) krf (xR 4 krf (xE ?_))
       exact nq_n true ⟨[1,6,7,46],[1],[],[]⟩ krf
      ·refine xO (want_ff krf h13) krf (xR 4 krf (xE ?_))
       exact nq_n (!eqI a0a.Days 7) ⟨[1,6,7,46],[1],[],[]⟩ krf
    ·refine xN (want_tf krf h11) krf (xR 13 krf (xE ?_))
     exact nq_n false ⟨[1,6,7,46],[1],[],[]⟩ krf
   ·rintro j9
    refine sC j9 krf ?_ ?_
    ·refine sR tfm ⟨[2],[],[],[]⟩ ⟨[(2,B false)],[]⟩ krf (sT (sq_r ?_))
     exact qR (.id) krf krf krf
    ·refine sK (sN ⟨[1,6,7],[1],[],[]⟩ ⟨[(1, .ptr 1 0),(6,B j1_1),(7,B j1_2)],[(1, .box 73 (bxc (GAr.cs a0a)))]⟩ krf (sR tfm ⟨[1,3,6,7],[1],[],[]⟩ ⟨[(1, .ptr 1 0),(3,I 1000000),(6,B j1_1),(7,B j1_2)],[(1, .box 73 (bxc (GAr.cs a0a)))]⟩ krf (sim_bind (fun j14=>⟨[(1, .ptr 1 0),(3,I j14),(6,B j1_1),(7,B j1_2)],[(1, .box 73 (bxc (GAr.cs a0a)))]⟩:Int→St) ?_ ?_)))
     ·refine sR tfm ⟨[1,3,6,7,49],[1],[],[]⟩ ⟨[(1, .ptr 1 0),(3,I 1000000),(6,B j1_1),(7,B j1_2),(49,B (eqI a0a.Kind 6))],[(1, .box 73 (bxc (GAr.cs a0a)))]⟩ krf (sC (eqI a0a.Kind 6) krf ?_ ?_)
      ·refine sL tfm krf ?_
       exact nq_n 10000 ⟨[1,3,6,7],[1],[],[]⟩ krf
      ·refine sK ?_
       exact nq_n 1000000 ⟨[1,3,6,7],[1],[],[]⟩ krf
     ·rintro j14
      refine sS (sS (sG (xR 3 krf ?_)))
      refine xC [] krf (g_t_inside_ok n a0a.Price 0 j14) krf krf (fun _=>by kernel_rfl) (fun r15=>?_)
      refine xR 1 krf (xE (sN ⟨[1,6,7,54],[1],[],[]⟩ ⟨[(1, .ptr 1 0),(6,B j1_1),(7,B j1_2),(54,B (!r15))],[(1, .box 73 (bxc (GAr.cs a0a)))]⟩ krf (sC (!r15) krf ?_ ?_)))
      ·refine sR tfm ⟨[2],[],[],[]⟩ ⟨[(2,B false)],[]⟩ krf (sT (sq_r ?_))
       exact qR (.id) krf krf krf
      ·refine sK (sN ⟨[1,6,7],[1],[],[]⟩ ⟨[(1, .ptr 1 0),(6,B j1_1),(7,B j1_2)],[(1, .box 73 (bxc (GAr.cs a0a)))]⟩ krf (sS (sS (sG (xR 2 krf ?_)))))
       refine xC [] krf (g_t_isTime_ok n a0a.Kind) krf krf (fun _=>by kernel_rfl) (fun r16=>?_)
       refine xE (sN ⟨[1,6,7,57],[1],[],[]⟩ ⟨[(1, .ptr 1 0),(6,B j1_1),(7,B j1_2),(57,B r16)],[(1, .box 73 (bxc (GAr.cs a0a)))]⟩ krf (sC r16 krf ?_ ?_))
       ·refine sim_bind (fun j17=>⟨[(2,B j17)],[]⟩:Bool→St) ?_ ?_
        ·refine sG (xR 2 krf ?_)
         refine xC [] krf (g_t_inside_ok n a0a.Unit 1 1440) krf krf (fun _=>by kernel_rfl) (fun r18=>?_)
         refine xR 1 krf ?_
         refine xS r18 (fun h19=>?_) (fun h19=>?_)
         ·refine xO (want_tt krf h19) krf (xR 1 krf ?_)
          refine xC [] krf (g_t_inside_ok n a0a.Free 0 1440) krf krf (fun _=>by kernel_rfl) (fun r20=>?_)
          refine xR 2 krf (xE ?_)
          exact nq_n r20 ⟨[2],[],[],[]⟩ krf
         ·refine xN (want_tf krf h19) krf (xR 4 krf (xE ?_))
          exact nq_n false ⟨[2],[],[],[]⟩ krf
        ·rintro j17
         refine sT (sq_r ?_)
         exact qR (.id) krf krf krf
       ·refine sK (sN ⟨[1,6,7],[1],[],[]⟩ ⟨[(1, .ptr 1 0),(6,B j1_1),(7,B j1_2)],[(1, .box 73 (bxc (GAr.cs a0a)))]⟩ krf (sS (sG (xR 4 krf ?_))))
        refine xS (eqI a0a.Unit 0) (fun h21=>?_) (fun h21=>?_)
        ·refine xO (want_tt krf h21) krf (xR 4 krf (xE (sN ⟨[2],[],[],[]⟩ ⟨[(2,B (eqI a0a.Free 0))],[]⟩ krf (sT ?_))))
         exact qR (.id) krf krf krf
        ·refine xN (want_tf krf h21) krf (xR 4 krf (xE (sN ⟨[2],[],[],[]⟩ ⟨[(2,B false)],[]⟩ krf (sT ?_))))
         exact qR (.id) krf krf krf
def g_t_Valid_l4 (n:Nat) (a0t:GTf) (recl4:(Int × Int)→Option Bool) (l4_1:Int) (l4_2:Int):Option Bool :=
 cond (ltI l4_2 (lenI (List.map GAr.cs a0t.Articles)))
  ((getI a0t.Articles l4_2).bind fun x5 =>
  (g_t_validArticle n x5).bind fun r6 =>
  cond (!r6)
   (some false)
   (cond (eqI x5.Kind 6)
    (recl4 (wi (l4_1+1),wi (l4_2+1)))
    (recl4 (l4_1,wi (l4_2+1)))))
  (some (leI l4_1 1))
def g_t_Valid (n:Nat) (a0t:GTf):Option Bool :=
 ((g_p_Valid n (⟨1,[],0,0,[GNode.cs (⟨2,a0t.Name,3,0,[]⟩:GNode)]⟩:GNode)).bind fun r2 =>
 cond (!r2)
  (some true)
  (some (ltI 12 (lenI (List.map GAr.cs a0t.Articles))))).bind fun j1 =>
 cond j1
  (some false)
  (loopN (fun recl4 (l4_1,l4_2)=>g_t_Valid_l4 n a0t recl4 l4_1 l4_2) n (0,0))
theorem g_t_Valid_ok (n:Nat) (a0t:GTf):∀ r,g_t_Valid n a0t=some r→PCall Tryz.prog 27 [ag (GTf.cs a0t)] (.ret (B r)):=by
 refine pcall_sim (X:=fun r:Bool=>AEnd.ret (B r)) Tryz.func27 rfl Tryz.ntmps27 rfl ?_
 unfold g_t_Valid
 refine sR tfm ⟨[1],[1],[],[]⟩ ⟨[(1, .ptr 1 0)],[(1, .box 24 (bxc (GTf.cs a0t)))]⟩ krf (sR tfm ⟨[1,3,7],[1,3],[],[(3,[.id, .id, .id, .id, .sl 5])]⟩ ⟨[(1, .ptr 1 0),(3, .ptr 3 0),(7, .ptr 1 0)],[(1, .box 24 (bxc (GTf.cs a0t))),(3, .box 107 (bxc (GNode.cs ⟨2,a0t.Name,3,0,[]⟩)))]⟩ krf (sS (sim_bind (fun j1=>⟨[(1, .ptr 1 0),(7, .ptr 1 0),(20,B j1)],[(1, .box 24 (bxc (GTf.cs a0t)))]⟩:Bool→St) ?_ ?_)))
 ·refine sG (xR 3 krf ?_)
  refine xC [.agg [.id, .id, .id, .id, .sl 5]] krf (g_p_Valid_ok n (⟨1,[],0,0,[GNode.cs (⟨2,a0t.Name,3,0,[]⟩:GNode)]⟩:GNode)) krf krf (fun _=>by kernel_rfl) (fun r2=>?_)
  refine xR 2 krf ?_
  refine xS (!r2) (fun h3=>?_) (fun h3=>?_)
  ·refine xN (want_ft krf h3) krf (xR 4 krf (xE ?_))
   exact nq_n true ⟨[1,7,20],[1],[],[]⟩ krf
  ·refine xO (want_ff krf h3) krf (xR 4 krf (xE ?_))
   exact nq_n (ltI 12 (lenI (mAr a0t.Articles))) ⟨[1,7,20],[1],[],[]⟩ krf
 ·rintro j1
  refine sC j1 krf ?_ ?_
  ·refine sR tfm ⟨[2],[],[],[]⟩ ⟨[(2,B false)],[]⟩ krf (sT (sq_r ?_))
   exact qR (.id) krf krf krf
  ·refine sK (sN ⟨[1,7],[1],[],[]⟩ ⟨[(1, .ptr 1 0),(7, .ptr 1 0)],[(1, .box 24 (bxc (GTf.cs a0t)))]⟩ krf (sR tfm ⟨[1,4,7],[1],[],[]⟩ ⟨[(1, .ptr 1 0),(4,I 0),(7, .ptr 1 0)],[(1, .box 24 (bxc (GTf.cs a0t)))]⟩ krf (sS (sR tfm ⟨[4,7,22,23,24],[1],[],[]⟩ ⟨[(4,I 0),(7, .ptr 1 0),(22, .p (.sl 7 (mAr a0t.Articles))),(23,I (lenI (mAr a0t.Articles))),(24,I 0)],[(1, .box 24 (bxc (GTf.cs a0t)))]⟩ krf (sB (sim_loop (fun (l4_1,l4_2)=>⟨[(4,I l4_1),(7, .ptr 1 0),(22, .p (.sl 7 (mAr a0t.Articles))),(23,I (lenI (mAr a0t.Articles))),(24,I l4_2)],[(1, .box 24 (bxc (GTf.cs a0t)))]⟩:(Int × Int)→St) (weak_shr (K:=⟨[4,7,22,23,24],[1],[],[]⟩) krf) ?_))))))
   rintro recl4 ⟨l4_1,l4_2⟩
   show SimE (g_t_Valid_l4 n a0t recl4 l4_1 l4_2) _ _ _ _ _ _
   unfold g_t_Valid_l4
   refine sR tfm ⟨[4,7,22,23,24,25],[1],[],[]⟩ ⟨[(4,I l4_1),(7, .ptr 1 0),(22, .p (.sl 7 (mAr a0t.Articles))),(23,I (lenI (mAr a0t.Articles))),(24,I l4_2),(25,B (ltI l4_2 (lenI (mAr a0t.Articles))))],[(1, .box 24 (bxc (GTf.cs a0t)))]⟩ krf (sS (sC (ltI l4_2 (lenI (mAr a0t.Articles))) krf ?_ ?_))
   ·refine sK (sN ⟨[4,7,22,23,24],[1],[],[]⟩ ⟨[(4,I l4_1),(7, .ptr 1 0),(22, .p (.sl 7 (mAr a0t.Articles))),(23,I (lenI (mAr a0t.Articles))),(24,I l4_2)],[(1, .box 24 (bxc (GTf.cs a0t)))]⟩ krf (sS (sB (sS (sG ?_)))))
    refine xG krf krf (aop_idx (e:=73) (S:=7) (enc:=GAr.cs) (l:=a0t.Articles) (k:=.i64) (n:=l4_2) (sv:=.p (.sl 7 (mAr a0t.Articles))) rfl krf krf krf krf krf) (fun x5=>?_)
    refine xR 3 krf (xE (sN ⟨[4,6,7,22,23,24],[1,6],[],[]⟩ ⟨[(4,I l4_1),(6, .ptr 6 0),(7, .ptr 1 0),(22, .p (.sl 7 (mAr a0t.Articles))),(23,I (lenI (mAr a0t.Articles))),(24,I l4_2)],[(1, .box 24 (bxc (GTf.cs a0t))),(6, .box 73 (bxc (GAr.cs x5)))]⟩ krf (sS (sS (sG (xR 1 krf ?_))))))
    refine xC [] krf (g_t_validArticle_ok n x5) krf krf (fun _=>by kernel_rfl) (fun r6=>?_)
    refine xR 1 krf (xE (sN ⟨[4,6,7,22,23,24,30],[1,6],[],[]⟩ ⟨[(4,I l4_1),(6, .ptr 6 0),(7, .ptr 1 0),(22, .p (.sl 7 (mAr a0t.Articles))),(23,I (lenI (mAr a0t.Articles))),(24,I l4_2),(30,B (!r6))],[(1, .box 24 (bxc (GTf.cs a0t))),(6, .box 73 (bxc (GAr.cs x5)))]⟩ krf (sC (!r6) krf ?_ ?_)))
    ·refine sR tfm ⟨[2],[],[],[]⟩ ⟨[(2,B false)],[]⟩ krf (sT (sq_r (bq_r (sq_r (kq_r (bq_r (sq_r ?_)))))))
     exact qR (.id) krf krf krf
    ·refine sK (sN ⟨[4,6,7,22,23,24],[1,6],[],[]⟩ ⟨[(4,I l4_1),(6, .ptr 6 0),(7, .ptr 1 0),(22, .p (.sl 7 (mAr a0t.Articles))),(23,I (lenI (mAr a0t.Articles))),(24,I l4_2)],[(1, .box 24 (bxc (GTf.cs a0t))),(6, .box 73 (bxc (GAr.cs x5)))]⟩ krf (sR tfm ⟨[4,6,7,22,23,24,33],[1,6],[],[]⟩ ⟨[(4,I l4_1),(6, .ptr 6 0),(7, .ptr 1 0),(22, .p (.sl 7 (mAr a0t.Articles))),(23,I (lenI (mAr a0t.Articles))),(24,I l4_2),(33,B (eqI x5.Kind 6))],[(1, .box 24 (bxc (GTf.cs a0t))),(6, .box 73 (bxc (GAr.cs x5)))]⟩ krf (sC (eqI x5.Kind 6) krf ?_ ?_)))
     ·refine sL tfm krf (bq_n (sN ⟨[4,6,7,22,23,24],[1,6],[],[]⟩ ⟨[(4,I (wi (l4_1+1))),(6, .ptr 6 0),(7, .ptr 1 0),(22, .p (.sl 7 (mAr a0t.Articles))),(23,I (lenI (mAr a0t.Articles))),(24,I l4_2)],[(1, .box 24 (bxc (GTf.cs a0t))),(6, .box 73 (bxc (GAr.cs x5)))]⟩ krf (sL tfm krf ?_)))
      exact kq_n (wi (l4_1+1),wi (l4_2+1)) ⟨[4,7,22,23,24],[1],[],[]⟩ krf
     ·refine sK (bq_n (sN ⟨[4,6,7,22,23,24],[1,6],[],[]⟩ ⟨[(4,I l4_1),(6, .ptr 6 0),(7, .ptr 1 0),(22, .p (.sl 7 (mAr a0t.Articles))),(23,I (lenI (mAr a0t.Articles))),(24,I l4_2)],[(1, .box 24 (bxc (GTf.cs a0t))),(6, .box 73 (bxc (GAr.cs x5)))]⟩ krf (sL tfm krf ?_)))
      exact kq_n (l4_1,wi (l4_2+1)) ⟨[4,7,22,23,24],[1],[],[]⟩ krf
   ·refine sim_exit (sq_x (kq_x (bq_hit (sN ⟨[4,7],[1],[],[]⟩ ⟨[(4,I l4_1),(7, .ptr 1 0)],[(1, .box 24 (bxc (GTf.cs a0t)))]⟩ krf (sR tfm ⟨[2],[],[],[]⟩ ⟨[(2,B (leI l4_1 1))],[]⟩ krf (sT ?_))))))
    exact qR (.id) krf krf krf
def g_days_inside (n:Nat) (a0n:Int) (a1least:Int) (a2greatest:Int):Option Bool :=
 cond (leI a1least a0n)
  (some (leI a0n a2greatest))
  (some false)
theorem g_days_inside_ok (n:Nat) (a0n:Int) (a1least:Int) (a2greatest:Int):∀ r,g_days_inside n a0n a1least a2greatest=some r→PCall Tryz.prog 57 [I a0n,I a1least,I a2greatest] (.ret (B r)):=by
 refine pcall_sim (X:=fun r:Bool=>AEnd.ret (B r)) Tryz.func57 rfl Tryz.ntmps57 rfl ?_
 unfold g_days_inside
 refine sR tfm ⟨[0,1,2,6],[],[],[]⟩ ⟨[(0,I a0n),(1,I a1least),(2,I a2greatest),(6,B false)],[]⟩ krf (sS (sG (xR 4 krf ?_)))
 refine xS (leI a1least a0n) (fun h1=>?_) (fun h1=>?_)
 ·refine xO (want_tt krf h1) krf (xR 4 krf (xE (sN ⟨[6],[],[],[]⟩ ⟨[(6,B (leI a0n a2greatest))],[]⟩ krf (sT ?_))))
  exact qR (.id) krf krf krf
 ·refine xN (want_tf krf h1) krf (xR 4 krf (xE (sN ⟨[6],[],[],[]⟩ ⟨[(6,B false)],[]⟩ krf (sT ?_))))
  exact qR (.id) krf krf krf
def g_days_keys_1 (n:Nat) (a0c:GCh):Option Int :=
 some a0c.At
theorem g_days_keys_1_ok (n:Nat) (a0c:GCh):∀ r,g_days_keys_1 n a0c=some r→PCall Tryz.prog 80 [ag (GCh.cs a0c)] (.ret (I r)):=by
 refine pcall_sim (X:=fun r:Int=>AEnd.ret (I r)) Tryz.func80 rfl Tryz.ntmps80 rfl ?_
 unfold g_days_keys_1
 refine sR tfm ⟨[1],[1],[],[]⟩ ⟨[(1, .ptr 1 0)],[(1, .box 76 (bxc (GCh.cs a0c)))]⟩ krf (sR tfm ⟨[2],[],[],[]⟩ ⟨[(2,I a0c.At)],[]⟩ krf (sT ?_))
 exact qR (.id) krf krf krf
def g_dv_api_Change_l1 (n:Nat) (a0list:List GCh) (a1most:Int) (recl1:(Int × Int)→Option Bool) (l1_1:Int) (l1_2:Int):Option Bool :=
 cond (ltI l1_2 (lenI (List.map GCh.cs a0list)))
  ((getI a0list l1_2).bind fun x2 =>
  (g_days_keys_1 n x2).bind fun r3 =>
  (cond (leI r3 l1_1)
   (some true)
   (some (ltI a1most r3))).bind fun j4 =>
  cond j4
   (some false)
   ((g_days_keys_1 n x2).bind fun r6 =>
   recl1 (r6,wi (l1_2+1))))
  (some true)
def g_dv_api_Change (n:Nat) (a0list:List GCh) (a1most:Int):Option Bool :=
 loopN (fun recl1 (l1_1,l1_2)=>g_dv_api_Change_l1 n a0list a1most recl1 l1_1 l1_2) n ((-1),0)
theorem g_dv_api_Change_ok (n:Nat) (a0list:List GCh) (a1most:Int):∀ r,g_dv_api_Change n a0list a1most=some r→PCall Tryz.prog 59 [.p (.sl 2 (mCh a0list)),I a1most, .p (.val (.func (.func 80) #[] #[]))] (.ret (B r)):=by
 refine pcall_sim (X:=fun r:Bool=>AEnd.ret (B r)) Tryz.func59 rfl Tryz.ntmps59 rfl ?_
 unfold g_dv_api_Change
 refine sR tfm ⟨[0,1,2,6],[],[],[]⟩ ⟨[(0, .p (.sl 2 (mCh a0list))),(1,I a1most),(2, .p (.val (.func (.func 80) #[] #[]))),(6,B false)],[]⟩ krf (sR tfm ⟨[0,1,2,6,7],[],[],[]⟩ ⟨[(0, .p (.sl 2 (mCh a0list))),(1,I a1most),(2, .p (.val (.func (.func 80) #[] #[]))),(6,B false),(7,I (-1))],[]⟩ krf (sS (sR tfm ⟨[1,2,6,7,11,12,13],[],[],[]⟩ ⟨[(1,I a1most),(2, .p (.val (.func (.func 80) #[] #[]))),(6,B false),(7,I (-1)),(11, .p (.sl 2 (mCh a0list))),(12,I (lenI (mCh a0list))),(13,I 0)],[]⟩ krf (sB (sim_loop (fun (l1_1,l1_2)=>⟨[(1,I a1most),(2, .p (.val (.func (.func 80) #[] #[]))),(6,B false),(7,I l1_1),(11, .p (.sl 2 (mCh a0list))),(12,I (lenI (mCh a0list))),(13,I l1_2)],[]⟩:(Int × Int)→St) (weak_shr (K:=⟨[1,2,6,7,11,12,13],[],[],[]⟩) krf) ?_)))))
 rintro recl1 ⟨l1_1,l1_2⟩
 show SimE (g_dv_api_Change_l1 n a0list a1most recl1 l1_1 l1_2) _ _ _ _ _ _
 unfold g_dv_api_Change_l1
 refine sR tfm ⟨[1,2,6,7,11,12,13,14],[],[],[]⟩ ⟨[(1,I a1most),(2, .p (.val (.func (.func 80) #[] #[]))),(6,B false),(7,I l1_1),(11, .p (.sl 2 (mCh a0list))),(12,I (lenI (mCh a0list))),(13,I l1_2),(14,B (ltI l1_2 (lenI (mCh a0list))))],[]⟩ krf (sS (sC (ltI l1_2 (lenI (mCh a0list))) krf ?_ ?_))
 ·refine sK (sN ⟨[1,2,6,7,11,12,13],[],[],[]⟩ ⟨[(1,I a1most),(2, .p (.val (.func (.func 80) #[] #[]))),(6,B false),(7,I l1_1),(11, .p (.sl 2 (mCh a0list))),(12,I (lenI (mCh a0list))),(13,I l1_2)],[]⟩ krf (sS (sB (sS (sG ?_)))))
  refine xG krf krf (aop_idx (e:=76) (S:=2) (enc:=GCh.cs) (l:=a0list) (k:=.i64) (n:=l1_2) (sv:=.p (.sl 2 (mCh a0list))) rfl krf krf krf krf krf) (fun x2=>?_)
  refine xR 3 krf (xE (sN ⟨[1,2,6,7,9,11,12,13],[9],[],[]⟩ ⟨[(1,I a1most),(2, .p (.val (.func (.func 80) #[] #[]))),(6,B false),(7,I l1_1),(9, .ptr 9 0),(11, .p (.sl 2 (mCh a0list))),(12,I (lenI (mCh a0list))),(13,I l1_2)],[(9, .box 76 (bxc (GCh.cs x2)))]⟩ krf (sS (sS (sG (xR 2 krf ?_))))))
  refine xC [] krf (g_days_keys_1_ok n x2) krf krf (fun _=>by kernel_rfl) (fun r3=>?_)
  refine xR 1 krf (xE (sN ⟨[1,2,6,7,9,10,11,12,13],[9],[],[]⟩ ⟨[(1,I a1most),(2, .p (.val (.func (.func 80) #[] #[]))),(6,B false),(7,I l1_1),(9, .ptr 9 0),(10,I r3),(11, .p (.sl 2 (mCh a0list))),(12,I (lenI (mCh a0list))),(13,I l1_2)],[(9, .box 76 (bxc (GCh.cs x2)))]⟩ krf (sim_bind (fun j4=>⟨[(1,I a1most),(2, .p (.val (.func (.func 80) #[] #[]))),(6,B false),(7,I l1_1),(9, .ptr 9 0),(11, .p (.sl 2 (mCh a0list))),(12,I (lenI (mCh a0list))),(13,I l1_2),(27,B j4)],[(9, .box 76 (bxc (GCh.cs x2)))]⟩:Bool→St) ?_ ?_)))
  ·refine sG (xR 4 krf ?_)
   refine xS (leI r3 l1_1) (fun h5=>?_) (fun h5=>?_)
   ·refine xN (want_ft krf h5) krf (xR 3 krf (xE ?_))
    exact nq_n true ⟨[1,2,6,7,9,11,12,13,27],[9],[],[]⟩ krf
   ·refine xO (want_ff krf h5) krf (xR 3 krf (xE ?_))
    exact nq_n (ltI a1most r3) ⟨[1,2,6,7,9,11,12,13,27],[9],[],[]⟩ krf
  ·rintro j4
   refine sC j4 krf ?_ ?_
   ·refine sR tfm ⟨[6],[],[],[]⟩ ⟨[(6,B false)],[]⟩ krf (sT (sq_r (bq_r (sq_r (kq_r (bq_r (sq_r ?_)))))))
    exact qR (.id) krf krf krf
   ·refine sK (sN ⟨[1,2,6,7,9,11,12,13],[9],[],[]⟩ ⟨[(1,I a1most),(2, .p (.val (.func (.func 80) #[] #[]))),(6,B false),(7,I l1_1),(9, .ptr 9 0),(11, .p (.sl 2 (mCh a0list))),(12,I (lenI (mCh a0list))),(13,I l1_2)],[(9, .box 76 (bxc (GCh.cs x2)))]⟩ krf (sG (xR 2 krf ?_)))
    refine xC [] krf (g_days_keys_1_ok n x2) krf krf (fun _=>by kernel_rfl) (fun r6=>?_)
    refine xR 1 krf (xE (bq_n (sN ⟨[1,2,6,7,11,12,13],[],[],[]⟩ ⟨[(1,I a1most),(2, .p (.val (.func (.func 80) #[] #[]))),(6,B false),(7,I r6),(11, .p (.sl 2 (mCh a0list))),(12,I (lenI (mCh a0list))),(13,I l1_2)],[]⟩ krf (sL tfm krf ?_))))
    exact kq_n (r6,wi (l1_2+1)) ⟨[1,2,6,7,11,12,13],[],[],[]⟩ krf
 ·refine sim_exit (sq_x (kq_x (bq_hit (sN ⟨[6,7],[],[],[]⟩ ⟨[(6,B false),(7,I l1_1)],[]⟩ krf (sR tfm ⟨[6],[],[],[]⟩ ⟨[(6,B true)],[]⟩ krf (sT ?_))))))
  exact qR (.id) krf krf krf
def g_days_keys_2 (n:Nat) (a0day:Int):Option Int :=
 some a0day
theorem g_days_keys_2_ok (n:Nat) (a0day:Int):∀ r,g_days_keys_2 n a0day=some r→PCall Tryz.prog 81 [I a0day] (.ret (I r)):=by
 refine pcall_sim (X:=fun r:Int=>AEnd.ret (I r)) Tryz.func81 rfl Tryz.ntmps81 rfl ?_
 unfold g_days_keys_2
 refine sR tfm ⟨[0],[],[],[]⟩ ⟨[(0,I a0day)],[]⟩ krf (sR tfm ⟨[2],[],[],[]⟩ ⟨[(2,I a0day)],[]⟩ krf (sT ?_))
 exact qR (.id) krf krf krf
def g_dv_int_l1 (n:Nat) (a0list:List Int) (a1most:Int) (recl1:(Int × Int)→Option Bool) (l1_1:Int) (l1_2:Int):Option Bool :=
 cond (ltI l1_2 (lenI (List.map ci a0list)))
  ((getI a0list l1_2).bind fun x2 =>
  (g_days_keys_2 n x2).bind fun r3 =>
  (cond (leI r3 l1_1)
   (some true)
   (some (ltI a1most r3))).bind fun j4 =>
  cond j4
   (some false)
   ((g_days_keys_2 n x2).bind fun r6 =>
   recl1 (r6,wi (l1_2+1))))
  (some true)
def g_dv_int (n:Nat) (a0list:List Int) (a1most:Int):Option Bool :=
 loopN (fun recl1 (l1_1,l1_2)=>g_dv_int_l1 n a0list a1most recl1 l1_1 l1_2) n ((-1),0)
theorem g_dv_int_ok (n:Nat) (a0list:List Int) (a1most:Int):∀ r,g_dv_int n a0list a1most=some r→PCall Tryz.prog 60 [.p (.sl 1 (List.map ci a0list)),I a1most, .p (.val (.func (.func 81) #[] #[]))] (.ret (B r)):=by
 refine pcall_sim (X:=fun r:Bool=>AEnd.ret (B r)) Tryz.func60 rfl Tryz.ntmps60 rfl ?_
 unfold g_dv_int
 refine sR tfm ⟨[0,1,2,6],[],[],[]⟩ ⟨[(0, .p (.sl 1 (List.map ci a0list))),(1,I a1most),(2, .p (.val (.func (.func 81) #[] #[]))),(6,B false)],[]⟩ krf (sR tfm ⟨[0,1,2,6,7],[],[],[]⟩ ⟨[(0, .p (.sl 1 (List.map ci a0list))),(1,I a1most),(2, .p (.val (.func (.func 81) #[] #[]))),(6,B false),(7,I (-1))],[]⟩ krf (sS (sR tfm ⟨[1,2,6,7,11,12,13],[],[],[]⟩ ⟨[(1,I a1most),(2, .p (.val (.func (.func 81) #[] #[]))),(6,B false),(7,I (-1)),(11, .p (.sl 1 (List.map ci a0list))),(12,I (lenI (List.map ci a0list))),(13,I 0)],[]⟩ krf (sB (sim_loop (fun (l1_1,l1_2)=>⟨[(1,I a1most),(2, .p (.val (.func (.func 81) #[] #[]))),(6,B false),(7,I l1_1),(11, .p (.sl 1 (List.map ci a0list))),(12,I (lenI (List.map ci a0list))),(13,I l1_2)],[]⟩:(Int × Int)→St) (weak_shr (K:=⟨[1,2,6,7,11,12,13],[],[],[]⟩) krf) ?_)))))
 rintro recl1 ⟨l1_1,l1_2⟩
 show SimE (g_dv_int_l1 n a0list a1most recl1 l1_1 l1_2) _ _ _ _ _ _
 unfold g_dv_int_l1
 refine sR tfm ⟨[1,2,6,7,11,12,13,14],[],[],[]⟩ ⟨[(1,I a1most),(2, .p (.val (.func (.func 81) #[] #[]))),(6,B false),(7,I l1_1),(11, .p (.sl 1 (List.map ci a0list))),(12,I (lenI (List.map ci a0list))),(13,I l1_2),(14,B (ltI l1_2 (lenI (List.map ci a0list))))],[]⟩ krf (sS (sC (ltI l1_2 (lenI (List.map ci a0list))) krf ?_ ?_))
 ·refine sK (sN ⟨[1,2,6,7,11,12,13],[],[],[]⟩ ⟨[(1,I a1most),(2, .p (.val (.func (.func 81) #[] #[]))),(6,B false),(7,I l1_1),(11, .p (.sl 1 (List.map ci a0list))),(12,I (lenI (List.map ci a0list))),(13,I l1_2)],[]⟩ krf (sS (sB (sS (sG ?_)))))
  refine xG krf krf (aop_idx (e:=3) (S:=1) (enc:=ci) (l:=a0list) (k:=.i64) (n:=l1_2) (sv:=.p (.sl 1 (List.map ci a0list))) rfl krf krf krf krf krf) (fun x2=>?_)
  refine xR 2 krf (xE (sN ⟨[1,2,6,7,9,11,12,13],[],[],[]⟩ ⟨[(1,I a1most),(2, .p (.val (.func (.func 81) #[] #[]))),(6,B false),(7,I l1_1),(9,I x2),(11, .p (.sl 1 (List.map ci a0list))),(12,I (lenI (List.map ci a0list))),(13,I l1_2)],[]⟩ krf (sS (sS (sG (xR 2 krf ?_))))))
  refine xC [] krf (g_days_keys_2_ok n x2) krf krf (fun _=>by kernel_rfl) (fun r3=>?_)
  refine xR 1 krf (xE (sN ⟨[1,2,6,7,9,10,11,12,13],[],[],[]⟩ ⟨[(1,I a1most),(2, .p (.val (.func (.func 81) #[] #[]))),(6,B false),(7,I l1_1),(9,I x2),(10,I r3),(11, .p (.sl 1 (List.map ci a0list))),(12,I (lenI (List.map ci a0list))),(13,I l1_2)],[]⟩ krf (sim_bind (fun j4=>⟨[(1,I a1most),(2, .p (.val (.func (.func 81) #[] #[]))),(6,B false),(7,I l1_1),(9,I x2),(11, .p (.sl 1 (List.map ci a0list))),(12,I (lenI (List.map ci a0list))),(13,I l1_2),(27,B j4)],[]⟩:Bool→St) ?_ ?_)))
  ·refine sG (xR 4 krf ?_)
   refine xS (leI r3 l1_1) (fun h5=>?_) (fun h5=>?_)
   ·refine xN (want_ft krf h5) krf (xR 3 krf (xE ?_))
    exact nq_n true ⟨[1,2,6,7,9,11,12,13,27],[],[],[]⟩ krf
   ·refine xO (want_ff krf h5) krf (xR 3 krf (xE ?_))
    exact nq_n (ltI a1most r3) ⟨[1,2,6,7,9,11,12,13,27],[],[],[]⟩ krf
  ·rintro j4
   refine sC j4 krf ?_ ?_
   ·refine sR tfm ⟨[6],[],[],[]⟩ ⟨[(6,B false)],[]⟩ krf (sT (sq_r (bq_r (sq_r (kq_r (bq_r (sq_r ?_)))))))
    exact qR (.id) krf krf krf
   ·refine sK (sN ⟨[1,2,6,7,9,11,12,13],[],[],[]⟩ ⟨[(1,I a1most),(2, .p (.val (.func (.func 81) #[] #[]))),(6,B false),(7,I l1_1),(9,I x2),(11, .p (.sl 1 (List.map ci a0list))),(12,I (lenI (List.map ci a0list))),(13,I l1_2)],[]⟩ krf (sG (xR 2 krf ?_)))
    refine xC [] krf (g_days_keys_2_ok n x2) krf krf (fun _=>by kernel_rfl) (fun r6=>?_)
    refine xR 1 krf (xE (bq_n (sN ⟨[1,2,6,7,11,12,13],[],[],[]⟩ ⟨[(1,I a1most),(2, .p (.val (.func (.func 81) #[] #[]))),(6,B false),(7,I r6),(11, .p (.sl 1 (List.map ci a0list))),(12,I (lenI (List.map ci a0list))),(13,I l1_2)],[]⟩ krf (sL tfm krf ?_))))
    exact kq_n (r6,wi (l1_2+1)) ⟨[1,2,6,7,11,12,13],[],[],[]⟩ krf
 ·refine sim_exit (sq_x (kq_x (bq_hit (sN ⟨[6,7],[],[],[]⟩ ⟨[(6,B false),(7,I l1_1)],[]⟩ krf (sR tfm ⟨[6],[],[],[]⟩ ⟨[(6,B true)],[]⟩ krf (sT ?_))))))
  exact qR (.id) krf krf krf
def g_days_Valid_j5 (n:Nat) (a0c:GCl):Option Bool :=
 (g_dv_api_Change n a0c.Changes 52560000).bind fun r6 =>
 cond r6
  ((g_dv_int n a0c.Holidays 36500).bind fun r8 =>
  some r8)
  (some false)
def g_days_Valid_l9 (n:Nat) (a0c:GCl) (recl9:Int→Option Bool) (l9:Int):Option Bool :=
 cond (ltI l9 (lenI (List.map GCh.cs a0c.Changes)))
  ((getI a0c.Changes l9).bind fun x10 =>
  (g_days_inside n x10.Offset (-1440) 1440).bind fun r11 =>
  cond (!r11)
   (some false)
   (recl9 (wi (l9+1))))
  (g_days_Valid_j5 n a0c)
def g_days_Valid (n:Nat) (a0c:GCl):Option Bool :=
 (cond (ltI 16 (lenI (List.map GCh.cs a0c.Changes)))
  (some true)
  (cond (ltI 32 (lenI (List.map ci a0c.Holidays)))
   (some true)
   ((g_days_inside n a0c.Offset (-1440) 1440).bind fun r4 =>
   some (!r4)))).bind fun j1 =>
 cond j1
  (some false)
  (loopN (fun recl9 l9=>g_days_Valid_l9 n a0c recl9 l9) n 0)
theorem g_days_Valid_ok (n:Nat) (a0c:GCl):∀ r,g_days_Valid n a0c=some r→PCall Tryz.prog 28 [ag (GCl.cs a0c)] (.ret (B r)):=by
 refine pcall_sim (X:=fun r:Bool=>AEnd.ret (B r)) Tryz.func28 rfl Tryz.ntmps28 rfl ?_
 unfold g_days_Valid
 refine sR tfm ⟨[1],[1],[],[]⟩ ⟨[(1, .ptr 1 0)],[(1, .box 28 (bxc (GCl.cs a0c)))]⟩ krf (sS (sim_bind (fun j1=>⟨[(1, .ptr 1 0),(7, .ptr 1 1),(22,B j1)],[(1, .box 28 (bxc (GCl.cs a0c)))]⟩:Bool→St) ?_ ?_))
 ·refine sG (xR 5 krf ?_)
  refine xS (ltI 16 (lenI (mCh a0c.Changes))) (fun h2=>?_) (fun h2=>?_)
  ·refine xN (want_ft krf h2) krf (xR 10 krf (xE ?_))
   exact nq_n true ⟨[1,7,22],[1],[],[]⟩ krf
  ·refine xO (want_ff krf h2) krf (xR 5 krf ?_)
   refine xS (ltI 32 (lenI (List.map ci a0c.Holidays))) (fun h3=>?_) (fun h3=>?_)
   ·refine xN (want_ft krf h3) krf (xR 4 krf (xE ?_))
    exact nq_n true ⟨[1,7,22],[1],[],[]⟩ krf
   ·refine xO (want_ff krf h3) krf (xR 1 krf ?_)
    refine xC [] krf (g_days_inside_ok n a0c.Offset (-1440) 1440) krf krf (fun _=>by kernel_rfl) (fun r4=>?_)
    refine xR 2 krf (xE ?_)
    exact nq_n (!r4) ⟨[1,7,22],[1],[],[]⟩ krf
 ·rintro j1
  refine sC j1 krf ?_ ?_
  ·refine sR tfm ⟨[2],[],[],[]⟩ ⟨[(2,B false)],[]⟩ krf (sT (sq_r ?_))
   exact qR (.id) krf krf krf
  ·refine sK (sN ⟨[1,7],[1],[],[]⟩ ⟨[(1, .ptr 1 0),(7, .ptr 1 1)],[(1, .box 28 (bxc (GCl.cs a0c)))]⟩ krf (sim_cps (fun _=>⟨[(1, .ptr 1 0),(7, .ptr 1 1)],[(1, .box 28 (bxc (GCl.cs a0c)))]⟩:Unit→St) (fun _=>g_days_Valid_j5 n a0c) ?_ ?_))
   ·rintro _
    show SimE (g_days_Valid_j5 n a0c) _ _ _ _ _ _
    unfold g_days_Valid_j5
    refine sS (sG (xs_inline [] [] [] [] [] krf Tryz.func58 rfl Tryz.ntmps58 rfl krf krf krf (sR tfm ⟨[],[],[],[]⟩ ⟨[],[]⟩ krf (sR tfm ⟨[0,1],[],[],[]⟩ ⟨[(0, .p (.val (.func (.func 80) #[] #[]))),(1, .p (.val (.func (.func 81) #[] #[])))],[]⟩ krf (sT (iq_ret (.id) [] [] (.tup [.p (.val (.func (.func 80) #[] #[])), .p (.val (.func (.func 81) #[] #[]))]) krf krf (kr0 ?_)))))))
    refine xR 5 krf (xE (sN ⟨[1,5,6,7],[1],[],[]⟩ ⟨[(1, .ptr 1 0),(5, .p (.val (.func (.func 80) #[] #[]))),(6, .p (.val (.func (.func 81) #[] #[]))),(7, .ptr 1 1)],[(1, .box 28 (bxc (GCl.cs a0c)))]⟩ krf (sS (sG (xR 3 krf ?_)))))
    refine xC [] krf (g_dv_api_Change_ok n a0c.Changes 52560000) krf krf (fun _=>by kernel_rfl) (fun r6=>?_)
    refine xR 1 krf ?_
    refine xS r6 (fun h7=>?_) (fun h7=>?_)
    ·refine xO (want_tt krf h7) krf (xR 2 krf ?_)
     refine xC [] krf (g_dv_int_ok n a0c.Holidays 36500) krf krf (fun _=>by kernel_rfl) (fun r8=>?_)
     refine xR 2 krf (xE (sN ⟨[2],[],[],[]⟩ ⟨[(2,B r8)],[]⟩ krf (sT ?_)))
     exact qR (.id) krf krf krf
    ·refine xN (want_tf krf h7) krf (xR 5 krf (xE (sN ⟨[2],[],[],[]⟩ ⟨[(2,B false)],[]⟩ krf (sT ?_))))
     exact qR (.id) krf krf krf
   ·refine sR tfm ⟨[1,7,24,25,26],[1],[],[]⟩ ⟨[(1, .ptr 1 0),(7, .ptr 1 1),(24, .p (.sl 2 (mCh a0c.Changes))),(25,I (lenI (mCh a0c.Changes))),(26,I 0)],[(1, .box 28 (bxc (GCl.cs a0c)))]⟩ krf (sB (sim_loop (fun l9=>⟨[(1, .ptr 1 0),(7, .ptr 1 1),(24, .p (.sl 2 (mCh a0c.Changes))),(25,I (lenI (mCh a0c.Changes))),(26,I l9)],[(1, .box 28 (bxc (GCl.cs a0c)))]⟩:Int→St) (weak_shr (K:=⟨[1,7,24,25,26],[1],[],[]⟩) krf) ?_))
    rintro recl9 l9
    show SimE (g_days_Valid_l9 n a0c recl9 l9) _ _ _ _ _ _
    unfold g_days_Valid_l9
    refine sR tfm ⟨[1,7,24,25,26,27],[1],[],[]⟩ ⟨[(1, .ptr 1 0),(7, .ptr 1 1),(24, .p (.sl 2 (mCh a0c.Changes))),(25,I (lenI (mCh a0c.Changes))),(26,I l9),(27,B (ltI l9 (lenI (mCh a0c.Changes))))],[(1, .box 28 (bxc (GCl.cs a0c)))]⟩ krf (sS (sC (ltI l9 (lenI (mCh a0c.Changes))) krf ?_ ?_))
    ·refine sK (sN ⟨[1,7,24,25,26],[1],[],[]⟩ ⟨[(1, .ptr 1 0),(7, .ptr 1 1),(24, .p (.sl 2 (mCh a0c.Changes))),(25,I (lenI (mCh a0c.Changes))),(26,I l9)],[(1, .box 28 (bxc (GCl.cs a0c)))]⟩ krf (sS (sB (sS (sG ?_)))))
     refine xG krf krf (aop_idx (e:=76) (S:=2) (enc:=GCh.cs) (l:=a0c.Changes) (k:=.i64) (n:=l9) (sv:=.p (.sl 2 (mCh a0c.Changes))) rfl krf krf krf krf krf) (fun x10=>?_)
     refine xR 3 krf (xE (sN ⟨[1,4,7,24,25,26],[1,4],[],[]⟩ ⟨[(1, .ptr 1 0),(4, .ptr 4 0),(7, .ptr 1 1),(24, .p (.sl 2 (mCh a0c.Changes))),(25,I (lenI (mCh a0c.Changes))),(26,I l9)],[(1, .box 28 (bxc (GCl.cs a0c))),(4, .box 76 (bxc (GCh.cs x10)))]⟩ krf (sS (sG (xR 2 krf ?_)))))
     refine xC [] krf (g_days_inside_ok n x10.Offset (-1440) 1440) krf krf (fun _=>by kernel_rfl) (fun r11=>?_)
     refine xR 1 krf (xE (sN ⟨[1,7,24,25,26,33],[1],[],[]⟩ ⟨[(1, .ptr 1 0),(7, .ptr 1 1),(24, .p (.sl 2 (mCh a0c.Changes))),(25,I (lenI (mCh a0c.Changes))),(26,I l9),(33,B (!r11))],[(1, .box 28 (bxc (GCl.cs a0c)))]⟩ krf (sC (!r11) krf ?_ ?_)))
     ·refine sR tfm ⟨[2],[],[],[]⟩ ⟨[(2,B false)],[]⟩ krf (sT (bq_r (sq_r (kq_r (bq_r (kq_r ?_))))))
      exact qR (.id) krf krf krf
     ·refine sK (bq_n (sN ⟨[1,7,24,25,26],[1],[],[]⟩ ⟨[(1, .ptr 1 0),(7, .ptr 1 1),(24, .p (.sl 2 (mCh a0c.Changes))),(25,I (lenI (mCh a0c.Changes))),(26,I l9)],[(1, .box 28 (bxc (GCl.cs a0c)))]⟩ krf (sL tfm krf ?_)))
      exact kq_n (wi (l9+1)) ⟨[1,7,24,25,26],[1],[],[]⟩ krf
    ·refine sim_exit (sq_x (kq_x (bq_hit ?_)))
     exact kq_n (k:=fun _=>g_days_Valid_j5 n a0c) () ⟨[1,7],[1],[],[]⟩ krf
def g_bill_Valid_l8 (a0s:GSs) (recl8:(Int × Int)→Option Bool) (l8_1:Int) (l8_2:Int):Option Bool :=
 cond (ltI l8_2 (lenI (List.map GSl.cs a0s.Slices)))
  ((getI a0s.Slices l8_2).bind fun x9 =>
  (cond (leI x9.Minute l8_1)
   (some true)
   (cond (leI a0s.End x9.Minute)
    (some true)
    (cond (ltI x9.Energy 0)
     (some true)
     (some (ltI 10000 x9.Energy))))).bind fun j10 =>
  cond j10
   (some false)
   (recl8 (x9.Minute,wi (l8_2+1))))
  (some true)
def g_bill_Valid (n:Nat) (a0s:GSs):Option Bool :=
 (cond (ltI a0s.From 0)
  (some true)
  (cond (leI a0s.To a0s.From)
   (some true)
   (cond (ltI 2880 (wi (a0s.To - a0s.From)))
    (some true)
    (some (ltI 52560000 a0s.To))))).bind fun j1 =>
 cond j1
  (some false)
  ((cond (ltI a0s.End a0s.From)
   (some true)
   (cond (ltI a0s.To a0s.End)
    (some true)
    (some (ltI 48 (lenI (List.map GSl.cs a0s.Slices)))))).bind fun j5 =>
  cond j5
   (some false)
   (loopN (fun recl8 (l8_1,l8_2)=>g_bill_Valid_l8 a0s recl8 l8_1 l8_2) n (wi (a0s.From - 1),0)))
theorem g_bill_Valid_ok (n:Nat) (a0s:GSs):∀ r,g_bill_Valid n a0s=some r→PCall Tryz.prog 29 [ag (GSs.cs a0s)] (.ret (B r)):=by
 refine pcall_sim (X:=fun r:Bool=>AEnd.ret (B r)) Tryz.func29 rfl Tryz.ntmps29 rfl ?_
 unfold g_bill_Valid
 refine sR tfm ⟨[1],[1],[],[]⟩ ⟨[(1, .ptr 1 0)],[(1, .box 35 (bxc (GSs.cs a0s)))]⟩ krf (sS (sim_bind (fun j1=>⟨[(1, .ptr 1 0),(6, .ptr 1 0),(7,I a0s.From),(28,B j1)],[(1, .box 35 (bxc (GSs.cs a0s)))]⟩:Bool→St) ?_ ?_))
 ·refine sG (xR 4 krf ?_)
  refine xS (ltI a0s.From 0) (fun h2=>?_) (fun h2=>?_)
  ·refine xN (want_ft krf h2) krf (xR 18 krf (xE ?_))
   exact nq_n true ⟨[1,6,7,28],[1],[],[]⟩ krf
  ·refine xO (want_ff krf h2) krf (xR 6 krf ?_)
   refine xS (leI a0s.To a0s.From) (fun h3=>?_) (fun h3=>?_)
   ·refine xN (want_ft krf h3) krf (xR 11 krf (xE ?_))
    exact nq_n true ⟨[1,6,7,28],[1],[],[]⟩ krf
   ·refine xO (want_ff krf h3) krf (xR 7 krf ?_)
    refine xS (ltI 2880 (wi (a0s.To - a0s.From))) (fun h4=>?_) (fun h4=>?_)
    ·refine xN (want_ft krf h4) krf (xR 3 krf (xE ?_))
     exact nq_n true ⟨[1,6,7,28],[1],[],[]⟩ krf
    ·refine xO (want_ff krf h4) krf (xR 3 krf (xE ?_))
     exact nq_n (ltI 52560000 a0s.To) ⟨[1,6,7,28],[1],[],[]⟩ krf
 ·rintro j1
  refine sC j1 krf ?_ ?_
  ·refine sR tfm ⟨[2],[],[],[]⟩ ⟨[(2,B false)],[]⟩ krf (sT (sq_r ?_))
   exact qR (.id) krf krf krf
  ·refine sK (sN ⟨[1,6,7],[1],[],[]⟩ ⟨[(1, .ptr 1 0),(6, .ptr 1 0),(7,I a0s.From)],[(1, .box 35 (bxc (GSs.cs a0s)))]⟩ krf (sS (sim_bind (fun j5=>⟨[(1, .ptr 1 0),(6, .ptr 1 0),(7,I a0s.From),(46,B j5)],[(1, .box 35 (bxc (GSs.cs a0s)))]⟩:Bool→St) ?_ ?_)))
   ·refine sG (xR 6 krf ?_)
    refine xS (ltI a0s.End a0s.From) (fun h6=>?_) (fun h6=>?_)
    ·refine xN (want_ft krf h6) krf (xR 11 krf (xE ?_))
     exact nq_n true ⟨[1,6,7,46],[1],[],[]⟩ krf
    ·refine xO (want_ff krf h6) krf (xR 6 krf ?_)
     refine xS (ltI a0s.To a0s.End) (fun h7=>?_) (fun h7=>?_)
     ·refine xN (want_ft krf h7) krf (xR 4 krf (xE ?_))
      exact nq_n true ⟨[1,6,7,46],[1],[],[]⟩ krf
     ·refine xO (want_ff krf h7) krf (xR 4 krf (xE ?_))
      exact nq_n (ltI 48 (lenI (mSl a0s.Slices))) ⟨[1,6,7,46],[1],[],[]⟩ krf
   ·rintro j5
    refine sC j5 krf ?_ ?_
    ·refine sR tfm ⟨[2],[],[],[]⟩ ⟨[(2,B false)],[]⟩ krf (sT (sq_r ?_))
     exact qR (.id) krf krf krf
    ·refine sK (sN ⟨[1,6,7],[1],[],[]⟩ ⟨[(1, .ptr 1 0),(6, .ptr 1 0),(7,I a0s.From)],[(1, .box 35 (bxc (GSs.cs a0s)))]⟩ krf (sR tfm ⟨[1,3,6,7],[1],[],[]⟩ ⟨[(1, .ptr 1 0),(3,I (wi (a0s.From - 1))),(6, .ptr 1 0),(7,I a0s.From)],[(1, .box 35 (bxc (GSs.cs a0s)))]⟩ krf (sS (sR tfm ⟨[1,3,6,7,51,52,53],[1],[],[]⟩ ⟨[(1, .ptr 1 0),(3,I (wi (a0s.From - 1))),(6, .ptr 1 0),(7,I a0s.From),(51, .p (.sl 2 (mSl a0s.Slices))),(52,I (lenI (mSl a0s.Slices))),(53,I 0)],[(1, .box 35 (bxc (GSs.cs a0s)))]⟩ krf (sB (sim_loop (fun (l8_1,l8_2)=>⟨[(1, .ptr 1 0),(3,I l8_1),(6, .ptr 1 0),(7,I a0s.From),(51, .p (.sl 2 (mSl a0s.Slices))),(52,I (lenI (mSl a0s.Slices))),(53,I l8_2)],[(1, .box 35 (bxc (GSs.cs a0s)))]⟩:(Int × Int)→St) (weak_shr (K:=⟨[1,3,6,7,51,52,53],[1],[],[]⟩) krf) ?_))))))
     rintro recl8 ⟨l8_1,l8_2⟩
     show SimE (g_bill_Valid_l8 a0s recl8 l8_1 l8_2) _ _ _ _ _ _
     unfold g_bill_Valid_l8
     refine sR tfm ⟨[1,3,6,7,51,52,53,54],[1],[],[]⟩ ⟨[(1, .ptr 1 0),(3,I l8_1),(6, .ptr 1 0),(7,I a0s.From),(51, .p (.sl 2 (mSl a0s.Slices))),(52,I (lenI (mSl a0s.Slices))),(53,I l8_2),(54,B (ltI l8_2 (lenI (mSl a0s.Slices))))],[(1, .box 35 (bxc (GSs.cs a0s)))]⟩ krf (sS (sC (ltI l8_2 (lenI (mSl a0s.Slices))) krf ?_ ?_))
     ·refine sK (sN ⟨[1,3,6,7,51,52,53],[1],[],[]⟩ ⟨[(1, .ptr 1 0),(3,I l8_1),(6, .ptr 1 0),(7,I a0s.From),(51, .p (.sl 2 (mSl a0s.Slices))),(52,I (lenI (mSl a0s.Slices))),(53,I l8_2)],[(1, .box 35 (bxc (GSs.cs a0s)))]⟩ krf (sS (sB (sS (sG ?_)))))
      refine xG krf krf (aop_idx (e:=62) (S:=2) (enc:=GSl.cs) (l:=a0s.Slices) (k:=.i64) (n:=l8_2) (sv:=.p (.sl 2 (mSl a0s.Slices))) rfl krf krf krf krf krf) (fun x9=>?_)
      refine xR 3 krf (xE (sN ⟨[1,3,5,6,7,51,52,53],[1,5],[],[]⟩ ⟨[(1, .ptr 1 0),(3,I l8_1),(5, .ptr 5 0),(6, .ptr 1 0),(7,I a0s.From),(51, .p (.sl 2 (mSl a0s.Slices))),(52,I (lenI (mSl a0s.Slices))),(53,I l8_2)],[(1, .box 35 (bxc (GSs.cs a0s))),(5, .box 62 (bxc (GSl.cs x9)))]⟩ krf (sS (sim_bind (fun j10=>⟨[(1, .ptr 1 0),(5, .ptr 5 0),(6, .ptr 1 0),(7,I a0s.From),(51, .p (.sl 2 (mSl a0s.Slices))),(52,I (lenI (mSl a0s.Slices))),(53,I l8_2),(77,B j10)],[(1, .box 35 (bxc (GSs.cs a0s))),(5, .box 62 (bxc (GSl.cs x9)))]⟩:Bool→St) ?_ ?_))))
      ·refine sG (xR 5 krf ?_)
       refine xS (leI x9.Minute l8_1) (fun h11=>?_) (fun h11=>?_)
       ·refine xN (want_ft krf h11) krf (xR 15 krf (xE ?_))
        exact nq_n true ⟨[1,5,6,7,51,52,53,77],[1,5],[],[]⟩ krf
       ·refine xO (want_ff krf h11) krf (xR 6 krf ?_)
        refine xS (leI a0s.End x9.Minute) (fun h12=>?_) (fun h12=>?_)
        ·refine xN (want_ft krf h12) krf (xR 8 krf (xE ?_))
         exact nq_n true ⟨[1,5,6,7,51,52,53,77],[1,5],[],[]⟩ krf
        ·refine xO (want_ff krf h12) krf (xR 4 krf ?_)
         refine xS (ltI x9.Energy 0) (fun h13=>?_) (fun h13=>?_)
         ·refine xN (want_ft krf h13) krf (xR 3 krf (xE ?_))
          exact nq_n true ⟨[1,5,6,7,51,52,53,77],[1,5],[],[]⟩ krf
         ·refine xO (want_ff krf h13) krf (xR 3 krf (xE ?_))
          exact nq_n (ltI 10000 x9.Energy) ⟨[1,5,6,7,51,52,53,77],[1,5],[],[]⟩ krf
      ·rintro j10
       refine sC j10 krf ?_ ?_
       ·refine sR tfm ⟨[2],[],[],[]⟩ ⟨[(2,B false)],[]⟩ krf (sT (sq_r (bq_r (sq_r (kq_r (bq_r (sq_r ?_)))))))
        exact qR (.id) krf krf krf
       ·refine sK (sN ⟨[1,5,6,7,51,52,53],[1,5],[],[]⟩ ⟨[(1, .ptr 1 0),(5, .ptr 5 0),(6, .ptr 1 0),(7,I a0s.From),(51, .p (.sl 2 (mSl a0s.Slices))),(52,I (lenI (mSl a0s.Slices))),(53,I l8_2)],[(1, .box 35 (bxc (GSs.cs a0s))),(5, .box 62 (bxc (GSl.cs x9)))]⟩ krf (sL tfm krf (bq_n (sN ⟨[1,3,6,7,51,52,53],[1],[],[]⟩ ⟨[(1, .ptr 1 0),(3,I x9.Minute),(6, .ptr 1 0),(7,I a0s.From),(51, .p (.sl 2 (mSl a0s.Slices))),(52,I (lenI (mSl a0s.Slices))),(53,I l8_2)],[(1, .box 35 (bxc (GSs.cs a0s)))]⟩ krf (sL tfm krf ?_)))))
        exact kq_n (x9.Minute,wi (l8_2+1)) ⟨[1,3,6,7,51,52,53],[1],[],[]⟩ krf
     ·refine sim_exit (sq_x (kq_x (bq_hit (sN ⟨[6,7],[1],[],[]⟩ ⟨[(6, .ptr 1 0),(7,I a0s.From)],[(1, .box 35 (bxc (GSs.cs a0s)))]⟩ krf (sR tfm ⟨[2],[],[],[]⟩ ⟨[(2,B true)],[]⟩ krf (sT ?_))))))
      exact qR (.id) krf krf krf
def g_bill_caught (n:Nat) (a1err:Int):Option Int :=
 some a1err
theorem g_bill_caught_ok (n:Nat) (a1err:Int):∀ r,g_bill_caught n a1err=some r→ACall Tryz.prog 26 [.p (.val (.nilIface)), .ptr 1001 0] (Go.Abs.look [(1001, .box 44 [I a1err])]) (heapR (fun r:Int=>((.ret (.tup []),[(1001, .box 44 [I r])]):AEnd × List (Nat × Blk))) r):=by
 refine acall_sim (X:=fun r:Int=>((.ret (.tup []),[(1001, .box 44 [I r])]):AEnd × List (Nat × Blk))) [(1001, .box 44 [I a1err])] Tryz.func26 rfl Tryz.ntmps26 rfl ?_
 unfold g_bill_caught
 refine sS (sR tfm ⟨[0,1,6,7],[1001],[],[]⟩ ⟨[(0, .p (.val (.nilIface))),(1, .ptr 1001 0),(6, .p (.val (.nilIface))),(7,B true)],[(1001, .box 44 [I a1err])]⟩ krf (sim_condT krf (sT (sq_r ?_))))
 exact hq_ret (.id) [1001] [] krf krf krf krf
def g_days_last_api_Change_l1 (n:Nat) (a0list:List GCh) (a1number:Int) (recl1:(Int × Int)→Option Int) (l1_1:Int) (l1_2:Int):Option Int :=
 cond (ltI l1_1 l1_2)
  ((getI a0list (wi (l1_1+(wi (Int.tdiv (wi ((wi (l1_2 - l1_1))+1)) 2))))).bind fun x2 =>
  (g_days_keys_1 n x2).bind fun r3 =>
  cond (leI r3 a1number)
   (recl1 (wi (l1_1+(wi (Int.tdiv (wi ((wi (l1_2 - l1_1))+1)) 2))),l1_2))
   (recl1 (l1_1,wi ((wi (l1_1+(wi (Int.tdiv (wi ((wi (l1_2 - l1_1))+1)) 2)))) - 1))))
  (some l1_1)
def g_days_last_api_Change (n:Nat) (a0list:List GCh) (a1number:Int):Option Int :=
 loopN (fun recl1 (l1_1,l1_2)=>g_days_last_api_Change_l1 n a0list a1number recl1 l1_1 l1_2) n ((-1),wi ((lenI (List.map GCh.cs a0list)) - 1))
theorem g_days_last_api_Change_ok (n:Nat) (a0list:List GCh) (a1number:Int):∀ r,g_days_last_api_Change n a0list a1number=some r→PCall Tryz.prog 119 [.p (.sl 2 (mCh a0list)),I a1number, .p (.val (.func (.func 80) #[] #[]))] (.ret (I r)):=by
 refine pcall_sim (X:=fun r:Int=>AEnd.ret (I r)) Tryz.func119 rfl Tryz.ntmps119 rfl ?_
 unfold g_days_last_api_Change
 refine sR tfm ⟨[0,1,2,6],[],[],[]⟩ ⟨[(0, .p (.sl 2 (mCh a0list))),(1,I a1number),(2, .p (.val (.func (.func 80) #[] #[]))),(6,I 0)],[]⟩ krf (sR tfm ⟨[0,1,2,6,7,8],[],[],[]⟩ ⟨[(0, .p (.sl 2 (mCh a0list))),(1,I a1number),(2, .p (.val (.func (.func 80) #[] #[]))),(6,I 0),(7,I (-1)),(8,I (wi ((lenI (mCh a0list)) - 1)))],[]⟩ krf (sS (sB (sim_loop (fun (l1_1,l1_2)=>⟨[(0, .p (.sl 2 (mCh a0list))),(1,I a1number),(2, .p (.val (.func (.func 80) #[] #[]))),(6,I 0),(7,I l1_1),(8,I l1_2)],[]⟩:(Int × Int)→St) (weak_shr (K:=⟨[0,1,2,6,7,8],[],[],[]⟩) krf) ?_))))
 rintro recl1 ⟨l1_1,l1_2⟩
 show SimE (g_days_last_api_Change_l1 n a0list a1number recl1 l1_1 l1_2) _ _ _ _ _ _
 unfold g_days_last_api_Change_l1
 refine sS (sR tfm ⟨[0,1,2,6,7,8,15],[],[],[]⟩ ⟨[(0, .p (.sl 2 (mCh a0list))),(1,I a1number),(2, .p (.val (.func (.func 80) #[] #[]))),(6,I 0),(7,I l1_1),(8,I l1_2),(15,B (ltI l1_1 l1_2))],[]⟩ krf (sC (ltI l1_1 l1_2) krf ?_ ?_))
 ·refine sK (sN ⟨[0,1,2,6,7,8],[],[],[]⟩ ⟨[(0, .p (.sl 2 (mCh a0list))),(1,I a1number),(2, .p (.val (.func (.func 80) #[] #[]))),(6,I 0),(7,I l1_1),(8,I l1_2)],[]⟩ krf (sB (sR tfm ⟨[0,1,2,6,7,8,9],[],[],[]⟩ ⟨[(0, .p (.sl 2 (mCh a0list))),(1,I a1number),(2, .p (.val (.func (.func 80) #[] #[]))),(6,I 0),(7,I l1_1),(8,I l1_2),(9,I (wi (l1_1+(wi (Int.tdiv (wi ((wi (l1_2 - l1_1))+1)) 2)))))],[]⟩ krf (sS (sG (xR 3 krf ?_))))))
  refine xG krf krf (aop_idx (e:=76) (S:=2) (enc:=GCh.cs) (l:=a0list) (k:=.i64) (n:=wi (l1_1+(wi (Int.tdiv (wi ((wi (l1_2 - l1_1))+1)) 2)))) (sv:=.p (.sl 2 (mCh a0list))) rfl krf krf krf krf krf) (fun x2=>?_)
  refine xR 1 krf ?_
  refine xC [] krf (g_days_keys_1_ok n x2) krf krf (fun _=>by kernel_rfl) (fun r3=>?_)
  refine xR 2 krf (xE (sN ⟨[0,1,2,6,7,8,9,30],[],[],[]⟩ ⟨[(0, .p (.sl 2 (mCh a0list))),(1,I a1number),(2, .p (.val (.func (.func 80) #[] #[]))),(6,I 0),(7,I l1_1),(8,I l1_2),(9,I (wi (l1_1+(wi (Int.tdiv (wi ((wi (l1_2 - l1_1))+1)) 2))))),(30,B (leI r3 a1number))],[]⟩ krf (sC (leI r3 a1number) krf ?_ ?_)))
  ·refine sL tfm krf (bq_n ?_)
   exact kq_n (wi (l1_1+(wi (Int.tdiv (wi ((wi (l1_2 - l1_1))+1)) 2))),l1_2) ⟨[0,1,2,6,7,8],[],[],[]⟩ krf
  ·refine sL tfm krf (bq_n ?_)
   exact kq_n (l1_1,wi ((wi (l1_1+(wi (Int.tdiv (wi ((wi (l1_2 - l1_1))+1)) 2)))) - 1)) ⟨[0,1,2,6,7,8],[],[],[]⟩ krf
 ·refine sim_exit (sq_x (kq_x (bq_hit (sN ⟨[6,7],[],[],[]⟩ ⟨[(6,I 0),(7,I l1_1)],[]⟩ krf (sR tfm ⟨[6],[],[],[]⟩ ⟨[(6,I l1_1)],[]⟩ krf (sT ?_))))))
  exact qR (.id) krf krf krf
def g_days_split (n:Nat) (a0n:Int) (a1by:Int):Option (Int × Int) :=
 cond (!eqI a1by 0) (
  cond (!eqI a1by 0) (
   cond (ltI (Int.tmod a0n a1by) 0)
    (some (wi ((wi (Int.tdiv a0n a1by)) - 1),wi ((Int.tmod a0n a1by)+a1by)))
    (some (wi (Int.tdiv a0n a1by),Int.tmod a0n a1by))) none) none
theorem g_days_split_ok (n:Nat) (a0n:Int) (a1by:Int):∀ r,g_days_split n a0n a1by=some r→PCall Tryz.prog 120 [I a0n,I a1by] (.ret (.tup [I r.1,I r.2])):=by
 refine pcall_sim (X:=fun r:Int × Int=>AEnd.ret (.tup [I r.1,I r.2])) Tryz.func120 rfl Tryz.ntmps120 rfl ?_
 unfold g_days_split
 refine sR tfm ⟨[0,1],[],[],[]⟩ ⟨[(0,I a0n),(1,I a1by)],[]⟩ krf (sS (sim_drw tfm rfl (xR 2 krf (xF krf krf (aop_quo (k:=.i64) (a:=a0n) (b:=a1by) rfl krf krf) (xR 2 krf (xF krf krf (aop_rem (k:=.i64) (a:=a0n) (b:=a1by) rfl krf krf) (xR 2 krf ?_)))))))
 refine xs_endD krf (sN ⟨[1,6,7],[],[],[]⟩ ⟨[(1,I a1by),(6,I (wi (Int.tdiv a0n a1by))),(7,I (Int.tmod a0n a1by))],[]⟩ krf (sS (sR tfm ⟨[1,6,7,15],[],[],[]⟩ ⟨[(1,I a1by),(6,I (wi (Int.tdiv a0n a1by))),(7,I (Int.tmod a0n a1by)),(15,B (ltI (Int.tmod a0n a1by) 0))],[]⟩ krf (sC (ltI (Int.tmod a0n a1by) 0) krf ?_ ?_))))
 ·refine sL tfm krf (sN ⟨[6,7],[],[],[]⟩ ⟨[(6,I (wi ((wi (Int.tdiv a0n a1by)) - 1))),(7,I (wi ((Int.tmod a0n a1by)+a1by)))],[]⟩ krf (sR tfm ⟨[4,5],[],[],[]⟩ ⟨[(4,I (wi ((wi (Int.tdiv a0n a1by)) - 1))),(5,I (wi ((Int.tmod a0n a1by)+a1by)))],[]⟩ krf (sT ?_)))
  exact qR (.id) krf krf krf
 ·refine sK (sN ⟨[6,7],[],[],[]⟩ ⟨[(6,I (wi (Int.tdiv a0n a1by))),(7,I (Int.tmod a0n a1by))],[]⟩ krf (sR tfm ⟨[4,5],[],[],[]⟩ ⟨[(4,I (wi (Int.tdiv a0n a1by))),(5,I (Int.tmod a0n a1by))],[]⟩ krf (sT ?_)))
  exact qR (.id) krf krf krf
def g_days_Local (n:Nat) (a0c:GCl) (a1minute:Int):Option (Int × Int × Int) :=
 ((g_days_Valid n a0c).bind fun r2 =>
 cond (!r2)
  (some true)
  ((g_days_inside n a1minute 0 52560000).bind fun r4 =>
  some (!r4))).bind fun j1 =>
 cond j1
  (some (0,0,1))
  (((g_days_last_api_Change n a0c.Changes a1minute).bind fun r6 =>
  cond (leI 0 r6)
   ((getI a0c.Changes r6).bind fun x7 =>
   some x7.Offset)
   (some a0c.Offset)).bind fun j5 =>
  (g_days_split n (wi (a1minute+j5)) 1440).bind fun r8 =>
  some (r8.1,r8.2,0))
theorem g_days_Local_ok (n:Nat) (a0c:GCl) (a1minute:Int):∀ r,g_days_Local n a0c a1minute=some r→PCall Tryz.prog 115 [ag (GCl.cs a0c),I a1minute] (.ret (.tup [I r.1,I r.2.1,I r.2.2])):=by
 refine pcall_sim (X:=fun r:Int × Int × Int=>AEnd.ret (.tup [I r.1,I r.2.1,I r.2.2])) Tryz.func115 rfl Tryz.ntmps115 rfl ?_
 unfold g_days_Local
 refine sR tfm ⟨[1,2,6],[2],[],[]⟩ ⟨[(1,I a1minute),(2, .ptr 2 0),(6,I 0)],[(2, .box 28 (bxc (GCl.cs a0c)))]⟩ krf (sS (sim_bind (fun j1=>⟨[(1,I a1minute),(2, .ptr 2 0),(6,I 0),(20,B j1)],[(2, .box 28 (bxc (GCl.cs a0c)))]⟩:Bool→St) ?_ ?_))
 ·refine sG (xR 1 krf ?_)
  refine xC [] krf (g_days_Valid_ok n a0c) krf krf (fun _=>by kernel_rfl) (fun r2=>?_)
  refine xR 2 krf ?_
  refine xS (!r2) (fun h3=>?_) (fun h3=>?_)
  ·refine xN (want_ft krf h3) krf (xR 3 krf (xE ?_))
   exact nq_n true ⟨[1,2,6,20],[2],[],[]⟩ krf
  ·refine xO (want_ff krf h3) krf ?_
   refine xC [] krf (g_days_inside_ok n a1minute 0 52560000) krf krf (fun _=>by kernel_rfl) (fun r4=>?_)
   refine xR 2 krf (xE ?_)
   exact nq_n (!r4) ⟨[1,2,6,20],[2],[],[]⟩ krf
 ·rintro j1
  refine sC j1 krf ?_ ?_
  ·refine sR tfm ⟨[4,5,6],[],[],[]⟩ ⟨[(4,I 0),(5,I 0),(6,I 1)],[]⟩ krf (sT (sq_r ?_))
   exact qR (.id) krf krf krf
  ·refine sK (sN ⟨[1,2,6],[2],[],[]⟩ ⟨[(1,I a1minute),(2, .ptr 2 0),(6,I 0)],[(2, .box 28 (bxc (GCl.cs a0c)))]⟩ krf (sR tfm ⟨[1,2,6,7],[2],[],[]⟩ ⟨[(1,I a1minute),(2, .ptr 2 0),(6,I 0),(7,I a0c.Offset)],[(2, .box 28 (bxc (GCl.cs a0c)))]⟩ krf (sS (sG (xs_inline [] [] [] [] [] krf Tryz.func58 rfl Tryz.ntmps58 rfl krf krf krf (sR tfm ⟨[],[],[],[]⟩ ⟨[],[]⟩ krf (sR tfm ⟨[0,1],[],[],[]⟩ ⟨[(0, .p (.val (.func (.func 80) #[] #[]))),(1, .p (.val (.func (.func 81) #[] #[])))],[]⟩ krf ?_)))))))
   refine sT (iq_ret (.id) [] [] (.tup [.p (.val (.func (.func 80) #[] #[])), .p (.val (.func (.func 81) #[] #[]))]) krf krf (kr0 (xR 5 krf (xE (sN ⟨[1,2,6,7,8],[2],[],[]⟩ ⟨[(1,I a1minute),(2, .ptr 2 0),(6,I 0),(7,I a0c.Offset),(8, .p (.val (.func (.func 80) #[] #[])))],[(2, .box 28 (bxc (GCl.cs a0c)))]⟩ krf (sim_bind (fun j5=>⟨[(1,I a1minute),(6,I 0),(7,I j5)],[]⟩:Int→St) ?_ ?_))))))
   ·refine sS (sG (xR 4 krf ?_))
    refine xC [] krf (g_days_last_api_Change_ok n a0c.Changes a1minute) krf krf (fun _=>by kernel_rfl) (fun r6=>?_)
    refine xR 1 krf (xE (sN ⟨[1,2,6,7,10],[2],[],[]⟩ ⟨[(1,I a1minute),(2, .ptr 2 0),(6,I 0),(7,I a0c.Offset),(10,I r6)],[(2, .box 28 (bxc (GCl.cs a0c)))]⟩ krf (sR tfm ⟨[1,2,6,7,10,33],[2],[],[]⟩ ⟨[(1,I a1minute),(2, .ptr 2 0),(6,I 0),(7,I a0c.Offset),(10,I r6),(33,B (leI 0 r6))],[(2, .box 28 (bxc (GCl.cs a0c)))]⟩ krf (sC (leI 0 r6) krf ?_ ?_))))
    ·refine sG (xR 3 krf ?_)
     refine xG krf krf (aop_idx (e:=76) (S:=2) (enc:=GCh.cs) (l:=a0c.Changes) (k:=.i64) (n:=r6) (sv:=.p (.sl 2 (mCh a0c.Changes))) rfl krf krf krf krf krf) (fun x7=>?_)
     refine xR 3 krf (xE ?_)
     exact nq_n x7.Offset ⟨[1,6,7],[],[],[]⟩ krf
    ·refine sK ?_
     exact nq_n a0c.Offset ⟨[1,6,7],[],[],[]⟩ krf
   ·rintro j5
    refine sS (sG (xR 3 krf ?_))
    refine xC [] krf (g_days_split_ok n (wi (a1minute+j5)) 1440) krf krf (fun _=>by kernel_rfl) (fun r8=>?_)
    refine xR 5 krf (xE (sN ⟨[6,7,11,12],[],[],[]⟩ ⟨[(6,I 0),(7,I j5),(11,I r8.1),(12,I r8.2)],[]⟩ krf (sR tfm ⟨[4,5,6],[],[],[]⟩ ⟨[(4,I r8.1),(5,I r8.2),(6,I 0)],[]⟩ krf (sT ?_))))
    exact qR (.id) krf krf krf
def g_days_last_int_l1 (n:Nat) (a0list:List Int) (a1number:Int) (recl1:(Int × Int)→Option Int) (l1_1:Int) (l1_2:Int):Option Int :=
 cond (ltI l1_1 l1_2)
  ((getI a0list (wi (l1_1+(wi (Int.tdiv (wi ((wi (l1_2 - l1_1))+1)) 2))))).bind fun x2 =>
  (g_days_keys_2 n x2).bind fun r3 =>
  cond (leI r3 a1number)
   (recl1 (wi (l1_1+(wi (Int.tdiv (wi ((wi (l1_2 - l1_1))+1)) 2))),l1_2))
   (recl1 (l1_1,wi ((wi (l1_1+(wi (Int.tdiv (wi ((wi (l1_2 - l1_1))+1)) 2)))) - 1))))
  (some l1_1)
def g_days_last_int (n:Nat) (a0list:List Int) (a1number:Int):Option Int :=
 loopN (fun recl1 (l1_1,l1_2)=>g_days_last_int_l1 n a0list a1number recl1 l1_1 l1_2) n ((-1),wi ((lenI (List.map ci a0list)) - 1))
theorem g_days_last_int_ok (n:Nat) (a0list:List Int) (a1number:Int):∀ r,g_days_last_int n a0list a1number=some r→PCall Tryz.prog 121 [.p (.sl 1 (List.map ci a0list)),I a1number, .p (.val (.func (.func 81) #[] #[]))] (.ret (I r)):=by
 refine pcall_sim (X:=fun r:Int=>AEnd.ret (I r)) Tryz.func121 rfl Tryz.ntmps121 rfl ?_
 unfold g_days_last_int
 refine sR tfm ⟨[0,1,2,6],[],[],[]⟩ ⟨[(0, .p (.sl 1 (List.map ci a0list))),(1,I a1number),(2, .p (.val (.func (.func 81) #[] #[]))),(6,I 0)],[]⟩ krf (sR tfm ⟨[0,1,2,6,7,8],[],[],[]⟩ ⟨[(0, .p (.sl 1 (List.map ci a0list))),(1,I a1number),(2, .p (.val (.func (.func 81) #[] #[]))),(6,I 0),(7,I (-1)),(8,I (wi ((lenI (List.map ci a0list)) - 1)))],[]⟩ krf (sS (sB (sim_loop (fun (l1_1,l1_2)=>⟨[(0, .p (.sl 1 (List.map ci a0list))),(1,I a1number),(2, .p (.val (.func (.func 81) #[] #[]))),(6,I 0),(7,I l1_1),(8,I l1_2)],[]⟩:(Int × Int)→St) (weak_shr (K:=⟨[0,1,2,6,7,8],[],[],[]⟩) krf) ?_))))
 rintro recl1 ⟨l1_1,l1_2⟩
 show SimE (g_days_last_int_l1 n a0list a1number recl1 l1_1 l1_2) _ _ _ _ _ _
 unfold g_days_last_int_l1
 refine sS (sR tfm ⟨[0,1,2,6,7,8,15],[],[],[]⟩ ⟨[(0, .p (.sl 1 (List.map ci a0list))),(1,I a1number),(2, .p (.val (.func (.func 81) #[] #[]))),(6,I 0),(7,I l1_1),(8,I l1_2),(15,B (ltI l1_1 l1_2))],[]⟩ krf (sC (ltI l1_1 l1_2) krf ?_ ?_))
 ·refine sK (sN ⟨[0,1,2,6,7,8],[],[],[]⟩ ⟨[(0, .p (.sl 1 (List.map ci a0list))),(1,I a1number),(2, .p (.val (.func (.func 81) #[] #[]))),(6,I 0),(7,I l1_1),(8,I l1_2)],[]⟩ krf (sB (sR tfm ⟨[0,1,2,6,7,8,9],[],[],[]⟩ ⟨[(0, .p (.sl 1 (List.map ci a0list))),(1,I a1number),(2, .p (.val (.func (.func 81) #[] #[]))),(6,I 0),(7,I l1_1),(8,I l1_2),(9,I (wi (l1_1+(wi (Int.tdiv (wi ((wi (l1_2 - l1_1))+1)) 2)))))],[]⟩ krf (sS (sG (xR 3 krf ?_))))))
  refine xG krf krf (aop_idx (e:=3) (S:=1) (enc:=ci) (l:=a0list) (k:=.i64) (n:=wi (l1_1+(wi (Int.tdiv (wi ((wi (l1_2 - l1_1))+1)) 2)))) (sv:=.p (.sl 1 (List.map ci a0list))) rfl krf krf krf krf krf) (fun x2=>?_)
  refine xR 1 krf ?_
  refine xC [] krf (g_days_keys_2_ok n x2) krf krf (fun _=>by kernel_rfl) (fun r3=>?_)
  refine xR 2 krf (xE (sN ⟨[0,1,2,6,7,8,9,30],[],[],[]⟩ ⟨[(0, .p (.sl 1 (List.map ci a0list))),(1,I a1number),(2, .p (.val (.func (.func 81) #[] #[]))),(6,I 0),(7,I l1_1),(8,I l1_2),(9,I (wi (l1_1+(wi (Int.tdiv (wi ((wi (l1_2 - l1_1))+1)) 2))))),(30,B (leI r3 a1number))],[]⟩ krf (sC (leI r3 a1number) krf ?_ ?_)))
  ·refine sL tfm krf (bq_n ?_)
   exact kq_n (wi (l1_1+(wi (Int.tdiv (wi ((wi (l1_2 - l1_1))+1)) 2))),l1_2) ⟨[0,1,2,6,7,8],[],[],[]⟩ krf
  ·refine sL tfm krf (bq_n ?_)
   exact kq_n (l1_1,wi ((wi (l1_1+(wi (Int.tdiv (wi ((wi (l1_2 - l1_1))+1)) 2)))) - 1)) ⟨[0,1,2,6,7,8],[],[],[]⟩ krf
 ·refine sim_exit (sq_x (kq_x (bq_hit (sN ⟨[6,7],[],[],[]⟩ ⟨[(6,I 0),(7,I l1_1)],[]⟩ krf (sR tfm ⟨[6],[],[],[]⟩ ⟨[(6,I l1_1)],[]⟩ krf (sT ?_))))))
  exact qR (.id) krf krf krf
def g_days_week (n:Nat):Option (Int × Int × Int × Int × Int × Int × Int) :=
 some (0,0,0,0,0,1,2)
theorem g_days_week_ok (n:Nat):∀ r,g_days_week n=some r→PCall Tryz.prog 122 [] (.ret (.agg [I r.1,I r.2.1,I r.2.2.1,I r.2.2.2.1,I r.2.2.2.2.1,I r.2.2.2.2.2.1,I r.2.2.2.2.2.2])):=by
 refine pcall_sim (X:=fun r:Int × Int × Int × Int × Int × Int × Int=>AEnd.ret (.agg [I r.1,I r.2.1,I r.2.2.1,I r.2.2.2.1,I r.2.2.2.2.1,I r.2.2.2.2.2.1,I r.2.2.2.2.2.2])) Tryz.func122 rfl Tryz.ntmps122 rfl ?_
 unfold g_days_week
 refine sR tfm ⟨[0],[0],[],[]⟩ ⟨[(0, .ptr 0 0)],[(0, .box 156 [I 0,I 0,I 0,I 0,I 0,I 0,I 0])]⟩ krf (sR tfm ⟨[0],[0],[],[]⟩ ⟨[(0, .ptr 0 0)],[(0, .box 156 [I 0,I 0,I 0,I 0,I 0,I 1,I 2])]⟩ krf (sT ?_))
 exact qR (.id) krf krf krf
def g_days_Type (n:Nat) (a0c:GCl) (a1day:Int):Option (Int × Int) :=
 ((g_days_Valid n a0c).bind fun r2 =>
 cond (!r2)
  (some true)
  ((g_days_inside n a1day (-1) 36501).bind fun r4 =>
  some (!r4))).bind fun j1 =>
 cond j1
  (some (0,1))
  ((g_days_last_int n a0c.Holidays a1day).bind fun r5 =>
  (cond (leI 0 r5)
   ((getI a0c.Holidays r5).bind fun x8 =>
   some (eqI x8 a1day))
   (some false)).bind fun j6 =>
  cond j6
   (some (2,0))
   ((g_days_week n).bind fun r9 =>
   (g_days_split n a1day 7).bind fun r10 =>
   (getI [r9.1,r9.2.1,r9.2.2.1,r9.2.2.2.1,r9.2.2.2.2.1,r9.2.2.2.2.2.1,r9.2.2.2.2.2.2] r10.2).bind fun x11 =>
   some (x11,0)))
theorem g_days_Type_ok (n:Nat) (a0c:GCl) (a1day:Int):∀ r,g_days_Type n a0c a1day=some r→PCall Tryz.prog 116 [ag (GCl.cs a0c),I a1day] (.ret (.tup [I r.1,I r.2])):=by
 refine pcall_sim (X:=fun r:Int × Int=>AEnd.ret (.tup [I r.1,I r.2])) Tryz.func116 rfl Tryz.ntmps116 rfl ?_
 unfold g_days_Type
 refine sR tfm ⟨[1,2],[2],[],[]⟩ ⟨[(1,I a1day),(2, .ptr 2 0)],[(2, .box 28 (bxc (GCl.cs a0c)))]⟩ krf (sS (sim_bind (fun j1=>⟨[(1,I a1day),(2, .ptr 2 0),(19,B j1)],[(2, .box 28 (bxc (GCl.cs a0c)))]⟩:Bool→St) ?_ ?_))
 ·refine sG (xR 1 krf ?_)
  refine xC [] krf (g_days_Valid_ok n a0c) krf krf (fun _=>by kernel_rfl) (fun r2=>?_)
  refine xR 2 krf ?_
  refine xS (!r2) (fun h3=>?_) (fun h3=>?_)
  ·refine xN (want_ft krf h3) krf (xR 3 krf (xE ?_))
   exact nq_n true ⟨[1,2,19],[2],[],[]⟩ krf
  ·refine xO (want_ff krf h3) krf ?_
   refine xC [] krf (g_days_inside_ok n a1day (-1) 36501) krf krf (fun _=>by kernel_rfl) (fun r4=>?_)
   refine xR 2 krf (xE ?_)
   exact nq_n (!r4) ⟨[1,2,19],[2],[],[]⟩ krf
 ·rintro j1
  refine sC j1 krf ?_ ?_
  ·refine sR tfm ⟨[4,5],[],[],[]⟩ ⟨[(4,I 0),(5,I 1)],[]⟩ krf (sT (sq_r ?_))
   exact qR (.id) krf krf krf
  ·refine sK (sN ⟨[1,2],[2],[],[]⟩ ⟨[(1,I a1day),(2, .ptr 2 0)],[(2, .box 28 (bxc (GCl.cs a0c)))]⟩ krf (sS (sG (xs_inline [] [] [] [] [] krf Tryz.func58 rfl Tryz.ntmps58 rfl krf krf krf (sR tfm ⟨[],[],[],[]⟩ ⟨[],[]⟩ krf (sR tfm ⟨[0,1],[],[],[]⟩ ⟨[(0, .p (.val (.func (.func 80) #[] #[]))),(1, .p (.val (.func (.func 81) #[] #[])))],[]⟩ krf (sT ?_)))))))
   refine iq_ret (.id) [] [] (.tup [.p (.val (.func (.func 80) #[] #[])), .p (.val (.func (.func 81) #[] #[]))]) krf krf (kr0 (xR 5 krf (xE (sN ⟨[1,2,6,7],[2],[],[]⟩ ⟨[(1,I a1day),(2, .ptr 2 0),(6, .p (.val (.func (.func 80) #[] #[]))),(7, .p (.val (.func (.func 81) #[] #[])))],[(2, .box 28 (bxc (GCl.cs a0c)))]⟩ krf (sS (sS (sG ?_)))))))
   refine xR 4 krf ?_
   refine xC [] krf (g_days_last_int_ok n a0c.Holidays a1day) krf krf (fun _=>by kernel_rfl) (fun r5=>?_)
   refine xR 1 krf (xE (sN ⟨[1,2,6,7,8],[2],[],[]⟩ ⟨[(1,I a1day),(2, .ptr 2 0),(6, .p (.val (.func (.func 80) #[] #[]))),(7, .p (.val (.func (.func 81) #[] #[]))),(8,I r5)],[(2, .box 28 (bxc (GCl.cs a0c)))]⟩ krf (sim_bind (fun j6=>⟨[(1,I a1day),(6, .p (.val (.func (.func 80) #[] #[]))),(7, .p (.val (.func (.func 81) #[] #[]))),(39,B j6)],[]⟩:Bool→St) ?_ ?_)))
   ·refine sG (xR 3 krf ?_)
    refine xS (leI 0 r5) (fun h7=>?_) (fun h7=>?_)
    ·refine xO (want_tt krf h7) krf (xR 2 krf ?_)
     refine xG krf krf (aop_idx (e:=3) (S:=1) (enc:=ci) (l:=a0c.Holidays) (k:=.i64) (n:=r5) (sv:=.p (.sl 1 (List.map ci a0c.Holidays))) rfl krf krf krf krf krf) (fun x8=>?_)
     refine xR 4 krf (xE ?_)
     exact nq_n (eqI x8 a1day) ⟨[1,6,7,39],[],[],[]⟩ krf
    ·refine xN (want_tf krf h7) krf (xR 7 krf (xE ?_))
     exact nq_n false ⟨[1,6,7,39],[],[],[]⟩ krf
   ·rintro j6
    refine sC j6 krf ?_ ?_
    ·refine sR tfm ⟨[4,5],[],[],[]⟩ ⟨[(4,I 2),(5,I 0)],[]⟩ krf (sT (sq_r ?_))
     exact qR (.id) krf krf krf
    ·refine sK (sN ⟨[1,6,7],[],[],[]⟩ ⟨[(1,I a1day),(6, .p (.val (.func (.func 80) #[] #[]))),(7, .p (.val (.func (.func 81) #[] #[])))],[]⟩ krf (sS (sG ?_)))
     refine xC [] krf (g_days_week_ok n) krf krf (fun _=>by kernel_rfl) (fun r9=>?_)
     refine xR 2 krf (xE (sN ⟨[1,6,7,9],[9],[],[]⟩ ⟨[(1,I a1day),(6, .p (.val (.func (.func 80) #[] #[]))),(7, .p (.val (.func (.func 81) #[] #[]))),(9, .ptr 9 0)],[(9, .box 156 [I r9.1,I r9.2.1,I r9.2.2.1,I r9.2.2.2.1,I r9.2.2.2.2.1,I r9.2.2.2.2.2.1,I r9.2.2.2.2.2.2])]⟩ krf (sS (sG (xR 1 krf ?_)))))
     refine xC [] krf (g_days_split_ok n a1day 7) krf krf (fun _=>by kernel_rfl) (fun r10=>?_)
     refine xR 5 krf (xE (sN ⟨[6,7,9,11],[9],[],[]⟩ ⟨[(6, .p (.val (.func (.func 80) #[] #[]))),(7, .p (.val (.func (.func 81) #[] #[]))),(9, .ptr 9 0),(11,I r10.2)],[(9, .box 156 [I r9.1,I r9.2.1,I r9.2.2.1,I r9.2.2.2.1,I r9.2.2.2.2.1,I r9.2.2.2.2.2.1,I r9.2.2.2.2.2.2])]⟩ krf (sS (sG (xR 1 krf ?_)))))
     refine xs_getH krf krf (aop_arrL (b:=9) (k:=.i64) (n:=r10.2) (len:=7) (e:=3) (l:=[r9.1,r9.2.1,r9.2.2.1,r9.2.2.2.1,r9.2.2.2.2.1,r9.2.2.2.2.2.1,r9.2.2.2.2.2.2]) rfl krf krf krf krf rfl) (fun x11 hx11=>?_)
     refine xs_u krf krf (aop_ldL (g:=I) (l:=[r9.1,r9.2.1,r9.2.2.1,r9.2.2.2.1,r9.2.2.2.2.1,r9.2.2.2.2.2.1,r9.2.2.2.2.2.2]) (tb:=156) (b:=9) (n:=r10.2) (v:=x11) rfl krf krf krf (getI_at hx11)) (xR 2 krf (xE (sN ⟨[4,5],[],[],[]⟩ ⟨[(4,I x11),(5,I 0)],[]⟩ krf (sT ?_))))
     exact qR (.id) krf krf krf
def g_t_Applies (n:Nat) (a0a:GAr) (a1c:GCl) (a2minute:Int):Option Bool :=
 (g_t_validArticle n a0a).bind fun r1 =>
 cond (!r1)
  (some false)
  ((g_days_Local n a1c a2minute).bind fun r2 =>
  (cond (!eqI r2.2.2 0)
   (some true)
   (cond (ltI r2.2.1 a0a.From)
    (some true)
    (some (leI a0a.To r2.2.1)))).bind fun j3 =>
  cond j3
   (some false)
   ((g_days_Type n a1c r2.1).bind fun r6 =>
   cond (eqI r6.2 0)
    (cond (!ltI r6.1 0) (
     some (!eqI (bAnd .i64 a0a.Days (shlI .i64 1 r6.1)) 0)) none)
    (some false)))
theorem g_t_Applies_ok (n:Nat) (a0a:GAr) (a1c:GCl) (a2minute:Int):∀ r,g_t_Applies n a0a a1c a2minute=some r→PCall Tryz.prog 109 [ag (GAr.cs a0a),ag (GCl.cs a1c),I a2minute] (.ret (B r)):=by
 refine pcall_sim (X:=fun r:Bool=>AEnd.ret (B r)) Tryz.func109 rfl Tryz.ntmps109 rfl ?_
 unfold g_t_Applies
 refine sR tfm ⟨[2,3,4,6],[3,4],[],[]⟩ ⟨[(2,I a2minute),(3, .ptr 3 0),(4, .ptr 4 0),(6,B false)],[(3, .box 73 (bxc (GAr.cs a0a))),(4, .box 28 (bxc (GCl.cs a1c)))]⟩ krf (sS (sS (sG (xR 1 krf ?_))))
 refine xC [] krf (g_t_validArticle_ok n a0a) krf krf (fun _=>by kernel_rfl) (fun r1=>?_)
 refine xR 1 krf (xE (sN ⟨[2,3,4,6,13],[3,4],[],[]⟩ ⟨[(2,I a2minute),(3, .ptr 3 0),(4, .ptr 4 0),(6,B false),(13,B (!r1))],[(3, .box 73 (bxc (GAr.cs a0a))),(4, .box 28 (bxc (GCl.cs a1c)))]⟩ krf (sC (!r1) krf ?_ ?_)))
 ·refine sR tfm ⟨[6],[],[],[]⟩ ⟨[(6,B false)],[]⟩ krf (sT (sq_r ?_))
  exact qR (.id) krf krf krf
 ·refine sK (sN ⟨[2,3,4,6],[3,4],[],[]⟩ ⟨[(2,I a2minute),(3, .ptr 3 0),(4, .ptr 4 0),(6,B false)],[(3, .box 73 (bxc (GAr.cs a0a))),(4, .box 28 (bxc (GCl.cs a1c)))]⟩ krf (sS (sG (xR 2 krf ?_))))
  refine xC [] krf (g_days_Local_ok n a1c a2minute) krf krf (fun _=>by kernel_rfl) (fun r2=>?_)
  refine xR 7 krf (xE (sN ⟨[3,4,6,7,8,9],[3,4],[],[]⟩ ⟨[(3, .ptr 3 0),(4, .ptr 4 0),(6,B false),(7,I r2.1),(8,I r2.2.1),(9,I r2.2.2)],[(3, .box 73 (bxc (GAr.cs a0a))),(4, .box 28 (bxc (GCl.cs a1c)))]⟩ krf (sS (sim_bind (fun j3=>⟨[(3, .ptr 3 0),(4, .ptr 4 0),(6,B false),(7,I r2.1),(34,B j3)],[(3, .box 73 (bxc (GAr.cs a0a))),(4, .box 28 (bxc (GCl.cs a1c)))]⟩:Bool→St) ?_ ?_))))
  ·refine sG (xR 3 krf ?_)
   refine xS (!eqI r2.2.2 0) (fun h4=>?_) (fun h4=>?_)
   ·refine xN (want_ft krf h4) krf (xR 10 krf (xE ?_))
    exact nq_n true ⟨[3,4,6,7,34],[3,4],[],[]⟩ krf
   ·refine xO (want_ff krf h4) krf (xR 5 krf ?_)
    refine xS (ltI r2.2.1 a0a.From) (fun h5=>?_) (fun h5=>?_)
    ·refine xN (want_ft krf h5) krf (xR 4 krf (xE ?_))
     exact nq_n true ⟨[3,4,6,7,34],[3,4],[],[]⟩ krf
    ·refine xO (want_ff krf h5) krf (xR 4 krf (xE ?_))
     exact nq_n (leI a0a.To r2.2.1) ⟨[3,4,6,7,34],[3,4],[],[]⟩ krf
  ·rintro j3
   refine sC j3 krf ?_ ?_
   ·refine sR tfm ⟨[6],[],[],[]⟩ ⟨[(6,B false)],[]⟩ krf (sT (sq_r ?_))
    exact qR (.id) krf krf krf
   ·refine sK (sN ⟨[3,4,6,7],[3,4],[],[]⟩ ⟨[(3, .ptr 3 0),(4, .ptr 4 0),(6,B false),(7,I r2.1)],[(3, .box 73 (bxc (GAr.cs a0a))),(4, .box 28 (bxc (GCl.cs a1c)))]⟩ krf (sS (sG (xR 2 krf ?_))))
    refine xC [] krf (g_days_Type_ok n a1c r2.1) krf krf (fun _=>by kernel_rfl) (fun r6=>?_)
    refine xR 5 krf (xE (sN ⟨[3,6,7,9,10],[3],[],[]⟩ ⟨[(3, .ptr 3 0),(6,B false),(7,I r2.1),(9,I r6.2),(10,I r6.1)],[(3, .box 73 (bxc (GAr.cs a0a)))]⟩ krf (sS (sim_drw tfm rfl (xR 3 krf ?_)))))
    refine xS (eqI r6.2 0) (fun h7=>?_) (fun h7=>?_)
    ·refine xO (want_tt krf h7) krf (xR 2 krf (xF krf krf (aop_shl (k:=.i64) (k':=.i64) (a:=1) (b:=r6.1) rfl krf krf) (xR 4 krf (xs_endD krf (sN ⟨[6],[],[],[]⟩ ⟨[(6,B (!eqI (bAnd .i64 a0a.Days (shlI .i64 1 r6.1)) 0))],[]⟩ krf (sT ?_))))))
     exact qR (.id) krf krf krf
    ·refine xN (want_tf krf h7) krf (xR 7 krf (xs_endD krf (sN ⟨[6],[],[],[]⟩ ⟨[(6,B false)],[]⟩ krf (sT ?_))))
     exact qR (.id) krf krf krf
def g_bb_applies (n:Nat) (a0b:GBB) (a1minute:Int):Option Bool :=
 (g_t_Applies n a0b.article a0b.calendar a1minute).bind fun r1 =>
 some r1
theorem g_bb_applies_ok (n:Nat) (a0b:GBB) (a1minute:Int):∀ r,g_bb_applies n a0b a1minute=some r→PCall Tryz.prog 99 [.eptr (GBB.cs a0b),I a1minute] (.ret (B r)):=by
 refine pcall_sim (X:=fun r:Bool=>AEnd.ret (B r)) Tryz.func99 rfl Tryz.ntmps99 rfl ?_
 unfold g_bb_applies
 refine sR tfm ⟨[0,1],[],[],[]⟩ ⟨[(0, .eptr (GBB.cs a0b)),(1,I a1minute)],[]⟩ krf (sS (sim_drw tfm rfl (xR 9 krf ?_)))
 refine xC [] krf (g_t_Applies_ok n a0b.article a0b.calendar a1minute) krf krf (fun _=>by kernel_rfl) (fun r1=>?_)
 refine xR 1 krf (xs_endD krf (sN ⟨[4],[],[],[]⟩ ⟨[(4,B r1)],[]⟩ krf (sT ?_)))
 exact qR (.id) krf krf krf
def g_money_inside (n:Nat) (a0n:Int) (a1least:Int) (a2greatest:Int):Option Bool :=
 cond (leI a1least a0n)
  (some (leI a0n a2greatest))
  (some false)
theorem g_money_inside_ok (n:Nat) (a0n:Int) (a1least:Int) (a2greatest:Int):∀ r,g_money_inside n a0n a1least a2greatest=some r→PCall Tryz.prog 91 [I a0n,I a1least,I a2greatest] (.ret (B r)):=by
 refine pcall_sim (X:=fun r:Bool=>AEnd.ret (B r)) Tryz.func91 rfl Tryz.ntmps91 rfl ?_
 unfold g_money_inside
 refine sR tfm ⟨[0,1,2,6],[],[],[]⟩ ⟨[(0,I a0n),(1,I a1least),(2,I a2greatest),(6,B false)],[]⟩ krf (sS (sG (xR 4 krf ?_)))
 refine xS (leI a1least a0n) (fun h1=>?_) (fun h1=>?_)
 ·refine xO (want_tt krf h1) krf (xR 4 krf (xE (sN ⟨[6],[],[],[]⟩ ⟨[(6,B (leI a0n a2greatest))],[]⟩ krf (sT ?_))))
  exact qR (.id) krf krf krf
 ·refine xN (want_tf krf h1) krf (xR 4 krf (xE (sN ⟨[6],[],[],[]⟩ ⟨[(6,B false)],[]⟩ krf (sT ?_))))
  exact qR (.id) krf krf krf
def g_money_isAmount (n:Nat) (a0n:Int):Option Bool :=
 (g_money_inside n a0n 0 1000000000).bind fun r1 =>
 some r1
theorem g_money_isAmount_ok (n:Nat) (a0n:Int):∀ r,g_money_isAmount n a0n=some r→PCall Tryz.prog 90 [I a0n] (.ret (B r)):=by
 refine pcall_sim (X:=fun r:Bool=>AEnd.ret (B r)) Tryz.func90 rfl Tryz.ntmps90 rfl ?_
 unfold g_money_isAmount
 refine sR tfm ⟨[0],[],[],[]⟩ ⟨[(0,I a0n)],[]⟩ krf (sS (sG (xR 1 krf ?_)))
 refine xC [] krf (g_money_inside_ok n a0n 0 1000000000) krf krf (fun _=>by kernel_rfl) (fun r1=>?_)
 refine xR 1 krf (xE (sN ⟨[2],[],[],[]⟩ ⟨[(2,B r1)],[]⟩ krf (sT ?_)))
 exact qR (.id) krf krf krf
def g_money_need (n:Nat) (a0holds:Bool) (a1err:Int):Option (Except Int Unit) :=
 cond (!a0holds)
  (some (.error a1err))
  (some (.ok ()))
theorem g_money_need_ok (n:Nat) (a0holds:Bool) (a1err:Int):∀ r,g_money_need n a0holds a1err=some r→PCall Tryz.prog 89 [B a0holds,I a1err] (excE (fun r:Unit=>(.tup []:AV)) (fun e:Int=>(.ifc 141 (.agg [I e]):AV)) r):=by
 refine pcall_sim (X:=excE (fun r:Unit=>(.tup []:AV)) (fun e:Int=>(.ifc 141 (.agg [I e]):AV))) Tryz.func89 rfl Tryz.ntmps89 rfl ?_
 unfold g_money_need
 refine sR tfm ⟨[1,5],[],[],[]⟩ ⟨[(1,I a1err),(5,B (!a0holds))],[]⟩ krf (sC (!a0holds) krf ?_ ?_)
 ·refine sG (xR 3 krf (xs_panic 141 (.agg [I a1err]) krf rfl krf ?_))
  exact rq_p krf krf
 ·refine sK ?_
  exact rq_n (.id) krf krf krf
def g_money_half (n:Nat) (a0n:Int) (a1by:Int):Option Int :=
 cond (!eqI (wi (2 * a1by)) 0) (
  some (wi (Int.tdiv (wi ((wi (2 * a0n))+a1by)) (wi (2 * a1by))))) none
theorem g_money_half_ok (n:Nat) (a0n:Int) (a1by:Int):∀ r,g_money_half n a0n a1by=some r→PCall Tryz.prog 93 [I a0n,I a1by] (.ret (I r)):=by
 refine pcall_sim (X:=fun r:Int=>AEnd.ret (I r)) Tryz.func93 rfl Tryz.ntmps93 rfl ?_
 unfold g_money_half
 refine sR tfm ⟨[0,1],[],[],[]⟩ ⟨[(0,I a0n),(1,I a1by)],[]⟩ krf (sS (sG (xR 6 krf (xF krf krf (aop_quo (k:=.i64) (a:=wi ((wi (2 * a0n))+a1by)) (b:=wi (2 * a1by)) rfl krf krf) (xR 1 krf (xE (sN ⟨[4],[],[],[]⟩ ⟨[(4,I (wi (Int.tdiv (wi ((wi (2 * a0n))+a1by)) (wi (2 * a1by)))))],[]⟩ krf ?_)))))))
 refine sT ?_
 exact qR (.id) krf krf krf
def g_money_checked (n:Nat) (a0n:Int):Option (Except Int Int) :=
 (g_money_isAmount n a0n).bind fun r1 =>
 (g_money_need n r1 3).bind (exc (fun r2 =>
  some (.ok a0n)) fun e3=>some (.error e3))
theorem g_money_checked_ok (n:Nat) (a0n:Int):∀ r,g_money_checked n a0n=some r→PCall Tryz.prog 92 [I a0n] (excE (fun r:Int=>(I r:AV)) (fun e:Int=>(.ifc 141 (.agg [I e]):AV)) r):=by
 refine pcall_sim (X:=excE (fun r:Int=>(I r:AV)) (fun e:Int=>(.ifc 141 (.agg [I e]):AV))) Tryz.func92 rfl Tryz.ntmps92 rfl ?_
 unfold g_money_checked
 refine sR tfm ⟨[0],[],[],[]⟩ ⟨[(0,I a0n)],[]⟩ krf (sS (sG (xR 1 krf ?_)))
 refine xC [] krf (g_money_isAmount_ok n a0n) krf krf (fun _=>by kernel_rfl) (fun r1=>?_)
 refine xs_exc [] krf (g_money_need_ok n r1 3) krf krf (fun _=>by kernel_rfl) (fun _=>by kernel_rfl) (fun r2=>?_) (fun e3=>?_)
 ·refine xE (sN ⟨[0],[],[],[]⟩ ⟨[(0,I a0n)],[]⟩ krf (sR tfm ⟨[2],[],[],[]⟩ ⟨[(2,I a0n)],[]⟩ krf (sT ?_)))
  exact qR (.id) krf krf krf
 ·refine sq_p ?_
  exact rq_p krf krf
def g_money_caught (n:Nat) (a1err:Int):Option Int :=
 some a1err
theorem g_money_caught_ok (n:Nat) (a1err:Int):∀ r,g_money_caught n a1err=some r→ACall Tryz.prog 88 [.p (.val (.nilIface)), .ptr 1001 0] (Go.Abs.look [(1001, .box 44 [I a1err])]) (heapR (fun r:Int=>((.ret (.tup []),[(1001, .box 44 [I r])]):AEnd × List (Nat × Blk))) r):=by
 refine acall_sim (X:=fun r:Int=>((.ret (.tup []),[(1001, .box 44 [I r])]):AEnd × List (Nat × Blk))) [(1001, .box 44 [I a1err])] Tryz.func88 rfl Tryz.ntmps88 rfl ?_
 unfold g_money_caught
 refine sS (sR tfm ⟨[0,1,6,7],[1001],[],[]⟩ ⟨[(0, .p (.val (.nilIface))),(1, .ptr 1001 0),(6, .p (.val (.nilIface))),(7,B true)],[(1001, .box 44 [I a1err])]⟩ krf (sim_condT krf (sT (sq_r ?_))))
 exact hq_ret (.id) [1001] [] krf krf krf krf
def g_money_caught_2 (n:Nat) (a0x_0:Int) (a1err:Int):Option Int :=
 some a0x_0
theorem g_money_caught_2_ok (n:Nat) (a0x_0:Int) (a1err:Int):∀ r,g_money_caught_2 n a0x_0 a1err=some r→ACall Tryz.prog 88 [.ifc 141 (.agg [I a0x_0]), .ptr 1001 0] (Go.Abs.look [(1001, .box 44 [I a1err])]) (heapR (fun r:Int=>((.ret (.tup []),[(1001, .box 44 [I r])]):AEnd × List (Nat × Blk))) r):=by
 refine acall_sim (X:=fun r:Int=>((.ret (.tup []),[(1001, .box 44 [I r])]):AEnd × List (Nat × Blk))) [(1001, .box 44 [I a1err])] Tryz.func88 rfl Tryz.ntmps88 rfl ?_
 unfold g_money_caught_2
 refine sS (sR tfm ⟨[0,1,6,7],[1001],[],[]⟩ ⟨[(0, .ifc 141 (.agg [I a0x_0])),(1, .ptr 1001 0),(6, .ifc 141 (.agg [I a0x_0])),(7,B false)],[(1001, .box 44 [I a1err])]⟩ krf (sim_condF krf (sK (sN ⟨[0,1,6,7],[1001],[],[]⟩ ⟨[(0, .ifc 141 (.agg [I a0x_0])),(1, .ptr 1001 0),(6, .ifc 141 (.agg [I a0x_0])),(7,B false)],[(1001, .box 44 [I a1err])]⟩ krf (sR tfm ⟨[0,1,4,5,6,7],[4,1001],[],[]⟩ ⟨[(0, .ifc 141 (.agg [I a0x_0])),(1, .ptr 1001 0),(4, .ptr 4 0),(5,B true),(6, .ifc 141 (.agg [I a0x_0])),(7,B false)],[(4, .box 141 [I a0x_0]),(1001, .box 44 [I a1err])]⟩ krf (sS (sR tfm ⟨[0,1,4,6,7,14],[4,1001],[],[]⟩ ⟨[(0, .ifc 141 (.agg [I a0x_0])),(1, .ptr 1001 0),(4, .ptr 4 0),(6, .ifc 141 (.agg [I a0x_0])),(7,B false),(14,B false)],[(4, .box 141 [I a0x_0]),(1001, .box 44 [I a1err])]⟩ krf ?_)))))))
 refine sim_condF krf (sK (sN ⟨[1,4,6,7],[4,1001],[],[]⟩ ⟨[(1, .ptr 1001 0),(4, .ptr 4 0),(6, .ifc 141 (.agg [I a0x_0])),(7,B false)],[(4, .box 141 [I a0x_0]),(1001, .box 44 [I a1err])]⟩ krf (sL tfm krf ?_)))
 exact hq_n (.id) [1001] [] krf krf krf krf
def g_money_Times_j1 (n:Nat) (a0price:Int) (a1quantity:Int) (a2per:Int):Option (Int × Int) :=
 (g_money_half n (wi (a0price * a1quantity)) a2per).bind fun r2 =>
 (g_money_checked n r2).bind (exc (fun r3 =>
  (g_money_caught n 0).bind fun r5 =>
  some (r3,r5)) fun e4=>(g_money_caught_2 n e4 0).bind fun r6 =>
 some (0,r6))
def g_money_Times (n:Nat) (a0price:Int) (a1quantity:Int) (a2per:Int):Option (Int × Int) :=
 (g_money_isAmount n a0price).bind fun r7 =>
 cond r7
  ((g_money_inside n a1quantity 0 1000000000).bind fun r9 =>
  cond r9
   ((g_money_inside n a2per 1 1000000000).bind fun r11 =>
   (g_money_need n r11 1).bind (exc (fun r12 =>
    g_money_Times_j1 n a0price a1quantity a2per) fun e13=>(g_money_caught_2 n e13 0).bind fun r14 =>
   some (0,r14)))
   ((g_money_need n false 1).bind (exc (fun r15 =>
    g_money_Times_j1 n a0price a1quantity a2per) fun e16=>(g_money_caught_2 n e16 0).bind fun r17 =>
   some (0,r17))))
  ((g_money_need n false 1).bind (exc (fun r18 =>
   g_money_Times_j1 n a0price a1quantity a2per) fun e19=>(g_money_caught_2 n e19 0).bind fun r20 =>
  some (0,r20)))
theorem g_money_Times_okH (n:Nat) (a0price:Int) (a1quantity:Int) (a2per:Int):∀ r,g_money_Times n a0price a1quantity a2per=some r→ACall Tryz.prog 100 [I a0price,I a1quantity,I a2per] (Go.Abs.look []) (heapR (fun r:Int × Int=>((.ret (.tup [I r.1,I r.2]),[]):AEnd × List (Nat × Blk))) r):=by
 refine defer_sim (X:=fun r:Int × Int=>((.ret (.tup [I r.1,I r.2]),[]):AEnd × List (Nat × Blk))) [] (⟨Tryz.f110,_,_,_,1,_,_,Tryz.func110,rfl,rfl,rfl,rfl,rfl,rfl,by decide,by decide,rfl,by kernel_rfl⟩:Catcher Tryz.prog 110 88) (⟨_,_,_,_,_,7,8,_,rfl,rfl,rfl,rfl,rfl,rfl,rfl,by decide⟩:Deferrer Tryz.f100 110) 7 Tryz.func100 Tryz.ntmps100 rfl krf rfl tfm rfl krf krf krf ?_
 unfold g_money_Times
 refine sP ⟨[0,1,2,6,7],[2000],[],[]⟩ ⟨[(0,I a0price),(1,I a1quantity),(2,I a2per),(6,I 0),(7, .ptr 2000 0)],[(2000, .box 44 [I 0])]⟩ krf ?_
 refine sim_cps (fun _=>⟨[(0,I a0price),(1,I a1quantity),(2,I a2per),(6,I 0),(7, .ptr 2000 0)],[(2000, .box 44 [I 0])]⟩:Unit→St) (fun _=>g_money_Times_j1 n a0price a1quantity a2per) ?_ ?_
 ·rintro _
  show SimE (g_money_Times_j1 n a0price a1quantity a2per) _ _ _ _ _ _
  unfold g_money_Times_j1
  refine sS ?_
  refine sG ?_
  refine xR 4 krf ?_
  refine xC [] krf (g_money_half_ok n (wi (a0price * a1quantity)) a2per) krf krf (fun _=>by kernel_rfl) (fun r2=>?_)
  refine xs_exc [] krf (g_money_checked_ok n r2) krf krf (fun _=>by kernel_rfl) (fun _=>by kernel_rfl) (fun r3=>?_) (fun e4=>?_)
  ·refine xR 2 krf ?_
   refine xE ?_
   refine sN ⟨[6,7],[2000],[],[]⟩ ⟨[(6,I r3),(7, .ptr 2000 0)],[(2000, .box 44 [I 0])]⟩ krf ?_
   refine sT ?_
   refine dq_ret ?_
   refine sc_heap [(1001,2000)] [] [] (g_money_caught_ok n 0) krf krf krf (fun _=>by kernel_rfl) (fun _=>by kernel_rfl) (fun r5=>?_)
   exact ke_end (.id) [] [] krf krf krf krf
  ·refine sq_p ?_
   refine dq_p ?_
   refine sc_heap [(1001,2000)] [] [] (g_money_caught_2_ok n e4 0) krf krf krf (fun _=>by kernel_rfl) (fun _=>by kernel_rfl) (fun r6=>?_)
   exact ke_end (.id) [] [] krf krf krf krf
 ·refine sG ?_
  refine xR 1 krf ?_
  refine xC [] krf (g_money_isAmount_ok n a0price) krf krf (fun _=>by kernel_rfl) (fun r7=>?_)
  refine xR 1 krf ?_
  refine xS r7 (fun h8=>?_) (fun h8=>?_)
  ·refine xO (want_tt krf h8) krf ?_
   refine xC [] krf (g_money_inside_ok n a1quantity 0 1000000000) krf krf (fun _=>by kernel_rfl) (fun r9=>?_)
   refine xR 2 krf ?_
   refine xS r9 (fun h10=>?_) (fun h10=>?_)
   ·refine xO (want_tt krf h10) krf ?_
    refine xC [] krf (g_money_inside_ok n a2per 1 1000000000) krf krf (fun _=>by kernel_rfl) (fun r11=>?_)
    refine xR 1 krf ?_
    refine xs_exc [] krf (g_money_need_ok n r11 1) krf krf (fun _=>by kernel_rfl) (fun _=>by kernel_rfl) (fun r12=>?_) (fun e13=>?_)
    ·refine xE ?_
     exact kq_n (k:=fun _=>g_money_Times_j1 n a0price a1quantity a2per) () ⟨[0,1,2,6,7],[2000],[],[]⟩ krf
    ·refine kq_p ?_
     refine dq_p ?_
     refine sc_heap [(1001,2000)] [] [] (g_money_caught_2_ok n e13 0) krf krf krf (fun _=>by kernel_rfl) (fun _=>by kernel_rfl) (fun r14=>?_)
     exact ke_end (.id) [] [] krf krf krf krf
   ·refine xN (want_tf krf h10) krf ?_
    refine xR 2 krf ?_
    refine xs_exc [] krf (g_money_need_ok n false 1) krf krf (fun _=>by kernel_rfl) (fun _=>by kernel_rfl) (fun r15=>?_) (fun e16=>?_)
    ·refine xE ?_
     exact kq_n (k:=fun _=>g_money_Times_j1 n a0price a1quantity a2per) () ⟨[0,1,2,6,7],[2000],[],[]⟩ krf
    ·refine kq_p ?_
     refine dq_p ?_
     refine sc_heap [(1001,2000)] [] [] (g_money_caught_2_ok n e16 0) krf krf krf (fun _=>by kernel_rfl) (fun _=>by kernel_rfl) (fun r17=>?_)
     exact ke_end (.id) [] [] krf krf krf krf
  ·refine xN (want_tf krf h8) krf ?_
   refine xR 6 krf ?_
   refine xs_exc [] krf (g_money_need_ok n false 1) krf krf (fun _=>by kernel_rfl) (fun _=>by kernel_rfl) (fun r18=>?_) (fun e19=>?_)
   ·refine xE ?_
    exact kq_n (k:=fun _=>g_money_Times_j1 n a0price a1quantity a2per) () ⟨[0,1,2,6,7],[2000],[],[]⟩ krf
   ·refine kq_p ?_
    refine dq_p ?_
    refine sc_heap [(1001,2000)] [] [] (g_money_caught_2_ok n e19 0) krf krf krf (fun _=>by kernel_rfl) (fun _=>by kernel_rfl) (fun r20=>?_)
    exact ke_end (.id) [] [] krf krf krf krf
theorem g_money_Times_ok (n:Nat) (a0price:Int) (a1quantity:Int) (a2per:Int):∀ r,g_money_Times n a0price a1quantity a2per=some r→PCall Tryz.prog 100 [I a0price,I a1quantity,I a2per] (.ret (.tup [I r.1,I r.2])):=fun r h=>pcall_of (g_money_Times_okH n a0price a1quantity a2per r h) rfl
def g_bill_must (n:Nat) (a0amount:Int) (a1err:Int):Option (Except Int Int) :=
 cond (!eqI a1err 0)
  (some (.error 3))
  (some (.ok a0amount))
theorem g_bill_must_ok (n:Nat) (a0amount:Int) (a1err:Int):∀ r,g_bill_must n a0amount a1err=some r→PCall Tryz.prog 62 [I a0amount,I a1err] (excE (fun r:Int=>(I r:AV)) (fun e:Int=>(.ifc 103 (.agg [I e]):AV)) r):=by
 refine pcall_sim (X:=excE (fun r:Int=>(I r:AV)) (fun e:Int=>(.ifc 103 (.agg [I e]):AV))) Tryz.func62 rfl Tryz.ntmps62 rfl ?_
 unfold g_bill_must
 refine sR tfm ⟨[0,1],[],[],[]⟩ ⟨[(0,I a0amount),(1,I a1err)],[]⟩ krf (sS (sR tfm ⟨[0,6],[],[],[]⟩ ⟨[(0,I a0amount),(6,B (!eqI a1err 0))],[]⟩ krf (sC (!eqI a1err 0) krf ?_ ?_)))
 ·refine sG (xR 2 krf (xs_panic 103 (.agg [I 3]) krf rfl krf (sq_p ?_)))
  exact rq_p krf krf
 ·refine sK (sN ⟨[0,6],[],[],[]⟩ ⟨[(0,I a0amount),(6,B (!eqI a1err 0))],[]⟩ krf (sR tfm ⟨[4],[],[],[]⟩ ⟨[(4,I a0amount)],[]⟩ krf (sT ?_)))
  exact qR (.id) krf krf krf
def g_money_Started_j1 (n:Nat) (a0price:Int) (a1quantity:Int) (a2unit:Int):Option (Int × Int) :=
 cond (!eqI a2unit 0) (
  (g_money_checked n (wi (a0price * (wi (Int.tdiv (wi ((wi (a1quantity+a2unit)) - 1)) a2unit))))).bind (exc (fun r2 =>
   (g_money_caught n 0).bind fun r4 =>
   some (r2,r4)) fun e3=>(g_money_caught_2 n e3 0).bind fun r5 =>
  some (0,r5))) none
def g_money_Started (n:Nat) (a0price:Int) (a1quantity:Int) (a2unit:Int):Option (Int × Int) :=
 (g_money_isAmount n a0price).bind fun r6 =>
 cond r6
  ((g_money_inside n a1quantity 0 1000000000).bind fun r8 =>
  cond r8
   ((g_money_inside n a2unit 1 1000000000).bind fun r10 =>
   (g_money_need n r10 1).bind (exc (fun r11 =>
    g_money_Started_j1 n a0price a1quantity a2unit) fun e12=>(g_money_caught_2 n e12 0).bind fun r13 =>
   some (0,r13)))
   ((g_money_need n false 1).bind (exc (fun r14 =>
    g_money_Started_j1 n a0price a1quantity a2unit) fun e15=>(g_money_caught_2 n e15 0).bind fun r16 =>
   some (0,r16))))
  ((g_money_need n false 1).bind (exc (fun r17 =>
   g_money_Started_j1 n a0price a1quantity a2unit) fun e18=>(g_money_caught_2 n e18 0).bind fun r19 =>
  some (0,r19)))
theorem g_money_Started_okH (n:Nat) (a0price:Int) (a1quantity:Int) (a2unit:Int):∀ r,g_money_Started n a0price a1quantity a2unit=some r→ACall Tryz.prog 112 [I a0price,I a1quantity,I a2unit] (Go.Abs.look []) (heapR (fun r:Int × Int=>((.ret (.tup [I r.1,I r.2]),[]):AEnd × List (Nat × Blk))) r):=by
 refine defer_sim (X:=fun r:Int × Int=>((.ret (.tup [I r.1,I r.2]),[]):AEnd × List (Nat × Blk))) [] (⟨Tryz.f118,_,_,_,1,_,_,Tryz.func118,rfl,rfl,rfl,rfl,rfl,rfl,by decide,by decide,rfl,by kernel_rfl⟩:Catcher Tryz.prog 118 88) (⟨_,_,_,_,_,7,8,_,rfl,rfl,rfl,rfl,rfl,rfl,rfl,by decide⟩:Deferrer Tryz.f112 118) 7 Tryz.func112 Tryz.ntmps112 rfl krf rfl tfm rfl krf krf krf ?_
 unfold g_money_Started
 refine sP ⟨[0,1,2,6,7],[2000],[],[]⟩ ⟨[(0,I a0price),(1,I a1quantity),(2,I a2unit),(6,I 0),(7, .ptr 2000 0)],[(2000, .box 44 [I 0])]⟩ krf ?_
 refine sim_cps (fun _=>⟨[(0,I a0price),(1,I a1quantity),(2,I a2unit),(6,I 0),(7, .ptr 2000 0)],[(2000, .box 44 [I 0])]⟩:Unit→St) (fun _=>g_money_Started_j1 n a0price a1quantity a2unit) ?_ ?_
 ·rintro _
  show SimE (g_money_Started_j1 n a0price a1quantity a2unit) _ _ _ _ _ _
  unfold g_money_Started_j1
  refine sS ?_
  refine sG ?_
  refine xR 6 krf ?_
  refine xF krf krf (aop_quo (k:=.i64) (a:=wi ((wi (a1quantity+a2unit)) - 1)) (b:=a2unit) rfl krf krf) ?_
  refine xR 1 krf ?_
  refine xs_exc [] krf (g_money_checked_ok n (wi (a0price * (wi (Int.tdiv (wi ((wi (a1quantity+a2unit)) - 1)) a2unit))))) krf krf (fun _=>by kernel_rfl) (fun _=>by kernel_rfl) (fun r2=>?_) (fun e3=>?_)
  ·refine xR 2 krf ?_
   refine xE ?_
   refine sN ⟨[6,7],[2000],[],[]⟩ ⟨[(6,I r2),(7, .ptr 2000 0)],[(2000, .box 44 [I 0])]⟩ krf ?_
   refine sT ?_
   refine dq_ret ?_
   refine sc_heap [(1001,2000)] [] [] (g_money_caught_ok n 0) krf krf krf (fun _=>by kernel_rfl) (fun _=>by kernel_rfl) (fun r4=>?_)
   exact ke_end (.id) [] [] krf krf krf krf
  ·refine sq_p ?_
   refine dq_p ?_
   refine sc_heap [(1001,2000)] [] [] (g_money_caught_2_ok n e3 0) krf krf krf (fun _=>by kernel_rfl) (fun _=>by kernel_rfl) (fun r5=>?_)
   exact ke_end (.id) [] [] krf krf krf krf
 ·refine sG ?_
  refine xR 1 krf ?_
  refine xC [] krf (g_money_isAmount_ok n a0price) krf krf (fun _=>by kernel_rfl) (fun r6=>?_)
  refine xR 1 krf ?_
  refine xS r6 (fun h7=>?_) (fun h7=>?_)
  ·refine xO (want_tt krf h7) krf ?_
   refine xC [] krf (g_money_inside_ok n a1quantity 0 1000000000) krf krf (fun _=>by kernel_rfl) (fun r8=>?_)
   refine xR 2 krf ?_
   refine xS r8 (fun h9=>?_) (fun h9=>?_)
   ·refine xO (want_tt krf h9) krf ?_
    refine xC [] krf (g_money_inside_ok n a2unit 1 1000000000) krf krf (fun _=>by kernel_rfl) (fun r10=>?_)
    refine xR 1 krf ?_
    refine xs_exc [] krf (g_money_need_ok n r10 1) krf krf (fun _=>by kernel_rfl) (fun _=>by kernel_rfl) (fun r11=>?_) (fun e12=>?_)
    ·refine xE ?_
     exact kq_n (k:=fun _=>g_money_Started_j1 n a0price a1quantity a2unit) () ⟨[0,1,2,6,7],[2000],[],[]⟩ krf
    ·refine kq_p ?_
     refine dq_p ?_
     refine sc_heap [(1001,2000)] [] [] (g_money_caught_2_ok n e12 0) krf krf krf (fun _=>by kernel_rfl) (fun _=>by kernel_rfl) (fun r13=>?_)
     exact ke_end (.id) [] [] krf krf krf krf
   ·refine xN (want_tf krf h9) krf ?_
    refine xR 2 krf ?_
    refine xs_exc [] krf (g_money_need_ok n false 1) krf krf (fun _=>by kernel_rfl) (fun _=>by kernel_rfl) (fun r14=>?_) (fun e15=>?_)
    ·refine xE ?_
     exact kq_n (k:=fun _=>g_money_Started_j1 n a0price a1quantity a2unit) () ⟨[0,1,2,6,7],[2000],[],[]⟩ krf
    ·refine kq_p ?_
     refine dq_p ?_
     refine sc_heap [(1001,2000)] [] [] (g_money_caught_2_ok n e15 0) krf krf krf (fun _=>by kernel_rfl) (fun _=>by kernel_rfl) (fun r16=>?_)
     exact ke_end (.id) [] [] krf krf krf krf
  ·refine xN (want_tf krf h7) krf ?_
   refine xR 6 krf ?_
   refine xs_exc [] krf (g_money_need_ok n false 1) krf krf (fun _=>by kernel_rfl) (fun _=>by kernel_rfl) (fun r17=>?_) (fun e18=>?_)
   ·refine xE ?_
    exact kq_n (k:=fun _=>g_money_Started_j1 n a0price a1quantity a2unit) () ⟨[0,1,2,6,7],[2000],[],[]⟩ krf
   ·refine kq_p ?_
    refine dq_p ?_
    refine sc_heap [(1001,2000)] [] [] (g_money_caught_2_ok n e18 0) krf krf krf (fun _=>by kernel_rfl) (fun _=>by kernel_rfl) (fun r19=>?_)
    exact ke_end (.id) [] [] krf krf krf krf
theorem g_money_Started_ok (n:Nat) (a0price:Int) (a1quantity:Int) (a2unit:Int):∀ r,g_money_Started n a0price a1quantity a2unit=some r→PCall Tryz.prog 112 [I a0price,I a1quantity,I a2unit] (.ret (.tup [I r.1,I r.2])):=fun r h=>pcall_of (g_money_Started_okH n a0price a1quantity a2unit r h) rfl
def g_bb_stretch_l3 (n:Nat) (a0b:GBB) (a2to:Int) (recl3:(Int × Int)→Option Int) (l3_1:Int) (l3_2:Int):Option Int :=
 cond (ltI l3_1 a2to)
  (((g_bb_applies n a0b l3_1).bind fun r5 =>
  cond r5
   (some (wi (l3_2+1)))
   (some l3_2)).bind fun j4 =>
  recl3 (wi (l3_1+1),j4))
  (some l3_2)
def g_bb_stretch (n:Nat) (a0b:GBB) (a1from:Int) (a2to:Int):Option (Except Int Int) :=
 (loopN (fun recl3 (l3_1,l3_2)=>g_bb_stretch_l3 n a0b a2to recl3 l3_1 l3_2) n (a1from,0)).bind fun j1 =>
 (g_money_Started n a0b.article.Price (maxI 0 (wi (j1 - a0b.article.Free))) a0b.article.Unit).bind fun r7 =>
 (g_bill_must n r7.1 r7.2).bind (exc (fun r8 =>
  some (.ok r8)) fun e9=>some (.error e9))
theorem g_bb_stretch_ok (n:Nat) (a0b:GBB) (a1from:Int) (a2to:Int):∀ r,g_bb_stretch n a0b a1from a2to=some r→PCall Tryz.prog 101 [.eptr (GBB.cs a0b),I a1from,I a2to] (excE (fun r:Int=>(I r:AV)) (fun e:Int=>(.ifc 103 (.agg [I e]):AV)) r):=by
 refine pcall_sim (X:=excE (fun r:Int=>(I r:AV)) (fun e:Int=>(.ifc 103 (.agg [I e]):AV))) Tryz.func101 rfl Tryz.ntmps101 rfl ?_
 unfold g_bb_stretch
 refine sR tfm ⟨[0,1,2,6],[],[],[]⟩ ⟨[(0, .eptr (GBB.cs a0b)),(1,I a1from),(2,I a2to),(6,I 0)],[]⟩ krf (sR tfm ⟨[0,1,2,6,7],[7],[],[]⟩ ⟨[(0, .eptr (GBB.cs a0b)),(1,I a1from),(2,I a2to),(6,I 0),(7, .ptr 7 0)],[(7, .box 3 [I 0])]⟩ krf (sim_bind (fun j1=>⟨[(0, .eptr (GBB.cs a0b)),(6,I 0),(7, .ptr 7 0)],[(7, .box 3 [I j1])]⟩:Int→St) ?_ ?_))
 ·refine sS (sG (xR 3 krf (xs_inline [] [.eptr (GBB.cs a0b),I a1from,I a2to] [(3,403),(4,404),(5,405)] [] [] krf Tryz.func111 rfl Tryz.ntmps111 rfl krf krf krf (sR tfm ⟨[3,4,5,6],[3,4,5],[],[]⟩ ⟨[(3, .ptr 3 0),(4, .ptr 4 0),(5, .ptr 5 0),(6, .p (.val (.nilFunc)))],[(3, .box 116 [.eptr (GBB.cs a0b)]),(4, .box 3 [I a1from]),(5, .box 3 [I a2to])]⟩ krf (sR tfm ⟨[6],[3,4,5],[],[]⟩ ⟨[(6, .fn (.func 117) [] [.ptr 4 0, .ptr 5 0, .ptr 3 0])],[(3, .box 116 [.eptr (GBB.cs a0b)]),(4, .box 3 [I a1from]),(5, .box 3 [I a2to])]⟩ krf (sT (iq_ret (.id) [3,4,5] [] (.fn (.func 117) [] [.ptr 4 0, .ptr 5 0, .ptr 3 0]) krf krf ?_)))))))
  refine kr0 (xE (sN ⟨[0,6,7,11],[7,403,404,405],[],[]⟩ ⟨[(0, .eptr (GBB.cs a0b)),(6,I 0),(7, .ptr 7 0),(11, .fn (.func 117) [] [.ptr 404 0, .ptr 405 0, .ptr 403 0])],[(7, .box 3 [I 0]),(403, .box 116 [.eptr (GBB.cs a0b)]),(404, .box 3 [I a1from]),(405, .box 3 [I a2to])]⟩ krf (sB (sP ⟨[0,6,7,11],[7,403,404,405],[],[]⟩ ⟨[(0, .eptr (GBB.cs a0b)),(6,I 0),(7, .ptr 7 0),(11, .fn (.func 117) [] [.ptr 404 0, .ptr 405 0, .ptr 403 0])],[(7, .box 3 [I 0]),(403, .box 116 [.eptr (GBB.cs a0b)]),(404, .box 3 [I a1from]),(405, .box 3 [I a2to])]⟩ krf ?_))))
  refine sim_range 117 3000 [] [.ptr 404 0, .ptr 405 0, .ptr 403 0] krf krf (fun nf2 _ hnf2=>?_)
  refine sc_inline (hc:=[(1007, .box 3 [I 0]),(1403, .box 116 [.eptr (GBB.cs a0b)]),(1404, .box 3 [I a1from]),(1405, .box 3 [I a2to]),(4000, .lp [(0, .eptr (GBB.cs a0b)),(6,I 0),(7, .ptr 1007 0),(11, .fn (.func 117) [] [.ptr 1404 0, .ptr 1405 0, .ptr 1403 0])] nf2 .ready none)]) (args':=[.yv 4000, .ptr 1404 0, .ptr 1405 0, .ptr 1403 0]) [(1007,7),(1403,403),(1404,404),(1405,405),(4000,3000)] [] [] Tryz.func117 rfl Tryz.ntmps117 rfl krf krf krf (sR tfm ⟨[0,2,3,5,6],[1007,1403,1404,1405,4000],[],[]⟩ ⟨[(0, .yv 4000),(2, .ptr 1405 0),(3, .ptr 1403 0),(5,I a1from),(6,I a1from)],[(1007, .box 3 [I 0]),(1403, .box 116 [.eptr (GBB.cs a0b)]),(1404, .box 3 [I a1from]),(1405, .box 3 [I a2to]),(4000, .lp [(0, .eptr (GBB.cs a0b)),(6,I 0),(7, .ptr 1007 0),(11, .fn (.func 117) [] [.ptr 1404 0, .ptr 1405 0, .ptr 1403 0])] nf2 .ready none)]⟩ krf (sB (sim_loop (fun (l3_1,l3_2)=>⟨[(0, .yv 4000),(2, .ptr 1405 0),(3, .ptr 1403 0),(5,I l3_1),(6,I a1from)],[(1007, .box 3 [I l3_2]),(1403, .box 116 [.eptr (GBB.cs a0b)]),(1404, .box 3 [I a1from]),(1405, .box 3 [I a2to]),(4000, .lp [(0, .eptr (GBB.cs a0b)),(6,I 0),(7, .ptr 1007 0),(11, .fn (.func 117) [] [.ptr 1404 0, .ptr 1405 0, .ptr 1403 0])] nf2 .ready none)]⟩:(Int × Int)→St) (weak_shr (K:=⟨[0,2,3,5,6],[1007,1403,1404,1405,4000],[],[]⟩) krf) ?_)))
  rintro recl3 ⟨l3_1,l3_2⟩
  show SimE (g_bb_stretch_l3 n a0b a2to recl3 l3_1 l3_2) _ _ _ _ _ _
  unfold g_bb_stretch_l3
  refine sS (sR tfm ⟨[0,2,3,5,6,7,9],[1007,1403,1404,1405,4000],[],[]⟩ ⟨[(0, .yv 4000),(2, .ptr 1405 0),(3, .ptr 1403 0),(5,I l3_1),(6,I a1from),(7,I l3_1),(9,B (ltI l3_1 a2to))],[(1007, .box 3 [I l3_2]),(1403, .box 116 [.eptr (GBB.cs a0b)]),(1404, .box 3 [I a1from]),(1405, .box 3 [I a2to]),(4000, .lp [(0, .eptr (GBB.cs a0b)),(6,I 0),(7, .ptr 1007 0),(11, .fn (.func 117) [] [.ptr 1404 0, .ptr 1405 0, .ptr 1403 0])] nf2 .ready none)]⟩ krf (sC (ltI l3_1 a2to) krf ?_ ?_))
  ·refine sK (sN ⟨[0,2,3,5,6,7],[1007,1403,1404,1405,4000],[],[]⟩ ⟨[(0, .yv 4000),(2, .ptr 1405 0),(3, .ptr 1403 0),(5,I l3_1),(6,I a1from),(7,I l3_1)],[(1007, .box 3 [I l3_2]),(1403, .box 116 [.eptr (GBB.cs a0b)]),(1404, .box 3 [I a1from]),(1405, .box 3 [I a2to]),(4000, .lp [(0, .eptr (GBB.cs a0b)),(6,I 0),(7, .ptr 1007 0),(11, .fn (.func 117) [] [.ptr 1404 0, .ptr 1405 0, .ptr 1403 0])] nf2 .ready none)]⟩ krf (sS (sB (sim_bind (fun j4=>⟨[(0, .yv 4000),(2, .ptr 1405 0),(3, .ptr 1403 0),(5,I l3_1),(6,I a1from),(7,I l3_1),(20,B false)],[(1007, .box 3 [I j4]),(1403, .box 116 [.eptr (GBB.cs a0b)]),(1404, .box 3 [I a1from]),(1405, .box 3 [I a2to]),(4000, .lp [(0, .eptr (GBB.cs a0b)),(6,I 0),(7, .ptr 1007 0),(11, .fn (.func 117) [] [.ptr 1404 0, .ptr 1405 0, .ptr 1403 0])] nf2 .ready none)]⟩:Int→St) ?_ ?_))))
   ·refine sG (xR 2 krf ?_)
    refine xC [] krf (g_bb_applies_ok n a0b l3_1) krf krf (fun _=>by kernel_rfl) (fun r5=>?_)
    refine xR 1 krf ?_
    refine xS r5 (fun h6=>?_) (fun h6=>?_)
    ·refine xO (want_tt krf h6) krf (xR 1 krf ?_)
     refine xs_yield [] [(1007, .box 3 [I l3_2]),(1403, .box 116 [.eptr (GBB.cs a0b)]),(1404, .box 3 [I a1from]),(1405, .box 3 [I a2to]),(4000, .lp [(0, .eptr (GBB.cs a0b)),(6,I 0),(7, .ptr 1007 0),(11, .fn (.func 117) [] [.ptr 1404 0, .ptr 1405 0, .ptr 1403 0])] nf2 .ready none)] 4000 [(0, .eptr (GBB.cs a0b)),(6,I 0),(7, .ptr 1007 0),(11, .fn (.func 117) [] [.ptr 1404 0, .ptr 1405 0, .ptr 1403 0])] [] [] [I l3_1] krf hnf2 krf krf krf krf krf (fun _=>?_)
     refine sK (as_n ⟨[6,7],[1007,1403,1404,1405,4000],[],[]⟩ ⟨[(6,I 0),(7, .ptr 1007 0)],[(1007, .box 3 [I l3_2]),(1403, .box 116 [.eptr (GBB.cs a0b)]),(1404, .box 3 [I a1from]),(1405, .box 3 [I a2to]),(4000, .lp [(0, .eptr (GBB.cs a0b)),(6,I 0),(7, .ptr 1007 0),(11, .fn (.func 117) [] [.ptr 1404 0, .ptr 1405 0, .ptr 1403 0])] nf2 .busy none)]⟩ none krf krf (sB (sL tfm krf (bq_n (rn_n [1007,1403,1404,1405,4000] [] .busy none krf krf (kr0 (xR 2 krf ?_)))))))
     refine xE ?_
     exact nq_n (wi (l3_2+1)) ⟨[0,2,3,5,6,7,20],[1007,1403,1404,1405,4000],[],[]⟩ krf
    ·refine xN (want_tf krf h6) krf (xR 4 krf (xE ?_))
     exact nq_n l3_2 ⟨[0,2,3,5,6,7,20],[1007,1403,1404,1405,4000],[],[]⟩ krf
   ·rintro j4
    refine sim_condF krf (sK (bq_n (sN ⟨[0,2,3,5,6,7],[1007,1403,1404,1405,4000],[],[]⟩ ⟨[(0, .yv 4000),(2, .ptr 1405 0),(3, .ptr 1403 0),(5,I l3_1),(6,I a1from),(7,I l3_1)],[(1007, .box 3 [I j4]),(1403, .box 116 [.eptr (GBB.cs a0b)]),(1404, .box 3 [I a1from]),(1405, .box 3 [I a2to]),(4000, .lp [(0, .eptr (GBB.cs a0b)),(6,I 0),(7, .ptr 1007 0),(11, .fn (.func 117) [] [.ptr 1404 0, .ptr 1405 0, .ptr 1403 0])] nf2 .ready none)]⟩ krf (sL tfm krf ?_))))
    exact kq_n (wi (l3_1+1),j4) ⟨[0,2,3,5,6],[1007,1403,1404,1405,4000],[],[]⟩ krf
  ·refine sim_exit (sq_x (kq_x (bq_hit (iq_n .id [1007,1403,1404,1405,4000] [] (.tup []) krf krf ?_))))
   refine kg_n .ready ⟨[0,6,7],[7],[],[]⟩ ⟨[(0, .eptr (GBB.cs a0b)),(6,I 0),(7, .ptr 7 0)],[(7, .box 3 [I l3_2])]⟩ krf (by intro h; cases h) krf ?_
   refine bq_n ?_
   exact nq_n l3_2 ⟨[0,6,7],[7],[],[]⟩ krf
 ·rintro j1
  refine sS (sim_drw tfm rfl (xR 18 krf ?_))
  refine xC [] krf (g_money_Started_ok n a0b.article.Price (maxI 0 (wi (j1 - a0b.article.Free))) a0b.article.Unit) krf krf (fun _=>by kernel_rfl) (fun r7=>?_)
  refine xR 2 krf (xs_seqL rfl krf krf ?_)
  refine xs_exc [] krf (g_bill_must_ok n r7.1 r7.2) krf krf (fun _=>by kernel_rfl) (fun _=>by kernel_rfl) (fun r8=>?_) (fun e9=>?_)
  ·refine xR 1 krf (xE (sN ⟨[6],[],[],[]⟩ ⟨[(6,I r8)],[]⟩ krf (sT ?_)))
   exact qR (.id) krf krf krf
  ·refine sq_p ?_
   exact rq_p krf krf
def g_money_Tax_j1 (n:Nat) (a0amount:Int) (a1rate:Int):Option (Int × Int) :=
 (g_money_half n (wi (a0amount * a1rate)) 10000).bind fun r2 =>
 (g_money_checked n r2).bind (exc (fun r3 =>
  (g_money_caught n 0).bind fun r5 =>
  some (r3,r5)) fun e4=>(g_money_caught_2 n e4 0).bind fun r6 =>
 some (0,r6))
def g_money_Tax (n:Nat) (a0amount:Int) (a1rate:Int):Option (Int × Int) :=
 (g_money_isAmount n a0amount).bind fun r7 =>
 cond r7
  ((g_money_inside n a1rate 0 100000).bind fun r9 =>
  (g_money_need n r9 1).bind (exc (fun r10 =>
   g_money_Tax_j1 n a0amount a1rate) fun e11=>(g_money_caught_2 n e11 0).bind fun r12 =>
  some (0,r12)))
  ((g_money_need n false 1).bind (exc (fun r13 =>
   g_money_Tax_j1 n a0amount a1rate) fun e14=>(g_money_caught_2 n e14 0).bind fun r15 =>
  some (0,r15)))
theorem g_money_Tax_okH (n:Nat) (a0amount:Int) (a1rate:Int):∀ r,g_money_Tax n a0amount a1rate=some r→ACall Tryz.prog 63 [I a0amount,I a1rate] (Go.Abs.look []) (heapR (fun r:Int × Int=>((.ret (.tup [I r.1,I r.2]),[]):AEnd × List (Nat × Blk))) r):=by
 refine defer_sim (X:=fun r:Int × Int=>((.ret (.tup [I r.1,I r.2]),[]):AEnd × List (Nat × Blk))) [] (⟨Tryz.f87,_,_,_,1,_,_,Tryz.func87,rfl,rfl,rfl,rfl,rfl,rfl,by decide,by decide,rfl,by kernel_rfl⟩:Catcher Tryz.prog 87 88) (⟨_,_,_,_,_,5,6,_,rfl,rfl,rfl,rfl,rfl,rfl,rfl,by decide⟩:Deferrer Tryz.f63 87) 5 Tryz.func63 Tryz.ntmps63 rfl krf rfl tfm rfl krf krf krf ?_
 unfold g_money_Tax
 refine sP ⟨[0,1,4,5],[2000],[],[]⟩ ⟨[(0,I a0amount),(1,I a1rate),(4,I 0),(5, .ptr 2000 0)],[(2000, .box 44 [I 0])]⟩ krf ?_
 refine sim_cps (fun _=>⟨[(0,I a0amount),(1,I a1rate),(4,I 0),(5, .ptr 2000 0)],[(2000, .box 44 [I 0])]⟩:Unit→St) (fun _=>g_money_Tax_j1 n a0amount a1rate) ?_ ?_
 ·rintro _
  show SimE (g_money_Tax_j1 n a0amount a1rate) _ _ _ _ _ _
  unfold g_money_Tax_j1
  refine sS ?_
  refine sG ?_
  refine xR 3 krf ?_
  refine xC [] krf (g_money_half_ok n (wi (a0amount * a1rate)) 10000) krf krf (fun _=>by kernel_rfl) (fun r2=>?_)
  refine xs_exc [] krf (g_money_checked_ok n r2) krf krf (fun _=>by kernel_rfl) (fun _=>by kernel_rfl) (fun r3=>?_) (fun e4=>?_)
  ·refine xR 2 krf ?_
   refine xE ?_
   refine sN ⟨[4,5],[2000],[],[]⟩ ⟨[(4,I r3),(5, .ptr 2000 0)],[(2000, .box 44 [I 0])]⟩ krf ?_
   refine sT ?_
   refine dq_ret ?_
   refine sc_heap [(1001,2000)] [] [] (g_money_caught_ok n 0) krf krf krf (fun _=>by kernel_rfl) (fun _=>by kernel_rfl) (fun r5=>?_)
   exact ke_end (.id) [] [] krf krf krf krf
  ·refine sq_p ?_
   refine dq_p ?_
   refine sc_heap [(1001,2000)] [] [] (g_money_caught_2_ok n e4 0) krf krf krf (fun _=>by kernel_rfl) (fun _=>by kernel_rfl) (fun r6=>?_)
   exact ke_end (.id) [] [] krf krf krf krf
 ·refine sG ?_
  refine xR 1 krf ?_
  refine xC [] krf (g_money_isAmount_ok n a0amount) krf krf (fun _=>by kernel_rfl) (fun r7=>?_)
  refine xR 1 krf ?_
  refine xS r7 (fun h8=>?_) (fun h8=>?_)
  ·refine xO (want_tt krf h8) krf ?_
   refine xC [] krf (g_money_inside_ok n a1rate 0 100000) krf krf (fun _=>by kernel_rfl) (fun r9=>?_)
   refine xR 1 krf ?_
   refine xs_exc [] krf (g_money_need_ok n r9 1) krf krf (fun _=>by kernel_rfl) (fun _=>by kernel_rfl) (fun r10=>?_) (fun e11=>?_)
   ·refine xE ?_
    exact kq_n (k:=fun _=>g_money_Tax_j1 n a0amount a1rate) () ⟨[0,1,4,5],[2000],[],[]⟩ krf
   ·refine kq_p ?_
    refine dq_p ?_
    refine sc_heap [(1001,2000)] [] [] (g_money_caught_2_ok n e11 0) krf krf krf (fun _=>by kernel_rfl) (fun _=>by kernel_rfl) (fun r12=>?_)
    exact ke_end (.id) [] [] krf krf krf krf
  ·refine xN (want_tf krf h8) krf ?_
   refine xR 2 krf ?_
   refine xs_exc [] krf (g_money_need_ok n false 1) krf krf (fun _=>by kernel_rfl) (fun _=>by kernel_rfl) (fun r13=>?_) (fun e14=>?_)
   ·refine xE ?_
    exact kq_n (k:=fun _=>g_money_Tax_j1 n a0amount a1rate) () ⟨[0,1,4,5],[2000],[],[]⟩ krf
   ·refine kq_p ?_
    refine dq_p ?_
    refine sc_heap [(1001,2000)] [] [] (g_money_caught_2_ok n e14 0) krf krf krf (fun _=>by kernel_rfl) (fun _=>by kernel_rfl) (fun r15=>?_)
    exact ke_end (.id) [] [] krf krf krf krf
theorem g_money_Tax_ok (n:Nat) (a0amount:Int) (a1rate:Int):∀ r,g_money_Tax n a0amount a1rate=some r→PCall Tryz.prog 63 [I a0amount,I a1rate] (.ret (.tup [I r.1,I r.2])):=fun r h=>pcall_of (g_money_Tax_okH n a0amount a1rate r h) rfl
def g_bill_sum_j1 (n:Nat) (j1_1:Int) (j1_2:Int) (j1_3:OL GLine) (j1_4:Int):Option (Except Int GBill) :=
 (cond (leI 0 j1_2)
  (some (minI j1_4 j1_2))
  (some j1_4)).bind fun j2 =>
 (g_money_Tax n j2 j1_1).bind fun r3 =>
 (g_bill_must n r3.1 r3.2).bind (exc (fun r4 =>
  cond (ltI 1000000000 (wi (j2+r4)))
   (some (.error 3))
   (some (.ok (⟨j1_3.toL,j2,r4,wi (j2+r4)⟩:GBill)))) fun e5=>some (.error e5))
def g_bill_sum_j10 (l6_1:Int) (l6_2:Int) (l6_3:Int) (l6_4:OL GLine) (l6_5:Int) (recl6:(Int × Int × Int × (OL GLine) × Int)→Option (Except Int GBill)) (j10:Int):Option (Except Int GBill) :=
 cond (roomB (List.length (l6_4.toL++[(⟨l6_3,j10⟩:GLine)])) 16) (
  recl6 (l6_1,l6_2,wi (l6_3+1),OL.own (l6_4.toL++[(⟨l6_3,j10⟩:GLine)]),wi (l6_5+j10))) none
def g_bill_sum_l13 (n:Nat) (a1c:GCl) (a2s:GSs) (x7:GAr) (recl13:(Int × Int)→Option Int) (l13_1:Int) (l13_2:Int):Option Int :=
 cond (ltI l13_2 (lenI (List.map GSl.cs a2s.Slices)))
  ((getI a2s.Slices l13_2).bind fun x14 =>
  (g_bb_applies n (⟨x7,a1c,a2s⟩:GBB) x14.Minute).bind fun r15 =>
  cond r15
   (recl13 (wi (l13_1+x14.Energy),wi (l13_2+1)))
   (recl13 (l13_1,wi (l13_2+1))))
  (some l13_1)
def g_bill_sum_l6 (n:Nat) (a0t:GTf) (a1c:GCl) (a2s:GSs) (recl6:(Int × Int × Int × (OL GLine) × Int)→Option (Except Int GBill)) (l6_1:Int) (l6_2:Int) (l6_3:Int) (l6_4:OL GLine) (l6_5:Int):Option (Except Int GBill) :=
 cond (ltI l6_3 (lenI (List.map GAr.cs a0t.Articles)))
  ((getI a0t.Articles l6_3).bind fun x7 =>
  cond (eqI x7.Kind 5)
   ((cond (ltI l6_2 0)
    (some true)
    (some (ltI x7.Price l6_2))).bind fun j8 =>
   cond j8
    (recl6 (l6_1,x7.Price,wi (l6_3+1),l6_4,l6_5))
    (recl6 (l6_1,l6_2,wi (l6_3+1),l6_4,l6_5)))
   (cond (eqI x7.Kind 6)
    (recl6 (x7.Price,l6_2,wi (l6_3+1),l6_4,l6_5))
    (cond (eqI x7.Kind 1)
     ((g_bb_applies n (⟨x7,a1c,a2s⟩:GBB) a2s.From).bind fun r11 =>
     cond r11
      (g_bill_sum_j10 l6_1 l6_2 l6_3 l6_4 l6_5 recl6 x7.Price)
      (g_bill_sum_j10 l6_1 l6_2 l6_3 l6_4 l6_5 recl6 0))
     (cond (eqI x7.Kind 2)
      ((loopN (fun recl13 (l13_1,l13_2)=>g_bill_sum_l13 n a1c a2s x7 recl13 l13_1 l13_2) n (0,0)).bind fun j12 =>
      (g_money_Times n x7.Price j12 1000).bind fun r16 =>
      (g_bill_must n r16.1 r16.2).bind (exc (fun r17 =>
       g_bill_sum_j10 l6_1 l6_2 l6_3 l6_4 l6_5 recl6 r17) fun e18=>some (.error e18)))
      (cond (eqI x7.Kind 3)
       ((g_bb_stretch n (⟨x7,a1c,a2s⟩:GBB) a2s.From a2s.To).bind (exc (fun r19 =>
        g_bill_sum_j10 l6_1 l6_2 l6_3 l6_4 l6_5 recl6 r19) fun e20=>some (.error e20)))
       (cond (eqI x7.Kind 4)
        ((g_bb_stretch n (⟨x7,a1c,a2s⟩:GBB) a2s.End a2s.To).bind (exc (fun r21 =>
         g_bill_sum_j10 l6_1 l6_2 l6_3 l6_4 l6_5 recl6 r21) fun e22=>some (.error e22)))
        (g_bill_sum_j10 l6_1 l6_2 l6_3 l6_4 l6_5 recl6 0)))))))
  (g_bill_sum_j1 n l6_1 l6_2 l6_4 l6_5)
def g_bill_sum (n:Nat) (a0t:GTf) (a1c:GCl) (a2s:GSs):Option (Except Int GBill) :=
 loopN (fun recl6 (l6_1,l6_2,l6_3,l6_4,l6_5)=>g_bill_sum_l6 n a0t a1c a2s recl6 l6_1 l6_2 l6_3 l6_4 l6_5) n (0,(-1),0,OL.nil,0)
theorem g_bill_sum_ok (n:Nat) (a0t:GTf) (a1c:GCl) (a2s:GSs):∀ r,g_bill_sum n a0t a1c a2s=some r→PCall Tryz.prog 30 [ag (GTf.cs a0t),ag (GCl.cs a1c),ag (GSs.cs a2s)] (excE (fun r:GBill=>(ag (GBill.cs r):AV)) (fun e:Int=>(.ifc 103 (.agg [I e]):AV)) r):=by
 refine pcall_sim (X:=excE (fun r:GBill=>(ag (GBill.cs r):AV)) (fun e:Int=>(.ifc 103 (.agg [I e]):AV))) Tryz.func30 rfl Tryz.ntmps30 rfl ?_
 unfold g_bill_sum
 refine sR tfm ⟨[3,4,5,6],[3,4,5,6],[],[]⟩ ⟨[(3, .ptr 3 0),(4, .ptr 4 0),(5, .ptr 5 0),(6, .ptr 6 0)],[(3, .box 24 (bxc (GTf.cs a0t))),(4, .box 28 (bxc (GCl.cs a1c))),(5, .box 35 (bxc (GSs.cs a2s))),(6, .box 39 [zS,I 0,I 0,I 0])]⟩ krf (sR tfm ⟨[3,4,5,6,7],[3,4,5,6,7],[],[]⟩ ⟨[(3, .ptr 3 0),(4, .ptr 4 0),(5, .ptr 5 0),(6, .ptr 6 0),(7, .ptr 7 0)],[(3, .box 24 (bxc (GTf.cs a0t))),(4, .box 28 (bxc (GCl.cs a1c))),(5, .box 35 (bxc (GSs.cs a2s))),(6, .box 39 [zS,I 0,I 0,I 0]),(7, .box 39 [zS,I 0,I 0,I 0])]⟩ krf (sR tfm ⟨[3,4,5,6,7,8,9],[3,4,5,6,7],[],[]⟩ ⟨[(3, .ptr 3 0),(4, .ptr 4 0),(5, .ptr 5 0),(6, .ptr 6 0),(7, .ptr 7 0),(8,I 0),(9,I (-1))],[(3, .box 24 (bxc (GTf.cs a0t))),(4, .box 28 (bxc (GCl.cs a1c))),(5, .box 35 (bxc (GSs.cs a2s))),(6, .box 39 [zS,I 0,I 0,I 0]),(7, .box 39 [zS,I 0,I 0,I 0])]⟩ krf (sim_cps (fun (j1_1,j1_2,j1_3,j1_4)=>⟨[(6, .ptr 6 0),(7, .ptr 7 0),(8,I j1_1),(9,I j1_2)],[(6, .box 39 [zS,I 0,I 0,I 0]),(7, .box 39 [osl 2 GLine.cs j1_3 38,I j1_4,I 0,I 0])]++oarr 69 2 GLine.cs j1_3 38⟩:(Int × Int × (OL GLine) × Int)→St) (fun (j1_1,j1_2,j1_3,j1_4)=>g_bill_sum_j1 n j1_1 j1_2 j1_3 j1_4) ?_ ?_)))
 ·rintro ⟨j1_1,j1_2,j1_3,j1_4⟩
  show SimE (g_bill_sum_j1 n j1_1 j1_2 j1_3 j1_4) _ _ _ _ _ _
  unfold g_bill_sum_j1
  rcases j1_3 with _ | ow_j1_3
  ·refine sim_bind (fun j2=>⟨[(6, .ptr 6 0),(7, .ptr 7 0),(8,I j1_1)],[(6, .box 39 [zS,I 0,I 0,I 0]),(7, .box 39 [zS,I j2,I 0,I 0])]⟩:Int→St) ?_ ?_
   ·refine sR tfm ⟨[6,7,8,9,63],[6,7],[],[]⟩ ⟨[(6, .ptr 6 0),(7, .ptr 7 0),(8,I j1_1),(9,I j1_2),(63,B (leI 0 j1_2))],[(6, .box 39 [zS,I 0,I 0,I 0]),(7, .box 39 [zS,I j1_4,I 0,I 0])]⟩ krf (sC (leI 0 j1_2) krf ?_ ?_)
    ·refine sL tfm krf ?_
     exact nq_n (minI j1_4 j1_2) ⟨[6,7,8],[6,7],[],[]⟩ krf
    ·refine sK ?_
     exact nq_n j1_4 ⟨[6,7,8],[6,7],[],[]⟩ krf
   ·rintro j2
    refine sS (sG (xR 3 krf ?_))
    refine xC [] krf (g_money_Tax_ok n j2 j1_1) krf krf (fun _=>by kernel_rfl) (fun r3=>?_)
    refine xR 2 krf ?_
    refine xs_exc [] krf (g_bill_must_ok n r3.1 r3.2) krf krf (fun _=>by kernel_rfl) (fun _=>by kernel_rfl) (fun r4=>?_) (fun e5=>?_)
    ·refine xR 2 krf (xE (sN ⟨[6,7],[6,7],[],[]⟩ ⟨[(6, .ptr 6 0),(7, .ptr 7 0)],[(6, .box 39 [zS,I 0,I 0,I 0]),(7, .box 39 [zS,I j2,I r4,I 0])]⟩ krf (sR tfm ⟨[6,7],[6,7],[],[]⟩ ⟨[(6, .ptr 6 0),(7, .ptr 7 0)],[(6, .box 39 [zS,I 0,I 0,I 0]),(7, .box 39 [zS,I j2,I r4,I (wi (j2+r4))])]⟩ krf (sS (sR tfm ⟨[6,7,85],[6,7],[],[]⟩ ⟨[(6, .ptr 6 0),(7, .ptr 7 0),(85,B (ltI 1000000000 (wi (j2+r4))))],[(6, .box 39 [zS,I 0,I 0,I 0]),(7, .box 39 [zS,I j2,I r4,I (wi (j2+r4))])]⟩ krf (sC (ltI 1000000000 (wi (j2+r4))) krf ?_ ?_))))))
     ·refine sG (xR 2 krf (xs_panic 103 (.agg [I 3]) krf rfl krf (sq_p ?_)))
      exact rq_p krf krf
     ·refine sK (sN ⟨[6,7],[6,7],[],[]⟩ ⟨[(6, .ptr 6 0),(7, .ptr 7 0)],[(6, .box 39 [zS,I 0,I 0,I 0]),(7, .box 39 [zS,I j2,I r4,I (wi (j2+r4))])]⟩ krf (sR tfm ⟨[6],[6],[],[]⟩ ⟨[(6, .ptr 6 0)],[(6, .box 39 [zS,I j2,I r4,I (wi (j2+r4))])]⟩ krf (sT ?_)))
      exact qR (.agg [.sl 2, .id, .id, .id]) krf krf krf
    ·refine sq_p ?_
     exact rq_p krf krf
  ·refine sim_bind (fun j2=>⟨[(6, .ptr 6 0),(7, .ptr 7 0),(8,I j1_1)],[(6, .box 39 [zS,I 0,I 0,I 0]),(7, .box 39 [.tsl 2 (mLine (OL.own ow_j1_3).toL) 38,I j2,I 0,I 0]),(38, .arr 69 2 (mLine (OL.own ow_j1_3).toL).length)]⟩:Int→St) ?_ ?_
   ·refine sR tfm ⟨[6,7,8,9,63],[6,7,38],[],[]⟩ ⟨[(6, .ptr 6 0),(7, .ptr 7 0),(8,I j1_1),(9,I j1_2),(63,B (leI 0 j1_2))],[(6, .box 39 [zS,I 0,I 0,I 0]),(7, .box 39 [.tsl 2 (mLine (OL.own ow_j1_3).toL) 38,I j1_4,I 0,I 0]),(38, .arr 69 2 (mLine (OL.own ow_j1_3).toL).length)]⟩ krf (sC (leI 0 j1_2) krf ?_ ?_)
    ·refine sL tfm krf ?_
     exact nq_n (minI j1_4 j1_2) ⟨[6,7,8],[6,7,38],[],[]⟩ krf
    ·refine sK ?_
     exact nq_n j1_4 ⟨[6,7,8],[6,7,38],[],[]⟩ krf
   ·rintro j2
    refine sS (sG (xR 3 krf ?_))
    refine xC [] krf (g_money_Tax_ok n j2 j1_1) krf krf (fun _=>by kernel_rfl) (fun r3=>?_)
    refine xR 2 krf ?_
    refine xs_exc [] krf (g_bill_must_ok n r3.1 r3.2) krf krf (fun _=>by kernel_rfl) (fun _=>by kernel_rfl) (fun r4=>?_) (fun e5=>?_)
    ·refine xR 2 krf (xE (sN ⟨[6,7],[6,7,38],[],[]⟩ ⟨[(6, .ptr 6 0),(7, .ptr 7 0)],[(6, .box 39 [zS,I 0,I 0,I 0]),(7, .box 39 [.tsl 2 (mLine (OL.own ow_j1_3).toL) 38,I j2,I r4,I 0]),(38, .arr 69 2 (mLine (OL.own ow_j1_3).toL).length)]⟩ krf (sR tfm ⟨[6,7],[6,7,38],[],[]⟩ ⟨[(6, .ptr 6 0),(7, .ptr 7 0)],[(6, .box 39 [zS,I 0,I 0,I 0]),(7, .box 39 [.tsl 2 (mLine (OL.own ow_j1_3).toL) 38,I j2,I r4,I (wi (j2+r4))]),(38, .arr 69 2 (mLine (OL.own ow_j1_3).toL).length)]⟩ krf (sS (sR tfm ⟨[6,7,85],[6,7,38],[],[]⟩ ⟨[(6, .ptr 6 0),(7, .ptr 7 0),(85,B (ltI 1000000000 (wi (j2+r4))))],[(6, .box 39 [zS,I 0,I 0,I 0]),(7, .box 39 [.tsl 2 (mLine (OL.own ow_j1_3).toL) 38,I j2,I r4,I (wi (j2+r4))]),(38, .arr 69 2 (mLine (OL.own ow_j1_3).toL).length)]⟩ krf (sC (ltI 1000000000 (wi (j2+r4))) krf ?_ ?_))))))
     ·refine sG (xR 2 krf (xs_panic 103 (.agg [I 3]) krf rfl krf (sq_p ?_)))
      exact rq_p krf krf
     ·refine sK (sN ⟨[6,7],[6,7,38],[],[]⟩ ⟨[(6, .ptr 6 0),(7, .ptr 7 0)],[(6, .box 39 [zS,I 0,I 0,I 0]),(7, .box 39 [.tsl 2 (mLine (OL.own ow_j1_3).toL) 38,I j2,I r4,I (wi (j2+r4))]),(38, .arr 69 2 (mLine (OL.own ow_j1_3).toL).length)]⟩ krf (sR tfm ⟨[6],[6,38],[],[]⟩ ⟨[(6, .ptr 6 0)],[(6, .box 39 [.tsl 2 (mLine (OL.own ow_j1_3).toL) 38,I j2,I r4,I (wi (j2+r4))]),(38, .arr 69 2 (mLine (OL.own ow_j1_3).toL).length)]⟩ krf (sT ?_)))
      exact qR (.agg [.sl 2, .id, .id, .id]) krf krf krf
    ·refine sq_p ?_
     exact rq_p krf krf
 ·refine sR tfm ⟨[4,5,6,7,8,9,15,16,17],[4,5,6,7],[],[]⟩ ⟨[(4, .ptr 4 0),(5, .ptr 5 0),(6, .ptr 6 0),(7, .ptr 7 0),(8,I 0),(9,I (-1)),(15, .p (.sl 7 (mAr a0t.Articles))),(16,I (lenI (mAr a0t.Articles))),(17,I 0)],[(4, .box 28 (bxc (GCl.cs a1c))),(5, .box 35 (bxc (GSs.cs a2s))),(6, .box 39 [zS,I 0,I 0,I 0]),(7, .box 39 [zS,I 0,I 0,I 0])]⟩ krf (sB (sim_loop (fun (l6_1,l6_2,l6_3,l6_4,l6_5)=>⟨[(4, .ptr 4 0),(5, .ptr 5 0),(6, .ptr 6 0),(7, .ptr 7 0),(8,I l6_1),(9,I l6_2),(15, .p (.sl 7 (mAr a0t.Articles))),(16,I (lenI (mAr a0t.Articles))),(17,I l6_3)],[(4, .box 28 (bxc (GCl.cs a1c))),(5, .box 35 (bxc (GSs.cs a2s))),(6, .box 39 [zS,I 0,I 0,I 0]),(7, .box 39 [osl 2 GLine.cs l6_4 38,I l6_5,I 0,I 0])]++oarr 69 2 GLine.cs l6_4 38⟩:(Int × Int × Int × (OL GLine) × Int)→St) (weak_shr (K:=⟨[4,5,6,7,8,9,15,16,17],[4,5,6,7],[],[]⟩) krf) ?_))
  rintro recl6 ⟨l6_1,l6_2,l6_3,l6_4,l6_5⟩
  show SimE (g_bill_sum_l6 n a0t a1c a2s recl6 l6_1 l6_2 l6_3 l6_4 l6_5) _ _ _ _ _ _
  unfold g_bill_sum_l6
  rcases l6_4 with _ | ow_l6_4
  ·refine sR tfm ⟨[4,5,6,7,8,9,15,16,17,18],[4,5,6,7],[],[]⟩ ⟨[(4, .ptr 4 0),(5, .ptr 5 0),(6, .ptr 6 0),(7, .ptr 7 0),(8,I l6_1),(9,I l6_2),(15, .p (.sl 7 (mAr a0t.Articles))),(16,I (lenI (mAr a0t.Articles))),(17,I l6_3),(18,B (ltI l6_3 (lenI (mAr a0t.Articles))))],[(4, .box 28 (bxc (GCl.cs a1c))),(5, .box 35 (bxc (GSs.cs a2s))),(6, .box 39 [zS,I 0,I 0,I 0]),(7, .box 39 [zS,I l6_5,I 0,I 0])]⟩ krf (sS (sC (ltI l6_3 (lenI (mAr a0t.Articles))) krf ?_ ?_))
   ·refine sK (sN ⟨[4,5,6,7,8,9,15,16,17],[4,5,6,7],[],[]⟩ ⟨[(4, .ptr 4 0),(5, .ptr 5 0),(6, .ptr 6 0),(7, .ptr 7 0),(8,I l6_1),(9,I l6_2),(15, .p (.sl 7 (mAr a0t.Articles))),(16,I (lenI (mAr a0t.Articles))),(17,I l6_3)],[(4, .box 28 (bxc (GCl.cs a1c))),(5, .box 35 (bxc (GSs.cs a2s))),(6, .box 39 [zS,I 0,I 0,I 0]),(7, .box 39 [zS,I l6_5,I 0,I 0])]⟩ krf (sS (sB (sS (sG (xR 1 krf ?_))))))
    refine xG krf krf (aop_idx (e:=73) (S:=7) (enc:=GAr.cs) (l:=a0t.Articles) (k:=.i64) (n:=l6_3) (sv:=.p (.sl 7 (mAr a0t.Articles))) rfl krf krf krf krf krf) (fun x7=>?_)
    refine xR 4 krf (xE (sN ⟨[4,5,6,7,8,9,10,11,15,16,17],[4,5,6,7,11],[],[]⟩ ⟨[(4, .ptr 4 0),(5, .ptr 5 0),(6, .ptr 6 0),(7, .ptr 7 0),(8,I l6_1),(9,I l6_2),(10,I l6_3),(11, .ptr 11 0),(15, .p (.sl 7 (mAr a0t.Articles))),(16,I (lenI (mAr a0t.Articles))),(17,I l6_3)],[(4, .box 28 (bxc (GCl.cs a1c))),(5, .box 35 (bxc (GSs.cs a2s))),(6, .box 39 [zS,I 0,I 0,I 0]),(7, .box 39 [zS,I l6_5,I 0,I 0]),(11, .box 73 (bxc (GAr.cs x7)))]⟩ krf (sR tfm ⟨[4,5,6,7,8,9,10,11,15,16,17,23],[4,5,6,7,11],[],[]⟩ ⟨[(4, .ptr 4 0),(5, .ptr 5 0),(6, .ptr 6 0),(7, .ptr 7 0),(8,I l6_1),(9,I l6_2),(10,I l6_3),(11, .ptr 11 0),(15, .p (.sl 7 (mAr a0t.Articles))),(16,I (lenI (mAr a0t.Articles))),(17,I l6_3),(23,I x7.Kind)],[(4, .box 28 (bxc (GCl.cs a1c))),(5, .box 35 (bxc (GSs.cs a2s))),(6, .box 39 [zS,I 0,I 0,I 0]),(7, .box 39 [zS,I l6_5,I 0,I 0]),(11, .box 73 (bxc (GAr.cs x7)))]⟩ krf (sB (sR tfm ⟨[4,5,6,7,8,9,10,11,15,16,17,23,45],[4,5,6,7,11],[],[]⟩ ⟨[(4, .ptr 4 0),(5, .ptr 5 0),(6, .ptr 6 0),(7, .ptr 7 0),(8,I l6_1),(9,I l6_2),(10,I l6_3),(11, .ptr 11 0),(15, .p (.sl 7 (mAr a0t.Articles))),(16,I (lenI (mAr a0t.Articles))),(17,I l6_3),(23,I x7.Kind),(45,B (eqI x7.Kind 5))],[(4, .box 28 (bxc (GCl.cs a1c))),(5, .box 35 (bxc (GSs.cs a2s))),(6, .box 39 [zS,I 0,I 0,I 0]),(7, .box 39 [zS,I l6_5,I 0,I 0]),(11, .box 73 (bxc (GAr.cs x7)))]⟩ krf (sC (eqI x7.Kind 5) krf ?_ ?_))))))
    ·refine sim_bind (fun j8=>⟨[(4, .ptr 4 0),(5, .ptr 5 0),(6, .ptr 6 0),(7, .ptr 7 0),(8,I l6_1),(9,I l6_2),(11, .ptr 11 0),(15, .p (.sl 7 (mAr a0t.Articles))),(16,I (lenI (mAr a0t.Articles))),(17,I l6_3),(54,B j8)],[(4, .box 28 (bxc (GCl.cs a1c))),(5, .box 35 (bxc (GSs.cs a2s))),(6, .box 39 [zS,I 0,I 0,I 0]),(7, .box 39 [zS,I l6_5,I 0,I 0]),(11, .box 73 (bxc (GAr.cs x7)))]⟩:Bool→St) ?_ ?_
     ·refine sG (xR 3 krf ?_)
      refine xS (ltI l6_2 0) (fun h9=>?_) (fun h9=>?_)
      ·refine xN (want_ft krf h9) krf (xR 4 krf (xE ?_))
       exact nq_n true ⟨[4,5,6,7,8,9,11,15,16,17,54],[4,5,6,7,11],[],[]⟩ krf
      ·refine xO (want_ff krf h9) krf (xR 4 krf (xE ?_))
       exact nq_n (ltI x7.Price l6_2) ⟨[4,5,6,7,8,9,11,15,16,17,54],[4,5,6,7,11],[],[]⟩ krf
     ·rintro j8
      refine sC j8 krf ?_ ?_
      ·refine sL tfm krf (bq_n (bq_n (sN ⟨[4,5,6,7,8,9,15,16,17],[4,5,6,7],[],[]⟩ ⟨[(4, .ptr 4 0),(5, .ptr 5 0),(6, .ptr 6 0),(7, .ptr 7 0),(8,I l6_1),(9,I x7.Price),(15, .p (.sl 7 (mAr a0t.Articles))),(16,I (lenI (mAr a0t.Articles))),(17,I l6_3)],[(4, .box 28 (bxc (GCl.cs a1c))),(5, .box 35 (bxc (GSs.cs a2s))),(6, .box 39 [zS,I 0,I 0,I 0]),(7, .box 39 [zS,I l6_5,I 0,I 0])]⟩ krf (sL tfm krf ?_))))
       exact kq_n (l6_1,x7.Price,wi (l6_3+1),OL.nil,l6_5) ⟨[4,5,6,7,8,9,15,16,17],[4,5,6,7],[],[]⟩ krf
      ·refine sK (bq_n (bq_n (sN ⟨[4,5,6,7,8,9,15,16,17],[4,5,6,7],[],[]⟩ ⟨[(4, .ptr 4 0),(5, .ptr 5 0),(6, .ptr 6 0),(7, .ptr 7 0),(8,I l6_1),(9,I l6_2),(15, .p (.sl 7 (mAr a0t.Articles))),(16,I (lenI (mAr a0t.Articles))),(17,I l6_3)],[(4, .box 28 (bxc (GCl.cs a1c))),(5, .box 35 (bxc (GSs.cs a2s))),(6, .box 39 [zS,I 0,I 0,I 0]),(7, .box 39 [zS,I l6_5,I 0,I 0])]⟩ krf (sL tfm krf ?_))))
       exact kq_n (l6_1,l6_2,wi (l6_3+1),OL.nil,l6_5) ⟨[4,5,6,7,8,9,15,16,17],[4,5,6,7],[],[]⟩ krf
    ·refine sR tfm ⟨[4,5,6,7,8,9,10,11,15,16,17,57],[4,5,6,7,11],[],[]⟩ ⟨[(4, .ptr 4 0),(5, .ptr 5 0),(6, .ptr 6 0),(7, .ptr 7 0),(8,I l6_1),(9,I l6_2),(10,I l6_3),(11, .ptr 11 0),(15, .p (.sl 7 (mAr a0t.Articles))),(16,I (lenI (mAr a0t.Articles))),(17,I l6_3),(57,B (eqI x7.Kind 6))],[(4, .box 28 (bxc (GCl.cs a1c))),(5, .box 35 (bxc (GSs.cs a2s))),(6, .box 39 [zS,I 0,I 0,I 0]),(7, .box 39 [zS,I l6_5,I 0,I 0]),(11, .box 73 (bxc (GAr.cs x7)))]⟩ krf (sC (eqI x7.Kind 6) krf ?_ ?_)
     ·refine sL tfm krf (bq_n (bq_n (sN ⟨[4,5,6,7,8,9,15,16,17],[4,5,6,7],[],[]⟩ ⟨[(4, .ptr 4 0),(5, .ptr 5 0),(6, .ptr 6 0),(7, .ptr 7 0),(8,I x7.Price),(9,I l6_2),(15, .p (.sl 7 (mAr a0t.Articles))),(16,I (lenI (mAr a0t.Articles))),(17,I l6_3)],[(4, .box 28 (bxc (GCl.cs a1c))),(5, .box 35 (bxc (GSs.cs a2s))),(6, .box 39 [zS,I 0,I 0,I 0]),(7, .box 39 [zS,I l6_5,I 0,I 0])]⟩ krf (sL tfm krf ?_))))
      exact kq_n (x7.Price,l6_2,wi (l6_3+1),OL.nil,l6_5) ⟨[4,5,6,7,8,9,15,16,17],[4,5,6,7],[],[]⟩ krf
     ·refine sR tfm ⟨[4,5,6,7,8,9,10,12,15,16,17],[4,5,6,7,28],[],[]⟩ ⟨[(4, .ptr 4 0),(5, .ptr 5 0),(6, .ptr 6 0),(7, .ptr 7 0),(8,I l6_1),(9,I l6_2),(10,I l6_3),(12, .ptr 28 0),(15, .p (.sl 7 (mAr a0t.Articles))),(16,I (lenI (mAr a0t.Articles))),(17,I l6_3)],[(4, .box 28 (bxc (GCl.cs a1c))),(5, .box 35 (bxc (GSs.cs a2s))),(6, .box 39 [zS,I 0,I 0,I 0]),(7, .box 39 [zS,I l6_5,I 0,I 0]),(28, .box 118 (bxc (GBB.cs ⟨x7,a1c,a2s⟩)))]⟩ krf (sim_cps (fun j10=>⟨[(4, .ptr 4 0),(5, .ptr 5 0),(6, .ptr 6 0),(7, .ptr 7 0),(8,I l6_1),(9,I l6_2),(10,I l6_3),(13,I j10),(15, .p (.sl 7 (mAr a0t.Articles))),(16,I (lenI (mAr a0t.Articles))),(17,I l6_3)],[(4, .box 28 (bxc (GCl.cs a1c))),(5, .box 35 (bxc (GSs.cs a2s))),(6, .box 39 [zS,I 0,I 0,I 0]),(7, .box 39 [zS,I l6_5,I 0,I 0])]⟩:Int→St) (fun j10=>g_bill_sum_j10 l6_1 l6_2 l6_3 OL.nil l6_5 recl6 j10) ?_ ?_)
      ·rintro j10
       show SimE (g_bill_sum_j10 l6_1 l6_2 l6_3 OL.nil l6_5 recl6 j10) _ _ _ _ _ _
       unfold g_bill_sum_j10
       refine sS (sG (xR 6 krf (xF krf krf (aop_app0 (e:=69) (S:=2) (by_:=16) (enc:=GLine.cs) (d:=38) (l2:=[(⟨l6_3,j10⟩:GLine)]) (xv:=.tsl 2 (mLine [(⟨l6_3,j10⟩:GLine)]) 37) rfl rfl krf krf rfl krf krf krf rfl krf) (xR 2 krf (xE (sN ⟨[4,5,6,7,8,9,13,15,16,17],[4,5,6,7,38],[],[]⟩ ⟨[(4, .ptr 4 0),(5, .ptr 5 0),(6, .ptr 6 0),(7, .ptr 7 0),(8,I l6_1),(9,I l6_2),(13,I j10),(15, .p (.sl 7 (mAr a0t.Articles))),(16,I (lenI (mAr a0t.Articles))),(17,I l6_3)],[(4, .box 28 (bxc (GCl.cs a1c))),(5, .box 35 (bxc (GSs.cs a2s))),(6, .box 39 [zS,I 0,I 0,I 0]),(7, .box 39 [.tsl 2 (mLine (OL.nil.toL++[(⟨l6_3,j10⟩:GLine)])) 38,I l6_5,I 0,I 0]),(38, .arr 69 2 (mLine (OL.nil.toL++[(⟨l6_3,j10⟩:GLine)])).length)]⟩ krf (sL tfm krf ?_)))))))
       refine bq_n (bq_n (sN ⟨[4,5,6,7,8,9,15,16,17],[4,5,6,7,38],[],[]⟩ ⟨[(4, .ptr 4 0),(5, .ptr 5 0),(6, .ptr 6 0),(7, .ptr 7 0),(8,I l6_1),(9,I l6_2),(15, .p (.sl 7 (mAr a0t.Articles))),(16,I (lenI (mAr a0t.Articles))),(17,I l6_3)],[(4, .box 28 (bxc (GCl.cs a1c))),(5, .box 35 (bxc (GSs.cs a2s))),(6, .box 39 [zS,I 0,I 0,I 0]),(7, .box 39 [.tsl 2 (mLine (OL.nil.toL++[(⟨l6_3,j10⟩:GLine)])) 38,I (wi (l6_5+j10)),I 0,I 0]),(38, .arr 69 2 (mLine (OL.nil.toL++[(⟨l6_3,j10⟩:GLine)])).length)]⟩ krf (sL tfm krf ?_)))
       exact kq_n (l6_1,l6_2,wi (l6_3+1),OL.own (OL.nil.toL++[(⟨l6_3,j10⟩:GLine)]),wi (l6_5+j10)) ⟨[4,5,6,7,8,9,15,16,17],[4,5,6,7,38],[],[]⟩ krf
      ·refine sG (xR 1 krf (xs_inline [(1000, .box 118 (bxc (GBB.cs ⟨x7,a1c,a2s⟩)))] [.ptr 1000 0] [(1000,28)] [] [] krf Tryz.func61 rfl Tryz.ntmps61 rfl krf krf krf (sR tfm ⟨[0],[1000],[],[]⟩ ⟨[(0, .ptr 1000 0)],[(1000, .box 118 (bxc (GBB.cs ⟨x7,a1c,a2s⟩)))]⟩ krf (sS (sR tfm ⟨[0,6,7],[1000],[],[]⟩ ⟨[(0, .ptr 1000 0),(6, .ptr 1000 0),(7,I x7.Kind)],[(1000, .box 118 (bxc (GBB.cs ⟨x7,a1c,a2s⟩)))]⟩ krf (sB (sR tfm ⟨[0,6,7,8],[1000],[],[]⟩ ⟨[(0, .ptr 1000 0),(6, .ptr 1000 0),(7,I x7.Kind),(8,B (eqI x7.Kind 1))],[(1000, .box 118 (bxc (GBB.cs ⟨x7,a1c,a2s⟩)))]⟩ krf ?_)))))))
       refine sC (eqI x7.Kind 1) krf ?_ ?_
       ·refine sR tfm ⟨[2],[1000],[],[]⟩ ⟨[(2, .fn (.func 82) [.ptr 1000 0] [])],[(1000, .box 118 (bxc (GBB.cs ⟨x7,a1c,a2s⟩)))]⟩ krf (sT (bq_r (sq_r (iq_ret (.id) [1000] [] (.fn (.func 82) [.ptr 1000 0] []) krf krf (kr0 (xs_inline [(1000, .box 118 (bxc (GBB.cs ⟨x7,a1c,a2s⟩)))] [.ptr 1000 0] [(1000,28)] [] [] krf Tryz.func82 rfl Tryz.ntmps82 rfl krf krf krf (sR tfm ⟨[0],[1000],[],[]⟩ ⟨[(0, .ptr 1000 0)],[(1000, .box 118 (bxc (GBB.cs ⟨x7,a1c,a2s⟩)))]⟩ krf ?_)))))))
        refine sS (sS (sG (xR 6 krf ?_)))
        refine xs_ro [.ro [], .cv (.id)] krf (g_bb_applies_ok n (⟨x7,a1c,a2s⟩:GBB) a2s.From) krf krf (fun _=>by kernel_rfl) (fun r11=>?_)
        refine xE (sN ⟨[0,6,7,9],[1000],[],[]⟩ ⟨[(0, .ptr 1000 0),(6, .ptr 1000 10),(7, .ptr 1000 10),(9,B r11)],[(1000, .box 118 (bxc (GBB.cs ⟨x7,a1c,a2s⟩)))]⟩ krf (sC r11 krf ?_ ?_))
        ·refine sR tfm ⟨[2],[1000],[],[]⟩ ⟨[(2,I x7.Price)],[(1000, .box 118 (bxc (GBB.cs ⟨x7,a1c,a2s⟩)))]⟩ krf (sT (sq_r (iq_ret (.id) [1000] [] (I x7.Price) krf krf (kr0 (xR 1 krf (xE ?_))))))
         exact kq_n (k:=fun j10=>g_bill_sum_j10 l6_1 l6_2 l6_3 OL.nil l6_5 recl6 j10) x7.Price ⟨[4,5,6,7,8,9,10,13,15,16,17],[4,5,6,7],[],[]⟩ krf
        ·refine sK (sN ⟨[6,7],[1000],[],[]⟩ ⟨[(6, .ptr 1000 10),(7, .ptr 1000 10)],[(1000, .box 118 (bxc (GBB.cs ⟨x7,a1c,a2s⟩)))]⟩ krf (sR tfm ⟨[2],[1000],[],[]⟩ ⟨[(2,I 0)],[(1000, .box 118 (bxc (GBB.cs ⟨x7,a1c,a2s⟩)))]⟩ krf (sT (iq_ret (.id) [1000] [] (I 0) krf krf (kr0 (xR 1 krf (xE ?_)))))))
         exact kq_n (k:=fun j10=>g_bill_sum_j10 l6_1 l6_2 l6_3 OL.nil l6_5 recl6 j10) 0 ⟨[4,5,6,7,8,9,10,13,15,16,17],[4,5,6,7],[],[]⟩ krf
       ·refine sR tfm ⟨[0,6,7,12],[1000],[],[]⟩ ⟨[(0, .ptr 1000 0),(6, .ptr 1000 0),(7,I x7.Kind),(12,B (eqI x7.Kind 2))],[(1000, .box 118 (bxc (GBB.cs ⟨x7,a1c,a2s⟩)))]⟩ krf (sC (eqI x7.Kind 2) krf ?_ ?_)
        ·refine sR tfm ⟨[2],[1000],[],[]⟩ ⟨[(2, .fn (.func 83) [.ptr 1000 0] [])],[(1000, .box 118 (bxc (GBB.cs ⟨x7,a1c,a2s⟩)))]⟩ krf (sT (bq_r (sq_r (iq_ret (.id) [1000] [] (.fn (.func 83) [.ptr 1000 0] []) krf krf (kr0 (xs_inline [(1000, .box 118 (bxc (GBB.cs ⟨x7,a1c,a2s⟩)))] [.ptr 1000 0] [(1000,28)] [] [] krf Tryz.func83 rfl Tryz.ntmps83 rfl krf krf krf (sR tfm ⟨[0],[1000],[],[]⟩ ⟨[(0, .ptr 1000 0)],[(1000, .box 118 (bxc (GBB.cs ⟨x7,a1c,a2s⟩)))]⟩ krf ?_)))))))
         refine sR tfm ⟨[0,3],[1000],[],[]⟩ ⟨[(0, .ptr 1000 0),(3,I 0)],[(1000, .box 118 (bxc (GBB.cs ⟨x7,a1c,a2s⟩)))]⟩ krf (sim_bind (fun j12=>⟨[(0, .ptr 1000 0),(3,I j12),(6, .ptr 1000 0),(7, .ptr 1000 0)],[(1000, .box 118 (bxc (GBB.cs ⟨x7,a1c,a2s⟩)))]⟩:Int→St) ?_ ?_)
         ·refine sR tfm ⟨[0,3,6,7,10,11,12],[1000],[],[]⟩ ⟨[(0, .ptr 1000 0),(3,I 0),(6, .ptr 1000 0),(7, .ptr 1000 0),(10, .p (.sl 2 (mSl a2s.Slices))),(11,I (lenI (mSl a2s.Slices))),(12,I 0)],[(1000, .box 118 (bxc (GBB.cs ⟨x7,a1c,a2s⟩)))]⟩ krf (sB (sim_loop (fun (l13_1,l13_2)=>⟨[(0, .ptr 1000 0),(3,I l13_1),(6, .ptr 1000 0),(7, .ptr 1000 0),(10, .p (.sl 2 (mSl a2s.Slices))),(11,I (lenI (mSl a2s.Slices))),(12,I l13_2)],[(1000, .box 118 (bxc (GBB.cs ⟨x7,a1c,a2s⟩)))]⟩:(Int × Int)→St) (weak_shr (K:=⟨[0,3,6,7,10,11,12],[1000],[],[]⟩) krf) ?_))
          rintro recl13 ⟨l13_1,l13_2⟩
          show SimE (g_bill_sum_l13 n a1c a2s x7 recl13 l13_1 l13_2) _ _ _ _ _ _
          unfold g_bill_sum_l13
          refine sR tfm ⟨[0,3,6,7,10,11,12,13],[1000],[],[]⟩ ⟨[(0, .ptr 1000 0),(3,I l13_1),(6, .ptr 1000 0),(7, .ptr 1000 0),(10, .p (.sl 2 (mSl a2s.Slices))),(11,I (lenI (mSl a2s.Slices))),(12,I l13_2),(13,B (ltI l13_2 (lenI (mSl a2s.Slices))))],[(1000, .box 118 (bxc (GBB.cs ⟨x7,a1c,a2s⟩)))]⟩ krf (sS (sC (ltI l13_2 (lenI (mSl a2s.Slices))) krf ?_ ?_))
          ·refine sK (sN ⟨[0,3,6,7,10,11,12],[1000],[],[]⟩ ⟨[(0, .ptr 1000 0),(3,I l13_1),(6, .ptr 1000 0),(7, .ptr 1000 0),(10, .p (.sl 2 (mSl a2s.Slices))),(11,I (lenI (mSl a2s.Slices))),(12,I l13_2)],[(1000, .box 118 (bxc (GBB.cs ⟨x7,a1c,a2s⟩)))]⟩ krf (sS (sB (sS (sG ?_)))))
           refine xG krf krf (aop_idx (e:=62) (S:=2) (enc:=GSl.cs) (l:=a2s.Slices) (k:=.i64) (n:=l13_2) (sv:=.p (.sl 2 (mSl a2s.Slices))) rfl krf krf krf krf krf) (fun x14=>?_)
           refine xR 3 krf (xE (sN ⟨[0,3,5,6,7,10,11,12],[5,1000],[],[]⟩ ⟨[(0, .ptr 1000 0),(3,I l13_1),(5, .ptr 5 0),(6, .ptr 1000 0),(7, .ptr 1000 0),(10, .p (.sl 2 (mSl a2s.Slices))),(11,I (lenI (mSl a2s.Slices))),(12,I l13_2)],[(5, .box 62 (bxc (GSl.cs x14))),(1000, .box 118 (bxc (GBB.cs ⟨x7,a1c,a2s⟩)))]⟩ krf (sS (sG (xR 3 krf ?_)))))
           refine xs_ro [.ro [], .cv (.id)] krf (g_bb_applies_ok n (⟨x7,a1c,a2s⟩:GBB) x14.Minute) krf krf (fun _=>by kernel_rfl) (fun r15=>?_)
           refine xE (sN ⟨[0,3,5,6,7,10,11,12,19],[5,1000],[],[]⟩ ⟨[(0, .ptr 1000 0),(3,I l13_1),(5, .ptr 5 0),(6, .ptr 1000 0),(7, .ptr 1000 0),(10, .p (.sl 2 (mSl a2s.Slices))),(11,I (lenI (mSl a2s.Slices))),(12,I l13_2),(19,B r15)],[(5, .box 62 (bxc (GSl.cs x14))),(1000, .box 118 (bxc (GBB.cs ⟨x7,a1c,a2s⟩)))]⟩ krf (sC r15 krf ?_ ?_))
           ·refine sL tfm krf (bq_n (sN ⟨[0,3,6,7,10,11,12],[1000],[],[]⟩ ⟨[(0, .ptr 1000 0),(3,I (wi (l13_1+x14.Energy))),(6, .ptr 1000 0),(7, .ptr 1000 0),(10, .p (.sl 2 (mSl a2s.Slices))),(11,I (lenI (mSl a2s.Slices))),(12,I l13_2)],[(1000, .box 118 (bxc (GBB.cs ⟨x7,a1c,a2s⟩)))]⟩ krf (sL tfm krf ?_)))
            exact kq_n (wi (l13_1+x14.Energy),wi (l13_2+1)) ⟨[0,3,6,7,10,11,12],[1000],[],[]⟩ krf
           ·refine sK (bq_n (sN ⟨[0,3,6,7,10,11,12],[1000],[],[]⟩ ⟨[(0, .ptr 1000 0),(3,I l13_1),(6, .ptr 1000 0),(7, .ptr 1000 0),(10, .p (.sl 2 (mSl a2s.Slices))),(11,I (lenI (mSl a2s.Slices))),(12,I l13_2)],[(1000, .box 118 (bxc (GBB.cs ⟨x7,a1c,a2s⟩)))]⟩ krf (sL tfm krf ?_)))
            exact kq_n (l13_1,wi (l13_2+1)) ⟨[0,3,6,7,10,11,12],[1000],[],[]⟩ krf
          ·refine sim_exit (sq_x (kq_x (bq_hit ?_)))
           exact nq_n l13_1 ⟨[0,3,6,7],[1000],[],[]⟩ krf
         ·rintro j12
          refine sS (sG (xR 6 krf ?_))
          refine xC [] krf (g_money_Times_ok n x7.Price j12 1000) krf krf (fun _=>by kernel_rfl) (fun r16=>?_)
          refine xR 2 krf ?_
          refine xs_exc [] krf (g_bill_must_ok n r16.1 r16.2) krf krf (fun _=>by kernel_rfl) (fun _=>by kernel_rfl) (fun r17=>?_) (fun e18=>?_)
          ·refine xR 1 krf (xE (sN ⟨[2],[1000],[],[]⟩ ⟨[(2,I r17)],[(1000, .box 118 (bxc (GBB.cs ⟨x7,a1c,a2s⟩)))]⟩ krf (sT (iq_ret (.id) [1000] [] (I r17) krf krf (kr0 (xR 1 krf (xE ?_)))))))
           exact kq_n (k:=fun j10=>g_bill_sum_j10 l6_1 l6_2 l6_3 OL.nil l6_5 recl6 j10) r17 ⟨[4,5,6,7,8,9,10,13,15,16,17],[4,5,6,7],[],[]⟩ krf
          ·refine sq_p (iq_p [1000] [] krf (kq_p (bq_p (bq_p (sq_p (kq_p (bq_p ?_)))))))
           refine kq_p ?_
           exact rq_p krf krf
        ·refine sR tfm ⟨[0,6,7,16],[1000],[],[]⟩ ⟨[(0, .ptr 1000 0),(6, .ptr 1000 0),(7,I x7.Kind),(16,B (eqI x7.Kind 3))],[(1000, .box 118 (bxc (GBB.cs ⟨x7,a1c,a2s⟩)))]⟩ krf (sC (eqI x7.Kind 3) krf ?_ ?_)
         ·refine sR tfm ⟨[2],[1000],[],[]⟩ ⟨[(2, .fn (.func 84) [.ptr 1000 0] [])],[(1000, .box 118 (bxc (GBB.cs ⟨x7,a1c,a2s⟩)))]⟩ krf (sT (bq_r (sq_r (iq_ret (.id) [1000] [] (.fn (.func 84) [.ptr 1000 0] []) krf krf (kr0 (xs_inline [(1000, .box 118 (bxc (GBB.cs ⟨x7,a1c,a2s⟩)))] [.ptr 1000 0] [(1000,28)] [] [] krf Tryz.func84 rfl Tryz.ntmps84 rfl krf krf krf (sR tfm ⟨[0],[1000],[],[]⟩ ⟨[(0, .ptr 1000 0)],[(1000, .box 118 (bxc (GBB.cs ⟨x7,a1c,a2s⟩)))]⟩ krf ?_)))))))
          refine sS (sim_drw tfm rfl (xR 11 krf (xs_seqL rfl krf krf ?_)))
          refine xs_roE [.ro [], .cv (.id), .cv (.id)] krf (g_bb_stretch_ok n (⟨x7,a1c,a2s⟩:GBB) a2s.From a2s.To) krf krf (fun _=>by kernel_rfl) (fun _=>by kernel_rfl) (fun r19=>?_) (fun e20=>?_)
          ·refine xR 1 krf (xE (sN ⟨[2],[1000],[],[]⟩ ⟨[(2,I r19)],[(1000, .box 118 (bxc (GBB.cs ⟨x7,a1c,a2s⟩)))]⟩ krf (sT (iq_ret (.id) [1000] [] (I r19) krf krf (kr0 (xR 1 krf (xE ?_)))))))
           exact kq_n (k:=fun j10=>g_bill_sum_j10 l6_1 l6_2 l6_3 OL.nil l6_5 recl6 j10) r19 ⟨[4,5,6,7,8,9,10,13,15,16,17],[4,5,6,7],[],[]⟩ krf
          ·refine sq_p (iq_p [1000] [] krf (kq_p (bq_p (bq_p (sq_p (kq_p (bq_p ?_)))))))
           refine kq_p ?_
           exact rq_p krf krf
         ·refine sR tfm ⟨[0,6,7,20],[1000],[],[]⟩ ⟨[(0, .ptr 1000 0),(6, .ptr 1000 0),(7,I x7.Kind),(20,B (eqI x7.Kind 4))],[(1000, .box 118 (bxc (GBB.cs ⟨x7,a1c,a2s⟩)))]⟩ krf (sC (eqI x7.Kind 4) krf ?_ ?_)
          ·refine sR tfm ⟨[2],[1000],[],[]⟩ ⟨[(2, .fn (.func 85) [.ptr 1000 0] [])],[(1000, .box 118 (bxc (GBB.cs ⟨x7,a1c,a2s⟩)))]⟩ krf (sT (bq_r (sq_r (iq_ret (.id) [1000] [] (.fn (.func 85) [.ptr 1000 0] []) krf krf (kr0 (xs_inline [(1000, .box 118 (bxc (GBB.cs ⟨x7,a1c,a2s⟩)))] [.ptr 1000 0] [(1000,28)] [] [] krf Tryz.func85 rfl Tryz.ntmps85 rfl krf krf krf (sR tfm ⟨[0],[1000],[],[]⟩ ⟨[(0, .ptr 1000 0)],[(1000, .box 118 (bxc (GBB.cs ⟨x7,a1c,a2s⟩)))]⟩ krf ?_)))))))
           refine sS (sim_drw tfm rfl (xR 11 krf (xs_seqL rfl krf krf ?_)))
           refine xs_roE [.ro [], .cv (.id), .cv (.id)] krf (g_bb_stretch_ok n (⟨x7,a1c,a2s⟩:GBB) a2s.End a2s.To) krf krf (fun _=>by kernel_rfl) (fun _=>by kernel_rfl) (fun r21=>?_) (fun e22=>?_)
           ·refine xR 1 krf (xE (sN ⟨[2],[1000],[],[]⟩ ⟨[(2,I r21)],[(1000, .box 118 (bxc (GBB.cs ⟨x7,a1c,a2s⟩)))]⟩ krf (sT (iq_ret (.id) [1000] [] (I r21) krf krf (kr0 (xR 1 krf (xE ?_)))))))
            exact kq_n (k:=fun j10=>g_bill_sum_j10 l6_1 l6_2 l6_3 OL.nil l6_5 recl6 j10) r21 ⟨[4,5,6,7,8,9,10,13,15,16,17],[4,5,6,7],[],[]⟩ krf
           ·refine sq_p (iq_p [1000] [] krf (kq_p (bq_p (bq_p (sq_p (kq_p (bq_p ?_)))))))
            refine kq_p ?_
            exact rq_p krf krf
          ·refine sK (bq_n (sN ⟨[0,6,7],[1000],[],[]⟩ ⟨[(0, .ptr 1000 0),(6, .ptr 1000 0),(7,I x7.Kind)],[(1000, .box 118 (bxc (GBB.cs ⟨x7,a1c,a2s⟩)))]⟩ krf (sR tfm ⟨[2],[1000],[],[]⟩ ⟨[(2, .fn (.func 86) [.ptr 1000 0] [])],[(1000, .box 118 (bxc (GBB.cs ⟨x7,a1c,a2s⟩)))]⟩ krf (sT (iq_ret (.id) [1000] [] (.fn (.func 86) [.ptr 1000 0] []) krf krf (kr0 (xs_inline [(1000, .box 118 (bxc (GBB.cs ⟨x7,a1c,a2s⟩)))] [.ptr 1000 0] [(1000,28)] [] [] krf Tryz.func86 rfl Tryz.ntmps86 rfl krf krf krf ?_)))))))
           refine sR tfm ⟨[],[1000],[],[]⟩ ⟨[],[(1000, .box 118 (bxc (GBB.cs ⟨x7,a1c,a2s⟩)))]⟩ krf (sR tfm ⟨[2],[1000],[],[]⟩ ⟨[(2,I 0)],[(1000, .box 118 (bxc (GBB.cs ⟨x7,a1c,a2s⟩)))]⟩ krf (sT (iq_ret (.id) [1000] [] (I 0) krf krf (kr0 (xR 1 krf (xE ?_))))))
           exact kq_n (k:=fun j10=>g_bill_sum_j10 l6_1 l6_2 l6_3 OL.nil l6_5 recl6 j10) 0 ⟨[4,5,6,7,8,9,10,13,15,16,17],[4,5,6,7],[],[]⟩ krf
   ·refine sim_exit (sq_x (kq_x (bq_hit ?_)))
    exact kq_n (k:=fun (j1_1,j1_2,j1_3,j1_4)=>g_bill_sum_j1 n j1_1 j1_2 j1_3 j1_4) (l6_1,l6_2,OL.nil,l6_5) ⟨[6,7,8,9],[6,7],[],[]⟩ krf
  ·refine sR tfm ⟨[4,5,6,7,8,9,15,16,17,18],[4,5,6,7,38],[],[]⟩ ⟨[(4, .ptr 4 0),(5, .ptr 5 0),(6, .ptr 6 0),(7, .ptr 7 0),(8,I l6_1),(9,I l6_2),(15, .p (.sl 7 (mAr a0t.Articles))),(16,I (lenI (mAr a0t.Articles))),(17,I l6_3),(18,B (ltI l6_3 (lenI (mAr a0t.Articles))))],[(4, .box 28 (bxc (GCl.cs a1c))),(5, .box 35 (bxc (GSs.cs a2s))),(6, .box 39 [zS,I 0,I 0,I 0]),(7, .box 39 [.tsl 2 (mLine (OL.own ow_l6_4).toL) 38,I l6_5,I 0,I 0]),(38, .arr 69 2 (mLine (OL.own ow_l6_4).toL).length)]⟩ krf (sS (sC (ltI l6_3 (lenI (mAr a0t.Articles))) krf ?_ ?_))
   ·refine sK (sN ⟨[4,5,6,7,8,9,15,16,17],[4,5,6,7,38],[],[]⟩ ⟨[(4, .ptr 4 0),(5, .ptr 5 0),(6, .ptr 6 0),(7, .ptr 7 0),(8,I l6_1),(9,I l6_2),(15, .p (.sl 7 (mAr a0t.Articles))),(16,I (lenI (mAr a0t.Articles))),(17,I l6_3)],[(4, .box 28 (bxc (GCl.cs a1c))),(5, .box 35 (bxc (GSs.cs a2s))),(6, .box 39 [zS,I 0,I 0,I 0]),(7, .box 39 [.tsl 2 (mLine (OL.own ow_l6_4).toL) 38,I l6_5,I 0,I 0]),(38, .arr 69 2 (mLine (OL.own ow_l6_4).toL).length)]⟩ krf (sS (sB (sS (sG (xR 1 krf ?_))))))
    refine xG krf krf (aop_idx (e:=73) (S:=7) (enc:=GAr.cs) (l:=a0t.Articles) (k:=.i64) (n:=l6_3) (sv:=.p (.sl 7 (mAr a0t.Articles))) rfl krf krf krf krf krf) (fun x7=>?_)
    refine xR 4 krf (xE (sN ⟨[4,5,6,7,8,9,10,11,15,16,17],[4,5,6,7,11,38],[],[]⟩ ⟨[(4, .ptr 4 0),(5, .ptr 5 0),(6, .ptr 6 0),(7, .ptr 7 0),(8,I l6_1),(9,I l6_2),(10,I l6_3),(11, .ptr 11 0),(15, .p (.sl 7 (mAr a0t.Articles))),(16,I (lenI (mAr a0t.Articles))),(17,I l6_3)],[(4, .box 28 (bxc (GCl.cs a1c))),(5, .box 35 (bxc (GSs.cs a2s))),(6, .box 39 [zS,I 0,I 0,I 0]),(7, .box 39 [.tsl 2 (mLine (OL.own ow_l6_4).toL) 38,I l6_5,I 0,I 0]),(11, .box 73 (bxc (GAr.cs x7))),(38, .arr 69 2 (mLine (OL.own ow_l6_4).toL).length)]⟩ krf (sR tfm ⟨[4,5,6,7,8,9,10,11,15,16,17,23],[4,5,6,7,11,38],[],[]⟩ ⟨[(4, .ptr 4 0),(5, .ptr 5 0),(6, .ptr 6 0),(7, .ptr 7 0),(8,I l6_1),(9,I l6_2),(10,I l6_3),(11, .ptr 11 0),(15, .p (.sl 7 (mAr a0t.Articles))),(16,I (lenI (mAr a0t.Articles))),(17,I l6_3),(23,I x7.Kind)],[(4, .box 28 (bxc (GCl.cs a1c))),(5, .box 35 (bxc (GSs.cs a2s))),(6, .box 39 [zS,I 0,I 0,I 0]),(7, .box 39 [.tsl 2 (mLine (OL.own ow_l6_4).toL) 38,I l6_5,I 0,I 0]),(11, .box 73 (bxc (GAr.cs x7))),(38, .arr 69 2 (mLine (OL.own ow_l6_4).toL).length)]⟩ krf (sB (sR tfm ⟨[4,5,6,7,8,9,10,11,15,16,17,23,45],[4,5,6,7,11,38],[],[]⟩ ⟨[(4, .ptr 4 0),(5, .ptr 5 0),(6, .ptr 6 0),(7, .ptr 7 0),(8,I l6_1),(9,I l6_2),(10,I l6_3),(11, .ptr 11 0),(15, .p (.sl 7 (mAr a0t.Articles))),(16,I (lenI (mAr a0t.Articles))),(17,I l6_3),(23,I x7.Kind),(45,B (eqI x7.Kind 5))],[(4, .box 28 (bxc (GCl.cs a1c))),(5, .box 35 (bxc (GSs.cs a2s))),(6, .box 39 [zS,I 0,I 0,I 0]),(7, .box 39 [.tsl 2 (mLine (OL.own ow_l6_4).toL) 38,I l6_5,I 0,I 0]),(11, .box 73 (bxc (GAr.cs x7))),(38, .arr 69 2 (mLine (OL.own ow_l6_4).toL).length)]⟩ krf (sC (eqI x7.Kind 5) krf ?_ ?_))))))
    ·refine sim_bind (fun j8=>⟨[(4, .ptr 4 0),(5, .ptr 5 0),(6, .ptr 6 0),(7, .ptr 7 0),(8,I l6_1),(9,I l6_2),(11, .ptr 11 0),(15, .p (.sl 7 (mAr a0t.Articles))),(16,I (lenI (mAr a0t.Articles))),(17,I l6_3),(54,B j8)],[(4, .box 28 (bxc (GCl.cs a1c))),(5, .box 35 (bxc (GSs.cs a2s))),(6, .box 39 [zS,I 0,I 0,I 0]),(7, .box 39 [.tsl 2 (mLine (OL.own ow_l6_4).toL) 38,I l6_5,I 0,I 0]),(11, .box 73 (bxc (GAr.cs x7))),(38, .arr 69 2 (mLine (OL.own ow_l6_4).toL).length)]⟩:Bool→St) ?_ ?_
     ·refine sG (xR 3 krf ?_)
      refine xS (ltI l6_2 0) (fun h9=>?_) (fun h9=>?_)
      ·refine xN (want_ft krf h9) krf (xR 4 krf (xE ?_))
       exact nq_n true ⟨[4,5,6,7,8,9,11,15,16,17,54],[4,5,6,7,11,38],[],[]⟩ krf
      ·refine xO (want_ff krf h9) krf (xR 4 krf (xE ?_))
       exact nq_n (ltI x7.Price l6_2) ⟨[4,5,6,7,8,9,11,15,16,17,54],[4,5,6,7,11,38],[],[]⟩ krf
     ·rintro j8
      refine sC j8 krf ?_ ?_
      ·refine sL tfm krf (bq_n (bq_n (sN ⟨[4,5,6,7,8,9,15,16,17],[4,5,6,7,38],[],[]⟩ ⟨[(4, .ptr 4 0),(5, .ptr 5 0),(6, .ptr 6 0),(7, .ptr 7 0),(8,I l6_1),(9,I x7.Price),(15, .p (.sl 7 (mAr a0t.Articles))),(16,I (lenI (mAr a0t.Articles))),(17,I l6_3)],[(4, .box 28 (bxc (GCl.cs a1c))),(5, .box 35 (bxc (GSs.cs a2s))),(6, .box 39 [zS,I 0,I 0,I 0]),(7, .box 39 [.tsl 2 (mLine (OL.own ow_l6_4).toL) 38,I l6_5,I 0,I 0]),(38, .arr 69 2 (mLine (OL.own ow_l6_4).toL).length)]⟩ krf (sL tfm krf ?_))))
       exact kq_n (l6_1,x7.Price,wi (l6_3+1),(OL.own ow_l6_4),l6_5) ⟨[4,5,6,7,8,9,15,16,17],[4,5,6,7,38],[],[]⟩ krf
      ·refine sK (bq_n (bq_n (sN ⟨[4,5,6,7,8,9,15,16,17],[4,5,6,7,38],[],[]⟩ ⟨[(4, .ptr 4 0),(5, .ptr 5 0),(6, .ptr 6 0),(7, .ptr 7 0),(8,I l6_1),(9,I l6_2),(15, .p (.sl 7 (mAr a0t.Articles))),(16,I (lenI (mAr a0t.Articles))),(17,I l6_3)],[(4, .box 28 (bxc (GCl.cs a1c))),(5, .box 35 (bxc (GSs.cs a2s))),(6, .box 39 [zS,I 0,I 0,I 0]),(7, .box 39 [.tsl 2 (mLine (OL.own ow_l6_4).toL) 38,I l6_5,I 0,I 0]),(38, .arr 69 2 (mLine (OL.own ow_l6_4).toL).length)]⟩ krf (sL tfm krf ?_))))
       exact kq_n (l6_1,l6_2,wi (l6_3+1),(OL.own ow_l6_4),l6_5) ⟨[4,5,6,7,8,9,15,16,17],[4,5,6,7,38],[],[]⟩ krf
    ·refine sR tfm ⟨[4,5,6,7,8,9,10,11,15,16,17,57],[4,5,6,7,11,38],[],[]⟩ ⟨[(4, .ptr 4 0),(5, .ptr 5 0),(6, .ptr 6 0),(7, .ptr 7 0),(8,I l6_1),(9,I l6_2),(10,I l6_3),(11, .ptr 11 0),(15, .p (.sl 7 (mAr a0t.Articles))),(16,I (lenI (mAr a0t.Articles))),(17,I l6_3),(57,B (eqI x7.Kind 6))],[(4, .box 28 (bxc (GCl.cs a1c))),(5, .box 35 (bxc (GSs.cs a2s))),(6, .box 39 [zS,I 0,I 0,I 0]),(7, .box 39 [.tsl 2 (mLine (OL.own ow_l6_4).toL) 38,I l6_5,I 0,I 0]),(11, .box 73 (bxc (GAr.cs x7))),(38, .arr 69 2 (mLine (OL.own ow_l6_4).toL).length)]⟩ krf (sC (eqI x7.Kind 6) krf ?_ ?_)
     ·refine sL tfm krf (bq_n (bq_n (sN ⟨[4,5,6,7,8,9,15,16,17],[4,5,6,7,38],[],[]⟩ ⟨[(4, .ptr 4 0),(5, .ptr 5 0),(6, .ptr 6 0),(7, .ptr 7 0),(8,I x7.Price),(9,I l6_2),(15, .p (.sl 7 (mAr a0t.Articles))),(16,I (lenI (mAr a0t.Articles))),(17,I l6_3)],[(4, .box 28 (bxc (GCl.cs a1c))),(5, .box 35 (bxc (GSs.cs a2s))),(6, .box 39 [zS,I 0,I 0,I 0]),(7, .box 39 [.tsl 2 (mLine (OL.own ow_l6_4).toL) 38,I l6_5,I 0,I 0]),(38, .arr 69 2 (mLine (OL.own ow_l6_4).toL).length)]⟩ krf (sL tfm krf ?_))))
      exact kq_n (x7.Price,l6_2,wi (l6_3+1),(OL.own ow_l6_4),l6_5) ⟨[4,5,6,7,8,9,15,16,17],[4,5,6,7,38],[],[]⟩ krf
     ·refine sR tfm ⟨[4,5,6,7,8,9,10,12,15,16,17],[4,5,6,7,28,38],[],[]⟩ ⟨[(4, .ptr 4 0),(5, .ptr 5 0),(6, .ptr 6 0),(7, .ptr 7 0),(8,I l6_1),(9,I l6_2),(10,I l6_3),(12, .ptr 28 0),(15, .p (.sl 7 (mAr a0t.Articles))),(16,I (lenI (mAr a0t.Articles))),(17,I l6_3)],[(4, .box 28 (bxc (GCl.cs a1c))),(5, .box 35 (bxc (GSs.cs a2s))),(6, .box 39 [zS,I 0,I 0,I 0]),(7, .box 39 [.tsl 2 (mLine (OL.own ow_l6_4).toL) 38,I l6_5,I 0,I 0]),(28, .box 118 (bxc (GBB.cs ⟨x7,a1c,a2s⟩))),(38, .arr 69 2 (mLine (OL.own ow_l6_4).toL).length)]⟩ krf (sim_cps (fun j10=>⟨[(4, .ptr 4 0),(5, .ptr 5 0),(6, .ptr 6 0),(7, .ptr 7 0),(8,I l6_1),(9,I l6_2),(10,I l6_3),(13,I j10),(15, .p (.sl 7 (mAr a0t.Articles))),(16,I (lenI (mAr a0t.Articles))),(17,I l6_3)],[(4, .box 28 (bxc (GCl.cs a1c))),(5, .box 35 (bxc (GSs.cs a2s))),(6, .box 39 [zS,I 0,I 0,I 0]),(7, .box 39 [.tsl 2 (mLine (OL.own ow_l6_4).toL) 38,I l6_5,I 0,I 0]),(38, .arr 69 2 (mLine (OL.own ow_l6_4).toL).length)]⟩:Int→St) (fun j10=>g_bill_sum_j10 l6_1 l6_2 l6_3 (OL.own ow_l6_4) l6_5 recl6 j10) ?_ ?_)
      ·rintro j10
       show SimE (g_bill_sum_j10 l6_1 l6_2 l6_3 (OL.own ow_l6_4) l6_5 recl6 j10) _ _ _ _ _ _
       unfold g_bill_sum_j10
       refine sS (sG (xR 6 krf (xF krf krf (aop_app (e:=69) (S:=2) (by_:=16) (enc:=GLine.cs) (tk:=38) (l:=(OL.own ow_l6_4).toL) (l2:=[(⟨l6_3,j10⟩:GLine)]) (xv:=.tsl 2 (mLine [(⟨l6_3,j10⟩:GLine)]) 37) rfl krf krf rfl krf krf krf rfl krf) (xR 2 krf (xE (sN ⟨[4,5,6,7,8,9,13,15,16,17],[4,5,6,7,38],[],[]⟩ ⟨[(4, .ptr 4 0),(5, .ptr 5 0),(6, .ptr 6 0),(7, .ptr 7 0),(8,I l6_1),(9,I l6_2),(13,I j10),(15, .p (.sl 7 (mAr a0t.Articles))),(16,I (lenI (mAr a0t.Articles))),(17,I l6_3)],[(4, .box 28 (bxc (GCl.cs a1c))),(5, .box 35 (bxc (GSs.cs a2s))),(6, .box 39 [zS,I 0,I 0,I 0]),(7, .box 39 [.tsl 2 (mLine ((OL.own ow_l6_4).toL++[(⟨l6_3,j10⟩:GLine)])) 38,I l6_5,I 0,I 0]),(38, .arr 69 2 (mLine ((OL.own ow_l6_4).toL++[(⟨l6_3,j10⟩:GLine)])).length)]⟩ krf (sL tfm krf ?_)))))))
       refine bq_n (bq_n (sN ⟨[4,5,6,7,8,9,15,16,17],[4,5,6,7,38],[],[]⟩ ⟨[(4, .ptr 4 0),(5, .ptr 5 0),(6, .ptr 6 0),(7, .ptr 7 0),(8,I l6_1),(9,I l6_2),(15, .p (.sl 7 (mAr a0t.Articles))),(16,I (lenI (mAr a0t.Articles))),(17,I l6_3)],[(4, .box 28 (bxc (GCl.cs a1c))),(5, .box 35 (bxc (GSs.cs a2s))),(6, .box 39 [zS,I 0,I 0,I 0]),(7, .box 39 [.tsl 2 (mLine ((OL.own ow_l6_4).toL++[(⟨l6_3,j10⟩:GLine)])) 38,I (wi (l6_5+j10)),I 0,I 0]),(38, .arr 69 2 (mLine ((OL.own ow_l6_4).toL++[(⟨l6_3,j10⟩:GLine)])).length)]⟩ krf (sL tfm krf ?_)))
       exact kq_n (l6_1,l6_2,wi (l6_3+1),OL.own ((OL.own ow_l6_4).toL++[(⟨l6_3,j10⟩:GLine)]),wi (l6_5+j10)) ⟨[4,5,6,7,8,9,15,16,17],[4,5,6,7,38],[],[]⟩ krf
      ·refine sG (xR 1 krf (xs_inline [(1000, .box 118 (bxc (GBB.cs ⟨x7,a1c,a2s⟩)))] [.ptr 1000 0] [(1000,28)] [] [] krf Tryz.func61 rfl Tryz.ntmps61 rfl krf krf krf (sR tfm ⟨[0],[1000],[],[]⟩ ⟨[(0, .ptr 1000 0)],[(1000, .box 118 (bxc (GBB.cs ⟨x7,a1c,a2s⟩)))]⟩ krf (sS (sR tfm ⟨[0,6,7],[1000],[],[]⟩ ⟨[(0, .ptr 1000 0),(6, .ptr 1000 0),(7,I x7.Kind)],[(1000, .box 118 (bxc (GBB.cs ⟨x7,a1c,a2s⟩)))]⟩ krf (sB (sR tfm ⟨[0,6,7,8],[1000],[],[]⟩ ⟨[(0, .ptr 1000 0),(6, .ptr 1000 0),(7,I x7.Kind),(8,B (eqI x7.Kind 1))],[(1000, .box 118 (bxc (GBB.cs ⟨x7,a1c,a2s⟩)))]⟩ krf ?_)))))))
       refine sC (eqI x7.Kind 1) krf ?_ ?_
       ·refine sR tfm ⟨[2],[1000],[],[]⟩ ⟨[(2, .fn (.func 82) [.ptr 1000 0] [])],[(1000, .box 118 (bxc (GBB.cs ⟨x7,a1c,a2s⟩)))]⟩ krf (sT (bq_r (sq_r (iq_ret (.id) [1000] [] (.fn (.func 82) [.ptr 1000 0] []) krf krf (kr0 (xs_inline [(1000, .box 118 (bxc (GBB.cs ⟨x7,a1c,a2s⟩)))] [.ptr 1000 0] [(1000,28)] [] [] krf Tryz.func82 rfl Tryz.ntmps82 rfl krf krf krf (sR tfm ⟨[0],[1000],[],[]⟩ ⟨[(0, .ptr 1000 0)],[(1000, .box 118 (bxc (GBB.cs ⟨x7,a1c,a2s⟩)))]⟩ krf ?_)))))))
        refine sS (sS (sG (xR 6 krf ?_)))
        refine xs_ro [.ro [], .cv (.id)] krf (g_bb_applies_ok n (⟨x7,a1c,a2s⟩:GBB) a2s.From) krf krf (fun _=>by kernel_rfl) (fun r11=>?_)
        refine xE (sN ⟨[0,6,7,9],[1000],[],[]⟩ ⟨[(0, .ptr 1000 0),(6, .ptr 1000 10),(7, .ptr 1000 10),(9,B r11)],[(1000, .box 118 (bxc (GBB.cs ⟨x7,a1c,a2s⟩)))]⟩ krf (sC r11 krf ?_ ?_))
        ·refine sR tfm ⟨[2],[1000],[],[]⟩ ⟨[(2,I x7.Price)],[(1000, .box 118 (bxc (GBB.cs ⟨x7,a1c,a2s⟩)))]⟩ krf (sT (sq_r (iq_ret (.id) [1000] [] (I x7.Price) krf krf (kr0 (xR 1 krf (xE ?_))))))
         exact kq_n (k:=fun j10=>g_bill_sum_j10 l6_1 l6_2 l6_3 (OL.own ow_l6_4) l6_5 recl6 j10) x7.Price ⟨[4,5,6,7,8,9,10,13,15,16,17],[4,5,6,7,38],[],[]⟩ krf
        ·refine sK (sN ⟨[6,7],[1000],[],[]⟩ ⟨[(6, .ptr 1000 10),(7, .ptr 1000 10)],[(1000, .box 118 (bxc (GBB.cs ⟨x7,a1c,a2s⟩)))]⟩ krf (sR tfm ⟨[2],[1000],[],[]⟩ ⟨[(2,I 0)],[(1000, .box 118 (bxc (GBB.cs ⟨x7,a1c,a2s⟩)))]⟩ krf (sT (iq_ret (.id) [1000] [] (I 0) krf krf (kr0 (xR 1 krf (xE ?_)))))))
         exact kq_n (k:=fun j10=>g_bill_sum_j10 l6_1 l6_2 l6_3 (OL.own ow_l6_4) l6_5 recl6 j10) 0 ⟨[4,5,6,7,8,9,10,13,15,16,17],[4,5,6,7,38],[],[]⟩ krf
       ·refine sR tfm ⟨[0,6,7,12],[1000],[],[]⟩ ⟨[(0, .ptr 1000 0),(6, .ptr 1000 0),(7,I x7.Kind),(12,B (eqI x7.Kind 2))],[(1000, .box 118 (bxc (GBB.cs ⟨x7,a1c,a2s⟩)))]⟩ krf (sC (eqI x7.Kind 2) krf ?_ ?_)
        ·refine sR tfm ⟨[2],[1000],[],[]⟩ ⟨[(2, .fn (.func 83) [.ptr 1000 0] [])],[(1000, .box 118 (bxc (GBB.cs ⟨x7,a1c,a2s⟩)))]⟩ krf (sT (bq_r (sq_r (iq_ret (.id) [1000] [] (.fn (.func 83) [.ptr 1000 0] []) krf krf (kr0 (xs_inline [(1000, .box 118 (bxc (GBB.cs ⟨x7,a1c,a2s⟩)))] [.ptr 1000 0] [(1000,28)] [] [] krf Tryz.func83 rfl Tryz.ntmps83 rfl krf krf krf (sR tfm ⟨[0],[1000],[],[]⟩ ⟨[(0, .ptr 1000 0)],[(1000, .box 118 (bxc (GBB.cs ⟨x7,a1c,a2s⟩)))]⟩ krf ?_)))))))
         refine sR tfm ⟨[0,3],[1000],[],[]⟩ ⟨[(0, .ptr 1000 0),(3,I 0)],[(1000, .box 118 (bxc (GBB.cs ⟨x7,a1c,a2s⟩)))]⟩ krf (sim_bind (fun j12=>⟨[(0, .ptr 1000 0),(3,I j12),(6, .ptr 1000 0),(7, .ptr 1000 0)],[(1000, .box 118 (bxc (GBB.cs ⟨x7,a1c,a2s⟩)))]⟩:Int→St) ?_ ?_)
         ·refine sR tfm ⟨[0,3,6,7,10,11,12],[1000],[],[]⟩ ⟨[(0, .ptr 1000 0),(3,I 0),(6, .ptr 1000 0),(7, .ptr 1000 0),(10, .p (.sl 2 (mSl a2s.Slices))),(11,I (lenI (mSl a2s.Slices))),(12,I 0)],[(1000, .box 118 (bxc (GBB.cs ⟨x7,a1c,a2s⟩)))]⟩ krf (sB (sim_loop (fun (l13_1,l13_2)=>⟨[(0, .ptr 1000 0),(3,I l13_1),(6, .ptr 1000 0),(7, .ptr 1000 0),(10, .p (.sl 2 (mSl a2s.Slices))),(11,I (lenI (mSl a2s.Slices))),(12,I l13_2)],[(1000, .box 118 (bxc (GBB.cs ⟨x7,a1c,a2s⟩)))]⟩:(Int × Int)→St) (weak_shr (K:=⟨[0,3,6,7,10,11,12],[1000],[],[]⟩) krf) ?_))
          rintro recl13 ⟨l13_1,l13_2⟩
          show SimE (g_bill_sum_l13 n a1c a2s x7 recl13 l13_1 l13_2) _ _ _ _ _ _
          unfold g_bill_sum_l13
          refine sR tfm ⟨[0,3,6,7,10,11,12,13],[1000],[],[]⟩ ⟨[(0, .ptr 1000 0),(3,I l13_1),(6, .ptr 1000 0),(7, .ptr 1000 0),(10, .p (.sl 2 (mSl a2s.Slices))),(11,I (lenI (mSl a2s.Slices))),(12,I l13_2),(13,B (ltI l13_2 (lenI (mSl a2s.Slices))))],[(1000, .box 118 (bxc (GBB.cs ⟨x7,a1c,a2s⟩)))]⟩ krf (sS (sC (ltI l13_2 (lenI (mSl a2s.Slices))) krf ?_ ?_))
          ·refine sK (sN ⟨[0,3,6,7,10,11,12],[1000],[],[]⟩ ⟨[(0, .ptr 1000 0),(3,I l13_1),(6, .ptr 1000 0),(7, .ptr 1000 0),(10, .p (.sl 2 (mSl a2s.Slices))),(11,I (lenI (mSl a2s.Slices))),(12,I l13_2)],[(1000, .box 118 (bxc (GBB.cs ⟨x7,a1c,a2s⟩)))]⟩ krf (sS (sB (sS (sG ?_)))))
           refine xG krf krf (aop_idx (e:=62) (S:=2) (enc:=GSl.cs) (l:=a2s.Slices) (k:=.i64) (n:=l13_2) (sv:=.p (.sl 2 (mSl a2s.Slices))) rfl krf krf krf krf krf) (fun x14=>?_)
           refine xR 3 krf (xE (sN ⟨[0,3,5,6,7,10,11,12],[5,1000],[],[]⟩ ⟨[(0, .ptr 1000 0),(3,I l13_1),(5, .ptr 5 0),(6, .ptr 1000 0),(7, .ptr 1000 0),(10, .p (.sl 2 (mSl a2s.Slices))),(11,I (lenI (mSl a2s.Slices))),(12,I l13_2)],[(5, .box 62 (bxc (GSl.cs x14))),(1000, .box 118 (bxc (GBB.cs ⟨x7,a1c,a2s⟩)))]⟩ krf (sS (sG (xR 3 krf ?_)))))
           refine xs_ro [.ro [], .cv (.id)] krf (g_bb_applies_ok n (⟨x7,a1c,a2s⟩:GBB) x14.Minute) krf krf (fun _=>by kernel_rfl) (fun r15=>?_)
           refine xE (sN ⟨[0,3,5,6,7,10,11,12,19],[5,1000],[],[]⟩ ⟨[(0, .ptr 1000 0),(3,I l13_1),(5, .ptr 5 0),(6, .ptr 1000 0),(7, .ptr 1000 0),(10, .p (.sl 2 (mSl a2s.Slices))),(11,I (lenI (mSl a2s.Slices))),(12,I l13_2),(19,B r15)],[(5, .box 62 (bxc (GSl.cs x14))),(1000, .box 118 (bxc (GBB.cs ⟨x7,a1c,a2s⟩)))]⟩ krf (sC r15 krf ?_ ?_))
           ·refine sL tfm krf (bq_n (sN ⟨[0,3,6,7,10,11,12],[1000],[],[]⟩ ⟨[(0, .ptr 1000 0),(3,I (wi (l13_1+x14.Energy))),(6, .ptr 1000 0),(7, .ptr 1000 0),(10, .p (.sl 2 (mSl a2s.Slices))),(11,I (lenI (mSl a2s.Slices))),(12,I l13_2)],[(1000, .box 118 (bxc (GBB.cs ⟨x7,a1c,a2s⟩)))]⟩ krf (sL tfm krf ?_)))
            exact kq_n (wi (l13_1+x14.Energy),wi (l13_2+1)) ⟨[0,3,6,7,10,11,12],[1000],[],[]⟩ krf
           ·refine sK (bq_n (sN ⟨[0,3,6,7,10,11,12],[1000],[],[]⟩ ⟨[(0, .ptr 1000 0),(3,I l13_1),(6, .ptr 1000 0),(7, .ptr 1000 0),(10, .p (.sl 2 (mSl a2s.Slices))),(11,I (lenI (mSl a2s.Slices))),(12,I l13_2)],[(1000, .box 118 (bxc (GBB.cs ⟨x7,a1c,a2s⟩)))]⟩ krf (sL tfm krf ?_)))
            exact kq_n (l13_1,wi (l13_2+1)) ⟨[0,3,6,7,10,11,12],[1000],[],[]⟩ krf
          ·refine sim_exit (sq_x (kq_x (bq_hit ?_)))
           exact nq_n l13_1 ⟨[0,3,6,7],[1000],[],[]⟩ krf
         ·rintro j12
          refine sS (sG (xR 6 krf ?_))
          refine xC [] krf (g_money_Times_ok n x7.Price j12 1000) krf krf (fun _=>by kernel_rfl) (fun r16=>?_)
          refine xR 2 krf ?_
          refine xs_exc [] krf (g_bill_must_ok n r16.1 r16.2) krf krf (fun _=>by kernel_rfl) (fun _=>by kernel_rfl) (fun r17=>?_) (fun e18=>?_)
          ·refine xR 1 krf (xE (sN ⟨[2],[1000],[],[]⟩ ⟨[(2,I r17)],[(1000, .box 118 (bxc (GBB.cs ⟨x7,a1c,a2s⟩)))]⟩ krf (sT (iq_ret (.id) [1000] [] (I r17) krf krf (kr0 (xR 1 krf (xE ?_)))))))
           exact kq_n (k:=fun j10=>g_bill_sum_j10 l6_1 l6_2 l6_3 (OL.own ow_l6_4) l6_5 recl6 j10) r17 ⟨[4,5,6,7,8,9,10,13,15,16,17],[4,5,6,7,38],[],[]⟩ krf
          ·refine sq_p (iq_p [1000] [] krf (kq_p (bq_p (bq_p (sq_p (kq_p (bq_p ?_)))))))
           refine kq_p ?_
           exact rq_p krf krf
        ·refine sR tfm ⟨[0,6,7,16],[1000],[],[]⟩ ⟨[(0, .ptr 1000 0),(6, .ptr 1000 0),(7,I x7.Kind),(16,B (eqI x7.Kind 3))],[(1000, .box 118 (bxc (GBB.cs ⟨x7,a1c,a2s⟩)))]⟩ krf (sC (eqI x7.Kind 3) krf ?_ ?_)
         ·refine sR tfm ⟨[2],[1000],[],[]⟩ ⟨[(2, .fn (.func 84) [.ptr 1000 0] [])],[(1000, .box 118 (bxc (GBB.cs ⟨x7,a1c,a2s⟩)))]⟩ krf (sT (bq_r (sq_r (iq_ret (.id) [1000] [] (.fn (.func 84) [.ptr 1000 0] []) krf krf (kr0 (xs_inline [(1000, .box 118 (bxc (GBB.cs ⟨x7,a1c,a2s⟩)))] [.ptr 1000 0] [(1000,28)] [] [] krf Tryz.func84 rfl Tryz.ntmps84 rfl krf krf krf (sR tfm ⟨[0],[1000],[],[]⟩ ⟨[(0, .ptr 1000 0)],[(1000, .box 118 (bxc (GBB.cs ⟨x7,a1c,a2s⟩)))]⟩ krf ?_)))))))
          refine sS (sim_drw tfm rfl (xR 11 krf (xs_seqL rfl krf krf ?_)))
          refine xs_roE [.ro [], .cv (.id), .cv (.id)] krf (g_bb_stretch_ok n (⟨x7,a1c,a2s⟩:GBB) a2s.From a2s.To) krf krf (fun _=>by kernel_rfl) (fun _=>by kernel_rfl) (fun r19=>?_) (fun e20=>?_)
          ·refine xR 1 krf (xE (sN ⟨[2],[1000],[],[]⟩ ⟨[(2,I r19)],[(1000, .box 118 (bxc (GBB.cs ⟨x7,a1c,a2s⟩)))]⟩ krf (sT (iq_ret (.id) [1000] [] (I r19) krf krf (kr0 (xR 1 krf (xE ?_)))))))
           exact kq_n (k:=fun j10=>g_bill_sum_j10 l6_1 l6_2 l6_3 (OL.own ow_l6_4) l6_5 recl6 j10) r19 ⟨[4,5,6,7,8,9,10,13,15,16,17],[4,5,6,7,38],[],[]⟩ krf
          ·refine sq_p (iq_p [1000] [] krf (kq_p (bq_p (bq_p (sq_p (kq_p (bq_p ?_)))))))
           refine kq_p ?_
           exact rq_p krf krf
         ·refine sR tfm ⟨[0,6,7,20],[1000],[],[]⟩ ⟨[(0, .ptr 1000 0),(6, .ptr 1000 0),(7,I x7.Kind),(20,B (eqI x7.Kind 4))],[(1000, .box 118 (bxc (GBB.cs ⟨x7,a1c,a2s⟩)))]⟩ krf (sC (eqI x7.Kind 4) krf ?_ ?_)
          ·refine sR tfm ⟨[2],[1000],[],[]⟩ ⟨[(2, .fn (.func 85) [.ptr 1000 0] [])],[(1000, .box 118 (bxc (GBB.cs ⟨x7,a1c,a2s⟩)))]⟩ krf (sT (bq_r (sq_r (iq_ret (.id) [1000] [] (.fn (.func 85) [.ptr 1000 0] []) krf krf (kr0 (xs_inline [(1000, .box 118 (bxc (GBB.cs ⟨x7,a1c,a2s⟩)))] [.ptr 1000 0] [(1000,28)] [] [] krf Tryz.func85 rfl Tryz.ntmps85 rfl krf krf krf (sR tfm ⟨[0],[1000],[],[]⟩ ⟨[(0, .ptr 1000 0)],[(1000, .box 118 (bxc (GBB.cs ⟨x7,a1c,a2s⟩)))]⟩ krf ?_)))))))
           refine sS (sim_drw tfm rfl (xR 11 krf (xs_seqL rfl krf krf ?_)))
           refine xs_roE [.ro [], .cv (.id), .cv (.id)] krf (g_bb_stretch_ok n (⟨x7,a1c,a2s⟩:GBB) a2s.End a2s.To) krf krf (fun _=>by kernel_rfl) (fun _=>by kernel_rfl) (fun r21=>?_) (fun e22=>?_)
           ·refine xR 1 krf (xE (sN ⟨[2],[1000],[],[]⟩ ⟨[(2,I r21)],[(1000, .box 118 (bxc (GBB.cs ⟨x7,a1c,a2s⟩)))]⟩ krf (sT (iq_ret (.id) [1000] [] (I r21) krf krf (kr0 (xR 1 krf (xE ?_)))))))
            exact kq_n (k:=fun j10=>g_bill_sum_j10 l6_1 l6_2 l6_3 (OL.own ow_l6_4) l6_5 recl6 j10) r21 ⟨[4,5,6,7,8,9,10,13,15,16,17],[4,5,6,7,38],[],[]⟩ krf
           ·refine sq_p (iq_p [1000] [] krf (kq_p (bq_p (bq_p (sq_p (kq_p (bq_p ?_)))))))
            refine kq_p ?_
            exact rq_p krf krf
          ·refine sK (bq_n (sN ⟨[0,6,7],[1000],[],[]⟩ ⟨[(0, .ptr 1000 0),(6, .ptr 1000 0),(7,I x7.Kind)],[(1000, .box 118 (bxc (GBB.cs ⟨x7,a1c,a2s⟩)))]⟩ krf (sR tfm ⟨[2],[1000],[],[]⟩ ⟨[(2, .fn (.func 86) [.ptr 1000 0] [])],[(1000, .box 118 (bxc (GBB.cs ⟨x7,a1c,a2s⟩)))]⟩ krf (sT (iq_ret (.id) [1000] [] (.fn (.func 86) [.ptr 1000 0] []) krf krf (kr0 (xs_inline [(1000, .box 118 (bxc (GBB.cs ⟨x7,a1c,a2s⟩)))] [.ptr 1000 0] [(1000,28)] [] [] krf Tryz.func86 rfl Tryz.ntmps86 rfl krf krf krf ?_)))))))
           refine sR tfm ⟨[],[1000],[],[]⟩ ⟨[],[(1000, .box 118 (bxc (GBB.cs ⟨x7,a1c,a2s⟩)))]⟩ krf (sR tfm ⟨[2],[1000],[],[]⟩ ⟨[(2,I 0)],[(1000, .box 118 (bxc (GBB.cs ⟨x7,a1c,a2s⟩)))]⟩ krf (sT (iq_ret (.id) [1000] [] (I 0) krf krf (kr0 (xR 1 krf (xE ?_))))))
           exact kq_n (k:=fun j10=>g_bill_sum_j10 l6_1 l6_2 l6_3 (OL.own ow_l6_4) l6_5 recl6 j10) 0 ⟨[4,5,6,7,8,9,10,13,15,16,17],[4,5,6,7,38],[],[]⟩ krf
   ·refine sim_exit (sq_x (kq_x (bq_hit ?_)))
    exact kq_n (k:=fun (j1_1,j1_2,j1_3,j1_4)=>g_bill_sum_j1 n j1_1 j1_2 j1_3 j1_4) (l6_1,l6_2,(OL.own ow_l6_4),l6_5) ⟨[6,7,8,9],[6,7,38],[],[]⟩ krf
def g_bill_caught_2 (n:Nat) (a0x_0:Int) (a1err:Int):Option Int :=
 some a0x_0
theorem g_bill_caught_2_ok (n:Nat) (a0x_0:Int) (a1err:Int):∀ r,g_bill_caught_2 n a0x_0 a1err=some r→ACall Tryz.prog 26 [.ifc 103 (.agg [I a0x_0]), .ptr 1001 0] (Go.Abs.look [(1001, .box 44 [I a1err])]) (heapR (fun r:Int=>((.ret (.tup []),[(1001, .box 44 [I r])]):AEnd × List (Nat × Blk))) r):=by
 refine acall_sim (X:=fun r:Int=>((.ret (.tup []),[(1001, .box 44 [I r])]):AEnd × List (Nat × Blk))) [(1001, .box 44 [I a1err])] Tryz.func26 rfl Tryz.ntmps26 rfl ?_
 unfold g_bill_caught_2
 refine sS (sR tfm ⟨[0,1,6,7],[1001],[],[]⟩ ⟨[(0, .ifc 103 (.agg [I a0x_0])),(1, .ptr 1001 0),(6, .ifc 103 (.agg [I a0x_0])),(7,B false)],[(1001, .box 44 [I a1err])]⟩ krf (sim_condF krf (sK (sN ⟨[0,1,6,7],[1001],[],[]⟩ ⟨[(0, .ifc 103 (.agg [I a0x_0])),(1, .ptr 1001 0),(6, .ifc 103 (.agg [I a0x_0])),(7,B false)],[(1001, .box 44 [I a1err])]⟩ krf (sR tfm ⟨[0,1,4,5,6,7],[4,1001],[],[]⟩ ⟨[(0, .ifc 103 (.agg [I a0x_0])),(1, .ptr 1001 0),(4, .ptr 4 0),(5,B true),(6, .ifc 103 (.agg [I a0x_0])),(7,B false)],[(4, .box 103 [I a0x_0]),(1001, .box 44 [I a1err])]⟩ krf (sS (sR tfm ⟨[0,1,4,6,7,14],[4,1001],[],[]⟩ ⟨[(0, .ifc 103 (.agg [I a0x_0])),(1, .ptr 1001 0),(4, .ptr 4 0),(6, .ifc 103 (.agg [I a0x_0])),(7,B false),(14,B false)],[(4, .box 103 [I a0x_0]),(1001, .box 44 [I a1err])]⟩ krf ?_)))))))
 refine sim_condF krf (sK (sN ⟨[1,4,6,7],[4,1001],[],[]⟩ ⟨[(1, .ptr 1001 0),(4, .ptr 4 0),(6, .ifc 103 (.agg [I a0x_0])),(7,B false)],[(4, .box 103 [I a0x_0]),(1001, .box 44 [I a1err])]⟩ krf (sL tfm krf ?_)))
 exact hq_n (.id) [1001] [] krf krf krf krf
def g_bill_Bill (n:Nat) (a0t:GTf) (a1c:GCl) (a2s:GSs):Option (GBill × Int) :=
 ((g_t_Valid n a0t).bind fun r2 =>
 cond (!r2)
  (some true)
  ((g_days_Valid n a1c).bind fun r4 =>
  cond (!r4)
   (some true)
   ((g_bill_Valid n a2s).bind fun r6 =>
   some (!r6)))).bind fun j1 =>
 cond j1
  ((g_bill_caught n 1).bind fun r7 =>
  some ((⟨[],0,0,0⟩:GBill),r7))
  ((g_bill_sum n a0t a1c a2s).bind (exc (fun r8 =>
   (g_bill_caught n 0).bind fun r10 =>
   some (r8,r10)) fun e9=>(g_bill_caught_2 n e9 0).bind fun r11 =>
  some ((⟨[],0,0,0⟩:GBill),r11)))
theorem g_bill_Bill_okH (n:Nat) (a0t:GTf) (a1c:GCl) (a2s:GSs):∀ r,g_bill_Bill n a0t a1c a2s=some r→ACall Tryz.prog 15 [ag (GTf.cs a0t),ag (GCl.cs a1c),ag (GSs.cs a2s)] (Go.Abs.look []) (heapR (fun r:GBill × Int=>((.ret (.tup [ag (GBill.cs r.1),I r.2]),[]):AEnd × List (Nat × Blk))) r):=by
 refine defer_sim (X:=fun r:GBill × Int=>((.ret (.tup [ag (GBill.cs r.1),I r.2]),[]):AEnd × List (Nat × Blk))) [] (⟨Tryz.f25,_,_,_,1,_,_,Tryz.func25,rfl,rfl,rfl,rfl,rfl,rfl,by decide,by decide,rfl,by kernel_rfl⟩:Catcher Tryz.prog 25 26) (⟨_,_,_,_,_,7,8,_,rfl,rfl,rfl,rfl,rfl,rfl,rfl,by decide⟩:Deferrer Tryz.f15 25) 7 Tryz.func15 Tryz.ntmps15 rfl krf rfl tfm rfl krf krf krf ?_
 unfold g_bill_Bill
 refine sP ⟨[3,4,5,6,7],[3,4,5,6,2000],[],[]⟩ ⟨[(3, .ptr 3 0),(4, .ptr 4 0),(5, .ptr 5 0),(6, .ptr 6 0),(7, .ptr 2000 0)],[(3, .box 24 (bxc (GTf.cs a0t))),(4, .box 28 (bxc (GCl.cs a1c))),(5, .box 35 (bxc (GSs.cs a2s))),(6, .box 39 [.p (.val (.slice none 0 0)),I 0,I 0,I 0]),(2000, .box 44 [I 0])]⟩ krf ?_
 refine sS ?_
 refine sim_bind (fun j1=>⟨[(3, .ptr 3 0),(4, .ptr 4 0),(5, .ptr 5 0),(6, .ptr 6 0),(7, .ptr 2000 0),(21,B j1)],[(3, .box 24 (bxc (GTf.cs a0t))),(4, .box 28 (bxc (GCl.cs a1c))),(5, .box 35 (bxc (GSs.cs a2s))),(6, .box 39 [.p (.val (.slice none 0 0)),I 0,I 0,I 0]),(2000, .box 44 [I 0])]⟩:Bool→St) ?_ ?_
 ·refine sG ?_
  refine xR 1 krf ?_
  refine xC [] krf (g_t_Valid_ok n a0t) krf krf (fun _=>by kernel_rfl) (fun r2=>?_)
  refine xR 2 krf ?_
  refine xS (!r2) (fun h3=>?_) (fun h3=>?_)
  ·refine xN (want_ft krf h3) krf ?_
   refine xR 8 krf ?_
   refine xE ?_
   exact nq_n true ⟨[3,4,5,6,7,21],[3,4,5,6,2000],[],[]⟩ krf
  ·refine xO (want_ff krf h3) krf ?_
   refine xC [] krf (g_days_Valid_ok n a1c) krf krf (fun _=>by kernel_rfl) (fun r4=>?_)
   refine xR 3 krf ?_
   refine xS (!r4) (fun h5=>?_) (fun h5=>?_)
   ·refine xN (want_ft krf h5) krf ?_
    refine xR 3 krf ?_
    refine xE ?_
    exact nq_n true ⟨[3,4,5,6,7,21],[3,4,5,6,2000],[],[]⟩ krf
   ·refine xO (want_ff krf h5) krf ?_
    refine xC [] krf (g_bill_Valid_ok n a2s) krf krf (fun _=>by kernel_rfl) (fun r6=>?_)
    refine xR 2 krf ?_
    refine xE ?_
    exact nq_n (!r6) ⟨[3,4,5,6,7,21],[3,4,5,6,2000],[],[]⟩ krf
 ·rintro j1
  refine sC j1 krf ?_ ?_
  ·refine sR tfm ⟨[6,7],[6,2000],[],[]⟩ ⟨[(6, .ptr 6 0),(7, .ptr 2000 0)],[(6, .box 39 [.p (.val (.slice none 0 0)),I 0,I 0,I 0]),(2000, .box 44 [I 1])]⟩ krf ?_
   refine sT ?_
   refine sq_r ?_
   refine dq_ret ?_
   refine sc_heap [(1001,2000)] [] [] (g_bill_caught_ok n 1) krf krf krf (fun _=>by kernel_rfl) (fun _=>by kernel_rfl) (fun r7=>?_)
   exact ke_end (.agg [.agg [.sl 2, .id, .id, .id], .id]) [] [] krf krf krf krf
  ·refine sK ?_
   refine sN ⟨[3,4,5,6,7],[3,4,5,6,2000],[],[]⟩ ⟨[(3, .ptr 3 0),(4, .ptr 4 0),(5, .ptr 5 0),(6, .ptr 6 0),(7, .ptr 2000 0)],[(3, .box 24 (bxc (GTf.cs a0t))),(4, .box 28 (bxc (GCl.cs a1c))),(5, .box 35 (bxc (GSs.cs a2s))),(6, .box 39 [.p (.val (.slice none 0 0)),I 0,I 0,I 0]),(2000, .box 44 [I 0])]⟩ krf ?_
   refine sS ?_
   refine sG ?_
   refine xR 3 krf ?_
   refine xs_exc [] krf (g_bill_sum_ok n a0t a1c a2s) krf krf (fun _=>by kernel_rfl) (fun _=>by kernel_rfl) (fun r8=>?_) (fun e9=>?_)
   ·refine xR 2 krf ?_
    refine xE ?_
    refine sN ⟨[6,7],[6,2000],[],[]⟩ ⟨[(6, .ptr 6 0),(7, .ptr 2000 0)],[(6, .box 39 (bxc (GBill.cs r8))),(2000, .box 44 [I 0])]⟩ krf ?_
    refine sT ?_
    refine dq_ret ?_
    refine sc_heap [(1001,2000)] [] [] (g_bill_caught_ok n 0) krf krf krf (fun _=>by kernel_rfl) (fun _=>by kernel_rfl) (fun r10=>?_)
    exact ke_end (.id) [] [] krf krf krf krf
   ·refine sq_p ?_
    refine dq_p ?_
    refine sc_heap [(1001,2000)] [] [] (g_bill_caught_2_ok n e9 0) krf krf krf (fun _=>by kernel_rfl) (fun _=>by kernel_rfl) (fun r11=>?_)
    exact ke_end (.agg [.agg [.sl 2, .id, .id, .id], .id]) [] [] krf krf krf krf
theorem g_bill_Bill_ok (n:Nat) (a0t:GTf) (a1c:GCl) (a2s:GSs):∀ r,g_bill_Bill n a0t a1c a2s=some r→PCall Tryz.prog 15 [ag (GTf.cs a0t),ag (GCl.cs a1c),ag (GSs.cs a2s)] (.ret (.tup [ag (GBill.cs r.1),I r.2])):=fun r h=>pcall_of (g_bill_Bill_okH n a0t a1c a2s r h) rfl
def g_law43_made_j2 (n:Nat) (a0t:GTf) (a1c:GCl) (a2seed:Int) (a3from:Int) (j2_1:Int) (j2_2:List GReading) (j2_3:Int) (j2_4:Int) (j2_5:OL GSl):Option (GClaim × Bool) :=
 (g_bill_Bill n a0t a1c (⟨a3from,j2_1,j2_4,j2_5.toL⟩:GSs)).bind fun r3 =>
 cond (eqI j2_3 0)
  (some ((⟨a0t,a1c,j2_2,a2seed,(⟨a3from,j2_1,j2_4,j2_5.toL⟩:GSs),r3.1⟩:GClaim),eqI r3.2 0))
  (some ((⟨a0t,a1c,j2_2,a2seed,(⟨a3from,j2_1,j2_4,j2_5.toL⟩:GSs),r3.1⟩:GClaim),false))
def g_law43_made_l5 (n:Nat) (a0t:GTf) (a1c:GCl) (a2seed:Int) (a3from:Int) (a4steps:List (Int × Int)) (recl5:(Int × Int × Int × (List GReading) × Int × Int × Int × (OL GSl))→Option (GClaim × Bool)) (l5_1:Int) (l5_2:Int) (l5_3:Int) (l5_4:List GReading) (l5_5:Int) (l5_6:Int) (l5_7:Int) (l5_8:OL GSl):Option (GClaim × Bool) :=
 cond (ltI l5_6 (lenI (List.map enc_2_uint8 a4steps)))
  ((getI a4steps l5_6).bind fun x6 =>
  cond (!eqI l5_5 0)
   (some ((⟨a0t,a1c,[],a2seed,(⟨a3from,a3from,l5_7,l5_8.toL⟩:GSs),(⟨[],0,0,0⟩:GBill)⟩:GClaim),false))
   (((cond (ltI 0 x6.1)
    (some (ltI 0 x6.2))
    (some false)).bind fun j8 =>
   cond j8
    (cond (roomB (List.length (l5_8.toL++[(⟨wi ((wi (l5_2+(wi x6.1))) - 1),wi x6.2⟩:GSl)])) 16) (
     some (wi (l5_2+(wi x6.1)),OL.own (l5_8.toL++[(⟨wi ((wi (l5_2+(wi x6.1))) - 1),wi x6.2⟩:GSl)]))) none)
    (some (l5_7,l5_8))).bind fun (j7_1,j7_2) =>
   (cond (eqI x6.1 0)
    (some (wi ((wi (l5_3+(wi x6.2))) - (wi x6.2))))
    (some (wi (l5_3+(wi x6.2))))).bind fun j10 =>
   (g_chain_Append n a2seed l5_4 l5_1 (wi (l5_2+(wi x6.1))) j10).bind fun r11 =>
   (cond (eqI r11.2 0)
    (some (eqI (Int.tmod x6.2 8) 7))
    (some false)).bind fun j12 =>
   cond j12
    ((g_chain_Append n a2seed r11.1 (wi (l5_1+1)) (wi (l5_2+(wi x6.1))) 5).bind fun r14 =>
    recl5 (wi (l5_1+1),wi (l5_2+(wi x6.1)),5,r14.1,r14.2,wi (l5_6+1),j7_1,j7_2))
    (recl5 (l5_1,wi (l5_2+(wi x6.1)),j10,r11.1,r11.2,wi (l5_6+1),j7_1,j7_2))))
  (g_law43_made_j2 n a0t a1c a2seed a3from l5_2 l5_4 l5_5 l5_7 l5_8)
def g_law43_made (n:Nat) (a0t:GTf) (a1c:GCl) (a2seed:Int) (a3from:Int) (a4steps:List (Int × Int)):Option (GClaim × Bool) :=
 (g_chain_Append n a2seed [] 1 a3from 0).bind fun r1 =>
 loopN (fun recl5 (l5_1,l5_2,l5_3,l5_4,l5_5,l5_6,l5_7,l5_8)=>g_law43_made_l5 n a0t a1c a2seed a3from a4steps recl5 l5_1 l5_2 l5_3 l5_4 l5_5 l5_6 l5_7 l5_8) n (1,a3from,0,r1.1,r1.2,0,a3from,OL.nil)
end Go.Proofs
