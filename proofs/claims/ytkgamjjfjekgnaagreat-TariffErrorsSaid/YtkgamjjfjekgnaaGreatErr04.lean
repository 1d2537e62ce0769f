/-
  A part of the proof of a statement of the seat YtkgamjjfjekgnaaGreat.
-/
import Derived.Test.YtkgamjjfjekgnaaGreatErr03
namespace Go.Proofs
open Go Go.Abs
set_option maxRecDepth 100000
set_option linter.unusedVariables false
theorem g_p_reader_item_ok (n:Nat) (a0r:GPr):∀ r,g_p_reader_item n a0r=some r→ACall Tryz.prog 102 [.ptr 1000 0] (Go.Abs.look [(1000, .box 120 [.p (.sl 4 (mTk a0r.tokens)),I a0r.pos,I a0r.length, .tsl 2 (mDg a0r.diags) 1103]),(1103, .arr 56 2 (mDg a0r.diags).length)]) (heapR (excX (fun r:GNode × GPr=>((.ret (ag (GNode.cs r.1)),[(1000, .box 120 [.p (.sl 4 (mTk r.2.tokens)),I r.2.pos,I r.2.length, .tsl 2 (mDg r.2.diags) 1103]),(1103, .arr 56 2 (mDg r.2.diags).length)]):AEnd × List (Nat × Blk))) (fun e:Int × GPr=>((.panic (.ifc 137 (.agg [I e.1])),[(1000, .box 120 [.p (.sl 4 (mTk e.2.tokens)),I e.2.pos,I e.2.length, .tsl 2 (mDg e.2.diags) 1103]),(1103, .arr 56 2 (mDg e.2.diags).length)]):AEnd × List (Nat × Blk)))) r):=by
 refine acall_sim (X:=excX (fun r:GNode × GPr=>((.ret (ag (GNode.cs r.1)),[(1000, .box 120 [.p (.sl 4 (mTk r.2.tokens)),I r.2.pos,I r.2.length, .tsl 2 (mDg r.2.diags) 1103]),(1103, .arr 56 2 (mDg r.2.diags).length)]):AEnd × List (Nat × Blk))) (fun e:Int × GPr=>((.panic (.ifc 137 (.agg [I e.1])),[(1000, .box 120 [.p (.sl 4 (mTk e.2.tokens)),I e.2.pos,I e.2.length, .tsl 2 (mDg e.2.diags) 1103]),(1103, .arr 56 2 (mDg e.2.diags).length)]):AEnd × List (Nat × Blk)))) [(1000, .box 120 [.p (.sl 4 (mTk a0r.tokens)),I a0r.pos,I a0r.length, .tsl 2 (mDg a0r.diags) 1103]),(1103, .arr 56 2 (mDg a0r.diags).length)] Tryz.func102 rfl Tryz.ntmps102 rfl ?_
 unfold g_p_reader_item
 refine sR tfm ⟨[1,2],[1,2,1000,1103],[],[]⟩ ⟨[(1, .ptr 1 0),(2, .ptr 2 0)],[(1, .box 118 [.ptr 1000 0]),(2, .box 24 [I 0,S [],I 0,I 0,zS]),(1000, .box 120 [.p (.sl 4 (mTk a0r.tokens)),I a0r.pos,I a0r.length, .tsl 2 (mDg a0r.diags) 1103]),(1103, .arr 56 2 (mDg a0r.diags).length)]⟩ krf (sS (sP ⟨[1,2],[1,2,1000,1103],[],[]⟩ ⟨[(1, .ptr 1 0),(2, .ptr 2 0)],[(1, .box 118 [.ptr 1000 0]),(2, .box 24 [I 0,S [],I 0,I 0,zS]),(1000, .box 120 [.p (.sl 4 (mTk a0r.tokens)),I a0r.pos,I a0r.length, .tsl 2 (mDg a0r.diags) 1103]),(1103, .arr 56 2 (mDg a0r.diags).length)]⟩ krf (sim_hstF [0] 3 3 [1,2,3,4] tfm rfl krf krf (lates_cons (late_read (.ptr 1000 0) krf rfl) (lates_nil)) krf (f_enter (f:=114) (args:=[.p (.val (.func (.func 115) #[] #[]))]) (dst:=some 9) krf krf rfl (sc_inline (hc:=[]) (args':=[.p (.val (.func (.func 115) #[] #[]))]) [(1,401)] [] [] Tryz.func114 rfl Tryz.ntmps114 rfl krf krf krf (sR tfm ⟨[1],[1],[],[]⟩ ⟨[(1, .ptr 1 0)],[(1, .box 68 [.p (.val (.func (.func 115) #[] #[]))])]⟩ krf (sR tfm ⟨[2],[1],[],[]⟩ ⟨[(2, .fn (.func 124) [] [.ptr 1 0])],[(1, .box 68 [.p (.val (.func (.func 115) #[] #[]))])]⟩ krf ?_)))))))
 refine sT (iq_ret (.id) [1] [] (.fn (.func 124) [] [.ptr 1 0]) krf krf (kf [0] krf (lates_cons (late_read (.ptr 1000 0) krf rfl) (lates_nil)) krf (f_enter (f:=113) (args:=[.ptr 1000 0, .fn (.func 124) [] [.ptr 401 0]]) (dst:=some 10) krf krf rfl (sc_inline (hc:=[(1000, .box 68 [.p (.val (.func (.func 115) #[] #[]))]),(1001, .box 120 [.p (.sl 4 (mTk a0r.tokens)),I a0r.pos,I a0r.length, .tsl 2 (mDg a0r.diags) 1002]),(1002, .arr 56 2 (mDg a0r.diags).length)]) (args':=[.ptr 1001 0, .fn (.func 124) [] [.ptr 1000 0]]) [(1000,401),(1001,1000),(1002,1103)] [] [] Tryz.func113 rfl Tryz.ntmps113 rfl krf krf krf (sR tfm ⟨[0,1,4],[4,1000,1001,1002],[],[]⟩ ⟨[(0, .ptr 1001 0),(1, .fn (.func 124) [] [.ptr 1000 0]),(4, .ptr 4 0)],[(4, .box 123 [I 0,S [],I 0,I 0]),(1000, .box 68 [.p (.val (.func (.func 115) #[] #[]))]),(1001, .box 120 [.p (.sl 4 (mTk a0r.tokens)),I a0r.pos,I a0r.length, .tsl 2 (mDg a0r.diags) 1002]),(1002, .arr 56 2 (mDg a0r.diags).length)]⟩ krf (sS (sG ?_)))))))
 refine xR 1 krf ?_
 refine xs_ro [.ro [.id, .id, .id, .sl 2]] krf (g_p_reader_peek_2_ok n a0r) krf krf (fun _=>by kernel_rfl) (fun r1=>?_)
 refine xR 2 krf (xE (sN ⟨[0,1,4,5],[4,5,1000,1001,1002],[],[]⟩ ⟨[(0, .ptr 1001 0),(1, .fn (.func 124) [] [.ptr 1000 0]),(4, .ptr 4 0),(5, .ptr 5 0)],[(4, .box 123 [I 0,S [],I 0,I 0]),(5, .box 123 (bxc (GTk.cs r1))),(1000, .box 68 [.p (.val (.func (.func 115) #[] #[]))]),(1001, .box 120 [.p (.sl 4 (mTk a0r.tokens)),I a0r.pos,I a0r.length, .tsl 2 (mDg a0r.diags) 1002]),(1002, .arr 56 2 (mDg a0r.diags).length)]⟩ krf (sim_cps (fun _=>⟨[(0, .ptr 1001 0),(4, .ptr 4 0),(5, .ptr 5 0)],[(4, .box 123 [I 0,S [],I 0,I 0]),(5, .box 123 (bxc (GTk.cs r1))),(1000, .box 68 [.p (.val (.func (.func 115) #[] #[]))]),(1001, .box 120 [.p (.sl 4 (mTk a0r.tokens)),I a0r.pos,I a0r.length, .tsl 2 (mDg a0r.diags) 1002]),(1002, .arr 56 2 (mDg a0r.diags).length)]⟩:Unit→St) (fun _=>g_p_reader_item_j2 n a0r r1) ?_ ?_)))
 ·rintro _
  show SimE (g_p_reader_item_j2 n a0r r1) _ _ _ _ _ _
  unfold g_p_reader_item_j2
  refine sR tfm ⟨[4,5],[4,5,1000,1001,1002],[],[]⟩ ⟨[(4, .ptr 4 0),(5, .ptr 5 0)],[(4, .box 123 [I 0,S [],I 0,I 0]),(5, .box 123 (bxc (GTk.cs r1))),(1000, .box 68 [.p (.val (.func (.func 115) #[] #[]))]),(1001, .box 120 [.p (.sl 4 (mTk a0r.tokens)),I (wi (a0r.pos+1)),I a0r.length, .tsl 2 (mDg a0r.diags) 1002]),(1002, .arr 56 2 (mDg a0r.diags).length)]⟩ krf (sR tfm ⟨[4],[4,1000,1001,1002],[],[]⟩ ⟨[(4, .ptr 4 0)],[(4, .box 123 (bxc (GTk.cs r1))),(1000, .box 68 [.p (.val (.func (.func 115) #[] #[]))]),(1001, .box 120 [.p (.sl 4 (mTk a0r.tokens)),I (wi (a0r.pos+1)),I a0r.length, .tsl 2 (mDg a0r.diags) 1002]),(1002, .arr 56 2 (mDg a0r.diags).length)]⟩ krf (sT (iq_ret (.id) [1000,1001,1002] [] (.agg [I r1.Kind,S r1.Text,I r1.N,I r1.At]) krf krf (kf [] krf (lates_nil) krf (f_q [0] krf krf (lates_cons (late_read (.ptr 1000 0) krf rfl) (lates_nil)) (f_op [] rfl krf krf (lates_nil) krf (f_end ?_)))))))
  refine sN ⟨[1,2,3],[1,2,3,1000,1103],[],[]⟩ ⟨[(1, .ptr 1 0),(2, .ptr 2 0),(3, .ptr 3 0)],[(1, .box 118 [.ptr 1000 0]),(2, .box 24 [I 0,S [],I 0,I 0,zS]),(3, .box 123 (bxc (GTk.cs r1))),(1000, .box 120 [.p (.sl 4 (mTk a0r.tokens)),I (wi (a0r.pos+1)),I a0r.length, .tsl 2 (mDg a0r.diags) 1103]),(1103, .arr 56 2 (mDg a0r.diags).length)]⟩ krf (sS (sim_hst [0] [0] [(1,[]),(2,[]),(3,[]),(4,[])] tfm rfl krf krf (h_enter (f:=114) (args:=[.p (.val (.func (.func 116) #[] #[]))]) (dst:=some 12) krf krf (sc_inline (hc:=[]) (args':=[.p (.val (.func (.func 116) #[] #[]))]) [(1,401)] [] [] Tryz.func114 rfl Tryz.ntmps114 rfl krf krf krf (sR tfm ⟨[1],[1],[],[]⟩ ⟨[(1, .ptr 1 0)],[(1, .box 68 [.p (.val (.func (.func 116) #[] #[]))])]⟩ krf (sR tfm ⟨[2],[1],[],[]⟩ ⟨[(2, .fn (.func 124) [] [.ptr 1 0])],[(1, .box 68 [.p (.val (.func (.func 116) #[] #[]))])]⟩ krf (sT ?_)))))))
  refine iq_ret (.id) [1] [] (.fn (.func 124) [] [.ptr 1 0]) krf krf (kh [0] krf (lates_cons (late_read (.ptr 1000 0) krf rfl) (lates_nil)) krf (h_enter (f:=113) (args:=[.ptr 1000 0, .fn (.func 124) [] [.ptr 401 0]]) (dst:=some 13) krf krf (sc_inline (hc:=[(1000, .box 68 [.p (.val (.func (.func 116) #[] #[]))]),(1001, .box 120 [.p (.sl 4 (mTk a0r.tokens)),I (wi (a0r.pos+1)),I a0r.length, .tsl 2 (mDg a0r.diags) 1002]),(1002, .arr 56 2 (mDg a0r.diags).length)]) (args':=[.ptr 1001 0, .fn (.func 124) [] [.ptr 1000 0]]) [(1000,401),(1001,1000),(1002,1103)] [] [] Tryz.func113 rfl Tryz.ntmps113 rfl krf krf krf (sR tfm ⟨[0,1,4],[4,1000,1001,1002],[],[]⟩ ⟨[(0, .ptr 1001 0),(1, .fn (.func 124) [] [.ptr 1000 0]),(4, .ptr 4 0)],[(4, .box 123 [I 0,S [],I 0,I 0]),(1000, .box 68 [.p (.val (.func (.func 116) #[] #[]))]),(1001, .box 120 [.p (.sl 4 (mTk a0r.tokens)),I (wi (a0r.pos+1)),I a0r.length, .tsl 2 (mDg a0r.diags) 1002]),(1002, .arr 56 2 (mDg a0r.diags).length)]⟩ krf (sS (sG (xR 1 krf ?_)))))))
  refine xs_ro [.ro [.id, .id, .id, .sl 2]] krf (g_p_reader_peek_2_ok n (⟨a0r.tokens,wi (a0r.pos+1),a0r.length,a0r.diags⟩:GPr)) krf krf (fun _=>by kernel_rfl) (fun r3=>?_)
  refine xR 2 krf (xE (sN ⟨[0,1,4,5],[4,5,1000,1001,1002],[],[]⟩ ⟨[(0, .ptr 1001 0),(1, .fn (.func 124) [] [.ptr 1000 0]),(4, .ptr 4 0),(5, .ptr 5 0)],[(4, .box 123 [I 0,S [],I 0,I 0]),(5, .box 123 (bxc (GTk.cs r3))),(1000, .box 68 [.p (.val (.func (.func 116) #[] #[]))]),(1001, .box 120 [.p (.sl 4 (mTk a0r.tokens)),I (wi (a0r.pos+1)),I a0r.length, .tsl 2 (mDg a0r.diags) 1002]),(1002, .arr 56 2 (mDg a0r.diags).length)]⟩ krf (sim_cps (fun _=>⟨[(0, .ptr 1001 0),(4, .ptr 4 0),(5, .ptr 5 0)],[(4, .box 123 [I 0,S [],I 0,I 0]),(5, .box 123 (bxc (GTk.cs r3))),(1000, .box 68 [.p (.val (.func (.func 116) #[] #[]))]),(1001, .box 120 [.p (.sl 4 (mTk a0r.tokens)),I (wi (a0r.pos+1)),I a0r.length, .tsl 2 (mDg a0r.diags) 1002]),(1002, .arr 56 2 (mDg a0r.diags).length)]⟩:Unit→St) (fun _=>g_p_reader_item_j4 n a0r r1 r3) ?_ ?_)))
  ·rintro _
   show SimE (g_p_reader_item_j4 n a0r r1 r3) _ _ _ _ _ _
   unfold g_p_reader_item_j4
   refine sR tfm ⟨[4,5],[4,5,1000,1001,1002],[],[]⟩ ⟨[(4, .ptr 4 0),(5, .ptr 5 0)],[(4, .box 123 [I 0,S [],I 0,I 0]),(5, .box 123 (bxc (GTk.cs r3))),(1000, .box 68 [.p (.val (.func (.func 116) #[] #[]))]),(1001, .box 120 [.p (.sl 4 (mTk a0r.tokens)),I (wi ((wi (a0r.pos+1))+1)),I a0r.length, .tsl 2 (mDg a0r.diags) 1002]),(1002, .arr 56 2 (mDg a0r.diags).length)]⟩ krf (sR tfm ⟨[4],[4,1000,1001,1002],[],[]⟩ ⟨[(4, .ptr 4 0)],[(4, .box 123 (bxc (GTk.cs r3))),(1000, .box 68 [.p (.val (.func (.func 116) #[] #[]))]),(1001, .box 120 [.p (.sl 4 (mTk a0r.tokens)),I (wi ((wi (a0r.pos+1))+1)),I a0r.length, .tsl 2 (mDg a0r.diags) 1002]),(1002, .arr 56 2 (mDg a0r.diags).length)]⟩ krf (sT (iq_ret (.id) [1000,1001,1002] [] (.agg [I r3.Kind,S r3.Text,I r3.N,I r3.At]) krf krf (kh [] krf (lates_nil) krf (h_op [] krf krf (lates_nil) (h_op [] krf krf (lates_nil) (h_end ?_)))))))
   refine sN ⟨[1,2,3,4],[1,2,3,1000,1103],[],[]⟩ ⟨[(1, .ptr 1 0),(2, .ptr 2 0),(3, .ptr 3 0),(4,S r3.Text)],[(1, .box 118 [.ptr 1000 0]),(2, .box 24 [I 0,S [],I 0,I 0,zS]),(3, .box 123 (bxc (GTk.cs r1))),(1000, .box 120 [.p (.sl 4 (mTk a0r.tokens)),I (wi ((wi (a0r.pos+1))+1)),I a0r.length, .tsl 2 (mDg a0r.diags) 1103]),(1103, .arr 56 2 (mDg a0r.diags).length)]⟩ krf (sS (sG (xR 2 krf ?_)))
   refine xC [] krf (g_p_kindOf_ok n r1.Text) krf krf (fun _=>by kernel_rfl) (fun r5=>?_)
   refine xR 1 krf (xE (sN ⟨[1,2,3,4,5],[1,2,3,1000,1103],[],[]⟩ ⟨[(1, .ptr 1 0),(2, .ptr 2 0),(3, .ptr 3 0),(4,S r3.Text),(5,I r5)],[(1, .box 118 [.ptr 1000 0]),(2, .box 24 [I 0,S [],I 0,I 0,zS]),(3, .box 123 (bxc (GTk.cs r1))),(1000, .box 120 [.p (.sl 4 (mTk a0r.tokens)),I (wi ((wi (a0r.pos+1))+1)),I a0r.length, .tsl 2 (mDg a0r.diags) 1103]),(1103, .arr 56 2 (mDg a0r.diags).length)]⟩ krf (sS (sR tfm ⟨[1,2,3,4,5,19],[1,2,3,1000,1103],[],[]⟩ ⟨[(1, .ptr 1 0),(2, .ptr 2 0),(3, .ptr 3 0),(4,S r3.Text),(5,I r5),(19,B (eqI r5 7))],[(1, .box 118 [.ptr 1000 0]),(2, .box 24 [I 0,S [],I 0,I 0,zS]),(3, .box 123 (bxc (GTk.cs r1))),(1000, .box 120 [.p (.sl 4 (mTk a0r.tokens)),I (wi ((wi (a0r.pos+1))+1)),I a0r.length, .tsl 2 (mDg a0r.diags) 1103]),(1103, .arr 56 2 (mDg a0r.diags).length)]⟩ krf (sC (eqI r5 7) krf ?_ ?_)))))
   ·refine sR tfm ⟨[1,2,3,4,5,6],[1,2,3,1000,1103],[],[]⟩ ⟨[(1, .ptr 1 0),(2, .ptr 2 0),(3, .ptr 3 0),(4,S r3.Text),(5,I r5),(6, .fn (.func 117) [] [.ptr 1 0])],[(1, .box 118 [.ptr 1000 0]),(2, .box 24 [I 0,S [],I 0,I 0,zS]),(3, .box 123 (bxc (GTk.cs r1))),(1000, .box 120 [.p (.sl 4 (mTk a0r.tokens)),I (wi ((wi (a0r.pos+1))+1)),I a0r.length, .tsl 2 (mDg a0r.diags) 1103]),(1103, .arr 56 2 (mDg a0r.diags).length)]⟩ krf (sS (sG (xR 9 krf (xs_inline [(1000, .box 118 [.ptr 1002 0]),(1001, .box 124 [.fn (.func 119) [.ptr 1002 0] [], .fn (.func 117) [] [.ptr 1000 0], .fn (.func 120) [.ptr 1002 0] []]),(1002, .box 120 [.p (.sl 4 (mTk a0r.tokens)),I (wi ((wi (a0r.pos+1))+1)),I a0r.length, .tsl 2 (mDg a0r.diags) 1003]),(1003, .arr 56 2 (mDg a0r.diags).length)] [.agg [I r1.Kind,S r1.Text,I r1.N,I r1.At],I 2,S r3.Text,I r5, .bsl 1001 3] [(1000,1),(1001,29),(1002,1000),(1003,1103)] [] [] krf Tryz.func80 rfl Tryz.ntmps80 rfl krf krf krf (sR tfm ⟨[1,2,3,4,5,10],[5,10,1000,1001,1002,1003],[],[]⟩ ⟨[(1,I 2),(2,S r3.Text),(3,I r5),(4, .bsl 1001 3),(5, .ptr 5 0),(10, .ptr 10 0)],[(5, .box 123 (bxc (GTk.cs r1))),(10, .box 24 [I 0,S [],I 0,I 0,zS]),(1000, .box 118 [.ptr 1002 0]),(1001, .box 124 [.fn (.func 119) [.ptr 1002 0] [], .fn (.func 117) [] [.ptr 1000 0], .fn (.func 120) [.ptr 1002 0] []]),(1002, .box 120 [.p (.sl 4 (mTk a0r.tokens)),I (wi ((wi (a0r.pos+1))+1)),I a0r.length, .tsl 2 (mDg a0r.diags) 1003]),(1003, .arr 56 2 (mDg a0r.diags).length)]⟩ krf (sR tfm ⟨[4,10,11],[10,11,1000,1001,1002,1003],[],[]⟩ ⟨[(4, .bsl 1001 3),(10, .ptr 10 0),(11, .ptr 11 0)],[(10, .box 24 [I 0,S [],I 0,I 0,zS]),(11, .box 24 [I 2,S r3.Text,I r5,I r1.At,zS]),(1000, .box 118 [.ptr 1002 0]),(1001, .box 124 [.fn (.func 119) [.ptr 1002 0] [], .fn (.func 117) [] [.ptr 1000 0], .fn (.func 120) [.ptr 1002 0] []]),(1002, .box 120 [.p (.sl 4 (mTk a0r.tokens)),I (wi ((wi (a0r.pos+1))+1)),I a0r.length, .tsl 2 (mDg a0r.diags) 1003]),(1003, .arr 56 2 (mDg a0r.diags).length)]⟩ krf (sim_cps (fun (j6_1,j6_2,j6_3,j6_4,j6_5)=>⟨[(10, .ptr 10 0),(11, .ptr 11 0)],[(10, .box 24 [I 0,S [],I 0,I 0,zS]),(11, .box 24 [I 2,S r3.Text,I r5,I r1.At, .tsl 5 (mI j6_1) 600]),(600, .arr 24 5 (mI j6_1).length),(1000, .box 118 [.ptr 1002 0]),(1001, .box 124 [.fn (.func 119) [.ptr 1002 0] [], .fn (.func 117) [] [.ptr 1000 0], .fn (.func 120) [.ptr 1002 0] []]),(1002, .box 120 [.p (.sl 4 (mTk j6_2)),I j6_3,I j6_4, .tsl 2 (mDg j6_5) 1003]),(1003, .arr 56 2 (mDg j6_5).length)]⟩:((List (List PV)) × (List GTk) × Int × Int × (List GDg))→St) (fun (j6_1,j6_2,j6_3,j6_4,j6_5)=>g_p_reader_item_j6 r1 r3 r5 j6_1 j6_2 j6_3 j6_4 j6_5) ?_ ?_)))))))
    ·rintro ⟨j6_1,j6_2,j6_3,j6_4,j6_5⟩
     show SimE (g_p_reader_item_j6 r1 r3 r5 j6_1 j6_2 j6_3 j6_4 j6_5) _ _ _ _ _ _
     unfold g_p_reader_item_j6
     refine sR tfm ⟨[10],[10,600,1000,1001,1002,1003],[],[]⟩ ⟨[(10, .ptr 10 0)],[(10, .box 24 [I 2,S r3.Text,I r5,I r1.At, .tsl 5 (mI j6_1) 600]),(600, .arr 24 5 (mI j6_1).length),(1000, .box 118 [.ptr 1002 0]),(1001, .box 124 [.fn (.func 119) [.ptr 1002 0] [], .fn (.func 117) [] [.ptr 1000 0], .fn (.func 120) [.ptr 1002 0] []]),(1002, .box 120 [.p (.sl 4 (mTk j6_2)),I j6_3,I j6_4, .tsl 2 (mDg j6_5) 1003]),(1003, .arr 56 2 (mDg j6_5).length)]⟩ krf (sT (iq_ret (.agg [.id, .id, .id, .id, .sl 5]) [1000,1001,1002,1003] [] (.agg [I 2,S r3.Text,I r5,I r1.At, .p (.sl 5 (mI j6_1))]) krf krf (kr0 (xR 1 krf (xE (sN ⟨[2],[2,1000,1103],[],[]⟩ ⟨[(2, .ptr 2 0)],[(2, .box 24 (bxc (GNode.cs ⟨2,r3.Text,r5,r1.At,j6_1⟩))),(1000, .box 120 [.p (.sl 4 (mTk j6_2)),I j6_3,I j6_4, .tsl 2 (mDg j6_5) 1103]),(1103, .arr 56 2 (mDg j6_5).length)]⟩ krf (sT ?_)))))))
     refine sq_r ?_
     exact hq_ret (.id) [1000,1103] [] krf krf krf krf
    ·refine sR tfm ⟨[10,11,20,21,22],[10,11,1000,1001,1002,1003],[],[]⟩ ⟨[(10, .ptr 10 0),(11, .ptr 11 0),(20, .bsl 1001 3),(21,I 3),(22,I 0)],[(10, .box 24 [I 0,S [],I 0,I 0,zS]),(11, .box 24 [I 2,S r3.Text,I r5,I r1.At,zS]),(1000, .box 118 [.ptr 1002 0]),(1001, .box 124 [.fn (.func 119) [.ptr 1002 0] [], .fn (.func 117) [] [.ptr 1000 0], .fn (.func 120) [.ptr 1002 0] []]),(1002, .box 120 [.p (.sl 4 (mTk a0r.tokens)),I (wi ((wi (a0r.pos+1))+1)),I a0r.length, .tsl 2 (mDg a0r.diags) 1003]),(1003, .arr 56 2 (mDg a0r.diags).length)]⟩ krf (sB (sim_unroll 3 (sR tfm ⟨[10,11,20,21,22,23],[10,11,1000,1001,1002,1003],[],[]⟩ ⟨[(10, .ptr 10 0),(11, .ptr 11 0),(20, .bsl 1001 3),(21,I 3),(22,I 0),(23,B true)],[(10, .box 24 [I 0,S [],I 0,I 0,zS]),(11, .box 24 [I 2,S r3.Text,I r5,I r1.At,zS]),(1000, .box 118 [.ptr 1002 0]),(1001, .box 124 [.fn (.func 119) [.ptr 1002 0] [], .fn (.func 117) [] [.ptr 1000 0], .fn (.func 120) [.ptr 1002 0] []]),(1002, .box 120 [.p (.sl 4 (mTk a0r.tokens)),I (wi ((wi (a0r.pos+1))+1)),I a0r.length, .tsl 2 (mDg a0r.diags) 1003]),(1003, .arr 56 2 (mDg a0r.diags).length)]⟩ krf (sS (sim_condT krf (sK (sN ⟨[10,11,20,21,22],[10,11,1000,1001,1002,1003],[],[]⟩ ⟨[(10, .ptr 10 0),(11, .ptr 11 0),(20, .bsl 1001 3),(21,I 3),(22,I 0)],[(10, .box 24 [I 0,S [],I 0,I 0,zS]),(11, .box 24 [I 2,S r3.Text,I r5,I r1.At,zS]),(1000, .box 118 [.ptr 1002 0]),(1001, .box 124 [.fn (.func 119) [.ptr 1002 0] [], .fn (.func 117) [] [.ptr 1000 0], .fn (.func 120) [.ptr 1002 0] []]),(1002, .box 120 [.p (.sl 4 (mTk a0r.tokens)),I (wi ((wi (a0r.pos+1))+1)),I a0r.length, .tsl 2 (mDg a0r.diags) 1003]),(1003, .arr 56 2 (mDg a0r.diags).length)]⟩ krf ?_)))))))
     refine sS (sB (sR tfm ⟨[10,11,13,20,21,22],[10,11,1000,1001,1002,1003],[],[]⟩ ⟨[(10, .ptr 10 0),(11, .ptr 11 0),(13, .fn (.func 119) [.ptr 1002 0] []),(20, .bsl 1001 3),(21,I 3),(22,I 0)],[(10, .box 24 [I 0,S [],I 0,I 0,zS]),(11, .box 24 [I 2,S r3.Text,I r5,I r1.At,zS]),(1000, .box 118 [.ptr 1002 0]),(1001, .box 124 [.fn (.func 119) [.ptr 1002 0] [], .fn (.func 117) [] [.ptr 1000 0], .fn (.func 120) [.ptr 1002 0] []]),(1002, .box 120 [.p (.sl 4 (mTk a0r.tokens)),I (wi ((wi (a0r.pos+1))+1)),I a0r.length, .tsl 2 (mDg a0r.diags) 1003]),(1003, .arr 56 2 (mDg a0r.diags).length)]⟩ krf (sP ⟨[10,11,13,20,21,22],[10,11,1000,1001,1002,1003],[],[]⟩ ⟨[(10, .ptr 10 0),(11, .ptr 11 0),(13, .fn (.func 119) [.ptr 1002 0] []),(20, .bsl 1001 3),(21,I 3),(22,I 0)],[(10, .box 24 [I 0,S [],I 0,I 0,zS]),(11, .box 24 [I 2,S r3.Text,I r5,I r1.At,zS]),(1000, .box 118 [.ptr 1002 0]),(1001, .box 124 [.fn (.func 119) [.ptr 1002 0] [], .fn (.func 117) [] [.ptr 1000 0], .fn (.func 120) [.ptr 1002 0] []]),(1002, .box 120 [.p (.sl 4 (mTk a0r.tokens)),I (wi ((wi (a0r.pos+1))+1)),I a0r.length, .tsl 2 (mDg a0r.diags) 1003]),(1003, .arr 56 2 (mDg a0r.diags).length)]⟩ krf (sim_weak (weak_pn 24 5 600 [] [(11,4)] krf) (sim_hst [0,1,2] [0,1] [(3,[]),(4,[]),(5,[]),(6,[])] tfm rfl krf krf (h_enter (f:=119) (args:=[.ptr 1002 0]) (dst:=some 29) krf krf (sc_inline (hc:=[(1000, .box 120 [.p (.sl 4 (mTk a0r.tokens)),I (wi ((wi (a0r.pos+1))+1)),I a0r.length, .tsl 2 (mDg a0r.diags) 1001]),(1001, .arr 56 2 (mDg a0r.diags).length)]) (args':=[.ptr 1000 0]) [(1000,1002),(1001,1003)] [] [] Tryz.func119 rfl Tryz.ntmps119 rfl krf krf krf ?_)))))))
     refine sR tfm ⟨[1],[1,1000,1001],[],[]⟩ ⟨[(1, .ptr 1 0)],[(1, .box 118 [.ptr 1000 0]),(1000, .box 120 [.p (.sl 4 (mTk a0r.tokens)),I (wi ((wi (a0r.pos+1))+1)),I a0r.length, .tsl 2 (mDg a0r.diags) 1001]),(1001, .arr 56 2 (mDg a0r.diags).length)]⟩ krf (sR tfm ⟨[1,3],[1,1000,1001],[],[]⟩ ⟨[(1, .ptr 1 0),(3,zS)],[(1, .box 118 [.ptr 1000 0]),(1000, .box 120 [.p (.sl 4 (mTk a0r.tokens)),I (wi ((wi (a0r.pos+1))+1)),I a0r.length, .tsl 2 (mDg a0r.diags) 1001]),(1001, .arr 56 2 (mDg a0r.diags).length)]⟩ krf (sim_bind (fun (j7_1,j7_2,j7_3,j7_4)=>⟨[(3, .tsl 5 (mI j7_1) 600)],[(600, .arr 24 5 (mI j7_1).length),(1000, .box 120 [.p (.sl 4 (mTk j7_2)),I j7_3,I j7_4, .tsl 2 (mDg a0r.diags) 1001]),(1001, .arr 56 2 (mDg a0r.diags).length)]⟩:((List (List PV)) × (List GTk) × Int × Int)→St) ?_ ?_))
     ·refine sS (sG (xR 1 krf ?_))
      refine xs_ro [.ro [.id, .id, .id, .sl 2]] krf (g_p_reader_peek_2_ok n (⟨a0r.tokens,wi ((wi (a0r.pos+1))+1),a0r.length,a0r.diags⟩:GPr)) krf krf (fun _=>by kernel_rfl) (fun r8=>?_)
      refine xR 2 krf (xE (sN ⟨[1,3,4],[1,4,1000,1001],[],[]⟩ ⟨[(1, .ptr 1 0),(3,zS),(4, .ptr 4 0)],[(1, .box 118 [.ptr 1000 0]),(4, .box 123 (bxc (GTk.cs r8))),(1000, .box 120 [.p (.sl 4 (mTk a0r.tokens)),I (wi ((wi (a0r.pos+1))+1)),I a0r.length, .tsl 2 (mDg a0r.diags) 1001]),(1001, .arr 56 2 (mDg a0r.diags).length)]⟩ krf (sB (sP ⟨[1,3,4],[1,4,1000,1001],[],[]⟩ ⟨[(1, .ptr 1 0),(3,zS),(4, .ptr 4 0)],[(1, .box 118 [.ptr 1000 0]),(4, .box 123 (bxc (GTk.cs r8))),(1000, .box 120 [.p (.sl 4 (mTk a0r.tokens)),I (wi ((wi (a0r.pos+1))+1)),I a0r.length, .tsl 2 (mDg a0r.diags) 1001]),(1001, .arr 56 2 (mDg a0r.diags).length)]⟩ krf (sim_weak (weak_pn 24 5 600 [3] [] krf) (sim_loop (fun (l9_1,l9_2,l9_3,l9_4,l9_5,l9_6,l9_7,l9_8)=>⟨[(1, .ptr 1 0),(3, .tsl 5 (mI l9_1) 600),(4, .ptr 4 0)],[(1, .box 118 [.ptr 1000 0]),(4, .box 123 [I l9_5,S l9_6,I l9_7,I l9_8]),(600, .arr 24 5 (mI l9_1).length),(1000, .box 120 [.p (.sl 4 (mTk l9_2)),I l9_3,I l9_4, .tsl 2 (mDg a0r.diags) 1001]),(1001, .arr 56 2 (mDg a0r.diags).length)]⟩:((List (List PV)) × (List GTk) × Int × Int × Int × (List UInt8) × Int × Int)→St) (weak_shr (K:=⟨[1,3,4],[1,4,600,1000,1001],[],[]⟩) krf) ?_))))))
      rintro recl9 ⟨l9_1,l9_2,l9_3,l9_4,l9_5,l9_6,l9_7,l9_8⟩
      show SimE (g_p_reader_item_l9 n a0r recl9 l9_1 l9_2 l9_3 l9_4 l9_5 l9_6 l9_7 l9_8) _ _ _ _ _ _
      unfold g_p_reader_item_l9
      refine sS (sim_bind (fun j10=>⟨[(1, .ptr 1 0),(3, .tsl 5 (mI l9_1) 600),(4, .ptr 4 0),(14,B j10)],[(1, .box 118 [.ptr 1000 0]),(4, .box 123 [I l9_5,S l9_6,I l9_7,I l9_8]),(600, .arr 24 5 (mI l9_1).length),(1000, .box 120 [.p (.sl 4 (mTk l9_2)),I l9_3,I l9_4, .tsl 2 (mDg a0r.diags) 1001]),(1001, .arr 56 2 (mDg a0r.diags).length)]⟩:Bool→St) ?_ ?_)
      ·refine sG (xR 4 krf ?_)
       refine xS (eqI l9_5 1) (fun h11=>?_) (fun h11=>?_)
       ·refine xO (want_tt krf h11) krf (xR 1 krf ?_)
        refine xC [] krf (g_p_isAttr_ok n l9_6) krf krf (fun _=>by kernel_rfl) (fun r12=>?_)
        refine xR 1 krf (xE ?_)
        exact nq_n r12 ⟨[1,3,4,14],[1,4,600,1000,1001],[],[]⟩ krf
       ·refine xN (want_tf krf h11) krf (xR 3 krf (xE ?_))
        exact nq_n false ⟨[1,3,4,14],[1,4,600,1000,1001],[],[]⟩ krf
      ·rintro j10
       refine sC j10 krf ?_ ?_
       ·refine sK (sN ⟨[1,3,4],[1,4,600,1000,1001],[],[]⟩ ⟨[(1, .ptr 1 0),(3, .tsl 5 (mI l9_1) 600),(4, .ptr 4 0)],[(1, .box 118 [.ptr 1000 0]),(4, .box 123 [I l9_5,S l9_6,I l9_7,I l9_8]),(600, .arr 24 5 (mI l9_1).length),(1000, .box 120 [.p (.sl 4 (mTk l9_2)),I l9_3,I l9_4, .tsl 2 (mDg a0r.diags) 1001]),(1001, .arr 56 2 (mDg a0r.diags).length)]⟩ krf (sS (sB (sR tfm ⟨[1,3,4],[1,4,600,1000,1001],[],[]⟩ ⟨[(1, .ptr 1 0),(3, .tsl 5 (mI l9_1) 600),(4, .ptr 4 0)],[(1, .box 118 [.ptr 1000 0]),(4, .box 123 [I l9_5,S l9_6,I l9_7,I l9_8]),(600, .arr 24 5 (mI l9_1).length),(1000, .box 120 [.p (.sl 4 (mTk l9_2)),I (wi (l9_3+1)),I l9_4, .tsl 2 (mDg a0r.diags) 1001]),(1001, .arr 56 2 (mDg a0r.diags).length)]⟩ krf (sG (xR 6 krf (xs_inline [(1000, .box 118 [.ptr 1002 0]),(1001, .box 124 [.fn (.func 126) [] [.ptr 1000 0]]),(1002, .box 120 [.p (.sl 4 (mTk l9_2)),I (wi (l9_3+1)),I l9_4, .tsl 2 (mDg a0r.diags) 1003]),(1003, .arr 56 2 (mDg a0r.diags).length)] [.agg [I l9_5,S l9_6,I l9_7,I l9_8],I 3,S l9_6,I 0, .bsl 1001 1] [(1000,1),(1001,29),(1002,1000),(1003,1001)] [] [] krf Tryz.func80 rfl Tryz.ntmps80 rfl krf krf krf ?_)))))))
        refine sR tfm ⟨[1,2,3,4,5,10],[5,10,1000,1001,1002,1003],[],[]⟩ ⟨[(1,I 3),(2,S l9_6),(3,I 0),(4, .bsl 1001 1),(5, .ptr 5 0),(10, .ptr 10 0)],[(5, .box 123 [I l9_5,S l9_6,I l9_7,I l9_8]),(10, .box 24 [I 0,S [],I 0,I 0,zS]),(1000, .box 118 [.ptr 1002 0]),(1001, .box 124 [.fn (.func 126) [] [.ptr 1000 0]]),(1002, .box 120 [.p (.sl 4 (mTk l9_2)),I (wi (l9_3+1)),I l9_4, .tsl 2 (mDg a0r.diags) 1003]),(1003, .arr 56 2 (mDg a0r.diags).length)]⟩ krf (sR tfm ⟨[4,10,11],[10,11,1000,1001,1002,1003],[],[]⟩ ⟨[(4, .bsl 1001 1),(10, .ptr 10 0),(11, .ptr 11 0)],[(10, .box 24 [I 0,S [],I 0,I 0,zS]),(11, .box 24 [I 3,S l9_6,I 0,I l9_8,zS]),(1000, .box 118 [.ptr 1002 0]),(1001, .box 124 [.fn (.func 126) [] [.ptr 1000 0]]),(1002, .box 120 [.p (.sl 4 (mTk l9_2)),I (wi (l9_3+1)),I l9_4, .tsl 2 (mDg a0r.diags) 1003]),(1003, .arr 56 2 (mDg a0r.diags).length)]⟩ krf (sim_bind (fun (j13_1,j13_2,j13_3,j13_4)=>⟨[(10, .ptr 10 0),(11, .ptr 11 0)],[(10, .box 24 [I 0,S [],I 0,I 0,zS]),(11, .box 24 [I 3,S l9_6,I 0,I l9_8, .tsl 5 (mI j13_1) 600]),(600, .arr 24 5 (mI j13_1).length),(1000, .box 118 [.ptr 1002 0]),(1001, .box 124 [.fn (.func 126) [] [.ptr 1000 0]]),(1002, .box 120 [.p (.sl 4 (mTk j13_2)),I j13_3,I j13_4, .tsl 2 (mDg a0r.diags) 1003]),(1003, .arr 56 2 (mDg a0r.diags).length)]⟩:((List (List PV)) × (List GTk) × Int × Int)→St) ?_ ?_))
        ·refine sR tfm ⟨[10,11,20,21,22],[10,11,1000,1001,1002,1003],[],[]⟩ ⟨[(10, .ptr 10 0),(11, .ptr 11 0),(20, .bsl 1001 1),(21,I 1),(22,I 0)],[(10, .box 24 [I 0,S [],I 0,I 0,zS]),(11, .box 24 [I 3,S l9_6,I 0,I l9_8,zS]),(1000, .box 118 [.ptr 1002 0]),(1001, .box 124 [.fn (.func 126) [] [.ptr 1000 0]]),(1002, .box 120 [.p (.sl 4 (mTk l9_2)),I (wi (l9_3+1)),I l9_4, .tsl 2 (mDg a0r.diags) 1003]),(1003, .arr 56 2 (mDg a0r.diags).length)]⟩ krf (sB (sim_unroll 1 (sR tfm ⟨[10,11,20,21,22,23],[10,11,1000,1001,1002,1003],[],[]⟩ ⟨[(10, .ptr 10 0),(11, .ptr 11 0),(20, .bsl 1001 1),(21,I 1),(22,I 0),(23,B true)],[(10, .box 24 [I 0,S [],I 0,I 0,zS]),(11, .box 24 [I 3,S l9_6,I 0,I l9_8,zS]),(1000, .box 118 [.ptr 1002 0]),(1001, .box 124 [.fn (.func 126) [] [.ptr 1000 0]]),(1002, .box 120 [.p (.sl 4 (mTk l9_2)),I (wi (l9_3+1)),I l9_4, .tsl 2 (mDg a0r.diags) 1003]),(1003, .arr 56 2 (mDg a0r.diags).length)]⟩ krf (sS (sim_condT krf (sK (sN ⟨[10,11,20,21,22],[10,11,1000,1001,1002,1003],[],[]⟩ ⟨[(10, .ptr 10 0),(11, .ptr 11 0),(20, .bsl 1001 1),(21,I 1),(22,I 0)],[(10, .box 24 [I 0,S [],I 0,I 0,zS]),(11, .box 24 [I 3,S l9_6,I 0,I l9_8,zS]),(1000, .box 118 [.ptr 1002 0]),(1001, .box 124 [.fn (.func 126) [] [.ptr 1000 0]]),(1002, .box 120 [.p (.sl 4 (mTk l9_2)),I (wi (l9_3+1)),I l9_4, .tsl 2 (mDg a0r.diags) 1003]),(1003, .arr 56 2 (mDg a0r.diags).length)]⟩ krf ?_)))))))
         refine sS (sB (sR tfm ⟨[10,11,13,20,21,22],[10,11,1000,1001,1002,1003],[],[]⟩ ⟨[(10, .ptr 10 0),(11, .ptr 11 0),(13, .fn (.func 126) [] [.ptr 1000 0]),(20, .bsl 1001 1),(21,I 1),(22,I 0)],[(10, .box 24 [I 0,S [],I 0,I 0,zS]),(11, .box 24 [I 3,S l9_6,I 0,I l9_8,zS]),(1000, .box 118 [.ptr 1002 0]),(1001, .box 124 [.fn (.func 126) [] [.ptr 1000 0]]),(1002, .box 120 [.p (.sl 4 (mTk l9_2)),I (wi (l9_3+1)),I l9_4, .tsl 2 (mDg a0r.diags) 1003]),(1003, .arr 56 2 (mDg a0r.diags).length)]⟩ krf (sP ⟨[10,11,13,20,21,22],[10,11,1000,1001,1002,1003],[],[]⟩ ⟨[(10, .ptr 10 0),(11, .ptr 11 0),(13, .fn (.func 126) [] [.ptr 1000 0]),(20, .bsl 1001 1),(21,I 1),(22,I 0)],[(10, .box 24 [I 0,S [],I 0,I 0,zS]),(11, .box 24 [I 3,S l9_6,I 0,I l9_8,zS]),(1000, .box 118 [.ptr 1002 0]),(1001, .box 124 [.fn (.func 126) [] [.ptr 1000 0]]),(1002, .box 120 [.p (.sl 4 (mTk l9_2)),I (wi (l9_3+1)),I l9_4, .tsl 2 (mDg a0r.diags) 1003]),(1003, .arr 56 2 (mDg a0r.diags).length)]⟩ krf (sim_weak (weak_pn 24 5 600 [] [(11,4)] krf) (sim_hst [0,1,2] [0,1] [(3,[]),(4,[]),(5,[]),(6,[])] tfm rfl krf krf (h_enter (f:=126) (args:=[.ptr 1000 0]) (dst:=some 29) krf krf (sc_inline (hc:=[(1000, .box 118 [.ptr 1001 0]),(1001, .box 120 [.p (.sl 4 (mTk l9_2)),I (wi (l9_3+1)),I l9_4, .tsl 2 (mDg a0r.diags) 1002]),(1002, .arr 56 2 (mDg a0r.diags).length)]) (args':=[.ptr 1000 0]) [(1000,1000),(1001,1002),(1002,1003)] [] [] Tryz.func126 rfl Tryz.ntmps126 rfl krf krf krf ?_)))))))
         refine sR tfm ⟨[0],[1000,1001,1002],[],[]⟩ ⟨[(0, .ptr 1000 0)],[(1000, .box 118 [.ptr 1001 0]),(1001, .box 120 [.p (.sl 4 (mTk l9_2)),I (wi (l9_3+1)),I l9_4, .tsl 2 (mDg a0r.diags) 1002]),(1002, .arr 56 2 (mDg a0r.diags).length)]⟩ krf (sS (sG (xR 1 krf (xs_enter (f:=127) (args:=[.ptr 1001 0, .p (.val (.func (.func 116) #[] #[]))]) krf krf krf ?_))))
         refine sc_hold 1001 3 1002 56 2 (mDg a0r.diags).length (mDg a0r.diags) ⟨[0,2],[1000,1001],[],[]⟩ krf krf rfl (fun _ _ _=>by kernel_rfl) (fun hu14w hu14l hu14c=>?_)
         refine sc_heap [(1000,1001)] [] [] (g_p_reader_values_ok n (⟨l9_2,wi (l9_3+1),l9_4,[]⟩:GPr) hu14w hu14l hu14c) krf krf krf (fun _=>by kernel_rfl) (fun _=>by kernel_rfl) (fun r14=>?_)
         refine k_hold _ rfl krf krf (kr0 (xR 1 krf (xE (sN ⟨[1],[1000,1001,1002],[],[]⟩ ⟨[(1, .p (.sl 5 (mI r14.1)))],[(1000, .box 118 [.ptr 1001 0]),(1001, .box 120 [.p (.sl 4 (mTk r14.2.tokens)),I r14.2.pos,I r14.2.length, .tsl 2 (mDg a0r.diags) 1002]),(1002, .arr 56 2 (mDg a0r.diags).length)]⟩ krf (sT (iq_ret (.id) [1000,1001,1002] [] (.p (.sl 5 (mI r14.1))) krf krf (kh [0,1] krf (lates_cons (late_read (.ptr 11 4) krf rfl) (lates_cons (late_tsl (S:=5) (t:=600) (ty:=24) (es:=mI []) krf krf rfl) (lates_nil))) krf ?_)))))))
         refine h_if [] rfl krf krf (aop_appL (e:=24) (S:=5) (by_:=64) (enc:=idc) (tk:=600) (l:=[]) (l2:=r14.1) (xv:=.p (.sl 5 (mI r14.1))) rfl krf krf rfl krf krf krf krf) (fun _=>lates_nil) (h_op [] krf krf (lates_nil) (h_op [] krf krf (lates_nil) (h_end (bq_n (sN ⟨[10,11,20,21,22],[10,11,600,1000,1001,1002,1003],[],[]⟩ ⟨[(10, .ptr 10 0),(11, .ptr 11 0),(20, .bsl 1001 1),(21,I 1),(22,I 0)],[(10, .box 24 [I 0,S [],I 0,I 0,zS]),(11, .box 24 [I 3,S l9_6,I 0,I l9_8, .tsl 5 (mI ([]++r14.1)) 600]),(600, .arr 24 5 (mI ([]++r14.1)).length),(1000, .box 118 [.ptr 1002 0]),(1001, .box 124 [.fn (.func 126) [] [.ptr 1000 0]]),(1002, .box 120 [.p (.sl 4 (mTk r14.2.tokens)),I r14.2.pos,I r14.2.length, .tsl 2 (mDg a0r.diags) 1003]),(1003, .arr 56 2 (mDg a0r.diags).length)]⟩ krf (sL tfm krf (ru_n ⟨[10,11,20,21,22],[10,11,600,1000,1001,1002,1003],[],[]⟩ ⟨[(10, .ptr 10 0),(11, .ptr 11 0),(20, .bsl 1001 1),(21,I 1),(22,I 1)],[(10, .box 24 [I 0,S [],I 0,I 0,zS]),(11, .box 24 [I 3,S l9_6,I 0,I l9_8, .tsl 5 (mI ([]++r14.1)) 600]),(600, .arr 24 5 (mI ([]++r14.1)).length),(1000, .box 118 [.ptr 1002 0]),(1001, .box 124 [.fn (.func 126) [] [.ptr 1000 0]]),(1002, .box 120 [.p (.sl 4 (mTk r14.2.tokens)),I r14.2.pos,I r14.2.length, .tsl 2 (mDg a0r.diags) 1003]),(1003, .arr 56 2 (mDg a0r.diags).length)]⟩ krf ?_)))))))
         refine sR tfm ⟨[10,11,20,21,22,23],[10,11,600,1000,1001,1002,1003],[],[]⟩ ⟨[(10, .ptr 10 0),(11, .ptr 11 0),(20, .bsl 1001 1),(21,I 1),(22,I 1),(23,B false)],[(10, .box 24 [I 0,S [],I 0,I 0,zS]),(11, .box 24 [I 3,S l9_6,I 0,I l9_8, .tsl 5 (mI ([]++r14.1)) 600]),(600, .arr 24 5 (mI ([]++r14.1)).length),(1000, .box 118 [.ptr 1002 0]),(1001, .box 124 [.fn (.func 126) [] [.ptr 1000 0]]),(1002, .box 120 [.p (.sl 4 (mTk r14.2.tokens)),I r14.2.pos,I r14.2.length, .tsl 2 (mDg a0r.diags) 1003]),(1003, .arr 56 2 (mDg a0r.diags).length)]⟩ krf (sS (sim_condF krf (sim_exit (sq_x (ru_x (bq_hit ?_))))))
         exact nq_n ([]++r14.1,r14.2.tokens,r14.2.pos,r14.2.length) ⟨[10,11],[10,11,600,1000,1001,1002,1003],[],[]⟩ krf
        ·rintro ⟨j13_1,j13_2,j13_3,j13_4⟩
         refine sR tfm ⟨[10],[10,600,1000,1001,1002,1003],[],[]⟩ ⟨[(10, .ptr 10 0)],[(10, .box 24 [I 3,S l9_6,I 0,I l9_8, .tsl 5 (mI j13_1) 600]),(600, .arr 24 5 (mI j13_1).length),(1000, .box 118 [.ptr 1002 0]),(1001, .box 124 [.fn (.func 126) [] [.ptr 1000 0]]),(1002, .box 120 [.p (.sl 4 (mTk j13_2)),I j13_3,I j13_4, .tsl 2 (mDg a0r.diags) 1003]),(1003, .arr 56 2 (mDg a0r.diags).length)]⟩ krf (sT (iq_ret (.agg [.id, .id, .id, .id, .sl 5]) [1000,1001,1002,1003] [] (.agg [I 3,S l9_6,I 0,I l9_8, .p (.sl 5 (mI j13_1))]) krf krf (kr0 (xR 1 krf (xF krf krf (aop_app (e:=24) (S:=5) (by_:=64) (enc:=idc) (tk:=600) (l:=l9_1) (l2:=[GNode.cs (⟨3,l9_6,0,l9_8,j13_1⟩:GNode)]) (xv:=.tsl 5 (mI [GNode.cs (⟨3,l9_6,0,l9_8,j13_1⟩:GNode)]) 31) rfl krf krf rfl krf krf krf rfl krf) (xR 1 krf (xE ?_)))))))
         refine bq_n (sN ⟨[1,3,4],[1,4,600,1000,1001],[],[]⟩ ⟨[(1, .ptr 1 0),(3, .tsl 5 (mI (l9_1++[GNode.cs (⟨3,l9_6,0,l9_8,j13_1⟩:GNode)])) 600),(4, .ptr 4 0)],[(1, .box 118 [.ptr 1000 0]),(4, .box 123 [I l9_5,S l9_6,I l9_7,I l9_8]),(600, .arr 24 5 (mI (l9_1++[GNode.cs (⟨3,l9_6,0,l9_8,j13_1⟩:GNode)])).length),(1000, .box 120 [.p (.sl 4 (mTk j13_2)),I j13_3,I j13_4, .tsl 2 (mDg a0r.diags) 1001]),(1001, .arr 56 2 (mDg a0r.diags).length)]⟩ krf (sS (sR tfm ⟨[1,3,33],[1,600,1000,1001],[],[]⟩ ⟨[(1, .ptr 1 0),(3, .tsl 5 (mI (l9_1++[GNode.cs (⟨3,l9_6,0,l9_8,j13_1⟩:GNode)])) 600),(33, .agg [I l9_5,S l9_6,I l9_7,I l9_8])],[(1, .box 118 [.ptr 1000 0]),(600, .arr 24 5 (mI (l9_1++[GNode.cs (⟨3,l9_6,0,l9_8,j13_1⟩:GNode)])).length),(1000, .box 120 [.p (.sl 4 (mTk j13_2)),I j13_3,I j13_4, .tsl 2 (mDg a0r.diags) 1001]),(1001, .arr 56 2 (mDg a0r.diags).length)]⟩ krf (sL tfm krf (sN ⟨[1,3,4],[1,4,600,1000,1001],[],[]⟩ ⟨[(1, .ptr 1 0),(3, .tsl 5 (mI (l9_1++[GNode.cs (⟨3,l9_6,0,l9_8,j13_1⟩:GNode)])) 600),(4, .ptr 4 0)],[(1, .box 118 [.ptr 1000 0]),(4, .box 123 [I l9_5,S l9_6,I l9_7,I l9_8]),(600, .arr 24 5 (mI (l9_1++[GNode.cs (⟨3,l9_6,0,l9_8,j13_1⟩:GNode)])).length),(1000, .box 120 [.p (.sl 4 (mTk j13_2)),I j13_3,I j13_4, .tsl 2 (mDg a0r.diags) 1001]),(1001, .arr 56 2 (mDg a0r.diags).length)]⟩ krf (sG (xR 1 krf ?_)))))))
         refine xs_ro [.ro [.id, .id, .id, .sl 2]] krf (g_p_reader_peek_2_ok n (⟨j13_2,j13_3,j13_4,a0r.diags⟩:GPr)) krf krf (fun _=>by kernel_rfl) (fun r15=>?_)
         refine xR 1 krf (xE ?_)
         exact kq_n (l9_1++[GNode.cs (⟨3,l9_6,0,l9_8,j13_1⟩:GNode)],j13_2,j13_3,j13_4,r15.Kind,r15.Text,r15.N,r15.At) ⟨[1,3,4],[1,4,600,1000,1001],[],[]⟩ krf
       ·refine sim_exit (sq_x (kq_x (bq_hit ?_)))
        exact nq_n (l9_1,l9_2,l9_3,l9_4) ⟨[3],[600,1000,1001],[],[]⟩ krf
     ·rintro ⟨j7_1,j7_2,j7_3,j7_4⟩
      refine sR tfm ⟨[2],[600,1000,1001],[],[]⟩ ⟨[(2, .tsl 5 (mI j7_1) 600)],[(600, .arr 24 5 (mI j7_1).length),(1000, .box 120 [.p (.sl 4 (mTk j7_2)),I j7_3,I j7_4, .tsl 2 (mDg a0r.diags) 1001]),(1001, .arr 56 2 (mDg a0r.diags).length)]⟩ krf (sT (iq_ret (.sl 5) [1000,1001] [] (.p (.sl 5 (mI j7_1))) krf krf (kh [0,1] krf (lates_cons (late_read (.ptr 11 4) krf rfl) (lates_cons (late_tsl (S:=5) (t:=600) (ty:=24) (es:=mI []) krf krf rfl) (lates_nil))) krf (h_if [] rfl krf krf (aop_appL (e:=24) (S:=5) (by_:=64) (enc:=idc) (tk:=600) (l:=[]) (l2:=j7_1) (xv:=.p (.sl 5 (mI j7_1))) rfl krf krf rfl krf krf krf krf) (fun _=>lates_nil) (h_op [] krf krf (lates_nil) (h_op [] krf krf (lates_nil) (h_end ?_)))))))
      refine bq_n (sN ⟨[10,11,20,21,22],[10,11,600,1000,1001,1002,1003],[],[]⟩ ⟨[(10, .ptr 10 0),(11, .ptr 11 0),(20, .bsl 1001 3),(21,I 3),(22,I 0)],[(10, .box 24 [I 0,S [],I 0,I 0,zS]),(11, .box 24 [I 2,S r3.Text,I r5,I r1.At, .tsl 5 (mI ([]++j7_1)) 600]),(600, .arr 24 5 (mI ([]++j7_1)).length),(1000, .box 118 [.ptr 1002 0]),(1001, .box 124 [.fn (.func 119) [.ptr 1002 0] [], .fn (.func 117) [] [.ptr 1000 0], .fn (.func 120) [.ptr 1002 0] []]),(1002, .box 120 [.p (.sl 4 (mTk j7_2)),I j7_3,I j7_4, .tsl 2 (mDg a0r.diags) 1003]),(1003, .arr 56 2 (mDg a0r.diags).length)]⟩ krf (sL tfm krf (ru_n ⟨[10,11,20,21,22],[10,11,600,1000,1001,1002,1003],[],[]⟩ ⟨[(10, .ptr 10 0),(11, .ptr 11 0),(20, .bsl 1001 3),(21,I 3),(22,I 1)],[(10, .box 24 [I 0,S [],I 0,I 0,zS]),(11, .box 24 [I 2,S r3.Text,I r5,I r1.At, .tsl 5 (mI ([]++j7_1)) 600]),(600, .arr 24 5 (mI ([]++j7_1)).length),(1000, .box 118 [.ptr 1002 0]),(1001, .box 124 [.fn (.func 119) [.ptr 1002 0] [], .fn (.func 117) [] [.ptr 1000 0], .fn (.func 120) [.ptr 1002 0] []]),(1002, .box 120 [.p (.sl 4 (mTk j7_2)),I j7_3,I j7_4, .tsl 2 (mDg a0r.diags) 1003]),(1003, .arr 56 2 (mDg a0r.diags).length)]⟩ krf (sR tfm ⟨[10,11,20,21,22,23],[10,11,600,1000,1001,1002,1003],[],[]⟩ ⟨[(10, .ptr 10 0),(11, .ptr 11 0),(20, .bsl 1001 3),(21,I 3),(22,I 1),(23,B true)],[(10, .box 24 [I 0,S [],I 0,I 0,zS]),(11, .box 24 [I 2,S r3.Text,I r5,I r1.At, .tsl 5 (mI ([]++j7_1)) 600]),(600, .arr 24 5 (mI ([]++j7_1)).length),(1000, .box 118 [.ptr 1002 0]),(1001, .box 124 [.fn (.func 119) [.ptr 1002 0] [], .fn (.func 117) [] [.ptr 1000 0], .fn (.func 120) [.ptr 1002 0] []]),(1002, .box 120 [.p (.sl 4 (mTk j7_2)),I j7_3,I j7_4, .tsl 2 (mDg a0r.diags) 1003]),(1003, .arr 56 2 (mDg a0r.diags).length)]⟩ krf (sS (sim_condT krf (sK ?_)))))))
      refine sN ⟨[10,11,20,21,22],[10,11,600,1000,1001,1002,1003],[],[]⟩ ⟨[(10, .ptr 10 0),(11, .ptr 11 0),(20, .bsl 1001 3),(21,I 3),(22,I 1)],[(10, .box 24 [I 0,S [],I 0,I 0,zS]),(11, .box 24 [I 2,S r3.Text,I r5,I r1.At, .tsl 5 (mI ([]++j7_1)) 600]),(600, .arr 24 5 (mI ([]++j7_1)).length),(1000, .box 118 [.ptr 1002 0]),(1001, .box 124 [.fn (.func 119) [.ptr 1002 0] [], .fn (.func 117) [] [.ptr 1000 0], .fn (.func 120) [.ptr 1002 0] []]),(1002, .box 120 [.p (.sl 4 (mTk j7_2)),I j7_3,I j7_4, .tsl 2 (mDg a0r.diags) 1003]),(1003, .arr 56 2 (mDg a0r.diags).length)]⟩ krf (sS (sB (sR tfm ⟨[10,11,13,20,21,22],[10,11,600,1000,1001,1002,1003],[],[]⟩ ⟨[(10, .ptr 10 0),(11, .ptr 11 0),(13, .fn (.func 117) [] [.ptr 1000 0]),(20, .bsl 1001 3),(21,I 3),(22,I 1)],[(10, .box 24 [I 0,S [],I 0,I 0,zS]),(11, .box 24 [I 2,S r3.Text,I r5,I r1.At, .tsl 5 (mI ([]++j7_1)) 600]),(600, .arr 24 5 (mI ([]++j7_1)).length),(1000, .box 118 [.ptr 1002 0]),(1001, .box 124 [.fn (.func 119) [.ptr 1002 0] [], .fn (.func 117) [] [.ptr 1000 0], .fn (.func 120) [.ptr 1002 0] []]),(1002, .box 120 [.p (.sl 4 (mTk j7_2)),I j7_3,I j7_4, .tsl 2 (mDg a0r.diags) 1003]),(1003, .arr 56 2 (mDg a0r.diags).length)]⟩ krf (sim_hst [0,1,2] [0,1] [(3,[]),(4,[]),(5,[]),(6,[])] tfm rfl krf krf (h_enter (f:=117) (args:=[.ptr 1000 0]) (dst:=some 29) krf krf (sc_inline (hc:=[(1000, .box 118 [.ptr 1001 0]),(1001, .box 120 [.p (.sl 4 (mTk j7_2)),I j7_3,I j7_4, .tsl 2 (mDg a0r.diags) 1002]),(1002, .arr 56 2 (mDg a0r.diags).length)]) (args':=[.ptr 1000 0]) [(1000,1000),(1001,1002),(1002,1003)] [] [] Tryz.func117 rfl Tryz.ntmps117 rfl krf krf krf (sR tfm ⟨[0],[1000,1001,1002],[],[]⟩ ⟨[(0, .ptr 1000 0)],[(1000, .box 118 [.ptr 1001 0]),(1001, .box 120 [.p (.sl 4 (mTk j7_2)),I j7_3,I j7_4, .tsl 2 (mDg a0r.diags) 1002]),(1002, .arr 56 2 (mDg a0r.diags).length)]⟩ krf ?_)))))))
      refine sS (sim_hst [0] [0] [(1,[]),(2,[])] tfm rfl krf krf (h_enter (f:=118) (args:=[S [123]]) (dst:=some 3) krf krf (sc_inline (hc:=[]) (args':=[S [123]]) [(1,401)] [] [] Tryz.func118 rfl Tryz.ntmps118 rfl krf krf krf (sR tfm ⟨[1],[1],[],[]⟩ ⟨[(1, .ptr 1 0)],[(1, .box 9 [S [123]])]⟩ krf (sR tfm ⟨[2],[1],[],[]⟩ ⟨[(2, .fn (.func 125) [] [.ptr 1 0])],[(1, .box 9 [S [123]])]⟩ krf (sT (iq_ret (.id) [1] [] (.fn (.func 125) [] [.ptr 1 0]) krf krf ?_)))))))
      refine kh [0] krf (lates_cons (late_read (.ptr 1001 0) krf rfl) (lates_nil)) krf (h_enter (f:=113) (args:=[.ptr 1001 0, .fn (.func 125) [] [.ptr 401 0]]) (dst:=some 4) krf krf (sc_inline (hc:=[(1000, .box 9 [S [123]]),(1001, .box 120 [.p (.sl 4 (mTk j7_2)),I j7_3,I j7_4, .tsl 2 (mDg a0r.diags) 1002]),(1002, .arr 56 2 (mDg a0r.diags).length)]) (args':=[.ptr 1001 0, .fn (.func 125) [] [.ptr 1000 0]]) [(1000,401),(1001,1001),(1002,1002)] [] [] Tryz.func113 rfl Tryz.ntmps113 rfl krf krf krf (sR tfm ⟨[0,1,4],[4,1000,1001,1002],[],[]⟩ ⟨[(0, .ptr 1001 0),(1, .fn (.func 125) [] [.ptr 1000 0]),(4, .ptr 4 0)],[(4, .box 123 [I 0,S [],I 0,I 0]),(1000, .box 9 [S [123]]),(1001, .box 120 [.p (.sl 4 (mTk j7_2)),I j7_3,I j7_4, .tsl 2 (mDg a0r.diags) 1002]),(1002, .arr 56 2 (mDg a0r.diags).length)]⟩ krf (sS (sG (xR 1 krf ?_))))))
      refine xs_ro [.ro [.id, .id, .id, .sl 2]] krf (g_p_reader_peek_2_ok n (⟨j7_2,j7_3,j7_4,a0r.diags⟩:GPr)) krf krf (fun _=>by kernel_rfl) (fun r16=>?_)
      refine xR 2 krf (xE (sN ⟨[0,1,4,5],[4,5,1000,1001,1002],[],[]⟩ ⟨[(0, .ptr 1001 0),(1, .fn (.func 125) [] [.ptr 1000 0]),(4, .ptr 4 0),(5, .ptr 5 0)],[(4, .box 123 [I 0,S [],I 0,I 0]),(5, .box 123 (bxc (GTk.cs r16))),(1000, .box 9 [S [123]]),(1001, .box 120 [.p (.sl 4 (mTk j7_2)),I j7_3,I j7_4, .tsl 2 (mDg a0r.diags) 1002]),(1002, .arr 56 2 (mDg a0r.diags).length)]⟩ krf (sim_cps (fun _=>⟨[(0, .ptr 1001 0),(4, .ptr 4 0),(5, .ptr 5 0)],[(4, .box 123 [I 0,S [],I 0,I 0]),(5, .box 123 (bxc (GTk.cs r16))),(1000, .box 9 [S [123]]),(1001, .box 120 [.p (.sl 4 (mTk j7_2)),I j7_3,I j7_4, .tsl 2 (mDg a0r.diags) 1002]),(1002, .arr 56 2 (mDg a0r.diags).length)]⟩:Unit→St) (fun _=>g_p_reader_item_j17 n a0r r1 r3 r5 j7_1 j7_2 j7_3 j7_4) ?_ ?_)))
      ·rintro _
       show SimE (g_p_reader_item_j17 n a0r r1 r3 r5 j7_1 j7_2 j7_3 j7_4) _ _ _ _ _ _
       unfold g_p_reader_item_j17
       refine sR tfm ⟨[4,5],[4,5,1000,1001,1002],[],[]⟩ ⟨[(4, .ptr 4 0),(5, .ptr 5 0)],[(4, .box 123 [I 0,S [],I 0,I 0]),(5, .box 123 (bxc (GTk.cs r16))),(1000, .box 9 [S [123]]),(1001, .box 120 [.p (.sl 4 (mTk j7_2)),I (wi (j7_3+1)),I j7_4, .tsl 2 (mDg a0r.diags) 1002]),(1002, .arr 56 2 (mDg a0r.diags).length)]⟩ krf (sR tfm ⟨[4],[4,1000,1001,1002],[],[]⟩ ⟨[(4, .ptr 4 0)],[(4, .box 123 (bxc (GTk.cs r16))),(1000, .box 9 [S [123]]),(1001, .box 120 [.p (.sl 4 (mTk j7_2)),I (wi (j7_3+1)),I j7_4, .tsl 2 (mDg a0r.diags) 1002]),(1002, .arr 56 2 (mDg a0r.diags).length)]⟩ krf (sT (iq_ret (.id) [1000,1001,1002] [] (.agg [I r16.Kind,S r16.Text,I r16.N,I r16.At]) krf krf (kh [] krf (lates_nil) krf (h_end (sN ⟨[],[1000,1001,1002],[],[]⟩ ⟨[],[(1000, .box 118 [.ptr 1001 0]),(1001, .box 120 [.p (.sl 4 (mTk j7_2)),I (wi (j7_3+1)),I j7_4, .tsl 2 (mDg a0r.diags) 1002]),(1002, .arr 56 2 (mDg a0r.diags).length)]⟩ krf (sR tfm ⟨[1],[1000,1001,1002],[],[]⟩ ⟨[(1,zS)],[(1000, .box 118 [.ptr 1001 0]),(1001, .box 120 [.p (.sl 4 (mTk j7_2)),I (wi (j7_3+1)),I j7_4, .tsl 2 (mDg a0r.diags) 1002]),(1002, .arr 56 2 (mDg a0r.diags).length)]⟩ krf ?_)))))))
       refine sT (iq_ret (.sl 5) [1000,1001,1002] [] (.p (.sl 5 (mI []))) krf krf (kh [0,1] krf (lates_cons (late_read (.ptr 11 4) krf rfl) (lates_cons (late_tsl (S:=5) (t:=600) (ty:=24) (es:=mI ([]++j7_1)) krf krf rfl) (lates_nil))) krf (h_if [] rfl krf krf (aop_appL (e:=24) (S:=5) (by_:=64) (enc:=idc) (tk:=600) (l:=[]++j7_1) (l2:=[]) (xv:=.p (.sl 5 (mI []))) rfl krf krf rfl krf krf krf krf) (fun _=>lates_nil) (h_op [] krf krf (lates_nil) (h_op [] krf krf (lates_nil) (h_end (bq_n ?_)))))))
       refine sN ⟨[10,11,20,21,22],[10,11,600,1000,1001,1002,1003],[],[]⟩ ⟨[(10, .ptr 10 0),(11, .ptr 11 0),(20, .bsl 1001 3),(21,I 3),(22,I 1)],[(10, .box 24 [I 0,S [],I 0,I 0,zS]),(11, .box 24 [I 2,S r3.Text,I r5,I r1.At, .tsl 5 (mI (([]++j7_1)++[])) 600]),(600, .arr 24 5 (mI (([]++j7_1)++[])).length),(1000, .box 118 [.ptr 1002 0]),(1001, .box 124 [.fn (.func 119) [.ptr 1002 0] [], .fn (.func 117) [] [.ptr 1000 0], .fn (.func 120) [.ptr 1002 0] []]),(1002, .box 120 [.p (.sl 4 (mTk j7_2)),I (wi (j7_3+1)),I j7_4, .tsl 2 (mDg a0r.diags) 1003]),(1003, .arr 56 2 (mDg a0r.diags).length)]⟩ krf (sL tfm krf (ru_n ⟨[10,11,20,21,22],[10,11,600,1000,1001,1002,1003],[],[]⟩ ⟨[(10, .ptr 10 0),(11, .ptr 11 0),(20, .bsl 1001 3),(21,I 3),(22,I 2)],[(10, .box 24 [I 0,S [],I 0,I 0,zS]),(11, .box 24 [I 2,S r3.Text,I r5,I r1.At, .tsl 5 (mI (([]++j7_1)++[])) 600]),(600, .arr 24 5 (mI (([]++j7_1)++[])).length),(1000, .box 118 [.ptr 1002 0]),(1001, .box 124 [.fn (.func 119) [.ptr 1002 0] [], .fn (.func 117) [] [.ptr 1000 0], .fn (.func 120) [.ptr 1002 0] []]),(1002, .box 120 [.p (.sl 4 (mTk j7_2)),I (wi (j7_3+1)),I j7_4, .tsl 2 (mDg a0r.diags) 1003]),(1003, .arr 56 2 (mDg a0r.diags).length)]⟩ krf (sR tfm ⟨[10,11,20,21,22,23],[10,11,600,1000,1001,1002,1003],[],[]⟩ ⟨[(10, .ptr 10 0),(11, .ptr 11 0),(20, .bsl 1001 3),(21,I 3),(22,I 2),(23,B true)],[(10, .box 24 [I 0,S [],I 0,I 0,zS]),(11, .box 24 [I 2,S r3.Text,I r5,I r1.At, .tsl 5 (mI (([]++j7_1)++[])) 600]),(600, .arr 24 5 (mI (([]++j7_1)++[])).length),(1000, .box 118 [.ptr 1002 0]),(1001, .box 124 [.fn (.func 119) [.ptr 1002 0] [], .fn (.func 117) [] [.ptr 1000 0], .fn (.func 120) [.ptr 1002 0] []]),(1002, .box 120 [.p (.sl 4 (mTk j7_2)),I (wi (j7_3+1)),I j7_4, .tsl 2 (mDg a0r.diags) 1003]),(1003, .arr 56 2 (mDg a0r.diags).length)]⟩ krf (sS (sim_condT krf (sK (sN ⟨[10,11,20,21,22],[10,11,600,1000,1001,1002,1003],[],[]⟩ ⟨[(10, .ptr 10 0),(11, .ptr 11 0),(20, .bsl 1001 3),(21,I 3),(22,I 2)],[(10, .box 24 [I 0,S [],I 0,I 0,zS]),(11, .box 24 [I 2,S r3.Text,I r5,I r1.At, .tsl 5 (mI (([]++j7_1)++[])) 600]),(600, .arr 24 5 (mI (([]++j7_1)++[])).length),(1000, .box 118 [.ptr 1002 0]),(1001, .box 124 [.fn (.func 119) [.ptr 1002 0] [], .fn (.func 117) [] [.ptr 1000 0], .fn (.func 120) [.ptr 1002 0] []]),(1002, .box 120 [.p (.sl 4 (mTk j7_2)),I (wi (j7_3+1)),I j7_4, .tsl 2 (mDg a0r.diags) 1003]),(1003, .arr 56 2 (mDg a0r.diags).length)]⟩ krf ?_)))))))
       refine sim_bind (fun (j18_1,j18_2,j18_3,j18_4,j18_5)=>⟨[(10, .ptr 10 0),(11, .ptr 11 0),(20, .bsl 1001 3),(21,I 3),(22,I 2)],[(10, .box 24 [I 0,S [],I 0,I 0,zS]),(11, .box 24 [I 2,S r3.Text,I r5,I r1.At, .tsl 5 (mI j18_1) 600]),(600, .arr 24 5 (mI j18_1).length),(1000, .box 118 [.ptr 1002 0]),(1001, .box 124 [.fn (.func 119) [.ptr 1002 0] [], .fn (.func 117) [] [.ptr 1000 0], .fn (.func 120) [.ptr 1002 0] []]),(1002, .box 120 [.p (.sl 4 (mTk j18_2)),I j18_3,I j18_4, .tsl 2 (mDg j18_5) 1003]),(1003, .arr 56 2 (mDg j18_5).length)]⟩:((List (List PV)) × (List GTk) × Int × Int × (List GDg))→St) ?_ ?_
       ·refine sB (sR tfm ⟨[10,11,13,20,21,22],[10,11,600,1000,1001,1002,1003],[],[]⟩ ⟨[(10, .ptr 10 0),(11, .ptr 11 0),(13, .fn (.func 120) [.ptr 1002 0] []),(20, .bsl 1001 3),(21,I 3),(22,I 2)],[(10, .box 24 [I 0,S [],I 0,I 0,zS]),(11, .box 24 [I 2,S r3.Text,I r5,I r1.At, .tsl 5 (mI (([]++j7_1)++[])) 600]),(600, .arr 24 5 (mI (([]++j7_1)++[])).length),(1000, .box 118 [.ptr 1002 0]),(1001, .box 124 [.fn (.func 119) [.ptr 1002 0] [], .fn (.func 117) [] [.ptr 1000 0], .fn (.func 120) [.ptr 1002 0] []]),(1002, .box 120 [.p (.sl 4 (mTk j7_2)),I (wi (j7_3+1)),I j7_4, .tsl 2 (mDg a0r.diags) 1003]),(1003, .arr 56 2 (mDg a0r.diags).length)]⟩ krf (sim_hst [0,1,2] [0,1] [(3,[]),(4,[]),(5,[]),(6,[])] tfm rfl krf krf (h_enter (f:=120) (args:=[.ptr 1002 0]) (dst:=some 29) krf krf (sc_inline (hc:=[(1000, .box 120 [.p (.sl 4 (mTk j7_2)),I (wi (j7_3+1)),I j7_4, .tsl 2 (mDg a0r.diags) 1001]),(1001, .arr 56 2 (mDg a0r.diags).length)]) (args':=[.ptr 1000 0]) [(1000,1002),(1001,1003)] [] [] Tryz.func120 rfl Tryz.ntmps120 rfl krf krf krf (sR tfm ⟨[1],[1,1000,1001],[],[]⟩ ⟨[(1, .ptr 1 0)],[(1, .box 118 [.ptr 1000 0]),(1000, .box 120 [.p (.sl 4 (mTk j7_2)),I (wi (j7_3+1)),I j7_4, .tsl 2 (mDg a0r.diags) 1001]),(1001, .arr 56 2 (mDg a0r.diags).length)]⟩ krf (sR tfm ⟨[1,3],[1,1000,1001],[],[]⟩ ⟨[(1, .ptr 1 0),(3,zS)],[(1, .box 118 [.ptr 1000 0]),(1000, .box 120 [.p (.sl 4 (mTk j7_2)),I (wi (j7_3+1)),I j7_4, .tsl 2 (mDg a0r.diags) 1001]),(1001, .arr 56 2 (mDg a0r.diags).length)]⟩ krf (sim_cps (fun (j19_1,j19_2,j19_3,j19_4,j19_5)=>⟨[(3, .tsl 5 (mI j19_1) 32)],[(32, .arr 24 5 (mI j19_1).length),(1000, .box 120 [.p (.sl 4 (mTk j19_2)),I j19_3,I j19_4, .tsl 2 (mDg j19_5) 1001]),(1001, .arr 56 2 (mDg j19_5).length)]⟩:((List (List PV)) × (List GTk) × Int × Int × (List GDg))→St) (fun (j19_1,j19_2,j19_3,j19_4,j19_5)=>g_p_reader_item_j19 j7_1 j19_1 j19_2 j19_3 j19_4 j19_5) ?_ ?_)))))))
        ·rintro ⟨j19_1,j19_2,j19_3,j19_4,j19_5⟩
         show SimE (g_p_reader_item_j19 j7_1 j19_1 j19_2 j19_3 j19_4 j19_5) _ _ _ _ _ _
         unfold g_p_reader_item_j19
         refine sR tfm ⟨[2],[32,1000,1001],[],[]⟩ ⟨[(2, .tsl 5 (mI j19_1) 32)],[(32, .arr 24 5 (mI j19_1).length),(1000, .box 120 [.p (.sl 4 (mTk j19_2)),I j19_3,I j19_4, .tsl 2 (mDg j19_5) 1001]),(1001, .arr 56 2 (mDg j19_5).length)]⟩ krf (sT (iq_ret (.sl 5) [1000,1001] [] (.p (.sl 5 (mI j19_1))) krf krf (kh [0,1] krf (lates_cons (late_read (.ptr 11 4) krf rfl) (lates_cons (late_tsl (S:=5) (t:=600) (ty:=24) (es:=mI (([]++j7_1)++[])) krf krf rfl) (lates_nil))) krf (h_if [] rfl krf krf (aop_appL (e:=24) (S:=5) (by_:=64) (enc:=idc) (tk:=600) (l:=([]++j7_1)++[]) (l2:=j19_1) (xv:=.p (.sl 5 (mI j19_1))) rfl krf krf rfl krf krf krf krf) (fun _=>lates_nil) (h_op [] krf krf (lates_nil) (h_op [] krf krf (lates_nil) (h_end ?_)))))))
         refine bq_n ?_
         exact nq_n ((([]++j7_1)++[])++j19_1,j19_2,j19_3,j19_4,j19_5) ⟨[10,11,20,21,22],[10,11,600,1000,1001,1002,1003],[],[]⟩ krf
        ·refine sB (sP ⟨[1,3],[1,1000,1001],[],[]⟩ ⟨[(1, .ptr 1 0),(3,zS)],[(1, .box 118 [.ptr 1000 0]),(1000, .box 120 [.p (.sl 4 (mTk j7_2)),I (wi (j7_3+1)),I j7_4, .tsl 2 (mDg a0r.diags) 1001]),(1001, .arr 56 2 (mDg a0r.diags).length)]⟩ krf (sim_weak (weak_pn 24 5 32 [3] [] krf) (sim_loop (fun (l20_1,l20_2,l20_3,l20_4,l20_5)=>⟨[(1, .ptr 1 0),(3, .tsl 5 (mI l20_1) 32)],[(1, .box 118 [.ptr 1000 0]),(32, .arr 24 5 (mI l20_1).length),(1000, .box 120 [.p (.sl 4 (mTk l20_2)),I l20_3,I l20_4, .tsl 2 (mDg l20_5) 1001]),(1001, .arr 56 2 (mDg l20_5).length)]⟩:((List (List PV)) × (List GTk) × Int × Int × (List GDg))→St) (weak_shr (K:=⟨[1,3],[1,32,1000,1001],[],[]⟩) krf) ?_)))
         rintro recl20 ⟨l20_1,l20_2,l20_3,l20_4,l20_5⟩
         show SimE (g_p_reader_item_l20 n j7_1 recl20 l20_1 l20_2 l20_3 l20_4 l20_5) _ _ _ _ _ _
         unfold g_p_reader_item_l20
         refine sS (sS (sG (xR 1 krf ?_)))
         refine xs_ro [.ro [.id, .id, .id, .sl 2]] krf (g_p_reader_full_ok n (⟨l20_2,l20_3,l20_4,l20_5⟩:GPr)) krf krf (fun _=>by kernel_rfl) (fun r21=>?_)
         refine xR 1 krf (xE (sN ⟨[1,3,9],[1,32,1000,1001],[],[]⟩ ⟨[(1, .ptr 1 0),(3, .tsl 5 (mI l20_1) 32),(9,B (!r21))],[(1, .box 118 [.ptr 1000 0]),(32, .arr 24 5 (mI l20_1).length),(1000, .box 120 [.p (.sl 4 (mTk l20_2)),I l20_3,I l20_4, .tsl 2 (mDg l20_5) 1001]),(1001, .arr 56 2 (mDg l20_5).length)]⟩ krf (sC (!r21) krf ?_ ?_)))
         ·refine sK (sN ⟨[1,3],[1,32,1000,1001],[],[]⟩ ⟨[(1, .ptr 1 0),(3, .tsl 5 (mI l20_1) 32)],[(1, .box 118 [.ptr 1000 0]),(32, .arr 24 5 (mI l20_1).length),(1000, .box 120 [.p (.sl 4 (mTk l20_2)),I l20_3,I l20_4, .tsl 2 (mDg l20_5) 1001]),(1001, .arr 56 2 (mDg l20_5).length)]⟩ krf (sB (sS (sS (sim_hst [1] [1] [(0,[]),(2,[]),(3,[])] tfm rfl krf krf (h_enter (f:=118) (args:=[S [125]]) (dst:=some 10) krf krf (sc_inline (hc:=[]) (args':=[S [125]]) [(1,401)] [] [] Tryz.func118 rfl Tryz.ntmps118 rfl krf krf krf ?_)))))))
          refine sR tfm ⟨[1],[1],[],[]⟩ ⟨[(1, .ptr 1 0)],[(1, .box 9 [S [125]])]⟩ krf (sR tfm ⟨[2],[1],[],[]⟩ ⟨[(2, .fn (.func 125) [] [.ptr 1 0])],[(1, .box 9 [S [125]])]⟩ krf (sT (iq_ret (.id) [1] [] (.fn (.func 125) [] [.ptr 1 0]) krf krf (kh [1] krf (lates_cons (late_read (.ptr 1000 0) krf rfl) (lates_nil)) krf (h_enter (f:=122) (args:=[.ptr 1000 0]) (dst:=some 12) krf krf ?_)))))
          refine sc_ro [.ro [.id, .id, .id, .sl 2]] (g_p_reader_peek_2_ok n (⟨l20_2,l20_3,l20_4,l20_5⟩:GPr)) krf krf (fun _=>by kernel_rfl) (fun r22=>?_)
          refine kh [] krf (lates_nil) krf (h_enter (f:=125) (args:=[.agg [I r22.Kind,S r22.Text,I r22.N,I r22.At], .ptr 401 0]) (dst:=some 13) krf krf (sc_inline (hc:=[(1000, .box 9 [S [125]])]) (args':=[.agg [I r22.Kind,S r22.Text,I r22.N,I r22.At], .ptr 1000 0]) [(1000,401)] [] [] Tryz.func125 rfl Tryz.ntmps125 rfl krf krf krf (sR tfm ⟨[1,2],[2,1000],[],[]⟩ ⟨[(1, .ptr 1000 0),(2, .ptr 2 0)],[(2, .box 123 (bxc (GTk.cs r22))),(1000, .box 9 [S [125]])]⟩ krf (sim_bind (fun j23=>⟨[(3,B j23)],[(1000, .box 9 [S [125]])]⟩:Bool→St) ?_ ?_))))
          ·refine sG (xR 4 krf ?_)
           refine xS (eqI r22.Kind 3) (fun h24=>?_) (fun h24=>?_)
           ·refine xO (want_tt krf h24) krf (xR 5 krf (xE ?_))
            exact nq_n (eqS r22.Text [125]) ⟨[3],[1000],[],[]⟩ krf
           ·refine xN (want_tf krf h24) krf (xR 5 krf (xE ?_))
            exact nq_n false ⟨[3],[1000],[],[]⟩ krf
          ·rintro j23
           refine sT (iq_ret (.id) [1000] [] (B j23) krf krf (kh [] krf (lates_nil) krf (h_end (sN ⟨[1,3,13],[1,32,1000,1001],[],[]⟩ ⟨[(1, .ptr 1 0),(3, .tsl 5 (mI l20_1) 32),(13,B j23)],[(1, .box 118 [.ptr 1000 0]),(32, .arr 24 5 (mI l20_1).length),(1000, .box 120 [.p (.sl 4 (mTk l20_2)),I l20_3,I l20_4, .tsl 2 (mDg l20_5) 1001]),(1001, .arr 56 2 (mDg l20_5).length)]⟩ krf (sC j23 krf ?_ ?_)))))
           ·refine sR tfm ⟨[3],[32,1000,1001],[],[]⟩ ⟨[(3, .tsl 5 (mI l20_1) 32)],[(32, .arr 24 5 (mI l20_1).length),(1000, .box 120 [.p (.sl 4 (mTk l20_2)),I (wi (l20_3+1)),I l20_4, .tsl 2 (mDg l20_5) 1001]),(1001, .arr 56 2 (mDg l20_5).length)]⟩ krf (sR tfm ⟨[2],[32,1000,1001],[],[]⟩ ⟨[(2, .tsl 5 (mI l20_1) 32)],[(32, .arr 24 5 (mI l20_1).length),(1000, .box 120 [.p (.sl 4 (mTk l20_2)),I (wi (l20_3+1)),I l20_4, .tsl 2 (mDg l20_5) 1001]),(1001, .arr 56 2 (mDg l20_5).length)]⟩ krf (sT (sq_r (bq_r (kq_r (bq_r (kq_r ?_)))))))
            refine iq_ret (.sl 5) [1000,1001] [] (.p (.sl 5 (mI l20_1))) krf krf (kh [0,1] krf (lates_cons (late_read (.ptr 11 4) krf rfl) (lates_cons (late_tsl (S:=5) (t:=600) (ty:=24) (es:=mI (([]++j7_1)++[])) krf krf rfl) (lates_nil))) krf (h_if [] rfl krf krf (aop_appL (e:=24) (S:=5) (by_:=64) (enc:=idc) (tk:=600) (l:=([]++j7_1)++[]) (l2:=l20_1) (xv:=.p (.sl 5 (mI l20_1))) rfl krf krf rfl krf krf krf krf) (fun _=>lates_nil) (h_op [] krf krf (lates_nil) (h_op [] krf krf (lates_nil) (h_end (bq_n ?_))))))
            exact nq_n ((([]++j7_1)++[])++l20_1,l20_2,wi (l20_3+1),l20_4,l20_5) ⟨[10,11,20,21,22],[10,11,600,1000,1001,1002,1003],[],[]⟩ krf
           ·refine sK (sN ⟨[1,3],[1,32,1000,1001],[],[]⟩ ⟨[(1, .ptr 1 0),(3, .tsl 5 (mI l20_1) 32)],[(1, .box 118 [.ptr 1000 0]),(32, .arr 24 5 (mI l20_1).length),(1000, .box 120 [.p (.sl 4 (mTk l20_2)),I l20_3,I l20_4, .tsl 2 (mDg l20_5) 1001]),(1001, .arr 56 2 (mDg l20_5).length)]⟩ krf (sR tfm ⟨[1,3,4],[1,4,32,1000,1001],[],[]⟩ ⟨[(1, .ptr 1 0),(3, .tsl 5 (mI l20_1) 32),(4, .ptr 4 0)],[(1, .box 118 [.ptr 1000 0]),(4, .box 24 [I 0,S [],I 0,I 0,zS]),(32, .arr 24 5 (mI l20_1).length),(1000, .box 120 [.p (.sl 4 (mTk l20_2)),I l20_3,I l20_4, .tsl 2 (mDg l20_5) 1001]),(1001, .arr 56 2 (mDg l20_5).length)]⟩ krf (sim_bind (fun (j25_1,j25_2,j25_3,j25_4,j25_5,j25_6,j25_7,j25_8,j25_9,j25_10,j25_11)=>⟨[(1, .ptr 1 0),(3, .tsl 5 (mI l20_1) 32),(4, .ptr 4 0),(5,B j25_1),(6,S j25_2)],[(1, .box 118 [.ptr 1000 0]),(4, .box 24 (bxc (GNode.cs ⟨j25_7,j25_8,j25_9,j25_10,j25_11⟩))),(32, .arr 24 5 (mI l20_1).length),(1000, .box 120 [.p (.sl 4 (mTk j25_3)),I j25_4,I j25_5, .tsl 2 (mDg j25_6) 1001]),(1001, .arr 56 2 (mDg j25_6).length)]⟩:(Bool × (List UInt8) × (List GTk) × Int × Int × (List GDg) × Int × (List UInt8) × Int × Int × (List (List PV)))→St) ?_ ?_)))
            ·refine sG (xR 2 krf (xs_enter (f:=100) (args:=[.ptr 1000 0, .fn (.func 128) [] [.ptr 1 0, .ptr 4 0]]) krf krf krf ?_))
             refine sc_inlineD (hc:=[(1000, .box 118 [.ptr 1002 0]),(1001, .box 24 [I 0,S [],I 0,I 0,zS]),(1002, .box 120 [.p (.sl 4 (mTk l20_2)),I l20_3,I l20_4, .tsl 2 (mDg l20_5) 1003]),(1003, .arr 56 2 (mDg l20_5).length)]) (args':=[.ptr 1002 0, .fn (.func 128) [] [.ptr 1000 0, .ptr 1001 0]]) [(1000,1),(1001,4),(1002,1000),(1003,1001)] [] [] (⟨_,_,_,_,_,_,[2,4,5],6,_,rfl,rfl,rfl,rfl,rfl,rfl,rfl,rfl,by decide⟩:Deferrer2 Tryz.f100 111) [(2,1900),(4,1901),(5,1902)] Tryz.func100 Tryz.ntmps100 krf krf krf krf krf tfm rfl krf krf ?_
             refine sP ⟨[1,4,5],[1000,1001,1002,1003,1900,1901,1902],[],[]⟩ ⟨[(1, .fn (.func 128) [] [.ptr 1000 0, .ptr 1001 0]),(4, .ptr 1901 0),(5, .ptr 1902 0)],[(1000, .box 118 [.ptr 1002 0]),(1001, .box 24 [I 0,S [],I 0,I 0,zS]),(1002, .box 120 [.p (.sl 4 (mTk l20_2)),I l20_3,I l20_4, .tsl 2 (mDg l20_5) 1003]),(1003, .arr 56 2 (mDg l20_5).length),(1900, .box 118 [.ptr 1002 0]),(1901, .box 4 [B false]),(1902, .box 9 [S []])]⟩ krf (sS (sG (xR 1 krf (xs_inline [(1000, .box 118 [.ptr 1002 0]),(1001, .box 24 [I 0,S [],I 0,I 0,zS]),(1002, .box 120 [.p (.sl 4 (mTk l20_2)),I l20_3,I l20_4, .tsl 2 (mDg l20_5) 1003]),(1003, .arr 56 2 (mDg l20_5).length)] [.ptr 1000 0, .ptr 1001 0] [(1000,1000),(1001,1001),(1002,1002),(1003,1003)] [] [] krf Tryz.func128 rfl Tryz.ntmps128 rfl krf krf krf (sG (xR 1 krf (xs_enter (f:=129) (args:=[.ptr 1002 0]) krf krf krf ?_)))))))
             refine sc_hold 1002 3 1003 56 2 (mDg l20_5).length (mDg l20_5) ⟨[0,1,2],[1000,1001,1002],[],[]⟩ krf krf rfl (fun _ _ _=>by kernel_rfl) (fun hu26w hu26l hu26c=>?_)
             refine sc_heapE [(1000,1002)] [] [] (g_p_reader_article_ok n (⟨l20_2,l20_3,l20_4,[]⟩:GPr) hu26w hu26l hu26c) krf krf krf (fun _=>by kernel_rfl) (fun _=>by kernel_rfl) (fun _=>by kernel_rfl) (fun _=>by kernel_rfl) (fun r26=>?_) (fun e27=>?_)
             ·refine k_hold _ rfl krf krf (kr0 (xR 1 krf (xE (iq_n (.id) [1000,1001,1002,1003] [] (.tup []) krf krf (kr0 (xE (sN ⟨[4,5],[1000,1001,1002,1003,1900,1901,1902],[],[]⟩ ⟨[(4, .ptr 1901 0),(5, .ptr 1902 0)],[(1000, .box 118 [.ptr 1002 0]),(1001, .box 24 (bxc (GNode.cs r26.1))),(1002, .box 120 [.p (.sl 4 (mTk r26.2.tokens)),I r26.2.pos,I r26.2.length, .tsl 2 (mDg l20_5) 1003]),(1003, .arr 56 2 (mDg l20_5).length),(1900, .box 118 [.ptr 1002 0]),(1901, .box 4 [B false]),(1902, .box 9 [S []])]⟩ krf ?_)))))))
              refine sR tfm ⟨[4,5],[1000,1001,1002,1003,1900,1901,1902],[],[]⟩ ⟨[(4, .ptr 1901 0),(5, .ptr 1902 0)],[(1000, .box 118 [.ptr 1002 0]),(1001, .box 24 (bxc (GNode.cs r26.1))),(1002, .box 120 [.p (.sl 4 (mTk r26.2.tokens)),I r26.2.pos,I r26.2.length, .tsl 2 (mDg l20_5) 1003]),(1003, .arr 56 2 (mDg l20_5).length),(1900, .box 118 [.ptr 1002 0]),(1901, .box 4 [B true]),(1902, .box 9 [S []])]⟩ krf (sT ?_)
              refine dI_end (⟨Tryz.f111,_,_,_,6,3,_,_,Tryz.func111,rfl,rfl,rfl,rfl,rfl,rfl,rfl,by decide,by decide⟩:Recoverer Tryz.prog 111) [(1000,1002),(1001,1003),(1002,1900),(1003,1901),(1004,1902)] [(1000, .box 120 [.p (.sl 4 (mTk r26.2.tokens)),I r26.2.pos,I r26.2.length, .tsl 2 (mDg l20_5) 1001]),(1001, .arr 56 2 (mDg l20_5).length),(1002, .box 118 [.ptr 1000 0]),(1003, .box 4 [B true]),(1004, .box 9 [S []])] (.p (.val (.nilIface))) [.ptr 1002 0, .ptr 1003 0, .ptr 1004 0] [] rfl krf krf krf krf ?_
              refine sS (sR tfm ⟨[0,1,2,3,8],[1000,1001,1002,1003,1004],[],[]⟩ ⟨[(0, .ptr 1002 0),(1, .ptr 1003 0),(2, .ptr 1004 0),(3, .p (.val (.nilIface))),(8,B true)],[(1000, .box 120 [.p (.sl 4 (mTk r26.2.tokens)),I r26.2.pos,I r26.2.length, .tsl 2 (mDg l20_5) 1001]),(1001, .arr 56 2 (mDg l20_5).length),(1002, .box 118 [.ptr 1000 0]),(1003, .box 4 [B true]),(1004, .box 9 [S []])]⟩ krf (sim_condT krf (sT (sq_r (cl_ret [1000,1001,1002,1003,1004] [] krf krf (iq_ret (.id) [1000,1001,1002,1003] [] (.tup [B true,S []]) krf krf (kr0 ?_)))))))
              refine xR 5 krf (xE ?_)
              exact nq_n (true,[],r26.2.tokens,r26.2.pos,r26.2.length,l20_5,r26.1.Kind,r26.1.Name,r26.1.N,r26.1.At,r26.1.Kids) ⟨[1,3,4,5,6],[1,4,32,1000,1001],[],[]⟩ krf
             ·refine q_hold _ rfl krf krf (iq_p [1000,1001,1002,1003] [] krf (sq_p ?_))
              refine dI_end (⟨Tryz.f111,_,_,_,6,3,_,_,Tryz.func111,rfl,rfl,rfl,rfl,rfl,rfl,rfl,by decide,by decide⟩:Recoverer Tryz.prog 111) [(1000,1002),(1001,1003),(1002,1900),(1003,1901),(1004,1902)] [(1000, .box 120 [.p (.sl 4 (mTk e27.2.tokens)),I e27.2.pos,I e27.2.length, .tsl 2 (mDg l20_5) 1001]),(1001, .arr 56 2 (mDg l20_5).length),(1002, .box 118 [.ptr 1000 0]),(1003, .box 4 [B false]),(1004, .box 9 [S []])] (.ifc 137 (.agg [I e27.1])) [.ptr 1002 0, .ptr 1003 0, .ptr 1004 0] [] rfl krf krf krf krf ?_
              refine sS (sR tfm ⟨[0,1,2,3,8],[1000,1001,1002,1003,1004],[],[]⟩ ⟨[(0, .ptr 1002 0),(1, .ptr 1003 0),(2, .ptr 1004 0),(3, .ifc 137 (.agg [I e27.1])),(8,B false)],[(1000, .box 120 [.p (.sl 4 (mTk e27.2.tokens)),I e27.2.pos,I e27.2.length, .tsl 2 (mDg l20_5) 1001]),(1001, .arr 56 2 (mDg l20_5).length),(1002, .box 118 [.ptr 1000 0]),(1003, .box 4 [B false]),(1004, .box 9 [S []])]⟩ krf (sim_condF krf (sK (sN ⟨[0,1,2,3],[1000,1001,1002,1003,1004],[],[]⟩ ⟨[(0, .ptr 1002 0),(1, .ptr 1003 0),(2, .ptr 1004 0),(3, .ifc 137 (.agg [I e27.1]))],[(1000, .box 120 [.p (.sl 4 (mTk e27.2.tokens)),I e27.2.pos,I e27.2.length, .tsl 2 (mDg l20_5) 1001]),(1001, .arr 56 2 (mDg l20_5).length),(1002, .box 118 [.ptr 1000 0]),(1003, .box 4 [B false]),(1004, .box 9 [S []])]⟩ krf (sR tfm ⟨[0,1,2,3,4,5],[4,1000,1001,1002,1003,1004],[],[]⟩ ⟨[(0, .ptr 1002 0),(1, .ptr 1003 0),(2, .ptr 1004 0),(3, .ifc 137 (.agg [I e27.1])),(4, .ptr 4 0),(5,B true)],[(4, .box 137 [I e27.1]),(1000, .box 120 [.p (.sl 4 (mTk e27.2.tokens)),I e27.2.pos,I e27.2.length, .tsl 2 (mDg l20_5) 1001]),(1001, .arr 56 2 (mDg l20_5).length),(1002, .box 118 [.ptr 1000 0]),(1003, .box 4 [B false]),(1004, .box 9 [S []])]⟩ krf (sS (sR tfm ⟨[0,1,2,3,4,15],[4,1000,1001,1002,1003,1004],[],[]⟩ ⟨[(0, .ptr 1002 0),(1, .ptr 1003 0),(2, .ptr 1004 0),(3, .ifc 137 (.agg [I e27.1])),(4, .ptr 4 0),(15,B false)],[(4, .box 137 [I e27.1]),(1000, .box 120 [.p (.sl 4 (mTk e27.2.tokens)),I e27.2.pos,I e27.2.length, .tsl 2 (mDg l20_5) 1001]),(1001, .arr 56 2 (mDg l20_5).length),(1002, .box 118 [.ptr 1000 0]),(1003, .box 4 [B false]),(1004, .box 9 [S []])]⟩ krf ?_)))))))
              refine sim_condF krf (sK (sN ⟨[0,1,2,4],[4,1000,1001,1002,1003,1004],[],[]⟩ ⟨[(0, .ptr 1002 0),(1, .ptr 1003 0),(2, .ptr 1004 0),(4, .ptr 4 0)],[(4, .box 137 [I e27.1]),(1000, .box 120 [.p (.sl 4 (mTk e27.2.tokens)),I e27.2.pos,I e27.2.length, .tsl 2 (mDg l20_5) 1001]),(1001, .arr 56 2 (mDg l20_5).length),(1002, .box 118 [.ptr 1000 0]),(1003, .box 4 [B false]),(1004, .box 9 [S []])]⟩ krf (sS (sim_drw tfm rfl (xR 9 krf (xF krf krf (aop_app (e:=56) (S:=2) (by_:=16) (enc:=GDg.cs) (tk:=1001) (l:=l20_5) (l2:=[(⟨7,e27.1⟩:GDg)]) (xv:=.tsl 2 (mDg [(⟨7,e27.1⟩:GDg)]) 25) rfl krf krf rfl krf krf krf rfl krf) (xR 3 krf ?_)))))))
              refine xs_endD krf (sN ⟨[0,1,2],[1000,1001,1002,1003,1004],[],[]⟩ ⟨[(0, .ptr 1002 0),(1, .ptr 1003 0),(2, .ptr 1004 0)],[(1000, .box 120 [.p (.sl 4 (mTk e27.2.tokens)),I e27.2.pos,I e27.2.length, .tsl 2 (mDg (l20_5++[(⟨7,e27.1⟩:GDg)])) 1001]),(1001, .arr 56 2 (mDg (l20_5++[(⟨7,e27.1⟩:GDg)])).length),(1002, .box 118 [.ptr 1000 0]),(1003, .box 4 [B false]),(1004, .box 9 [S []])]⟩ krf (sG (xR 1 krf (xs_enter (f:=112) (args:=[.ptr 1000 0]) krf krf krf ?_))))
              refine sc_hold 1000 3 1001 56 2 (mDg (l20_5++[(⟨7,e27.1⟩:GDg)])).length (mDg (l20_5++[(⟨7,e27.1⟩:GDg)])) ⟨[0,1,2,29],[1000,1002,1003,1004],[],[]⟩ krf krf rfl (fun _ _ _=>by kernel_rfl) (fun hu28w hu28l hu28c=>?_)
              refine sc_heap [(1000,1000)] [] [] (g_p_reader_skip_ok n (⟨e27.2.tokens,e27.2.pos,e27.2.length,[]⟩:GPr) hu28w hu28l hu28c) krf krf krf (fun _=>by kernel_rfl) (fun _=>by kernel_rfl) (fun r28=>?_)
              refine k_hold _ rfl krf krf (kr0 (xR 2 krf (xE (cl_n [1000,1001,1002,1003,1004] [] krf krf (iq_ret (.id) [1000,1001,1002,1003] [] (.tup [B false,S r28.1]) krf krf (kr0 (xR 5 krf ?_)))))))
              refine xE ?_
              exact nq_n (false,r28.1,r28.2.tokens,r28.2.pos,r28.2.length,l20_5++[(⟨7,e27.1⟩:GDg)],0,[],0,0,[]) ⟨[1,3,4,5,6],[1,4,32,1000,1001],[],[(4,[.id, .id, .id, .id, .sl 5])]⟩ krf
            ·rintro ⟨j25_1,j25_2,j25_3,j25_4,j25_5,j25_6,j25_7,j25_8,j25_9,j25_10,j25_11⟩
             refine sR tfm ⟨[1,3,4,6,28],[1,4,32,1000,1001],[],[]⟩ ⟨[(1, .ptr 1 0),(3, .tsl 5 (mI l20_1) 32),(4, .ptr 4 0),(6,S j25_2),(28,B j25_1)],[(1, .box 118 [.ptr 1000 0]),(4, .box 24 (bxc (GNode.cs ⟨j25_7,j25_8,j25_9,j25_10,j25_11⟩))),(32, .arr 24 5 (mI l20_1).length),(1000, .box 120 [.p (.sl 4 (mTk j25_3)),I j25_4,I j25_5, .tsl 2 (mDg j25_6) 1001]),(1001, .arr 56 2 (mDg j25_6).length)]⟩ krf (sC j25_1 krf ?_ ?_)
             ·refine sG (xR 3 krf (xF krf krf (aop_app (e:=24) (S:=5) (by_:=64) (enc:=idc) (tk:=32) (l:=l20_1) (l2:=[GNode.cs (⟨j25_7,j25_8,j25_9,j25_10,j25_11⟩:GNode)]) (xv:=.tsl 5 (mI [GNode.cs (⟨j25_7,j25_8,j25_9,j25_10,j25_11⟩:GNode)]) 31) rfl krf krf rfl krf krf krf rfl krf) (xR 1 krf (xE (bq_n ?_)))))
              exact kq_n (l20_1++[GNode.cs (⟨j25_7,j25_8,j25_9,j25_10,j25_11⟩:GNode)],j25_3,j25_4,j25_5,j25_6) ⟨[1,3],[1,32,1000,1001],[],[]⟩ krf
             ·refine sR tfm ⟨[1,3,34],[1,32,1000,1001],[],[]⟩ ⟨[(1, .ptr 1 0),(3, .tsl 5 (mI l20_1) 32),(34,B (!eqS j25_2 [59]))],[(1, .box 118 [.ptr 1000 0]),(32, .arr 24 5 (mI l20_1).length),(1000, .box 120 [.p (.sl 4 (mTk j25_3)),I j25_4,I j25_5, .tsl 2 (mDg j25_6) 1001]),(1001, .arr 56 2 (mDg j25_6).length)]⟩ krf (sC (!eqS j25_2 [59]) krf ?_ ?_)
              ·refine sR tfm ⟨[2],[32,1000,1001],[],[]⟩ ⟨[(2, .tsl 5 (mI l20_1) 32)],[(32, .arr 24 5 (mI l20_1).length),(1000, .box 120 [.p (.sl 4 (mTk j25_3)),I j25_4,I j25_5, .tsl 2 (mDg j25_6) 1001]),(1001, .arr 56 2 (mDg j25_6).length)]⟩ krf (sT (bq_r (kq_r (bq_r (kq_r (iq_ret (.sl 5) [1000,1001] [] (.p (.sl 5 (mI l20_1))) krf krf (kh [0,1] krf (lates_cons (late_read (.ptr 11 4) krf rfl) (lates_cons (late_tsl (S:=5) (t:=600) (ty:=24) (es:=mI (([]++j7_1)++[])) krf krf rfl) (lates_nil))) krf ?_)))))))
               refine h_if [] rfl krf krf (aop_appL (e:=24) (S:=5) (by_:=64) (enc:=idc) (tk:=600) (l:=([]++j7_1)++[]) (l2:=l20_1) (xv:=.p (.sl 5 (mI l20_1))) rfl krf krf rfl krf krf krf krf) (fun _=>lates_nil) (h_op [] krf krf (lates_nil) (h_op [] krf krf (lates_nil) (h_end (bq_n ?_))))
               exact nq_n ((([]++j7_1)++[])++l20_1,j25_3,j25_4,j25_5,j25_6) ⟨[10,11,20,21,22],[10,11,600,1000,1001,1002,1003],[],[]⟩ krf
              ·refine sK (bq_n ?_)
               exact kq_n (l20_1,j25_3,j25_4,j25_5,j25_6) ⟨[1,3],[1,32,1000,1001],[],[]⟩ krf
         ·refine sim_exit (sq_x (kq_x (bq_hit ?_)))
          exact kq_n (k:=fun (j19_1,j19_2,j19_3,j19_4,j19_5)=>g_p_reader_item_j19 j7_1 j19_1 j19_2 j19_3 j19_4 j19_5) (l20_1,l20_2,l20_3,l20_4,l20_5) ⟨[3],[32,1000,1001],[],[]⟩ krf
       ·rintro ⟨j18_1,j18_2,j18_3,j18_4,j18_5⟩
        refine sL tfm krf (ru_n ⟨[10,11,20,21,22],[10,11,600,1000,1001,1002,1003],[],[]⟩ ⟨[(10, .ptr 10 0),(11, .ptr 11 0),(20, .bsl 1001 3),(21,I 3),(22,I 3)],[(10, .box 24 [I 0,S [],I 0,I 0,zS]),(11, .box 24 [I 2,S r3.Text,I r5,I r1.At, .tsl 5 (mI j18_1) 600]),(600, .arr 24 5 (mI j18_1).length),(1000, .box 118 [.ptr 1002 0]),(1001, .box 124 [.fn (.func 119) [.ptr 1002 0] [], .fn (.func 117) [] [.ptr 1000 0], .fn (.func 120) [.ptr 1002 0] []]),(1002, .box 120 [.p (.sl 4 (mTk j18_2)),I j18_3,I j18_4, .tsl 2 (mDg j18_5) 1003]),(1003, .arr 56 2 (mDg j18_5).length)]⟩ krf (sR tfm ⟨[10,11,20,21,22,23],[10,11,600,1000,1001,1002,1003],[],[]⟩ ⟨[(10, .ptr 10 0),(11, .ptr 11 0),(20, .bsl 1001 3),(21,I 3),(22,I 3),(23,B false)],[(10, .box 24 [I 0,S [],I 0,I 0,zS]),(11, .box 24 [I 2,S r3.Text,I r5,I r1.At, .tsl 5 (mI j18_1) 600]),(600, .arr 24 5 (mI j18_1).length),(1000, .box 118 [.ptr 1002 0]),(1001, .box 124 [.fn (.func 119) [.ptr 1002 0] [], .fn (.func 117) [] [.ptr 1000 0], .fn (.func 120) [.ptr 1002 0] []]),(1002, .box 120 [.p (.sl 4 (mTk j18_2)),I j18_3,I j18_4, .tsl 2 (mDg j18_5) 1003]),(1003, .arr 56 2 (mDg j18_5).length)]⟩ krf (sS (sim_condF krf (sim_exit (sq_x (ru_x ?_)))))))
        refine bq_hit ?_
        exact kq_n (k:=fun (j6_1,j6_2,j6_3,j6_4,j6_5)=>g_p_reader_item_j6 r1 r3 r5 j6_1 j6_2 j6_3 j6_4 j6_5) (j18_1,j18_2,j18_3,j18_4,j18_5) ⟨[10,11],[10,11,600,1000,1001,1002,1003],[],[]⟩ krf
      ·refine sim_bind (fun j29=>⟨[(0, .ptr 1001 0),(4, .ptr 4 0),(5, .ptr 5 0),(16,B j29)],[(4, .box 123 [I 0,S [],I 0,I 0]),(5, .box 123 (bxc (GTk.cs r16))),(1000, .box 9 [S [123]]),(1001, .box 120 [.p (.sl 4 (mTk j7_2)),I j7_3,I j7_4, .tsl 2 (mDg a0r.diags) 1002]),(1002, .arr 56 2 (mDg a0r.diags).length)]⟩:Bool→St) ?_ ?_
       ·refine sG (xR 4 krf ?_)
        refine xS (eqI r16.Kind 0) (fun h30=>?_) (fun h30=>?_)
        ·refine xN (want_ft krf h30) krf (xR 4 krf (xE ?_))
         exact nq_n true ⟨[0,4,5,16],[4,5,1000,1001,1002],[],[]⟩ krf
        ·refine xO (want_ff krf h30) krf (xR 1 krf (xs_inline [(1000, .box 9 [S [123]])] [.agg [I r16.Kind,S r16.Text,I r16.N,I r16.At], .ptr 1000 0] [(1000,1000)] [] [] krf Tryz.func125 rfl Tryz.ntmps125 rfl krf krf krf (sR tfm ⟨[1,2],[2,1000],[],[]⟩ ⟨[(1, .ptr 1000 0),(2, .ptr 2 0)],[(2, .box 123 (bxc (GTk.cs r16))),(1000, .box 9 [S [123]])]⟩ krf (sim_bind (fun j31=>⟨[(3,B j31)],[(1000, .box 9 [S [123]])]⟩:Bool→St) ?_ ?_))))
         ·refine sG (xR 4 krf ?_)
          refine xS (eqI r16.Kind 3) (fun h32=>?_) (fun h32=>?_)
          ·refine xO (want_tt krf h32) krf (xR 5 krf (xE ?_))
           exact nq_n (eqS r16.Text [123]) ⟨[3],[1000],[],[]⟩ krf
          ·refine xN (want_tf krf h32) krf (xR 5 krf (xE ?_))
           exact nq_n false ⟨[3],[1000],[],[]⟩ krf
         ·rintro j31
          refine sT (iq_ret (.id) [1000] [] (B j31) krf krf (kr0 (xR 2 krf (xE ?_))))
          exact nq_n (!j31) ⟨[0,4,5,16],[4,5,1000,1001,1002],[],[]⟩ krf
       ·rintro j29
        refine sC j29 krf ?_ ?_
        ·refine sG (xR 1 krf ?_)
         refine xs_roE [.ro [.id, .id, .id, .sl 2]] krf (g_p_reader_fail_2_ok n (⟨j7_2,j7_3,j7_4,a0r.diags⟩:GPr)) krf krf (fun _=>by kernel_rfl) (fun _=>by kernel_rfl) (fun r33=>?_) (fun e34=>?_)
         ·refine xE ?_
          exact kq_n (k:=fun _=>g_p_reader_item_j17 n a0r r1 r3 r5 j7_1 j7_2 j7_3 j7_4) () ⟨[0,4,5],[4,5,1000,1001,1002],[],[]⟩ krf
         ·refine kq_p (iq_p [1000,1001,1002] [] krf (qh_p _ rfl (sq_p (iq_p [1000,1001,1002] [] krf (qh_p _ rfl (bq_p (sq_p ?_)))))))
          refine ru_p (bq_p (kq_p (iq_p [1000,1001,1002,1003] [] krf (sq_p (sq_p ?_)))))
          exact hq_p [1000,1103] [] krf krf krf
        ·refine sK ?_
         exact kq_n (k:=fun _=>g_p_reader_item_j17 n a0r r1 r3 r5 j7_1 j7_2 j7_3 j7_4) () ⟨[0,4,5],[4,5,1000,1001,1002],[],[]⟩ krf
   ·refine sK (sN ⟨[1,2,3,4,5],[1,2,3,1000,1103],[],[]⟩ ⟨[(1, .ptr 1 0),(2, .ptr 2 0),(3, .ptr 3 0),(4,S r3.Text),(5,I r5)],[(1, .box 118 [.ptr 1000 0]),(2, .box 24 [I 0,S [],I 0,I 0,zS]),(3, .box 123 (bxc (GTk.cs r1))),(1000, .box 120 [.p (.sl 4 (mTk a0r.tokens)),I (wi ((wi (a0r.pos+1))+1)),I a0r.length, .tsl 2 (mDg a0r.diags) 1103]),(1103, .arr 56 2 (mDg a0r.diags).length)]⟩ krf (sR tfm ⟨[1,2,3,4,5,7],[1,2,3,1000,1103],[],[]⟩ ⟨[(1, .ptr 1 0),(2, .ptr 2 0),(3, .ptr 3 0),(4,S r3.Text),(5,I r5),(7, .fn (.func 121) [] [.ptr 1 0])],[(1, .box 118 [.ptr 1000 0]),(2, .box 24 [I 0,S [],I 0,I 0,zS]),(3, .box 123 (bxc (GTk.cs r1))),(1000, .box 120 [.p (.sl 4 (mTk a0r.tokens)),I (wi ((wi (a0r.pos+1))+1)),I a0r.length, .tsl 2 (mDg a0r.diags) 1103]),(1103, .arr 56 2 (mDg a0r.diags).length)]⟩ krf (sS (sG (xR 7 krf (xs_inline [(1000, .box 118 [.ptr 1002 0]),(1001, .box 124 [.fn (.func 119) [.ptr 1002 0] [], .fn (.func 121) [] [.ptr 1000 0]]),(1002, .box 120 [.p (.sl 4 (mTk a0r.tokens)),I (wi ((wi (a0r.pos+1))+1)),I a0r.length, .tsl 2 (mDg a0r.diags) 1003]),(1003, .arr 56 2 (mDg a0r.diags).length)] [.agg [I r1.Kind,S r1.Text,I r1.N,I r1.At],I 2,S r3.Text,I r5, .bsl 1001 2] [(1000,1),(1001,38),(1002,1000),(1003,1103)] [] [] krf Tryz.func80 rfl Tryz.ntmps80 rfl krf krf krf (sR tfm ⟨[1,2,3,4,5,10],[5,10,1000,1001,1002,1003],[],[]⟩ ⟨[(1,I 2),(2,S r3.Text),(3,I r5),(4, .bsl 1001 2),(5, .ptr 5 0),(10, .ptr 10 0)],[(5, .box 123 (bxc (GTk.cs r1))),(10, .box 24 [I 0,S [],I 0,I 0,zS]),(1000, .box 118 [.ptr 1002 0]),(1001, .box 124 [.fn (.func 119) [.ptr 1002 0] [], .fn (.func 121) [] [.ptr 1000 0]]),(1002, .box 120 [.p (.sl 4 (mTk a0r.tokens)),I (wi ((wi (a0r.pos+1))+1)),I a0r.length, .tsl 2 (mDg a0r.diags) 1003]),(1003, .arr 56 2 (mDg a0r.diags).length)]⟩ krf ?_)))))))
    refine sR tfm ⟨[4,10,11],[10,11,1000,1001,1002,1003],[],[]⟩ ⟨[(4, .bsl 1001 2),(10, .ptr 10 0),(11, .ptr 11 0)],[(10, .box 24 [I 0,S [],I 0,I 0,zS]),(11, .box 24 [I 2,S r3.Text,I r5,I r1.At,zS]),(1000, .box 118 [.ptr 1002 0]),(1001, .box 124 [.fn (.func 119) [.ptr 1002 0] [], .fn (.func 121) [] [.ptr 1000 0]]),(1002, .box 120 [.p (.sl 4 (mTk a0r.tokens)),I (wi ((wi (a0r.pos+1))+1)),I a0r.length, .tsl 2 (mDg a0r.diags) 1003]),(1003, .arr 56 2 (mDg a0r.diags).length)]⟩ krf (sim_cps (fun (j35_1,j35_2,j35_3,j35_4)=>⟨[(10, .ptr 10 0),(11, .ptr 11 0)],[(10, .box 24 [I 0,S [],I 0,I 0,zS]),(11, .box 24 [I 2,S r3.Text,I r5,I r1.At, .tsl 5 (mI j35_1) 600]),(600, .arr 24 5 (mI j35_1).length),(1000, .box 118 [.ptr 1002 0]),(1001, .box 124 [.fn (.func 119) [.ptr 1002 0] [], .fn (.func 121) [] [.ptr 1000 0]]),(1002, .box 120 [.p (.sl 4 (mTk j35_2)),I j35_3,I j35_4, .tsl 2 (mDg a0r.diags) 1003]),(1003, .arr 56 2 (mDg a0r.diags).length)]⟩:((List (List PV)) × (List GTk) × Int × Int)→St) (fun (j35_1,j35_2,j35_3,j35_4)=>g_p_reader_item_j35 a0r r1 r3 r5 j35_1 j35_2 j35_3 j35_4) ?_ ?_)
    ·rintro ⟨j35_1,j35_2,j35_3,j35_4⟩
     show SimE (g_p_reader_item_j35 a0r r1 r3 r5 j35_1 j35_2 j35_3 j35_4) _ _ _ _ _ _
     unfold g_p_reader_item_j35
     refine sR tfm ⟨[10],[10,600,1000,1001,1002,1003],[],[]⟩ ⟨[(10, .ptr 10 0)],[(10, .box 24 [I 2,S r3.Text,I r5,I r1.At, .tsl 5 (mI j35_1) 600]),(600, .arr 24 5 (mI j35_1).length),(1000, .box 118 [.ptr 1002 0]),(1001, .box 124 [.fn (.func 119) [.ptr 1002 0] [], .fn (.func 121) [] [.ptr 1000 0]]),(1002, .box 120 [.p (.sl 4 (mTk j35_2)),I j35_3,I j35_4, .tsl 2 (mDg a0r.diags) 1003]),(1003, .arr 56 2 (mDg a0r.diags).length)]⟩ krf (sT (iq_ret (.agg [.id, .id, .id, .id, .sl 5]) [1000,1001,1002,1003] [] (.agg [I 2,S r3.Text,I r5,I r1.At, .p (.sl 5 (mI j35_1))]) krf krf (kr0 (xR 1 krf (xE (sN ⟨[2],[2,1000,1103],[],[]⟩ ⟨[(2, .ptr 2 0)],[(2, .box 24 (bxc (GNode.cs ⟨2,r3.Text,r5,r1.At,j35_1⟩))),(1000, .box 120 [.p (.sl 4 (mTk j35_2)),I j35_3,I j35_4, .tsl 2 (mDg a0r.diags) 1103]),(1103, .arr 56 2 (mDg a0r.diags).length)]⟩ krf (sT ?_)))))))
     exact hq_ret (.id) [1000,1103] [] krf krf krf krf
    ·refine sR tfm ⟨[10,11,20,21,22],[10,11,1000,1001,1002,1003],[],[]⟩ ⟨[(10, .ptr 10 0),(11, .ptr 11 0),(20, .bsl 1001 2),(21,I 2),(22,I 0)],[(10, .box 24 [I 0,S [],I 0,I 0,zS]),(11, .box 24 [I 2,S r3.Text,I r5,I r1.At,zS]),(1000, .box 118 [.ptr 1002 0]),(1001, .box 124 [.fn (.func 119) [.ptr 1002 0] [], .fn (.func 121) [] [.ptr 1000 0]]),(1002, .box 120 [.p (.sl 4 (mTk a0r.tokens)),I (wi ((wi (a0r.pos+1))+1)),I a0r.length, .tsl 2 (mDg a0r.diags) 1003]),(1003, .arr 56 2 (mDg a0r.diags).length)]⟩ krf (sB (sim_unroll 2 (sR tfm ⟨[10,11,20,21,22,23],[10,11,1000,1001,1002,1003],[],[]⟩ ⟨[(10, .ptr 10 0),(11, .ptr 11 0),(20, .bsl 1001 2),(21,I 2),(22,I 0),(23,B true)],[(10, .box 24 [I 0,S [],I 0,I 0,zS]),(11, .box 24 [I 2,S r3.Text,I r5,I r1.At,zS]),(1000, .box 118 [.ptr 1002 0]),(1001, .box 124 [.fn (.func 119) [.ptr 1002 0] [], .fn (.func 121) [] [.ptr 1000 0]]),(1002, .box 120 [.p (.sl 4 (mTk a0r.tokens)),I (wi ((wi (a0r.pos+1))+1)),I a0r.length, .tsl 2 (mDg a0r.diags) 1003]),(1003, .arr 56 2 (mDg a0r.diags).length)]⟩ krf (sS (sim_condT krf (sK (sN ⟨[10,11,20,21,22],[10,11,1000,1001,1002,1003],[],[]⟩ ⟨[(10, .ptr 10 0),(11, .ptr 11 0),(20, .bsl 1001 2),(21,I 2),(22,I 0)],[(10, .box 24 [I 0,S [],I 0,I 0,zS]),(11, .box 24 [I 2,S r3.Text,I r5,I r1.At,zS]),(1000, .box 118 [.ptr 1002 0]),(1001, .box 124 [.fn (.func 119) [.ptr 1002 0] [], .fn (.func 121) [] [.ptr 1000 0]]),(1002, .box 120 [.p (.sl 4 (mTk a0r.tokens)),I (wi ((wi (a0r.pos+1))+1)),I a0r.length, .tsl 2 (mDg a0r.diags) 1003]),(1003, .arr 56 2 (mDg a0r.diags).length)]⟩ krf ?_)))))))
     refine sS (sB (sR tfm ⟨[10,11,13,20,21,22],[10,11,1000,1001,1002,1003],[],[]⟩ ⟨[(10, .ptr 10 0),(11, .ptr 11 0),(13, .fn (.func 119) [.ptr 1002 0] []),(20, .bsl 1001 2),(21,I 2),(22,I 0)],[(10, .box 24 [I 0,S [],I 0,I 0,zS]),(11, .box 24 [I 2,S r3.Text,I r5,I r1.At,zS]),(1000, .box 118 [.ptr 1002 0]),(1001, .box 124 [.fn (.func 119) [.ptr 1002 0] [], .fn (.func 121) [] [.ptr 1000 0]]),(1002, .box 120 [.p (.sl 4 (mTk a0r.tokens)),I (wi ((wi (a0r.pos+1))+1)),I a0r.length, .tsl 2 (mDg a0r.diags) 1003]),(1003, .arr 56 2 (mDg a0r.diags).length)]⟩ krf (sP ⟨[10,11,13,20,21,22],[10,11,1000,1001,1002,1003],[],[]⟩ ⟨[(10, .ptr 10 0),(11, .ptr 11 0),(13, .fn (.func 119) [.ptr 1002 0] []),(20, .bsl 1001 2),(21,I 2),(22,I 0)],[(10, .box 24 [I 0,S [],I 0,I 0,zS]),(11, .box 24 [I 2,S r3.Text,I r5,I r1.At,zS]),(1000, .box 118 [.ptr 1002 0]),(1001, .box 124 [.fn (.func 119) [.ptr 1002 0] [], .fn (.func 121) [] [.ptr 1000 0]]),(1002, .box 120 [.p (.sl 4 (mTk a0r.tokens)),I (wi ((wi (a0r.pos+1))+1)),I a0r.length, .tsl 2 (mDg a0r.diags) 1003]),(1003, .arr 56 2 (mDg a0r.diags).length)]⟩ krf (sim_weak (weak_pn 24 5 600 [] [(11,4)] krf) (sim_hst [0,1,2] [0,1] [(3,[]),(4,[]),(5,[]),(6,[])] tfm rfl krf krf (h_enter (f:=119) (args:=[.ptr 1002 0]) (dst:=some 29) krf krf (sc_inline (hc:=[(1000, .box 120 [.p (.sl 4 (mTk a0r.tokens)),I (wi ((wi (a0r.pos+1))+1)),I a0r.length, .tsl 2 (mDg a0r.diags) 1001]),(1001, .arr 56 2 (mDg a0r.diags).length)]) (args':=[.ptr 1000 0]) [(1000,1002),(1001,1003)] [] [] Tryz.func119 rfl Tryz.ntmps119 rfl krf krf krf ?_)))))))
     refine sR tfm ⟨[1],[1,1000,1001],[],[]⟩ ⟨[(1, .ptr 1 0)],[(1, .box 118 [.ptr 1000 0]),(1000, .box 120 [.p (.sl 4 (mTk a0r.tokens)),I (wi ((wi (a0r.pos+1))+1)),I a0r.length, .tsl 2 (mDg a0r.diags) 1001]),(1001, .arr 56 2 (mDg a0r.diags).length)]⟩ krf (sR tfm ⟨[1,3],[1,1000,1001],[],[]⟩ ⟨[(1, .ptr 1 0),(3,zS)],[(1, .box 118 [.ptr 1000 0]),(1000, .box 120 [.p (.sl 4 (mTk a0r.tokens)),I (wi ((wi (a0r.pos+1))+1)),I a0r.length, .tsl 2 (mDg a0r.diags) 1001]),(1001, .arr 56 2 (mDg a0r.diags).length)]⟩ krf (sim_bind (fun (j36_1,j36_2,j36_3,j36_4)=>⟨[(3, .tsl 5 (mI j36_1) 600)],[(600, .arr 24 5 (mI j36_1).length),(1000, .box 120 [.p (.sl 4 (mTk j36_2)),I j36_3,I j36_4, .tsl 2 (mDg a0r.diags) 1001]),(1001, .arr 56 2 (mDg a0r.diags).length)]⟩:((List (List PV)) × (List GTk) × Int × Int)→St) ?_ ?_))
     ·refine sS (sG (xR 1 krf ?_))
      refine xs_ro [.ro [.id, .id, .id, .sl 2]] krf (g_p_reader_peek_2_ok n (⟨a0r.tokens,wi ((wi (a0r.pos+1))+1),a0r.length,a0r.diags⟩:GPr)) krf krf (fun _=>by kernel_rfl) (fun r37=>?_)
      refine xR 2 krf (xE (sN ⟨[1,3,4],[1,4,1000,1001],[],[]⟩ ⟨[(1, .ptr 1 0),(3,zS),(4, .ptr 4 0)],[(1, .box 118 [.ptr 1000 0]),(4, .box 123 (bxc (GTk.cs r37))),(1000, .box 120 [.p (.sl 4 (mTk a0r.tokens)),I (wi ((wi (a0r.pos+1))+1)),I a0r.length, .tsl 2 (mDg a0r.diags) 1001]),(1001, .arr 56 2 (mDg a0r.diags).length)]⟩ krf (sB (sP ⟨[1,3,4],[1,4,1000,1001],[],[]⟩ ⟨[(1, .ptr 1 0),(3,zS),(4, .ptr 4 0)],[(1, .box 118 [.ptr 1000 0]),(4, .box 123 (bxc (GTk.cs r37))),(1000, .box 120 [.p (.sl 4 (mTk a0r.tokens)),I (wi ((wi (a0r.pos+1))+1)),I a0r.length, .tsl 2 (mDg a0r.diags) 1001]),(1001, .arr 56 2 (mDg a0r.diags).length)]⟩ krf (sim_weak (weak_pn 24 5 600 [3] [] krf) (sim_loop (fun (l38_1,l38_2,l38_3,l38_4,l38_5,l38_6,l38_7,l38_8)=>⟨[(1, .ptr 1 0),(3, .tsl 5 (mI l38_1) 600),(4, .ptr 4 0)],[(1, .box 118 [.ptr 1000 0]),(4, .box 123 [I l38_5,S l38_6,I l38_7,I l38_8]),(600, .arr 24 5 (mI l38_1).length),(1000, .box 120 [.p (.sl 4 (mTk l38_2)),I l38_3,I l38_4, .tsl 2 (mDg a0r.diags) 1001]),(1001, .arr 56 2 (mDg a0r.diags).length)]⟩:((List (List PV)) × (List GTk) × Int × Int × Int × (List UInt8) × Int × Int)→St) (weak_shr (K:=⟨[1,3,4],[1,4,600,1000,1001],[],[]⟩) krf) ?_))))))
      rintro recl38 ⟨l38_1,l38_2,l38_3,l38_4,l38_5,l38_6,l38_7,l38_8⟩
      show SimE (g_p_reader_item_l38 n a0r recl38 l38_1 l38_2 l38_3 l38_4 l38_5 l38_6 l38_7 l38_8) _ _ _ _ _ _
      unfold g_p_reader_item_l38
      refine sS (sim_bind (fun j39=>⟨[(1, .ptr 1 0),(3, .tsl 5 (mI l38_1) 600),(4, .ptr 4 0),(14,B j39)],[(1, .box 118 [.ptr 1000 0]),(4, .box 123 [I l38_5,S l38_6,I l38_7,I l38_8]),(600, .arr 24 5 (mI l38_1).length),(1000, .box 120 [.p (.sl 4 (mTk l38_2)),I l38_3,I l38_4, .tsl 2 (mDg a0r.diags) 1001]),(1001, .arr 56 2 (mDg a0r.diags).length)]⟩:Bool→St) ?_ ?_)
      ·refine sG (xR 4 krf ?_)
       refine xS (eqI l38_5 1) (fun h40=>?_) (fun h40=>?_)
       ·refine xO (want_tt krf h40) krf (xR 1 krf ?_)
        refine xC [] krf (g_p_isAttr_ok n l38_6) krf krf (fun _=>by kernel_rfl) (fun r41=>?_)
        refine xR 1 krf (xE ?_)
        exact nq_n r41 ⟨[1,3,4,14],[1,4,600,1000,1001],[],[]⟩ krf
       ·refine xN (want_tf krf h40) krf (xR 3 krf (xE ?_))
        exact nq_n false ⟨[1,3,4,14],[1,4,600,1000,1001],[],[]⟩ krf
      ·rintro j39
       refine sC j39 krf ?_ ?_
       ·refine sK (sN ⟨[1,3,4],[1,4,600,1000,1001],[],[]⟩ ⟨[(1, .ptr 1 0),(3, .tsl 5 (mI l38_1) 600),(4, .ptr 4 0)],[(1, .box 118 [.ptr 1000 0]),(4, .box 123 [I l38_5,S l38_6,I l38_7,I l38_8]),(600, .arr 24 5 (mI l38_1).length),(1000, .box 120 [.p (.sl 4 (mTk l38_2)),I l38_3,I l38_4, .tsl 2 (mDg a0r.diags) 1001]),(1001, .arr 56 2 (mDg a0r.diags).length)]⟩ krf (sS (sB (sR tfm ⟨[1,3,4],[1,4,600,1000,1001],[],[]⟩ ⟨[(1, .ptr 1 0),(3, .tsl 5 (mI l38_1) 600),(4, .ptr 4 0)],[(1, .box 118 [.ptr 1000 0]),(4, .box 123 [I l38_5,S l38_6,I l38_7,I l38_8]),(600, .arr 24 5 (mI l38_1).length),(1000, .box 120 [.p (.sl 4 (mTk l38_2)),I (wi (l38_3+1)),I l38_4, .tsl 2 (mDg a0r.diags) 1001]),(1001, .arr 56 2 (mDg a0r.diags).length)]⟩ krf (sG (xR 6 krf (xs_inline [(1000, .box 118 [.ptr 1002 0]),(1001, .box 124 [.fn (.func 126) [] [.ptr 1000 0]]),(1002, .box 120 [.p (.sl 4 (mTk l38_2)),I (wi (l38_3+1)),I l38_4, .tsl 2 (mDg a0r.diags) 1003]),(1003, .arr 56 2 (mDg a0r.diags).length)] [.agg [I l38_5,S l38_6,I l38_7,I l38_8],I 3,S l38_6,I 0, .bsl 1001 1] [(1000,1),(1001,29),(1002,1000),(1003,1001)] [] [] krf Tryz.func80 rfl Tryz.ntmps80 rfl krf krf krf ?_)))))))
        refine sR tfm ⟨[1,2,3,4,5,10],[5,10,1000,1001,1002,1003],[],[]⟩ ⟨[(1,I 3),(2,S l38_6),(3,I 0),(4, .bsl 1001 1),(5, .ptr 5 0),(10, .ptr 10 0)],[(5, .box 123 [I l38_5,S l38_6,I l38_7,I l38_8]),(10, .box 24 [I 0,S [],I 0,I 0,zS]),(1000, .box 118 [.ptr 1002 0]),(1001, .box 124 [.fn (.func 126) [] [.ptr 1000 0]]),(1002, .box 120 [.p (.sl 4 (mTk l38_2)),I (wi (l38_3+1)),I l38_4, .tsl 2 (mDg a0r.diags) 1003]),(1003, .arr 56 2 (mDg a0r.diags).length)]⟩ krf (sR tfm ⟨[4,10,11],[10,11,1000,1001,1002,1003],[],[]⟩ ⟨[(4, .bsl 1001 1),(10, .ptr 10 0),(11, .ptr 11 0)],[(10, .box 24 [I 0,S [],I 0,I 0,zS]),(11, .box 24 [I 3,S l38_6,I 0,I l38_8,zS]),(1000, .box 118 [.ptr 1002 0]),(1001, .box 124 [.fn (.func 126) [] [.ptr 1000 0]]),(1002, .box 120 [.p (.sl 4 (mTk l38_2)),I (wi (l38_3+1)),I l38_4, .tsl 2 (mDg a0r.diags) 1003]),(1003, .arr 56 2 (mDg a0r.diags).length)]⟩ krf (sim_bind (fun (j42_1,j42_2,j42_3,j42_4)=>⟨[(10, .ptr 10 0),(11, .ptr 11 0)],[(10, .box 24 [I 0,S [],I 0,I 0,zS]),(11, .box 24 [I 3,S l38_6,I 0,I l38_8, .tsl 5 (mI j42_1) 600]),(600, .arr 24 5 (mI j42_1).length),(1000, .box 118 [.ptr 1002 0]),(1001, .box 124 [.fn (.func 126) [] [.ptr 1000 0]]),(1002, .box 120 [.p (.sl 4 (mTk j42_2)),I j42_3,I j42_4, .tsl 2 (mDg a0r.diags) 1003]),(1003, .arr 56 2 (mDg a0r.diags).length)]⟩:((List (List PV)) × (List GTk) × Int × Int)→St) ?_ ?_))
        ·refine sR tfm ⟨[10,11,20,21,22],[10,11,1000,1001,1002,1003],[],[]⟩ ⟨[(10, .ptr 10 0),(11, .ptr 11 0),(20, .bsl 1001 1),(21,I 1),(22,I 0)],[(10, .box 24 [I 0,S [],I 0,I 0,zS]),(11, .box 24 [I 3,S l38_6,I 0,I l38_8,zS]),(1000, .box 118 [.ptr 1002 0]),(1001, .box 124 [.fn (.func 126) [] [.ptr 1000 0]]),(1002, .box 120 [.p (.sl 4 (mTk l38_2)),I (wi (l38_3+1)),I l38_4, .tsl 2 (mDg a0r.diags) 1003]),(1003, .arr 56 2 (mDg a0r.diags).length)]⟩ krf (sB (sim_unroll 1 (sR tfm ⟨[10,11,20,21,22,23],[10,11,1000,1001,1002,1003],[],[]⟩ ⟨[(10, .ptr 10 0),(11, .ptr 11 0),(20, .bsl 1001 1),(21,I 1),(22,I 0),(23,B true)],[(10, .box 24 [I 0,S [],I 0,I 0,zS]),(11, .box 24 [I 3,S l38_6,I 0,I l38_8,zS]),(1000, .box 118 [.ptr 1002 0]),(1001, .box 124 [.fn (.func 126) [] [.ptr 1000 0]]),(1002, .box 120 [.p (.sl 4 (mTk l38_2)),I (wi (l38_3+1)),I l38_4, .tsl 2 (mDg a0r.diags) 1003]),(1003, .arr 56 2 (mDg a0r.diags).length)]⟩ krf (sS (sim_condT krf (sK (sN ⟨[10,11,20,21,22],[10,11,1000,1001,1002,1003],[],[]⟩ ⟨[(10, .ptr 10 0),(11, .ptr 11 0),(20, .bsl 1001 1),(21,I 1),(22,I 0)],[(10, .box 24 [I 0,S [],I 0,I 0,zS]),(11, .box 24 [I 3,S l38_6,I 0,I l38_8,zS]),(1000, .box 118 [.ptr 1002 0]),(1001, .box 124 [.fn (.func 126) [] [.ptr 1000 0]]),(1002, .box 120 [.p (.sl 4 (mTk l38_2)),I (wi (l38_3+1)),I l38_4, .tsl 2 (mDg a0r.diags) 1003]),(1003, .arr 56 2 (mDg a0r.diags).length)]⟩ krf ?_)))))))
         refine sS (sB (sR tfm ⟨[10,11,13,20,21,22],[10,11,1000,1001,1002,1003],[],[]⟩ ⟨[(10, .ptr 10 0),(11, .ptr 11 0),(13, .fn (.func 126) [] [.ptr 1000 0]),(20, .bsl 1001 1),(21,I 1),(22,I 0)],[(10, .box 24 [I 0,S [],I 0,I 0,zS]),(11, .box 24 [I 3,S l38_6,I 0,I l38_8,zS]),(1000, .box 118 [.ptr 1002 0]),(1001, .box 124 [.fn (.func 126) [] [.ptr 1000 0]]),(1002, .box 120 [.p (.sl 4 (mTk l38_2)),I (wi (l38_3+1)),I l38_4, .tsl 2 (mDg a0r.diags) 1003]),(1003, .arr 56 2 (mDg a0r.diags).length)]⟩ krf (sP ⟨[10,11,13,20,21,22],[10,11,1000,1001,1002,1003],[],[]⟩ ⟨[(10, .ptr 10 0),(11, .ptr 11 0),(13, .fn (.func 126) [] [.ptr 1000 0]),(20, .bsl 1001 1),(21,I 1),(22,I 0)],[(10, .box 24 [I 0,S [],I 0,I 0,zS]),(11, .box 24 [I 3,S l38_6,I 0,I l38_8,zS]),(1000, .box 118 [.ptr 1002 0]),(1001, .box 124 [.fn (.func 126) [] [.ptr 1000 0]]),(1002, .box 120 [.p (.sl 4 (mTk l38_2)),I (wi (l38_3+1)),I l38_4, .tsl 2 (mDg a0r.diags) 1003]),(1003, .arr 56 2 (mDg a0r.diags).length)]⟩ krf (sim_weak (weak_pn 24 5 600 [] [(11,4)] krf) (sim_hst [0,1,2] [0,1] [(3,[]),(4,[]),(5,[]),(6,[])] tfm rfl krf krf (h_enter (f:=126) (args:=[.ptr 1000 0]) (dst:=some 29) krf krf (sc_inline (hc:=[(1000, .box 118 [.ptr 1001 0]),(1001, .box 120 [.p (.sl 4 (mTk l38_2)),I (wi (l38_3+1)),I l38_4, .tsl 2 (mDg a0r.diags) 1002]),(1002, .arr 56 2 (mDg a0r.diags).length)]) (args':=[.ptr 1000 0]) [(1000,1000),(1001,1002),(1002,1003)] [] [] Tryz.func126 rfl Tryz.ntmps126 rfl krf krf krf ?_)))))))
         refine sR tfm ⟨[0],[1000,1001,1002],[],[]⟩ ⟨[(0, .ptr 1000 0)],[(1000, .box 118 [.ptr 1001 0]),(1001, .box 120 [.p (.sl 4 (mTk l38_2)),I (wi (l38_3+1)),I l38_4, .tsl 2 (mDg a0r.diags) 1002]),(1002, .arr 56 2 (mDg a0r.diags).length)]⟩ krf (sS (sG (xR 1 krf (xs_enter (f:=127) (args:=[.ptr 1001 0, .p (.val (.func (.func 116) #[] #[]))]) krf krf krf ?_))))
         refine sc_hold 1001 3 1002 56 2 (mDg a0r.diags).length (mDg a0r.diags) ⟨[0,2],[1000,1001],[],[]⟩ krf krf rfl (fun _ _ _=>by kernel_rfl) (fun hu43w hu43l hu43c=>?_)
         refine sc_heap [(1000,1001)] [] [] (g_p_reader_values_ok n (⟨l38_2,wi (l38_3+1),l38_4,[]⟩:GPr) hu43w hu43l hu43c) krf krf krf (fun _=>by kernel_rfl) (fun _=>by kernel_rfl) (fun r43=>?_)
         refine k_hold _ rfl krf krf (kr0 (xR 1 krf (xE (sN ⟨[1],[1000,1001,1002],[],[]⟩ ⟨[(1, .p (.sl 5 (mI r43.1)))],[(1000, .box 118 [.ptr 1001 0]),(1001, .box 120 [.p (.sl 4 (mTk r43.2.tokens)),I r43.2.pos,I r43.2.length, .tsl 2 (mDg a0r.diags) 1002]),(1002, .arr 56 2 (mDg a0r.diags).length)]⟩ krf (sT (iq_ret (.id) [1000,1001,1002] [] (.p (.sl 5 (mI r43.1))) krf krf (kh [0,1] krf (lates_cons (late_read (.ptr 11 4) krf rfl) (lates_cons (late_tsl (S:=5) (t:=600) (ty:=24) (es:=mI []) krf krf rfl) (lates_nil))) krf ?_)))))))
         refine h_if [] rfl krf krf (aop_appL (e:=24) (S:=5) (by_:=64) (enc:=idc) (tk:=600) (l:=[]) (l2:=r43.1) (xv:=.p (.sl 5 (mI r43.1))) rfl krf krf rfl krf krf krf krf) (fun _=>lates_nil) (h_op [] krf krf (lates_nil) (h_op [] krf krf (lates_nil) (h_end (bq_n (sN ⟨[10,11,20,21,22],[10,11,600,1000,1001,1002,1003],[],[]⟩ ⟨[(10, .ptr 10 0),(11, .ptr 11 0),(20, .bsl 1001 1),(21,I 1),(22,I 0)],[(10, .box 24 [I 0,S [],I 0,I 0,zS]),(11, .box 24 [I 3,S l38_6,I 0,I l38_8, .tsl 5 (mI ([]++r43.1)) 600]),(600, .arr 24 5 (mI ([]++r43.1)).length),(1000, .box 118 [.ptr 1002 0]),(1001, .box 124 [.fn (.func 126) [] [.ptr 1000 0]]),(1002, .box 120 [.p (.sl 4 (mTk r43.2.tokens)),I r43.2.pos,I r43.2.length, .tsl 2 (mDg a0r.diags) 1003]),(1003, .arr 56 2 (mDg a0r.diags).length)]⟩ krf (sL tfm krf (ru_n ⟨[10,11,20,21,22],[10,11,600,1000,1001,1002,1003],[],[]⟩ ⟨[(10, .ptr 10 0),(11, .ptr 11 0),(20, .bsl 1001 1),(21,I 1),(22,I 1)],[(10, .box 24 [I 0,S [],I 0,I 0,zS]),(11, .box 24 [I 3,S l38_6,I 0,I l38_8, .tsl 5 (mI ([]++r43.1)) 600]),(600, .arr 24 5 (mI ([]++r43.1)).length),(1000, .box 118 [.ptr 1002 0]),(1001, .box 124 [.fn (.func 126) [] [.ptr 1000 0]]),(1002, .box 120 [.p (.sl 4 (mTk r43.2.tokens)),I r43.2.pos,I r43.2.length, .tsl 2 (mDg a0r.diags) 1003]),(1003, .arr 56 2 (mDg a0r.diags).length)]⟩ krf ?_)))))))
         refine sR tfm ⟨[10,11,20,21,22,23],[10,11,600,1000,1001,1002,1003],[],[]⟩ ⟨[(10, .ptr 10 0),(11, .ptr 11 0),(20, .bsl 1001 1),(21,I 1),(22,I 1),(23,B false)],[(10, .box 24 [I 0,S [],I 0,I 0,zS]),(11, .box 24 [I 3,S l38_6,I 0,I l38_8, .tsl 5 (mI ([]++r43.1)) 600]),(600, .arr 24 5 (mI ([]++r43.1)).length),(1000, .box 118 [.ptr 1002 0]),(1001, .box 124 [.fn (.func 126) [] [.ptr 1000 0]]),(1002, .box 120 [.p (.sl 4 (mTk r43.2.tokens)),I r43.2.pos,I r43.2.length, .tsl 2 (mDg a0r.diags) 1003]),(1003, .arr 56 2 (mDg a0r.diags).length)]⟩ krf (sS (sim_condF krf (sim_exit (sq_x (ru_x (bq_hit ?_))))))
         exact nq_n ([]++r43.1,r43.2.tokens,r43.2.pos,r43.2.length) ⟨[10,11],[10,11,600,1000,1001,1002,1003],[],[]⟩ krf
        ·rintro ⟨j42_1,j42_2,j42_3,j42_4⟩
         refine sR tfm ⟨[10],[10,600,1000,1001,1002,1003],[],[]⟩ ⟨[(10, .ptr 10 0)],[(10, .box 24 [I 3,S l38_6,I 0,I l38_8, .tsl 5 (mI j42_1) 600]),(600, .arr 24 5 (mI j42_1).length),(1000, .box 118 [.ptr 1002 0]),(1001, .box 124 [.fn (.func 126) [] [.ptr 1000 0]]),(1002, .box 120 [.p (.sl 4 (mTk j42_2)),I j42_3,I j42_4, .tsl 2 (mDg a0r.diags) 1003]),(1003, .arr 56 2 (mDg a0r.diags).length)]⟩ krf (sT (iq_ret (.agg [.id, .id, .id, .id, .sl 5]) [1000,1001,1002,1003] [] (.agg [I 3,S l38_6,I 0,I l38_8, .p (.sl 5 (mI j42_1))]) krf krf (kr0 (xR 1 krf (xF krf krf (aop_app (e:=24) (S:=5) (by_:=64) (enc:=idc) (tk:=600) (l:=l38_1) (l2:=[GNode.cs (⟨3,l38_6,0,l38_8,j42_1⟩:GNode)]) (xv:=.tsl 5 (mI [GNode.cs (⟨3,l38_6,0,l38_8,j42_1⟩:GNode)]) 31) rfl krf krf rfl krf krf krf rfl krf) (xR 1 krf (xE ?_)))))))
         refine bq_n (sN ⟨[1,3,4],[1,4,600,1000,1001],[],[]⟩ ⟨[(1, .ptr 1 0),(3, .tsl 5 (mI (l38_1++[GNode.cs (⟨3,l38_6,0,l38_8,j42_1⟩:GNode)])) 600),(4, .ptr 4 0)],[(1, .box 118 [.ptr 1000 0]),(4, .box 123 [I l38_5,S l38_6,I l38_7,I l38_8]),(600, .arr 24 5 (mI (l38_1++[GNode.cs (⟨3,l38_6,0,l38_8,j42_1⟩:GNode)])).length),(1000, .box 120 [.p (.sl 4 (mTk j42_2)),I j42_3,I j42_4, .tsl 2 (mDg a0r.diags) 1001]),(1001, .arr 56 2 (mDg a0r.diags).length)]⟩ krf (sS (sR tfm ⟨[1,3,33],[1,600,1000,1001],[],[]⟩ ⟨[(1, .ptr 1 0),(3, .tsl 5 (mI (l38_1++[GNode.cs (⟨3,l38_6,0,l38_8,j42_1⟩:GNode)])) 600),(33, .agg [I l38_5,S l38_6,I l38_7,I l38_8])],[(1, .box 118 [.ptr 1000 0]),(600, .arr 24 5 (mI (l38_1++[GNode.cs (⟨3,l38_6,0,l38_8,j42_1⟩:GNode)])).length),(1000, .box 120 [.p (.sl 4 (mTk j42_2)),I j42_3,I j42_4, .tsl 2 (mDg a0r.diags) 1001]),(1001, .arr 56 2 (mDg a0r.diags).length)]⟩ krf (sL tfm krf (sN ⟨[1,3,4],[1,4,600,1000,1001],[],[]⟩ ⟨[(1, .ptr 1 0),(3, .tsl 5 (mI (l38_1++[GNode.cs (⟨3,l38_6,0,l38_8,j42_1⟩:GNode)])) 600),(4, .ptr 4 0)],[(1, .box 118 [.ptr 1000 0]),(4, .box 123 [I l38_5,S l38_6,I l38_7,I l38_8]),(600, .arr 24 5 (mI (l38_1++[GNode.cs (⟨3,l38_6,0,l38_8,j42_1⟩:GNode)])).length),(1000, .box 120 [.p (.sl 4 (mTk j42_2)),I j42_3,I j42_4, .tsl 2 (mDg a0r.diags) 1001]),(1001, .arr 56 2 (mDg a0r.diags).length)]⟩ krf (sG (xR 1 krf ?_)))))))
         refine xs_ro [.ro [.id, .id, .id, .sl 2]] krf (g_p_reader_peek_2_ok n (⟨j42_2,j42_3,j42_4,a0r.diags⟩:GPr)) krf krf (fun _=>by kernel_rfl) (fun r44=>?_)
         refine xR 1 krf (xE ?_)
         exact kq_n (l38_1++[GNode.cs (⟨3,l38_6,0,l38_8,j42_1⟩:GNode)],j42_2,j42_3,j42_4,r44.Kind,r44.Text,r44.N,r44.At) ⟨[1,3,4],[1,4,600,1000,1001],[],[]⟩ krf
       ·refine sim_exit (sq_x (kq_x (bq_hit ?_)))
        exact nq_n (l38_1,l38_2,l38_3,l38_4) ⟨[3],[600,1000,1001],[],[]⟩ krf
     ·rintro ⟨j36_1,j36_2,j36_3,j36_4⟩
      refine sR tfm ⟨[2],[600,1000,1001],[],[]⟩ ⟨[(2, .tsl 5 (mI j36_1) 600)],[(600, .arr 24 5 (mI j36_1).length),(1000, .box 120 [.p (.sl 4 (mTk j36_2)),I j36_3,I j36_4, .tsl 2 (mDg a0r.diags) 1001]),(1001, .arr 56 2 (mDg a0r.diags).length)]⟩ krf (sT (iq_ret (.sl 5) [1000,1001] [] (.p (.sl 5 (mI j36_1))) krf krf (kh [0,1] krf (lates_cons (late_read (.ptr 11 4) krf rfl) (lates_cons (late_tsl (S:=5) (t:=600) (ty:=24) (es:=mI []) krf krf rfl) (lates_nil))) krf (h_if [] rfl krf krf (aop_appL (e:=24) (S:=5) (by_:=64) (enc:=idc) (tk:=600) (l:=[]) (l2:=j36_1) (xv:=.p (.sl 5 (mI j36_1))) rfl krf krf rfl krf krf krf krf) (fun _=>lates_nil) (h_op [] krf krf (lates_nil) (h_op [] krf krf (lates_nil) (h_end ?_)))))))
      refine bq_n (sN ⟨[10,11,20,21,22],[10,11,600,1000,1001,1002,1003],[],[]⟩ ⟨[(10, .ptr 10 0),(11, .ptr 11 0),(20, .bsl 1001 2),(21,I 2),(22,I 0)],[(10, .box 24 [I 0,S [],I 0,I 0,zS]),(11, .box 24 [I 2,S r3.Text,I r5,I r1.At, .tsl 5 (mI ([]++j36_1)) 600]),(600, .arr 24 5 (mI ([]++j36_1)).length),(1000, .box 118 [.ptr 1002 0]),(1001, .box 124 [.fn (.func 119) [.ptr 1002 0] [], .fn (.func 121) [] [.ptr 1000 0]]),(1002, .box 120 [.p (.sl 4 (mTk j36_2)),I j36_3,I j36_4, .tsl 2 (mDg a0r.diags) 1003]),(1003, .arr 56 2 (mDg a0r.diags).length)]⟩ krf (sL tfm krf (ru_n ⟨[10,11,20,21,22],[10,11,600,1000,1001,1002,1003],[],[]⟩ ⟨[(10, .ptr 10 0),(11, .ptr 11 0),(20, .bsl 1001 2),(21,I 2),(22,I 1)],[(10, .box 24 [I 0,S [],I 0,I 0,zS]),(11, .box 24 [I 2,S r3.Text,I r5,I r1.At, .tsl 5 (mI ([]++j36_1)) 600]),(600, .arr 24 5 (mI ([]++j36_1)).length),(1000, .box 118 [.ptr 1002 0]),(1001, .box 124 [.fn (.func 119) [.ptr 1002 0] [], .fn (.func 121) [] [.ptr 1000 0]]),(1002, .box 120 [.p (.sl 4 (mTk j36_2)),I j36_3,I j36_4, .tsl 2 (mDg a0r.diags) 1003]),(1003, .arr 56 2 (mDg a0r.diags).length)]⟩ krf (sR tfm ⟨[10,11,20,21,22,23],[10,11,600,1000,1001,1002,1003],[],[]⟩ ⟨[(10, .ptr 10 0),(11, .ptr 11 0),(20, .bsl 1001 2),(21,I 2),(22,I 1),(23,B true)],[(10, .box 24 [I 0,S [],I 0,I 0,zS]),(11, .box 24 [I 2,S r3.Text,I r5,I r1.At, .tsl 5 (mI ([]++j36_1)) 600]),(600, .arr 24 5 (mI ([]++j36_1)).length),(1000, .box 118 [.ptr 1002 0]),(1001, .box 124 [.fn (.func 119) [.ptr 1002 0] [], .fn (.func 121) [] [.ptr 1000 0]]),(1002, .box 120 [.p (.sl 4 (mTk j36_2)),I j36_3,I j36_4, .tsl 2 (mDg a0r.diags) 1003]),(1003, .arr 56 2 (mDg a0r.diags).length)]⟩ krf (sS (sim_condT krf (sK ?_)))))))
      refine sN ⟨[10,11,20,21,22],[10,11,600,1000,1001,1002,1003],[],[]⟩ ⟨[(10, .ptr 10 0),(11, .ptr 11 0),(20, .bsl 1001 2),(21,I 2),(22,I 1)],[(10, .box 24 [I 0,S [],I 0,I 0,zS]),(11, .box 24 [I 2,S r3.Text,I r5,I r1.At, .tsl 5 (mI ([]++j36_1)) 600]),(600, .arr 24 5 (mI ([]++j36_1)).length),(1000, .box 118 [.ptr 1002 0]),(1001, .box 124 [.fn (.func 119) [.ptr 1002 0] [], .fn (.func 121) [] [.ptr 1000 0]]),(1002, .box 120 [.p (.sl 4 (mTk j36_2)),I j36_3,I j36_4, .tsl 2 (mDg a0r.diags) 1003]),(1003, .arr 56 2 (mDg a0r.diags).length)]⟩ krf (sS (sB (sR tfm ⟨[10,11,13,20,21,22],[10,11,600,1000,1001,1002,1003],[],[]⟩ ⟨[(10, .ptr 10 0),(11, .ptr 11 0),(13, .fn (.func 121) [] [.ptr 1000 0]),(20, .bsl 1001 2),(21,I 2),(22,I 1)],[(10, .box 24 [I 0,S [],I 0,I 0,zS]),(11, .box 24 [I 2,S r3.Text,I r5,I r1.At, .tsl 5 (mI ([]++j36_1)) 600]),(600, .arr 24 5 (mI ([]++j36_1)).length),(1000, .box 118 [.ptr 1002 0]),(1001, .box 124 [.fn (.func 119) [.ptr 1002 0] [], .fn (.func 121) [] [.ptr 1000 0]]),(1002, .box 120 [.p (.sl 4 (mTk j36_2)),I j36_3,I j36_4, .tsl 2 (mDg a0r.diags) 1003]),(1003, .arr 56 2 (mDg a0r.diags).length)]⟩ krf (sim_hst [0,1,2] [0,1] [(3,[]),(4,[]),(5,[]),(6,[])] tfm rfl krf krf (h_enter (f:=121) (args:=[.ptr 1000 0]) (dst:=some 29) krf krf (sc_inline (hc:=[(1000, .box 118 [.ptr 1001 0]),(1001, .box 120 [.p (.sl 4 (mTk j36_2)),I j36_3,I j36_4, .tsl 2 (mDg a0r.diags) 1002]),(1002, .arr 56 2 (mDg a0r.diags).length)]) (args':=[.ptr 1000 0]) [(1000,1000),(1001,1002),(1002,1003)] [] [] Tryz.func121 rfl Tryz.ntmps121 rfl krf krf krf (sR tfm ⟨[0],[1000,1001,1002],[],[]⟩ ⟨[(0, .ptr 1000 0)],[(1000, .box 118 [.ptr 1001 0]),(1001, .box 120 [.p (.sl 4 (mTk j36_2)),I j36_3,I j36_4, .tsl 2 (mDg a0r.diags) 1002]),(1002, .arr 56 2 (mDg a0r.diags).length)]⟩ krf ?_)))))))
      refine sS (sim_hst [0] [0] [(1,[]),(2,[])] tfm rfl krf krf (h_enter (f:=118) (args:=[S [59]]) (dst:=some 3) krf krf (sc_inline (hc:=[]) (args':=[S [59]]) [(1,401)] [] [] Tryz.func118 rfl Tryz.ntmps118 rfl krf krf krf (sR tfm ⟨[1],[1],[],[]⟩ ⟨[(1, .ptr 1 0)],[(1, .box 9 [S [59]])]⟩ krf (sR tfm ⟨[2],[1],[],[]⟩ ⟨[(2, .fn (.func 125) [] [.ptr 1 0])],[(1, .box 9 [S [59]])]⟩ krf (sT (iq_ret (.id) [1] [] (.fn (.func 125) [] [.ptr 1 0]) krf krf ?_)))))))
      refine kh [0] krf (lates_cons (late_read (.ptr 1001 0) krf rfl) (lates_nil)) krf (h_enter (f:=113) (args:=[.ptr 1001 0, .fn (.func 125) [] [.ptr 401 0]]) (dst:=some 4) krf krf (sc_inline (hc:=[(1000, .box 9 [S [59]]),(1001, .box 120 [.p (.sl 4 (mTk j36_2)),I j36_3,I j36_4, .tsl 2 (mDg a0r.diags) 1002]),(1002, .arr 56 2 (mDg a0r.diags).length)]) (args':=[.ptr 1001 0, .fn (.func 125) [] [.ptr 1000 0]]) [(1000,401),(1001,1001),(1002,1002)] [] [] Tryz.func113 rfl Tryz.ntmps113 rfl krf krf krf (sR tfm ⟨[0,1,4],[4,1000,1001,1002],[],[]⟩ ⟨[(0, .ptr 1001 0),(1, .fn (.func 125) [] [.ptr 1000 0]),(4, .ptr 4 0)],[(4, .box 123 [I 0,S [],I 0,I 0]),(1000, .box 9 [S [59]]),(1001, .box 120 [.p (.sl 4 (mTk j36_2)),I j36_3,I j36_4, .tsl 2 (mDg a0r.diags) 1002]),(1002, .arr 56 2 (mDg a0r.diags).length)]⟩ krf (sS (sG (xR 1 krf ?_))))))
      refine xs_ro [.ro [.id, .id, .id, .sl 2]] krf (g_p_reader_peek_2_ok n (⟨j36_2,j36_3,j36_4,a0r.diags⟩:GPr)) krf krf (fun _=>by kernel_rfl) (fun r45=>?_)
      refine xR 2 krf (xE (sN ⟨[0,1,4,5],[4,5,1000,1001,1002],[],[]⟩ ⟨[(0, .ptr 1001 0),(1, .fn (.func 125) [] [.ptr 1000 0]),(4, .ptr 4 0),(5, .ptr 5 0)],[(4, .box 123 [I 0,S [],I 0,I 0]),(5, .box 123 (bxc (GTk.cs r45))),(1000, .box 9 [S [59]]),(1001, .box 120 [.p (.sl 4 (mTk j36_2)),I j36_3,I j36_4, .tsl 2 (mDg a0r.diags) 1002]),(1002, .arr 56 2 (mDg a0r.diags).length)]⟩ krf (sim_cps (fun _=>⟨[(0, .ptr 1001 0),(4, .ptr 4 0),(5, .ptr 5 0)],[(4, .box 123 [I 0,S [],I 0,I 0]),(5, .box 123 (bxc (GTk.cs r45))),(1000, .box 9 [S [59]]),(1001, .box 120 [.p (.sl 4 (mTk j36_2)),I j36_3,I j36_4, .tsl 2 (mDg a0r.diags) 1002]),(1002, .arr 56 2 (mDg a0r.diags).length)]⟩:Unit→St) (fun _=>g_p_reader_item_j46 a0r r1 r3 r5 j36_1 j36_2 j36_3 j36_4) ?_ ?_)))
      ·rintro _
       show SimE (g_p_reader_item_j46 a0r r1 r3 r5 j36_1 j36_2 j36_3 j36_4) _ _ _ _ _ _
       unfold g_p_reader_item_j46
       refine sR tfm ⟨[4,5],[4,5,1000,1001,1002],[],[]⟩ ⟨[(4, .ptr 4 0),(5, .ptr 5 0)],[(4, .box 123 [I 0,S [],I 0,I 0]),(5, .box 123 (bxc (GTk.cs r45))),(1000, .box 9 [S [59]]),(1001, .box 120 [.p (.sl 4 (mTk j36_2)),I (wi (j36_3+1)),I j36_4, .tsl 2 (mDg a0r.diags) 1002]),(1002, .arr 56 2 (mDg a0r.diags).length)]⟩ krf (sR tfm ⟨[4],[4,1000,1001,1002],[],[]⟩ ⟨[(4, .ptr 4 0)],[(4, .box 123 (bxc (GTk.cs r45))),(1000, .box 9 [S [59]]),(1001, .box 120 [.p (.sl 4 (mTk j36_2)),I (wi (j36_3+1)),I j36_4, .tsl 2 (mDg a0r.diags) 1002]),(1002, .arr 56 2 (mDg a0r.diags).length)]⟩ krf (sT (iq_ret (.id) [1000,1001,1002] [] (.agg [I r45.Kind,S r45.Text,I r45.N,I r45.At]) krf krf (kh [] krf (lates_nil) krf (h_end (sN ⟨[],[1000,1001,1002],[],[]⟩ ⟨[],[(1000, .box 118 [.ptr 1001 0]),(1001, .box 120 [.p (.sl 4 (mTk j36_2)),I (wi (j36_3+1)),I j36_4, .tsl 2 (mDg a0r.diags) 1002]),(1002, .arr 56 2 (mDg a0r.diags).length)]⟩ krf (sR tfm ⟨[1],[1000,1001,1002],[],[]⟩ ⟨[(1,zS)],[(1000, .box 118 [.ptr 1001 0]),(1001, .box 120 [.p (.sl 4 (mTk j36_2)),I (wi (j36_3+1)),I j36_4, .tsl 2 (mDg a0r.diags) 1002]),(1002, .arr 56 2 (mDg a0r.diags).length)]⟩ krf ?_)))))))
       refine sT (iq_ret (.sl 5) [1000,1001,1002] [] (.p (.sl 5 (mI []))) krf krf (kh [0,1] krf (lates_cons (late_read (.ptr 11 4) krf rfl) (lates_cons (late_tsl (S:=5) (t:=600) (ty:=24) (es:=mI ([]++j36_1)) krf krf rfl) (lates_nil))) krf (h_if [] rfl krf krf (aop_appL (e:=24) (S:=5) (by_:=64) (enc:=idc) (tk:=600) (l:=[]++j36_1) (l2:=[]) (xv:=.p (.sl 5 (mI []))) rfl krf krf rfl krf krf krf krf) (fun _=>lates_nil) (h_op [] krf krf (lates_nil) (h_op [] krf krf (lates_nil) (h_end (bq_n ?_)))))))
       refine sN ⟨[10,11,20,21,22],[10,11,600,1000,1001,1002,1003],[],[]⟩ ⟨[(10, .ptr 10 0),(11, .ptr 11 0),(20, .bsl 1001 2),(21,I 2),(22,I 1)],[(10, .box 24 [I 0,S [],I 0,I 0,zS]),(11, .box 24 [I 2,S r3.Text,I r5,I r1.At, .tsl 5 (mI (([]++j36_1)++[])) 600]),(600, .arr 24 5 (mI (([]++j36_1)++[])).length),(1000, .box 118 [.ptr 1002 0]),(1001, .box 124 [.fn (.func 119) [.ptr 1002 0] [], .fn (.func 121) [] [.ptr 1000 0]]),(1002, .box 120 [.p (.sl 4 (mTk j36_2)),I (wi (j36_3+1)),I j36_4, .tsl 2 (mDg a0r.diags) 1003]),(1003, .arr 56 2 (mDg a0r.diags).length)]⟩ krf (sL tfm krf (ru_n ⟨[10,11,20,21,22],[10,11,600,1000,1001,1002,1003],[],[]⟩ ⟨[(10, .ptr 10 0),(11, .ptr 11 0),(20, .bsl 1001 2),(21,I 2),(22,I 2)],[(10, .box 24 [I 0,S [],I 0,I 0,zS]),(11, .box 24 [I 2,S r3.Text,I r5,I r1.At, .tsl 5 (mI (([]++j36_1)++[])) 600]),(600, .arr 24 5 (mI (([]++j36_1)++[])).length),(1000, .box 118 [.ptr 1002 0]),(1001, .box 124 [.fn (.func 119) [.ptr 1002 0] [], .fn (.func 121) [] [.ptr 1000 0]]),(1002, .box 120 [.p (.sl 4 (mTk j36_2)),I (wi (j36_3+1)),I j36_4, .tsl 2 (mDg a0r.diags) 1003]),(1003, .arr 56 2 (mDg a0r.diags).length)]⟩ krf (sR tfm ⟨[10,11,20,21,22,23],[10,11,600,1000,1001,1002,1003],[],[]⟩ ⟨[(10, .ptr 10 0),(11, .ptr 11 0),(20, .bsl 1001 2),(21,I 2),(22,I 2),(23,B false)],[(10, .box 24 [I 0,S [],I 0,I 0,zS]),(11, .box 24 [I 2,S r3.Text,I r5,I r1.At, .tsl 5 (mI (([]++j36_1)++[])) 600]),(600, .arr 24 5 (mI (([]++j36_1)++[])).length),(1000, .box 118 [.ptr 1002 0]),(1001, .box 124 [.fn (.func 119) [.ptr 1002 0] [], .fn (.func 121) [] [.ptr 1000 0]]),(1002, .box 120 [.p (.sl 4 (mTk j36_2)),I (wi (j36_3+1)),I j36_4, .tsl 2 (mDg a0r.diags) 1003]),(1003, .arr 56 2 (mDg a0r.diags).length)]⟩ krf (sS (sim_condF krf (sim_exit (sq_x ?_)))))))
       refine ru_x (bq_hit ?_)
       exact kq_n (k:=fun (j35_1,j35_2,j35_3,j35_4)=>g_p_reader_item_j35 a0r r1 r3 r5 j35_1 j35_2 j35_3 j35_4) (([]++j36_1)++[],j36_2,wi (j36_3+1),j36_4) ⟨[10,11],[10,11,600,1000,1001,1002,1003],[],[]⟩ krf
      ·refine sim_bind (fun j47=>⟨[(0, .ptr 1001 0),(4, .ptr 4 0),(5, .ptr 5 0),(16,B j47)],[(4, .box 123 [I 0,S [],I 0,I 0]),(5, .box 123 (bxc (GTk.cs r45))),(1000, .box 9 [S [59]]),(1001, .box 120 [.p (.sl 4 (mTk j36_2)),I j36_3,I j36_4, .tsl 2 (mDg a0r.diags) 1002]),(1002, .arr 56 2 (mDg a0r.diags).length)]⟩:Bool→St) ?_ ?_
       ·refine sG (xR 4 krf ?_)
        refine xS (eqI r45.Kind 0) (fun h48=>?_) (fun h48=>?_)
        ·refine xN (want_ft krf h48) krf (xR 4 krf (xE ?_))
         exact nq_n true ⟨[0,4,5,16],[4,5,1000,1001,1002],[],[]⟩ krf
        ·refine xO (want_ff krf h48) krf (xR 1 krf (xs_inline [(1000, .box 9 [S [59]])] [.agg [I r45.Kind,S r45.Text,I r45.N,I r45.At], .ptr 1000 0] [(1000,1000)] [] [] krf Tryz.func125 rfl Tryz.ntmps125 rfl krf krf krf (sR tfm ⟨[1,2],[2,1000],[],[]⟩ ⟨[(1, .ptr 1000 0),(2, .ptr 2 0)],[(2, .box 123 (bxc (GTk.cs r45))),(1000, .box 9 [S [59]])]⟩ krf (sim_bind (fun j49=>⟨[(3,B j49)],[(1000, .box 9 [S [59]])]⟩:Bool→St) ?_ ?_))))
         ·refine sG (xR 4 krf ?_)
          refine xS (eqI r45.Kind 3) (fun h50=>?_) (fun h50=>?_)
          ·refine xO (want_tt krf h50) krf (xR 5 krf (xE ?_))
           exact nq_n (eqS r45.Text [59]) ⟨[3],[1000],[],[]⟩ krf
          ·refine xN (want_tf krf h50) krf (xR 5 krf (xE ?_))
           exact nq_n false ⟨[3],[1000],[],[]⟩ krf
         ·rintro j49
          refine sT (iq_ret (.id) [1000] [] (B j49) krf krf (kr0 (xR 2 krf (xE ?_))))
          exact nq_n (!j49) ⟨[0,4,5,16],[4,5,1000,1001,1002],[],[]⟩ krf
       ·rintro j47
        refine sC j47 krf ?_ ?_
        ·refine sG (xR 1 krf ?_)
         refine xs_roE [.ro [.id, .id, .id, .sl 2]] krf (g_p_reader_fail_2_ok n (⟨j36_2,j36_3,j36_4,a0r.diags⟩:GPr)) krf krf (fun _=>by kernel_rfl) (fun _=>by kernel_rfl) (fun r51=>?_) (fun e52=>?_)
         ·refine xE ?_
          exact kq_n (k:=fun _=>g_p_reader_item_j46 a0r r1 r3 r5 j36_1 j36_2 j36_3 j36_4) () ⟨[0,4,5],[4,5,1000,1001,1002],[],[]⟩ krf
         ·refine kq_p (iq_p [1000,1001,1002] [] krf (qh_p _ rfl (sq_p (iq_p [1000,1001,1002] [] krf (qh_p _ rfl (bq_p (sq_p ?_)))))))
          refine ru_p (bq_p (kq_p (iq_p [1000,1001,1002,1003] [] krf (sq_p ?_))))
          exact hq_p [1000,1103] [] krf krf krf
        ·refine sK ?_
         exact kq_n (k:=fun _=>g_p_reader_item_j46 a0r r1 r3 r5 j36_1 j36_2 j36_3 j36_4) () ⟨[0,4,5],[4,5,1000,1001,1002],[],[]⟩ krf
  ·refine sim_bind (fun j53=>⟨[(0, .ptr 1001 0),(4, .ptr 4 0),(5, .ptr 5 0),(16,B j53)],[(4, .box 123 [I 0,S [],I 0,I 0]),(5, .box 123 (bxc (GTk.cs r3))),(1000, .box 68 [.p (.val (.func (.func 116) #[] #[]))]),(1001, .box 120 [.p (.sl 4 (mTk a0r.tokens)),I (wi (a0r.pos+1)),I a0r.length, .tsl 2 (mDg a0r.diags) 1002]),(1002, .arr 56 2 (mDg a0r.diags).length)]⟩:Bool→St) ?_ ?_
   ·refine sG (xR 4 krf ?_)
    refine xS (eqI r3.Kind 0) (fun h54=>?_) (fun h54=>?_)
    ·refine xN (want_ft krf h54) krf (xR 4 krf (xE ?_))
     exact nq_n true ⟨[0,4,5,16],[4,5,1000,1001,1002],[],[]⟩ krf
    ·refine xO (want_ff krf h54) krf (xR 1 krf (xs_inline [(1000, .box 68 [.p (.val (.func (.func 116) #[] #[]))])] [.agg [I r3.Kind,S r3.Text,I r3.N,I r3.At], .ptr 1000 0] [(1000,1000)] [] [] krf Tryz.func124 rfl Tryz.ntmps124 rfl krf krf krf (sR tfm ⟨[1,2],[2,1000],[],[]⟩ ⟨[(1, .ptr 1000 0),(2, .ptr 2 0)],[(2, .box 123 (bxc (GTk.cs r3))),(1000, .box 68 [.p (.val (.func (.func 116) #[] #[]))])]⟩ krf (sim_bind (fun j55=>⟨[(3,B j55)],[(1000, .box 68 [.p (.val (.func (.func 116) #[] #[]))])]⟩:Bool→St) ?_ ?_))))
     ·refine sG (xR 4 krf ?_)
      refine xS (eqI r3.Kind 1) (fun h56=>?_) (fun h56=>?_)
      ·refine xO (want_tt krf h56) krf (xR 2 krf ?_)
       refine xC [] krf (g_p_notKey_ok n r3.Text) krf krf (fun _=>by kernel_rfl) (fun r57=>?_)
       refine xR 2 krf (xE ?_)
       exact nq_n r57 ⟨[3],[1000],[],[]⟩ krf
      ·refine xN (want_tf krf h56) krf (xR 5 krf (xE ?_))
       exact nq_n false ⟨[3],[1000],[],[]⟩ krf
     ·rintro j55
      refine sT (iq_ret (.id) [1000] [] (B j55) krf krf (kr0 (xR 2 krf (xE ?_))))
      exact nq_n (!j55) ⟨[0,4,5,16],[4,5,1000,1001,1002],[],[]⟩ krf
   ·rintro j53
    refine sC j53 krf ?_ ?_
    ·refine sG (xR 1 krf ?_)
     refine xs_roE [.ro [.id, .id, .id, .sl 2]] krf (g_p_reader_fail_2_ok n (⟨a0r.tokens,wi (a0r.pos+1),a0r.length,a0r.diags⟩:GPr)) krf krf (fun _=>by kernel_rfl) (fun _=>by kernel_rfl) (fun r58=>?_) (fun e59=>?_)
     ·refine xE ?_
      exact kq_n (k:=fun _=>g_p_reader_item_j4 n a0r r1 r3) () ⟨[0,4,5],[4,5,1000,1001,1002],[],[]⟩ krf
     ·refine kq_p (iq_p [1000,1001,1002] [] krf (qh_p _ rfl (sq_p ?_)))
      exact hq_p [1000,1103] [] krf krf krf
    ·refine sK ?_
     exact kq_n (k:=fun _=>g_p_reader_item_j4 n a0r r1 r3) () ⟨[0,4,5],[4,5,1000,1001,1002],[],[]⟩ krf
 ·refine sim_bind (fun j60=>⟨[(0, .ptr 1001 0),(4, .ptr 4 0),(5, .ptr 5 0),(16,B j60)],[(4, .box 123 [I 0,S [],I 0,I 0]),(5, .box 123 (bxc (GTk.cs r1))),(1000, .box 68 [.p (.val (.func (.func 115) #[] #[]))]),(1001, .box 120 [.p (.sl 4 (mTk a0r.tokens)),I a0r.pos,I a0r.length, .tsl 2 (mDg a0r.diags) 1002]),(1002, .arr 56 2 (mDg a0r.diags).length)]⟩:Bool→St) ?_ ?_
  ·refine sG (xR 4 krf ?_)
   refine xS (eqI r1.Kind 0) (fun h61=>?_) (fun h61=>?_)
   ·refine xN (want_ft krf h61) krf (xR 4 krf (xE ?_))
    exact nq_n true ⟨[0,4,5,16],[4,5,1000,1001,1002],[],[]⟩ krf
   ·refine xO (want_ff krf h61) krf (xR 1 krf (xs_inline [(1000, .box 68 [.p (.val (.func (.func 115) #[] #[]))])] [.agg [I r1.Kind,S r1.Text,I r1.N,I r1.At], .ptr 1000 0] [(1000,1000)] [] [] krf Tryz.func124 rfl Tryz.ntmps124 rfl krf krf krf (sR tfm ⟨[1,2],[2,1000],[],[]⟩ ⟨[(1, .ptr 1000 0),(2, .ptr 2 0)],[(2, .box 123 (bxc (GTk.cs r1))),(1000, .box 68 [.p (.val (.func (.func 115) #[] #[]))])]⟩ krf (sim_bind (fun j62=>⟨[(3,B j62)],[(1000, .box 68 [.p (.val (.func (.func 115) #[] #[]))])]⟩:Bool→St) ?_ ?_))))
    ·refine sG (xR 4 krf ?_)
     refine xS (eqI r1.Kind 1) (fun h63=>?_) (fun h63=>?_)
     ·refine xO (want_tt krf h63) krf (xR 2 krf ?_)
      refine xC [] krf (g_p_reader_item_1_ok n r1.Text) krf krf (fun _=>by kernel_rfl) (fun r64=>?_)
      refine xR 2 krf (xE ?_)
      exact nq_n r64 ⟨[3],[1000],[],[]⟩ krf
     ·refine xN (want_tf krf h63) krf (xR 5 krf (xE ?_))
      exact nq_n false ⟨[3],[1000],[],[]⟩ krf
    ·rintro j62
     refine sT (iq_ret (.id) [1000] [] (B j62) krf krf (kr0 (xR 2 krf (xE ?_))))
     exact nq_n (!j62) ⟨[0,4,5,16],[4,5,1000,1001,1002],[],[]⟩ krf
  ·rintro j60
   refine sC j60 krf ?_ ?_
   ·refine sG (xR 1 krf ?_)
    refine xs_roE [.ro [.id, .id, .id, .sl 2]] krf (g_p_reader_fail_2_ok n a0r) krf krf (fun _=>by kernel_rfl) (fun _=>by kernel_rfl) (fun r65=>?_) (fun e66=>?_)
    ·refine xE ?_
     exact kq_n (k:=fun _=>g_p_reader_item_j2 n a0r r1) () ⟨[0,4,5],[4,5,1000,1001,1002],[],[]⟩ krf
    ·refine kq_p (iq_p [1000,1001,1002] [] krf (qh_p _ rfl (sq_p ?_)))
     exact hq_p [1000,1103] [] krf krf krf
   ·refine sK ?_
    exact kq_n (k:=fun _=>g_p_reader_item_j2 n a0r r1) () ⟨[0,4,5],[4,5,1000,1001,1002],[],[]⟩ krf
def g_p_count_l1 (a0n:GNode) (a1limit:Int) (rf_parser_count:GNode→Int→Option Int) (recl1:(Int × Int)→Option Int) (l1_1:Int) (l1_2:Int):Option Int :=
 cond (ltI l1_2 (lenI (List.map idc a0n.Kids)))
  ((Option.bind (getI a0n.Kids l1_2) GNode.of).bind fun x2 =>
  cond (ltI a1limit l1_1)
   (some l1_1)
   ((rf_parser_count x2 (wi (a1limit - l1_1))).bind fun r3 =>
   recl1 (wi (l1_1+r3),wi (l1_2+1))))
  (some l1_1)
def g_p_count_body (n:Nat) (rf_parser_count:GNode→Int→Option Int) (a0n:GNode) (a1limit:Int):Option Int :=
 loopN (fun recl1 (l1_1,l1_2)=>g_p_count_l1 a0n a1limit rf_parser_count recl1 l1_1 l1_2) n (1,0)
def g_p_count:Nat→GNode→Int→Option Int
 | 0,_,_=>none
 | n+1,a0n,a1limit=>g_p_count_body n (g_p_count n) a0n a1limit
theorem g_p_count_ok (n:Nat) (a0n:GNode) (a1limit:Int):∀ r,g_p_count n a0n a1limit=some r→PCall Tryz.prog 82 [ag (GNode.cs a0n),I a1limit] (.ret (I r)):=by
 induction n generalizing a0n a1limit with
 | zero=>intro r hr; cases (show (none:Option Int)=some r from hr)
 | succ n ih =>
 show ∀ r,g_p_count_body n (g_p_count n) a0n a1limit=some r→_
 generalize g_p_count n=rf_parser_count at ih ⊢
 refine pcall_sim (X:=fun r:Int=>AEnd.ret (I r)) Tryz.func82 rfl Tryz.ntmps82 rfl ?_
 unfold g_p_count_body
 refine sR tfm ⟨[1,2],[2],[],[]⟩ ⟨[(1,I a1limit),(2, .ptr 2 0)],[(2, .box 24 (bxc (GNode.cs a0n)))]⟩ krf (sR tfm ⟨[1,2,5],[2],[],[]⟩ ⟨[(1,I a1limit),(2, .ptr 2 0),(5,I 1)],[(2, .box 24 (bxc (GNode.cs a0n)))]⟩ krf (sS (sR tfm ⟨[1,5,9,10,11],[],[],[]⟩ ⟨[(1,I a1limit),(5,I 1),(9, .p (.sl 5 (mI a0n.Kids))),(10,I (lenI (mI a0n.Kids))),(11,I 0)],[]⟩ krf (sB (sim_loop (fun (l1_1,l1_2)=>⟨[(1,I a1limit),(5,I l1_1),(9, .p (.sl 5 (mI a0n.Kids))),(10,I (lenI (mI a0n.Kids))),(11,I l1_2)],[]⟩:(Int × Int)→St) (weak_shr (K:=⟨[1,5,9,10,11],[],[],[]⟩) krf) ?_)))))
 rintro recl1 ⟨l1_1,l1_2⟩
 show SimE (g_p_count_l1 a0n a1limit rf_parser_count recl1 l1_1 l1_2) _ _ _ _ _ _
 unfold g_p_count_l1
 refine sR tfm ⟨[1,5,9,10,11,12],[],[],[]⟩ ⟨[(1,I a1limit),(5,I l1_1),(9, .p (.sl 5 (mI a0n.Kids))),(10,I (lenI (mI a0n.Kids))),(11,I l1_2),(12,B (ltI l1_2 (lenI (mI a0n.Kids))))],[]⟩ krf (sS (sC (ltI l1_2 (lenI (mI a0n.Kids))) krf ?_ ?_))
 ·refine sK (sN ⟨[1,5,9,10,11],[],[],[]⟩ ⟨[(1,I a1limit),(5,I l1_1),(9, .p (.sl 5 (mI a0n.Kids))),(10,I (lenI (mI a0n.Kids))),(11,I l1_2)],[]⟩ krf (sS (sB (sS (sG ?_)))))
  refine xG krf krf (aop_idxR (e:=24) (S:=5) (enc:=GNode.cs) (dec:=GNode.of) (l:=a0n.Kids) (k:=.i64) (n:=l1_2) (sv:=.p (.sl 5 (mI a0n.Kids))) GNode.of_cs rfl krf krf krf krf krf) (fun x2=>?_)
  refine xR 3 krf (xE (sN ⟨[1,5,7,9,10,11],[7],[],[]⟩ ⟨[(1,I a1limit),(5,I l1_1),(7, .ptr 7 0),(9, .p (.sl 5 (mI a0n.Kids))),(10,I (lenI (mI a0n.Kids))),(11,I l1_2)],[(7, .box 24 (bxc (GNode.cs x2)))]⟩ krf (sS (sR tfm ⟨[1,5,7,9,10,11,17],[7],[],[]⟩ ⟨[(1,I a1limit),(5,I l1_1),(7, .ptr 7 0),(9, .p (.sl 5 (mI a0n.Kids))),(10,I (lenI (mI a0n.Kids))),(11,I l1_2),(17,B (ltI a1limit l1_1))],[(7, .box 24 (bxc (GNode.cs x2)))]⟩ krf (sC (ltI a1limit l1_1) krf ?_ ?_)))))
  ·refine sR tfm ⟨[4],[],[],[]⟩ ⟨[(4,I l1_1)],[]⟩ krf (sT (sq_r (bq_r (sq_r (kq_r (bq_r (sq_r ?_)))))))
   exact qR (.id) krf krf krf
  ·refine sK (sN ⟨[1,5,7,9,10,11],[7],[],[]⟩ ⟨[(1,I a1limit),(5,I l1_1),(7, .ptr 7 0),(9, .p (.sl 5 (mI a0n.Kids))),(10,I (lenI (mI a0n.Kids))),(11,I l1_2)],[(7, .box 24 (bxc (GNode.cs x2)))]⟩ krf (sG (xR 5 krf ?_)))
   refine xC [] krf (ih x2 (wi (a1limit - l1_1))) krf krf (fun _=>by kernel_rfl) (fun r3=>?_)
   refine xR 2 krf (xE (bq_n (sN ⟨[1,5,9,10,11],[],[],[]⟩ ⟨[(1,I a1limit),(5,I (wi (l1_1+r3))),(9, .p (.sl 5 (mI a0n.Kids))),(10,I (lenI (mI a0n.Kids))),(11,I l1_2)],[]⟩ krf (sL tfm krf ?_))))
   exact kq_n (wi (l1_1+r3),wi (l1_2+1)) ⟨[1,5,9,10,11],[],[],[]⟩ krf
 ·refine sim_exit (sq_x (kq_x (bq_hit (sN ⟨[5],[],[],[]⟩ ⟨[(5,I l1_1)],[]⟩ krf (sR tfm ⟨[4],[],[],[]⟩ ⟨[(4,I l1_1)],[]⟩ krf (sT ?_))))))
  exact qR (.id) krf krf krf
def g_p_Parse_l4 (n:Nat) (recl4:((List (List PV)) × (List GTk) × Int × Int × (List GDg))→Option ((List (List PV)) × (List GTk) × Int × Int × (List GDg))) (l4_1:List (List PV)) (l4_2:List GTk) (l4_3:Int) (l4_4:Int) (l4_5:List GDg):Option ((List (List PV)) × (List GTk) × Int × Int × (List GDg)) :=
 (cond (ltI l4_3 (lenI (List.map GTk.cs l4_2)))
  ((g_p_reader_full n (⟨l4_2,l4_3,l4_4,l4_5⟩:GPr)).bind fun r7 =>
  some (!r7))
  (some false)).bind fun j5 =>
 cond j5
  (((g_p_reader_item n (⟨l4_2,l4_3,l4_4,l4_5⟩:GPr)).bind (exc (fun r9 =>
   some (true,r9.2.tokens,r9.2.pos,r9.2.length,r9.2.diags,r9.1.Kind,r9.1.Name,r9.1.N,r9.1.At,r9.1.Kids)) fun e10=>cond (roomB (List.length (e10.2.diags++[(⟨7,e10.1⟩:GDg)])) 16) (
   (g_p_reader_skip n (⟨e10.2.tokens,e10.2.pos,e10.2.length,[]⟩:GPr)).bind fun r11 =>
   some (false,r11.2.tokens,r11.2.pos,r11.2.length,e10.2.diags++[(⟨7,e10.1⟩:GDg)],0,[],0,0,[])) none)).bind fun (j8_1,j8_2,j8_3,j8_4,j8_5,j8_6,j8_7,j8_8,j8_9,j8_10) =>
  cond j8_1
   (cond (roomB (List.length (l4_1++[GNode.cs (⟨j8_6,j8_7,j8_8,j8_9,j8_10⟩:GNode)])) 64) (
    recl4 (l4_1++[GNode.cs (⟨j8_6,j8_7,j8_8,j8_9,j8_10⟩:GNode)],j8_2,j8_3,j8_4,j8_5)) none)
   (recl4 (l4_1,j8_2,j8_3,j8_4,j8_5)))
  (some (l4_1,l4_2,l4_3,l4_4,l4_5))
def g_p_Parse (n:Nat) (a0z:List UInt8):Option (GNode × (List GDg)) :=
 (g_x_Lex n a0z).bind fun r1 =>
 cond (!eqI r1.2.1 0)
  (some ((⟨0,[],0,0,[]⟩:GNode),[(⟨r1.2.1,r1.2.2⟩:GDg)]))
  (((loopN (fun recl4 (l4_1,l4_2,l4_3,l4_4,l4_5)=>g_p_Parse_l4 n recl4 l4_1 l4_2 l4_3 l4_4 l4_5) n ([],r1.1,0,lenI a0z,[])).bind fun (j3_1,j3_2,j3_3,j3_4,j3_5) =>
  cond (roomB (List.length ([]++j3_1)) 64) (
   some ([]++j3_1,j3_2,j3_3,j3_4,j3_5)) none).bind fun (j2_1,j2_2,j2_3,j2_4,j2_5) =>
  cond (ltI 0 (lenI (List.map GDg.cs j2_5)))
   (some ((⟨0,[],0,0,[]⟩:GNode),j2_5))
   ((g_p_count n (⟨1,[],0,0,j2_1⟩:GNode) 1500).bind fun r12 =>
   cond (ltI 1500 r12)
    (some ((⟨0,[],0,0,[]⟩:GNode),[(⟨2,0⟩:GDg)]))
    (some ((⟨1,[],0,0,j2_1⟩:GNode),[]))))
theorem g_p_Parse_ok (n:Nat) (a0z:List UInt8):∀ r,g_p_Parse n a0z=some r→PCall Tryz.prog 63 [S a0z] (.ret (.tup [ag (GNode.cs r.1), .p (.sl 2 (mDg r.2))])):=by
 refine pcall_sim (X:=fun r:GNode × (List GDg)=>AEnd.ret (.tup [ag (GNode.cs r.1), .p (.sl 2 (mDg r.2))])) Tryz.func63 rfl Tryz.ntmps63 rfl ?_
 unfold g_p_Parse
 refine sR tfm ⟨[0,2],[2],[],[]⟩ ⟨[(0,S a0z),(2, .ptr 2 0)],[(2, .box 24 [I 0,S [],I 0,I 0,zS])]⟩ krf (sS (sG (xR 1 krf ?_)))
 refine xC [] krf (g_x_Lex_ok n a0z) krf krf (fun _=>by kernel_rfl) (fun r1=>?_)
 refine xR 7 krf (xE (sN ⟨[0,2,4,5,6],[2],[],[]⟩ ⟨[(0,S a0z),(2, .ptr 2 0),(4, .p (.sl 4 (mTk r1.1))),(5,I r1.2.1),(6,I r1.2.2)],[(2, .box 24 [I 0,S [],I 0,I 0,zS])]⟩ krf (sS (sR tfm ⟨[0,2,4,5,6,16],[2],[],[]⟩ ⟨[(0,S a0z),(2, .ptr 2 0),(4, .p (.sl 4 (mTk r1.1))),(5,I r1.2.1),(6,I r1.2.2),(16,B (!eqI r1.2.1 0))],[(2, .box 24 [I 0,S [],I 0,I 0,zS])]⟩ krf (sC (!eqI r1.2.1 0) krf ?_ ?_)))))
 ·refine sR tfm ⟨[2,3],[2,21],[],[]⟩ ⟨[(2, .ptr 2 0),(3, .tsl 2 (mDg [(⟨r1.2.1,r1.2.2⟩:GDg)]) 21)],[(2, .box 24 [I 0,S [],I 0,I 0,zS]),(21, .arr 56 2 (mDg [(⟨r1.2.1,r1.2.2⟩:GDg)]).length)]⟩ krf (sT (sq_r ?_))
  exact qR (.agg [.agg [.id, .id, .id, .id, .sl 5], .sl 2]) krf krf krf
 ·refine sK (sN ⟨[0,2,4],[2],[],[]⟩ ⟨[(0,S a0z),(2, .ptr 2 0),(4, .p (.sl 4 (mTk r1.1)))],[(2, .box 24 [I 0,S [],I 0,I 0,zS])]⟩ krf (sR tfm ⟨[2,7],[2,26],[],[]⟩ ⟨[(2, .ptr 2 0),(7, .ptr 26 0)],[(2, .box 24 [I 0,S [],I 0,I 0,zS]),(26, .box 120 [.p (.sl 4 (mTk r1.1)),I 0,I (lenI a0z),zS])]⟩ krf (sS (sG (xR 4 krf (xs_inline [(1000, .box 120 [.p (.sl 4 (mTk r1.1)),I 0,I (lenI a0z),zS]),(1001, .box 124 [.fn (.func 81) [.ptr 1000 0] []])] [.agg [I 0,S [],I 0,I 0],I 1,S [],I 0, .bsl 1001 1] [(1000,26),(1001,30),(637,637)] [] [] krf Tryz.func80 rfl Tryz.ntmps80 rfl krf krf krf (sR tfm ⟨[1,2,3,4,5,10],[5,10,1000,1001],[],[]⟩ ⟨[(1,I 1),(2,S []),(3,I 0),(4, .bsl 1001 1),(5, .ptr 5 0),(10, .ptr 10 0)],[(5, .box 123 [I 0,S [],I 0,I 0]),(10, .box 24 [I 0,S [],I 0,I 0,zS]),(1000, .box 120 [.p (.sl 4 (mTk r1.1)),I 0,I (lenI a0z),zS]),(1001, .box 124 [.fn (.func 81) [.ptr 1000 0] []])]⟩ krf ?_)))))))
  refine sR tfm ⟨[4,10,11],[10,11,1000,1001],[],[]⟩ ⟨[(4, .bsl 1001 1),(10, .ptr 10 0),(11, .ptr 11 0)],[(10, .box 24 [I 0,S [],I 0,I 0,zS]),(11, .box 24 [I 1,S [],I 0,I 0,zS]),(1000, .box 120 [.p (.sl 4 (mTk r1.1)),I 0,I (lenI a0z),zS]),(1001, .box 124 [.fn (.func 81) [.ptr 1000 0] []])]⟩ krf (sim_bind (fun (j2_1,j2_2,j2_3,j2_4,j2_5)=>⟨[(10, .ptr 10 0),(11, .ptr 11 0)],[(10, .box 24 [I 0,S [],I 0,I 0,zS]),(11, .box 24 [I 1,S [],I 0,I 0, .tsl 5 (mI j2_1) 600]),(600, .arr 24 5 (mI j2_1).length),(637, .arr 56 2 (mDg j2_5).length),(1000, .box 120 [.p (.sl 4 (mTk j2_2)),I j2_3,I j2_4, .tsl 2 (mDg j2_5) 637]),(1001, .box 124 [.fn (.func 81) [.ptr 1000 0] []])]⟩:((List (List PV)) × (List GTk) × Int × Int × (List GDg))→St) ?_ ?_)
  ·refine sR tfm ⟨[10,11,20,21,22],[10,11,1000,1001],[],[]⟩ ⟨[(10, .ptr 10 0),(11, .ptr 11 0),(20, .bsl 1001 1),(21,I 1),(22,I 0)],[(10, .box 24 [I 0,S [],I 0,I 0,zS]),(11, .box 24 [I 1,S [],I 0,I 0,zS]),(1000, .box 120 [.p (.sl 4 (mTk r1.1)),I 0,I (lenI a0z),zS]),(1001, .box 124 [.fn (.func 81) [.ptr 1000 0] []])]⟩ krf (sB (sim_unroll 1 (sR tfm ⟨[10,11,20,21,22,23],[10,11,1000,1001],[],[]⟩ ⟨[(10, .ptr 10 0),(11, .ptr 11 0),(20, .bsl 1001 1),(21,I 1),(22,I 0),(23,B true)],[(10, .box 24 [I 0,S [],I 0,I 0,zS]),(11, .box 24 [I 1,S [],I 0,I 0,zS]),(1000, .box 120 [.p (.sl 4 (mTk r1.1)),I 0,I (lenI a0z),zS]),(1001, .box 124 [.fn (.func 81) [.ptr 1000 0] []])]⟩ krf (sS (sim_condT krf (sK (sN ⟨[10,11,20,21,22],[10,11,1000,1001],[],[]⟩ ⟨[(10, .ptr 10 0),(11, .ptr 11 0),(20, .bsl 1001 1),(21,I 1),(22,I 0)],[(10, .box 24 [I 0,S [],I 0,I 0,zS]),(11, .box 24 [I 1,S [],I 0,I 0,zS]),(1000, .box 120 [.p (.sl 4 (mTk r1.1)),I 0,I (lenI a0z),zS]),(1001, .box 124 [.fn (.func 81) [.ptr 1000 0] []])]⟩ krf ?_)))))))
   refine sS (sB (sR tfm ⟨[10,11,13,20,21,22],[10,11,1000,1001],[],[]⟩ ⟨[(10, .ptr 10 0),(11, .ptr 11 0),(13, .fn (.func 81) [.ptr 1000 0] []),(20, .bsl 1001 1),(21,I 1),(22,I 0)],[(10, .box 24 [I 0,S [],I 0,I 0,zS]),(11, .box 24 [I 1,S [],I 0,I 0,zS]),(1000, .box 120 [.p (.sl 4 (mTk r1.1)),I 0,I (lenI a0z),zS]),(1001, .box 124 [.fn (.func 81) [.ptr 1000 0] []])]⟩ krf (sP ⟨[10,11,13,20,21,22],[10,11,1000,1001],[],[]⟩ ⟨[(10, .ptr 10 0),(11, .ptr 11 0),(13, .fn (.func 81) [.ptr 1000 0] []),(20, .bsl 1001 1),(21,I 1),(22,I 0)],[(10, .box 24 [I 0,S [],I 0,I 0,zS]),(11, .box 24 [I 1,S [],I 0,I 0,zS]),(1000, .box 120 [.p (.sl 4 (mTk r1.1)),I 0,I (lenI a0z),zS]),(1001, .box 124 [.fn (.func 81) [.ptr 1000 0] []])]⟩ krf (sim_weak (weak_pn 24 5 600 [] [(11,4)] krf) (sim_hst [0,1,2] [0,1] [(3,[]),(4,[]),(5,[]),(6,[])] tfm rfl krf krf (h_enter (f:=81) (args:=[.ptr 1000 0]) (dst:=some 29) krf krf (sc_inline (hc:=[(1000, .box 120 [.p (.sl 4 (mTk r1.1)),I 0,I (lenI a0z),zS])]) (args':=[.ptr 1000 0]) [(1000,1000),(600,637)] [] [] Tryz.func81 rfl Tryz.ntmps81 rfl krf krf krf ?_)))))))
   refine sR tfm ⟨[1],[1,1000],[],[]⟩ ⟨[(1, .ptr 1 0)],[(1, .box 118 [.ptr 1000 0]),(1000, .box 120 [.p (.sl 4 (mTk r1.1)),I 0,I (lenI a0z),zS])]⟩ krf (sR tfm ⟨[1,3],[1,1000],[],[]⟩ ⟨[(1, .ptr 1 0),(3,zS)],[(1, .box 118 [.ptr 1000 0]),(1000, .box 120 [.p (.sl 4 (mTk r1.1)),I 0,I (lenI a0z),zS])]⟩ krf (sim_bind (fun (j3_1,j3_2,j3_3,j3_4,j3_5)=>⟨[(3, .tsl 5 (mI j3_1) 32)],[(32, .arr 24 5 (mI j3_1).length),(600, .arr 56 2 (mDg j3_5).length),(1000, .box 120 [.p (.sl 4 (mTk j3_2)),I j3_3,I j3_4, .tsl 2 (mDg j3_5) 600])]⟩:((List (List PV)) × (List GTk) × Int × Int × (List GDg))→St) ?_ ?_))
   ·refine sB (sP ⟨[1,3],[1,1000],[],[]⟩ ⟨[(1, .ptr 1 0),(3,zS)],[(1, .box 118 [.ptr 1000 0]),(1000, .box 120 [.p (.sl 4 (mTk r1.1)),I 0,I (lenI a0z),zS])]⟩ krf (sim_weak (Weak.trans (weak_pn 24 5 32 [3] [] krf) (weak_pn 56 2 600 [] [(1000,3)] krf)) (sim_loop (fun (l4_1,l4_2,l4_3,l4_4,l4_5)=>⟨[(1, .ptr 1 0),(3, .tsl 5 (mI l4_1) 32)],[(1, .box 118 [.ptr 1000 0]),(32, .arr 24 5 (mI l4_1).length),(600, .arr 56 2 (mDg l4_5).length),(1000, .box 120 [.p (.sl 4 (mTk l4_2)),I l4_3,I l4_4, .tsl 2 (mDg l4_5) 600])]⟩:((List (List PV)) × (List GTk) × Int × Int × (List GDg))→St) (weak_shr (K:=⟨[1,3],[1,32,600,1000],[],[]⟩) krf) ?_)))
    rintro recl4 ⟨l4_1,l4_2,l4_3,l4_4,l4_5⟩
    show SimE (g_p_Parse_l4 n recl4 l4_1 l4_2 l4_3 l4_4 l4_5) _ _ _ _ _ _
    unfold g_p_Parse_l4
    refine sS (sim_bind (fun j5=>⟨[(1, .ptr 1 0),(3, .tsl 5 (mI l4_1) 32),(21,B j5)],[(1, .box 118 [.ptr 1000 0]),(32, .arr 24 5 (mI l4_1).length),(600, .arr 56 2 (mDg l4_5).length),(1000, .box 120 [.p (.sl 4 (mTk l4_2)),I l4_3,I l4_4, .tsl 2 (mDg l4_5) 600])]⟩:Bool→St) ?_ ?_)
    ·refine sim_drw tfm rfl (xR 11 krf ?_)
     refine xS (ltI l4_3 (lenI (mTk l4_2))) (fun h6=>?_) (fun h6=>?_)
     ·refine xO (want_tt krf h6) krf (xs_seqL rfl krf krf ?_)
      refine xs_ro [.ro [.id, .id, .id, .sl 2]] krf (g_p_reader_full_ok n (⟨l4_2,l4_3,l4_4,l4_5⟩:GPr)) krf krf (fun _=>by kernel_rfl) (fun r7=>?_)
      refine xR 2 krf (xE ?_)
      exact nq_n (!r7) ⟨[1,3,21],[1,32,600,1000],[],[]⟩ krf
     ·refine xN (want_tf krf h6) krf (xR 3 krf (xs_endD krf ?_))
      exact nq_n false ⟨[1,3,21],[1,32,600,1000],[],[]⟩ krf
    ·rintro j5
     refine sC j5 krf ?_ ?_
     ·refine sK (sN ⟨[1,3],[1,32,600,1000],[],[]⟩ ⟨[(1, .ptr 1 0),(3, .tsl 5 (mI l4_1) 32)],[(1, .box 118 [.ptr 1000 0]),(32, .arr 24 5 (mI l4_1).length),(600, .arr 56 2 (mDg l4_5).length),(1000, .box 120 [.p (.sl 4 (mTk l4_2)),I l4_3,I l4_4, .tsl 2 (mDg l4_5) 600])]⟩ krf (sB (sR tfm ⟨[1,3,4],[1,4,32,600,1000],[],[]⟩ ⟨[(1, .ptr 1 0),(3, .tsl 5 (mI l4_1) 32),(4, .ptr 4 0)],[(1, .box 118 [.ptr 1000 0]),(4, .box 24 [I 0,S [],I 0,I 0,zS]),(32, .arr 24 5 (mI l4_1).length),(600, .arr 56 2 (mDg l4_5).length),(1000, .box 120 [.p (.sl 4 (mTk l4_2)),I l4_3,I l4_4, .tsl 2 (mDg l4_5) 600])]⟩ krf (sim_bind (fun (j8_1,j8_2,j8_3,j8_4,j8_5,j8_6,j8_7,j8_8,j8_9,j8_10)=>⟨[(1, .ptr 1 0),(3, .tsl 5 (mI l4_1) 32),(4, .ptr 4 0),(5,B j8_1)],[(1, .box 118 [.ptr 1000 0]),(4, .box 24 (bxc (GNode.cs ⟨j8_6,j8_7,j8_8,j8_9,j8_10⟩))),(32, .arr 24 5 (mI l4_1).length),(600, .arr 56 2 (mDg j8_5).length),(1000, .box 120 [.p (.sl 4 (mTk j8_2)),I j8_3,I j8_4, .tsl 2 (mDg j8_5) 600])]⟩:(Bool × (List GTk) × Int × Int × (List GDg) × Int × (List UInt8) × Int × Int × (List (List PV)))→St) ?_ ?_))))
      ·refine sG (xR 2 krf (xs_enter (f:=100) (args:=[.ptr 1000 0, .fn (.func 101) [] [.ptr 1 0, .ptr 4 0]]) krf krf krf ?_))
       refine sc_inlineD (hc:=[(1000, .box 118 [.ptr 1003 0]),(1001, .box 24 [I 0,S [],I 0,I 0,zS]),(1002, .arr 56 2 (mDg l4_5).length),(1003, .box 120 [.p (.sl 4 (mTk l4_2)),I l4_3,I l4_4, .tsl 2 (mDg l4_5) 1002])]) (args':=[.ptr 1003 0, .fn (.func 101) [] [.ptr 1000 0, .ptr 1001 0]]) [(1000,1),(1001,4),(1002,600),(1003,1000)] [] [] (⟨_,_,_,_,_,_,[2,4,5],6,_,rfl,rfl,rfl,rfl,rfl,rfl,rfl,rfl,by decide⟩:Deferrer2 Tryz.f100 111) [(2,1900),(4,1901),(5,1902)] Tryz.func100 Tryz.ntmps100 krf krf krf krf krf tfm rfl krf krf ?_
       refine sP ⟨[1,4,5],[1000,1001,1002,1003,1900,1901,1902],[],[]⟩ ⟨[(1, .fn (.func 101) [] [.ptr 1000 0, .ptr 1001 0]),(4, .ptr 1901 0),(5, .ptr 1902 0)],[(1000, .box 118 [.ptr 1003 0]),(1001, .box 24 [I 0,S [],I 0,I 0,zS]),(1002, .arr 56 2 (mDg l4_5).length),(1003, .box 120 [.p (.sl 4 (mTk l4_2)),I l4_3,I l4_4, .tsl 2 (mDg l4_5) 1002]),(1900, .box 118 [.ptr 1003 0]),(1901, .box 4 [B false]),(1902, .box 9 [S []])]⟩ krf (sS (sG (xR 1 krf (xs_inline [(1000, .box 118 [.ptr 1003 0]),(1001, .box 24 [I 0,S [],I 0,I 0,zS]),(1002, .arr 56 2 (mDg l4_5).length),(1003, .box 120 [.p (.sl 4 (mTk l4_2)),I l4_3,I l4_4, .tsl 2 (mDg l4_5) 1002])] [.ptr 1000 0, .ptr 1001 0] [(1000,1000),(1001,1001),(1002,1002),(1003,1003)] [] [] krf Tryz.func101 rfl Tryz.ntmps101 rfl krf krf krf (sG (xR 1 krf ?_))))))
       refine xs_heapE [(1000,1003),(1103,1002)] [] [] krf (g_p_reader_item_ok n (⟨l4_2,l4_3,l4_4,l4_5⟩:GPr)) krf krf krf (fun _=>by kernel_rfl) (fun _=>by kernel_rfl) (fun _=>by kernel_rfl) (fun _=>by kernel_rfl) (fun r9=>?_) (fun e10=>?_)
       ·refine xR 1 krf (xE (iq_n (.id) [1000,1001,1002,1003] [] (.tup []) krf krf (kr0 (xE (sN ⟨[4,5],[1000,1001,1002,1003,1900,1901,1902],[],[]⟩ ⟨[(4, .ptr 1901 0),(5, .ptr 1902 0)],[(1000, .box 118 [.ptr 1003 0]),(1001, .box 24 (bxc (GNode.cs r9.1))),(1002, .arr 56 2 (mDg r9.2.diags).length),(1003, .box 120 [.p (.sl 4 (mTk r9.2.tokens)),I r9.2.pos,I r9.2.length, .tsl 2 (mDg r9.2.diags) 1002]),(1900, .box 118 [.ptr 1003 0]),(1901, .box 4 [B false]),(1902, .box 9 [S []])]⟩ krf (sR tfm ⟨[4,5],[1000,1001,1002,1003,1900,1901,1902],[],[]⟩ ⟨[(4, .ptr 1901 0),(5, .ptr 1902 0)],[(1000, .box 118 [.ptr 1003 0]),(1001, .box 24 (bxc (GNode.cs r9.1))),(1002, .arr 56 2 (mDg r9.2.diags).length),(1003, .box 120 [.p (.sl 4 (mTk r9.2.tokens)),I r9.2.pos,I r9.2.length, .tsl 2 (mDg r9.2.diags) 1002]),(1900, .box 118 [.ptr 1003 0]),(1901, .box 4 [B true]),(1902, .box 9 [S []])]⟩ krf (sT ?_)))))))
        refine dI_end (⟨Tryz.f111,_,_,_,6,3,_,_,Tryz.func111,rfl,rfl,rfl,rfl,rfl,rfl,rfl,by decide,by decide⟩:Recoverer Tryz.prog 111) [(1000,1002),(1001,1003),(1002,1900),(1003,1901),(1004,1902)] [(1000, .arr 56 2 (mDg r9.2.diags).length),(1001, .box 120 [.p (.sl 4 (mTk r9.2.tokens)),I r9.2.pos,I r9.2.length, .tsl 2 (mDg r9.2.diags) 1000]),(1002, .box 118 [.ptr 1001 0]),(1003, .box 4 [B true]),(1004, .box 9 [S []])] (.p (.val (.nilIface))) [.ptr 1002 0, .ptr 1003 0, .ptr 1004 0] [] rfl krf krf krf krf ?_
        refine sS (sR tfm ⟨[0,1,2,3,8],[1000,1001,1002,1003,1004],[],[]⟩ ⟨[(0, .ptr 1002 0),(1, .ptr 1003 0),(2, .ptr 1004 0),(3, .p (.val (.nilIface))),(8,B true)],[(1000, .arr 56 2 (mDg r9.2.diags).length),(1001, .box 120 [.p (.sl 4 (mTk r9.2.tokens)),I r9.2.pos,I r9.2.length, .tsl 2 (mDg r9.2.diags) 1000]),(1002, .box 118 [.ptr 1001 0]),(1003, .box 4 [B true]),(1004, .box 9 [S []])]⟩ krf (sim_condT krf (sT (sq_r (cl_ret [1000,1001,1002,1003,1004] [] krf krf (iq_ret (.id) [1000,1001,1002,1003] [] (.tup [B true,S []]) krf krf (kr0 ?_)))))))
        refine xR 5 krf (xE ?_)
        exact nq_n (true,r9.2.tokens,r9.2.pos,r9.2.length,r9.2.diags,r9.1.Kind,r9.1.Name,r9.1.N,r9.1.At,r9.1.Kids) ⟨[1,3,4,5],[1,4,32,600,1000],[],[]⟩ krf
       ·refine iq_p [1000,1001,1002,1003] [] krf (sq_p ?_)
        refine dI_end (⟨Tryz.f111,_,_,_,6,3,_,_,Tryz.func111,rfl,rfl,rfl,rfl,rfl,rfl,rfl,by decide,by decide⟩:Recoverer Tryz.prog 111) [(1000,1002),(1001,1003),(1002,1900),(1003,1901),(1004,1902)] [(1000, .arr 56 2 (mDg e10.2.diags).length),(1001, .box 120 [.p (.sl 4 (mTk e10.2.tokens)),I e10.2.pos,I e10.2.length, .tsl 2 (mDg e10.2.diags) 1000]),(1002, .box 118 [.ptr 1001 0]),(1003, .box 4 [B false]),(1004, .box 9 [S []])] (.ifc 137 (.agg [I e10.1])) [.ptr 1002 0, .ptr 1003 0, .ptr 1004 0] [] rfl krf krf krf krf ?_
        refine sS (sR tfm ⟨[0,1,2,3,8],[1000,1001,1002,1003,1004],[],[]⟩ ⟨[(0, .ptr 1002 0),(1, .ptr 1003 0),(2, .ptr 1004 0),(3, .ifc 137 (.agg [I e10.1])),(8,B false)],[(1000, .arr 56 2 (mDg e10.2.diags).length),(1001, .box 120 [.p (.sl 4 (mTk e10.2.tokens)),I e10.2.pos,I e10.2.length, .tsl 2 (mDg e10.2.diags) 1000]),(1002, .box 118 [.ptr 1001 0]),(1003, .box 4 [B false]),(1004, .box 9 [S []])]⟩ krf (sim_condF krf (sK (sN ⟨[0,1,2,3],[1000,1001,1002,1003,1004],[],[]⟩ ⟨[(0, .ptr 1002 0),(1, .ptr 1003 0),(2, .ptr 1004 0),(3, .ifc 137 (.agg [I e10.1]))],[(1000, .arr 56 2 (mDg e10.2.diags).length),(1001, .box 120 [.p (.sl 4 (mTk e10.2.tokens)),I e10.2.pos,I e10.2.length, .tsl 2 (mDg e10.2.diags) 1000]),(1002, .box 118 [.ptr 1001 0]),(1003, .box 4 [B false]),(1004, .box 9 [S []])]⟩ krf (sR tfm ⟨[0,1,2,3,4,5],[4,1000,1001,1002,1003,1004],[],[]⟩ ⟨[(0, .ptr 1002 0),(1, .ptr 1003 0),(2, .ptr 1004 0),(3, .ifc 137 (.agg [I e10.1])),(4, .ptr 4 0),(5,B true)],[(4, .box 137 [I e10.1]),(1000, .arr 56 2 (mDg e10.2.diags).length),(1001, .box 120 [.p (.sl 4 (mTk e10.2.tokens)),I e10.2.pos,I e10.2.length, .tsl 2 (mDg e10.2.diags) 1000]),(1002, .box 118 [.ptr 1001 0]),(1003, .box 4 [B false]),(1004, .box 9 [S []])]⟩ krf (sS (sR tfm ⟨[0,1,2,3,4,15],[4,1000,1001,1002,1003,1004],[],[]⟩ ⟨[(0, .ptr 1002 0),(1, .ptr 1003 0),(2, .ptr 1004 0),(3, .ifc 137 (.agg [I e10.1])),(4, .ptr 4 0),(15,B false)],[(4, .box 137 [I e10.1]),(1000, .arr 56 2 (mDg e10.2.diags).length),(1001, .box 120 [.p (.sl 4 (mTk e10.2.tokens)),I e10.2.pos,I e10.2.length, .tsl 2 (mDg e10.2.diags) 1000]),(1002, .box 118 [.ptr 1001 0]),(1003, .box 4 [B false]),(1004, .box 9 [S []])]⟩ krf ?_)))))))
        refine sim_condF krf (sK (sN ⟨[0,1,2,4],[4,1000,1001,1002,1003,1004],[],[]⟩ ⟨[(0, .ptr 1002 0),(1, .ptr 1003 0),(2, .ptr 1004 0),(4, .ptr 4 0)],[(4, .box 137 [I e10.1]),(1000, .arr 56 2 (mDg e10.2.diags).length),(1001, .box 120 [.p (.sl 4 (mTk e10.2.tokens)),I e10.2.pos,I e10.2.length, .tsl 2 (mDg e10.2.diags) 1000]),(1002, .box 118 [.ptr 1001 0]),(1003, .box 4 [B false]),(1004, .box 9 [S []])]⟩ krf (sS (sim_drw tfm rfl (xR 9 krf (xF krf krf (aop_app (e:=56) (S:=2) (by_:=16) (enc:=GDg.cs) (tk:=1000) (l:=e10.2.diags) (l2:=[(⟨7,e10.1⟩:GDg)]) (xv:=.tsl 2 (mDg [(⟨7,e10.1⟩:GDg)]) 25) rfl krf krf rfl krf krf krf rfl krf) (xR 3 krf ?_)))))))
        refine xs_endD krf (sN ⟨[0,1,2],[1000,1001,1002,1003,1004],[],[]⟩ ⟨[(0, .ptr 1002 0),(1, .ptr 1003 0),(2, .ptr 1004 0)],[(1000, .arr 56 2 (mDg (e10.2.diags++[(⟨7,e10.1⟩:GDg)])).length),(1001, .box 120 [.p (.sl 4 (mTk e10.2.tokens)),I e10.2.pos,I e10.2.length, .tsl 2 (mDg (e10.2.diags++[(⟨7,e10.1⟩:GDg)])) 1000]),(1002, .box 118 [.ptr 1001 0]),(1003, .box 4 [B false]),(1004, .box 9 [S []])]⟩ krf (sG (xR 1 krf (xs_enter (f:=112) (args:=[.ptr 1001 0]) krf krf krf ?_))))
        refine sc_hold 1001 3 1000 56 2 (mDg (e10.2.diags++[(⟨7,e10.1⟩:GDg)])).length (mDg (e10.2.diags++[(⟨7,e10.1⟩:GDg)])) ⟨[0,1,2,29],[1001,1002,1003,1004],[],[]⟩ krf krf rfl (fun _ _ _=>by kernel_rfl) (fun hu11w hu11l hu11c=>?_)
        refine sc_heap [(1000,1001)] [] [] (g_p_reader_skip_ok n (⟨e10.2.tokens,e10.2.pos,e10.2.length,[]⟩:GPr) hu11w hu11l hu11c) krf krf krf (fun _=>by kernel_rfl) (fun _=>by kernel_rfl) (fun r11=>?_)
        refine k_hold _ rfl krf krf (kr0 (xR 2 krf (xE (cl_n [1000,1001,1002,1003,1004] [] krf krf (iq_ret (.id) [1000,1001,1002,1003] [] (.tup [B false,S r11.1]) krf krf (kr0 (xR 5 krf ?_)))))))
        refine xE ?_
        exact nq_n (false,r11.2.tokens,r11.2.pos,r11.2.length,e10.2.diags++[(⟨7,e10.1⟩:GDg)],0,[],0,0,[]) ⟨[1,3,4,5],[1,4,32,600,1000],[],[(4,[.id, .id, .id, .id, .sl 5])]⟩ krf
      ·rintro ⟨j8_1,j8_2,j8_3,j8_4,j8_5,j8_6,j8_7,j8_8,j8_9,j8_10⟩
       refine sR tfm ⟨[1,3,4,28],[1,4,32,600,1000],[],[]⟩ ⟨[(1, .ptr 1 0),(3, .tsl 5 (mI l4_1) 32),(4, .ptr 4 0),(28,B j8_1)],[(1, .box 118 [.ptr 1000 0]),(4, .box 24 (bxc (GNode.cs ⟨j8_6,j8_7,j8_8,j8_9,j8_10⟩))),(32, .arr 24 5 (mI l4_1).length),(600, .arr 56 2 (mDg j8_5).length),(1000, .box 120 [.p (.sl 4 (mTk j8_2)),I j8_3,I j8_4, .tsl 2 (mDg j8_5) 600])]⟩ krf (sC j8_1 krf ?_ ?_)
       ·refine sG (xR 3 krf (xF krf krf (aop_app (e:=24) (S:=5) (by_:=64) (enc:=idc) (tk:=32) (l:=l4_1) (l2:=[GNode.cs (⟨j8_6,j8_7,j8_8,j8_9,j8_10⟩:GNode)]) (xv:=.tsl 5 (mI [GNode.cs (⟨j8_6,j8_7,j8_8,j8_9,j8_10⟩:GNode)]) 31) rfl krf krf rfl krf krf krf rfl krf) (xR 1 krf (xE (bq_n ?_)))))
        exact kq_n (l4_1++[GNode.cs (⟨j8_6,j8_7,j8_8,j8_9,j8_10⟩:GNode)],j8_2,j8_3,j8_4,j8_5) ⟨[1,3],[1,32,600,1000],[],[]⟩ krf
       ·refine sK (bq_n ?_)
        exact kq_n (l4_1,j8_2,j8_3,j8_4,j8_5) ⟨[1,3],[1,32,600,1000],[],[]⟩ krf
     ·refine sim_exit (sq_x (kq_x (bq_hit ?_)))
      exact nq_n (l4_1,l4_2,l4_3,l4_4,l4_5) ⟨[3],[32,600,1000],[],[]⟩ krf
   ·rintro ⟨j3_1,j3_2,j3_3,j3_4,j3_5⟩
    refine sR tfm ⟨[2],[32,600,1000],[],[]⟩ ⟨[(2, .tsl 5 (mI j3_1) 32)],[(32, .arr 24 5 (mI j3_1).length),(600, .arr 56 2 (mDg j3_5).length),(1000, .box 120 [.p (.sl 4 (mTk j3_2)),I j3_3,I j3_4, .tsl 2 (mDg j3_5) 600])]⟩ krf (sT (iq_ret (.sl 5) [600,1000] [] (.p (.sl 5 (mI j3_1))) krf krf (kh [0,1] krf (lates_cons (late_read (.ptr 11 4) krf rfl) (lates_cons (late_tsl (S:=5) (t:=600) (ty:=24) (es:=mI []) krf krf rfl) (lates_nil))) krf (h_if [] rfl krf krf (aop_appL (e:=24) (S:=5) (by_:=64) (enc:=idc) (tk:=600) (l:=[]) (l2:=j3_1) (xv:=.p (.sl 5 (mI j3_1))) rfl krf krf rfl krf krf krf krf) (fun _=>lates_nil) (h_op [] krf krf (lates_nil) (h_op [] krf krf (lates_nil) (h_end ?_)))))))
    refine bq_n (sN ⟨[10,11,20,21,22],[10,11,600,637,1000,1001],[],[]⟩ ⟨[(10, .ptr 10 0),(11, .ptr 11 0),(20, .bsl 1001 1),(21,I 1),(22,I 0)],[(10, .box 24 [I 0,S [],I 0,I 0,zS]),(11, .box 24 [I 1,S [],I 0,I 0, .tsl 5 (mI ([]++j3_1)) 600]),(600, .arr 24 5 (mI ([]++j3_1)).length),(637, .arr 56 2 (mDg j3_5).length),(1000, .box 120 [.p (.sl 4 (mTk j3_2)),I j3_3,I j3_4, .tsl 2 (mDg j3_5) 637]),(1001, .box 124 [.fn (.func 81) [.ptr 1000 0] []])]⟩ krf (sL tfm krf (ru_n ⟨[10,11,20,21,22],[10,11,600,637,1000,1001],[],[]⟩ ⟨[(10, .ptr 10 0),(11, .ptr 11 0),(20, .bsl 1001 1),(21,I 1),(22,I 1)],[(10, .box 24 [I 0,S [],I 0,I 0,zS]),(11, .box 24 [I 1,S [],I 0,I 0, .tsl 5 (mI ([]++j3_1)) 600]),(600, .arr 24 5 (mI ([]++j3_1)).length),(637, .arr 56 2 (mDg j3_5).length),(1000, .box 120 [.p (.sl 4 (mTk j3_2)),I j3_3,I j3_4, .tsl 2 (mDg j3_5) 637]),(1001, .box 124 [.fn (.func 81) [.ptr 1000 0] []])]⟩ krf (sR tfm ⟨[10,11,20,21,22,23],[10,11,600,637,1000,1001],[],[]⟩ ⟨[(10, .ptr 10 0),(11, .ptr 11 0),(20, .bsl 1001 1),(21,I 1),(22,I 1),(23,B false)],[(10, .box 24 [I 0,S [],I 0,I 0,zS]),(11, .box 24 [I 1,S [],I 0,I 0, .tsl 5 (mI ([]++j3_1)) 600]),(600, .arr 24 5 (mI ([]++j3_1)).length),(637, .arr 56 2 (mDg j3_5).length),(1000, .box 120 [.p (.sl 4 (mTk j3_2)),I j3_3,I j3_4, .tsl 2 (mDg j3_5) 637]),(1001, .box 124 [.fn (.func 81) [.ptr 1000 0] []])]⟩ krf (sS (sim_condF krf (sim_exit ?_)))))))
    refine sq_x (ru_x (bq_hit ?_))
    exact nq_n ([]++j3_1,j3_2,j3_3,j3_4,j3_5) ⟨[10,11],[10,11,600,637,1000,1001],[],[]⟩ krf
  ·rintro ⟨j2_1,j2_2,j2_3,j2_4,j2_5⟩
   refine sR tfm ⟨[10],[10,600,637,1000,1001],[],[]⟩ ⟨[(10, .ptr 10 0)],[(10, .box 24 [I 1,S [],I 0,I 0, .tsl 5 (mI j2_1) 600]),(600, .arr 24 5 (mI j2_1).length),(637, .arr 56 2 (mDg j2_5).length),(1000, .box 120 [.p (.sl 4 (mTk j2_2)),I j2_3,I j2_4, .tsl 2 (mDg j2_5) 637]),(1001, .box 124 [.fn (.func 81) [.ptr 1000 0] []])]⟩ krf (sT (iq_ret (.agg [.id, .id, .id, .id, .sl 5]) [637,1000,1001] [] (.agg [I 1,S [],I 0,I 0, .p (.sl 5 (mI j2_1))]) krf krf (kr0 (xR 2 krf (xE (sN ⟨[2,7,8],[2,8,26,637],[],[]⟩ ⟨[(2, .ptr 2 0),(7, .ptr 26 0),(8, .ptr 8 0)],[(2, .box 24 [I 0,S [],I 0,I 0,zS]),(8, .box 24 (bxc (GNode.cs ⟨1,[],0,0,j2_1⟩))),(26, .box 120 [.p (.sl 4 (mTk j2_2)),I j2_3,I j2_4, .tsl 2 (mDg j2_5) 637]),(637, .arr 56 2 (mDg j2_5).length)]⟩ krf (sS ?_)))))))
   refine sR tfm ⟨[2,7,8,37],[2,8,26,637],[],[]⟩ ⟨[(2, .ptr 2 0),(7, .ptr 26 0),(8, .ptr 8 0),(37,B (ltI 0 (lenI (mDg j2_5))))],[(2, .box 24 [I 0,S [],I 0,I 0,zS]),(8, .box 24 (bxc (GNode.cs ⟨1,[],0,0,j2_1⟩))),(26, .box 120 [.p (.sl 4 (mTk j2_2)),I j2_3,I j2_4, .tsl 2 (mDg j2_5) 637]),(637, .arr 56 2 (mDg j2_5).length)]⟩ krf (sC (ltI 0 (lenI (mDg j2_5))) krf ?_ ?_)
   ·refine sR tfm ⟨[2,3],[2,637],[],[]⟩ ⟨[(2, .ptr 2 0),(3, .tsl 2 (mDg j2_5) 637)],[(2, .box 24 [I 0,S [],I 0,I 0,zS]),(637, .arr 56 2 (mDg j2_5).length)]⟩ krf (sT (sq_r ?_))
    exact qR (.agg [.agg [.id, .id, .id, .id, .sl 5], .sl 2]) krf krf krf
   ·refine sK (sN ⟨[2,8],[2,8],[],[]⟩ ⟨[(2, .ptr 2 0),(8, .ptr 8 0)],[(2, .box 24 [I 0,S [],I 0,I 0,zS]),(8, .box 24 (bxc (GNode.cs ⟨1,[],0,0,j2_1⟩)))]⟩ krf (sS (sS (sG (xR 1 krf ?_)))))
    refine xC [] krf (g_p_count_ok n (⟨1,[],0,0,j2_1⟩:GNode) 1500) krf krf (fun _=>by kernel_rfl) (fun r12=>?_)
    refine xR 1 krf (xE (sN ⟨[2,8,45],[2,8],[],[]⟩ ⟨[(2, .ptr 2 0),(8, .ptr 8 0),(45,B (ltI 1500 r12))],[(2, .box 24 [I 0,S [],I 0,I 0,zS]),(8, .box 24 (bxc (GNode.cs ⟨1,[],0,0,j2_1⟩)))]⟩ krf (sC (ltI 1500 r12) krf ?_ ?_)))
    ·refine sR tfm ⟨[2,3],[2,48],[],[]⟩ ⟨[(2, .ptr 2 0),(3, .tsl 2 (mDg [(⟨2,0⟩:GDg)]) 48)],[(2, .box 24 [I 0,S [],I 0,I 0,zS]),(48, .arr 56 2 (mDg [(⟨2,0⟩:GDg)]).length)]⟩ krf (sT (sq_r ?_))
     exact qR (.agg [.agg [.id, .id, .id, .id, .sl 5], .sl 2]) krf krf krf
    ·refine sK (sN ⟨[2,8],[2,8],[],[]⟩ ⟨[(2, .ptr 2 0),(8, .ptr 8 0)],[(2, .box 24 [I 0,S [],I 0,I 0,zS]),(8, .box 24 (bxc (GNode.cs ⟨1,[],0,0,j2_1⟩)))]⟩ krf (sR tfm ⟨[2,3],[2],[],[]⟩ ⟨[(2, .ptr 2 0),(3,zS)],[(2, .box 24 (bxc (GNode.cs ⟨1,[],0,0,j2_1⟩)))]⟩ krf (sT ?_)))
     exact qR (.agg [.id, .sl 2]) krf krf krf
def g_p_goodWord_l7 (a0text:List UInt8) (recl7:Int→Option Bool) (l7:Int):Option Bool :=
 cond (ltI l7 (lenI a0text))
  ((getI a0text l7).bind fun x8 =>
  (cond (leI 97 (b2i x8))
   (cond (leI (b2i x8) 122)
    (some false)
    (cond (leI 48 (b2i x8))
     (cond (leI (b2i x8) 57)
      (some false)
      (some (!(eqI (b2i x8) 95))))
     (some (!(eqI (b2i x8) 95)))))
   (cond (leI 48 (b2i x8))
    (cond (leI (b2i x8) 57)
     (some false)
     (some (!(eqI (b2i x8) 95))))
    (some (!(eqI (b2i x8) 95))))).bind fun j9 =>
  cond j9
   (some false)
   (recl7 (wi (l7+1))))
  (some true)
def g_p_goodWord (n:Nat) (a0text:List UInt8):Option Bool :=
 (cond (ltI (lenI a0text) 1)
  (some true)
  (cond (ltI 12 (lenI a0text))
   (some true)
   ((getI a0text 0).bind fun x4 =>
   cond (ltI (b2i x4) 97)
    (some true)
    ((getI a0text 0).bind fun x6 =>
    some (ltI 122 (b2i x6)))))).bind fun j1 =>
 cond j1
  (some false)
  (loopN (fun recl7 l7=>g_p_goodWord_l7 a0text recl7 l7) n 1)
theorem g_p_goodWord_ok (n:Nat) (a0text:List UInt8):∀ r,g_p_goodWord n a0text=some r→PCall Tryz.prog 83 [S a0text] (.ret (B r)):=by
 refine pcall_sim (X:=fun r:Bool=>AEnd.ret (B r)) Tryz.func83 rfl Tryz.ntmps83 rfl ?_
 unfold g_p_goodWord
 refine sR tfm ⟨[0],[],[],[]⟩ ⟨[(0,S a0text)],[]⟩ krf (sS (sim_bind (fun j1=>⟨[(0,S a0text),(22,B j1)],[]⟩:Bool→St) ?_ ?_))
 ·refine sG (xR 4 krf ?_)
  refine xS (ltI (lenI a0text) 1) (fun h2=>?_) (fun h2=>?_)
  ·refine xN (want_ft krf h2) krf (xR 13 krf (xE ?_))
   exact nq_n true ⟨[0,22],[],[],[]⟩ krf
  ·refine xO (want_ff krf h2) krf (xR 4 krf ?_)
   refine xS (ltI 12 (lenI a0text)) (fun h3=>?_) (fun h3=>?_)
   ·refine xN (want_ft krf h3) krf (xR 8 krf (xE ?_))
    exact nq_n true ⟨[0,22],[],[],[]⟩ krf
   ·refine xO (want_ff krf h3) krf ?_
    refine xG krf krf (aop_sidx (l:=a0text) (k:=.i64) (n:=0) rfl krf krf krf) (fun x4=>?_)
    refine xR 3 krf ?_
    refine xS (ltI (b2i x4) 97) (fun h5=>?_) (fun h5=>?_)
    ·refine xN (want_ft krf h5) krf (xR 3 krf (xE ?_))
     exact nq_n true ⟨[0,22],[],[],[]⟩ krf
    ·refine xO (want_ff krf h5) krf ?_
     refine xG krf krf (aop_sidx (l:=a0text) (k:=.i64) (n:=0) rfl krf krf krf) (fun x6=>?_)
     refine xR 2 krf (xE ?_)
     exact nq_n (ltI 122 (b2i x6)) ⟨[0,22],[],[],[]⟩ krf
 ·rintro j1
  refine sC j1 krf ?_ ?_
  ·refine sR tfm ⟨[2],[],[],[]⟩ ⟨[(2,B false)],[]⟩ krf (sT (sq_r ?_))
   exact qR (.id) krf krf krf
  ·refine sK (sN ⟨[0],[],[],[]⟩ ⟨[(0,S a0text)],[]⟩ krf (sS (sR tfm ⟨[0,3],[],[],[]⟩ ⟨[(0,S a0text),(3,I 1)],[]⟩ krf (sB (sim_loop (fun l7=>⟨[(0,S a0text),(3,I l7)],[]⟩:Int→St) (weak_shr (K:=⟨[0,3],[],[],[]⟩) krf) ?_)))))
   rintro recl7 l7
   show SimE (g_p_goodWord_l7 a0text recl7 l7) _ _ _ _ _ _
   unfold g_p_goodWord_l7
   refine sS (sR tfm ⟨[0,3,26],[],[],[]⟩ ⟨[(0,S a0text),(3,I l7),(26,B (ltI l7 (lenI a0text)))],[]⟩ krf (sC (ltI l7 (lenI a0text)) krf ?_ ?_))
   ·refine sK (sN ⟨[0,3],[],[],[]⟩ ⟨[(0,S a0text),(3,I l7)],[]⟩ krf (sS (sB (sS (sG (xR 2 krf ?_))))))
    refine xG krf krf (aop_sidx (l:=a0text) (k:=.i64) (n:=l7) rfl krf krf krf) (fun x8=>?_)
    refine xR 1 krf (xE (sN ⟨[0,3,4],[],[],[]⟩ ⟨[(0,S a0text),(3,I l7),(4,B8 (b2i x8))],[]⟩ krf (sim_bind (fun j9=>⟨[(0,S a0text),(3,I l7),(50,B j9)],[]⟩:Bool→St) ?_ ?_)))
    ·refine sG (xR 3 krf ?_)
     refine xS (leI 97 (b2i x8)) (fun h10=>?_) (fun h10=>?_)
     ·refine xO (want_tt krf h10) krf (xR 3 krf ?_)
      refine xS (leI (b2i x8) 122) (fun h11=>?_) (fun h11=>?_)
      ·refine xN (want_ft krf h11) krf (xR 11 krf (xE ?_))
       exact nq_n false ⟨[0,3,50],[],[],[]⟩ krf
      ·refine xO (want_ff krf h11) krf (xR 2 krf ?_)
       refine xS (leI 48 (b2i x8)) (fun h12=>?_) (fun h12=>?_)
       ·refine xO (want_tt krf h12) krf (xR 4 krf ?_)
        refine xS (leI (b2i x8) 57) (fun h13=>?_) (fun h13=>?_)
        ·refine xN (want_ft krf h13) krf (xR 3 krf (xE ?_))
         exact nq_n false ⟨[0,3,50],[],[],[]⟩ krf
        ·refine xO (want_ff krf h13) krf (xR 3 krf (xE ?_))
         exact nq_n (!(eqI (b2i x8) 95)) ⟨[0,3,50],[],[],[]⟩ krf
       ·refine xN (want_tf krf h12) krf (xR 8 krf (xE ?_))
        exact nq_n (!(eqI (b2i x8) 95)) ⟨[0,3,50],[],[],[]⟩ krf
     ·refine xN (want_tf krf h10) krf (xR 6 krf ?_)
      refine xS (leI 48 (b2i x8)) (fun h14=>?_) (fun h14=>?_)
      ·refine xO (want_tt krf h14) krf (xR 4 krf ?_)
       refine xS (leI (b2i x8) 57) (fun h15=>?_) (fun h15=>?_)
       ·refine xN (want_ft krf h15) krf (xR 3 krf (xE ?_))
        exact nq_n false ⟨[0,3,50],[],[],[]⟩ krf
       ·refine xO (want_ff krf h15) krf (xR 3 krf (xE ?_))
        exact nq_n (!(eqI (b2i x8) 95)) ⟨[0,3,50],[],[],[]⟩ krf
      ·refine xN (want_tf krf h14) krf (xR 8 krf (xE ?_))
       exact nq_n (!(eqI (b2i x8) 95)) ⟨[0,3,50],[],[],[]⟩ krf
    ·rintro j9
     refine sC j9 krf ?_ ?_
     ·refine sR tfm ⟨[2],[],[],[]⟩ ⟨[(2,B false)],[]⟩ krf (sT (bq_r (sq_r (kq_r (bq_r (sq_r ?_))))))
      exact qR (.id) krf krf krf
     ·refine sK (bq_n (sN ⟨[0,3],[],[],[]⟩ ⟨[(0,S a0text),(3,I l7)],[]⟩ krf (sL tfm krf ?_)))
      exact kq_n (wi (l7+1)) ⟨[0,3],[],[],[]⟩ krf
   ·refine sim_exit (sq_x (kq_x (bq_hit (sN ⟨[],[],[],[]⟩ ⟨[],[]⟩ krf (sR tfm ⟨[2],[],[],[]⟩ ⟨[(2,B true)],[]⟩ krf (sT ?_))))))
    exact qR (.id) krf krf krf
def g_p_goodName (n:Nat) (a0text:List UInt8):Option Bool :=
 (g_p_goodWord n a0text).bind fun r1 =>
 cond r1
  ((g_p_isKey n a0text).bind fun r3 =>
  some (!r3))
  (some false)
theorem g_p_goodName_ok (n:Nat) (a0text:List UInt8):∀ r,g_p_goodName n a0text=some r→PCall Tryz.prog 64 [S a0text] (.ret (B r)):=by
 refine pcall_sim (X:=fun r:Bool=>AEnd.ret (B r)) Tryz.func64 rfl Tryz.ntmps64 rfl ?_
 unfold g_p_goodName
 refine sR tfm ⟨[0],[],[],[]⟩ ⟨[(0,S a0text)],[]⟩ krf (sS (sG (xR 1 krf ?_)))
 refine xC [] krf (g_p_goodWord_ok n a0text) krf krf (fun _=>by kernel_rfl) (fun r1=>?_)
 refine xR 1 krf ?_
 refine xS r1 (fun h2=>?_) (fun h2=>?_)
 ·refine xO (want_tt krf h2) krf ?_
  refine xC [] krf (g_p_isKey_ok n a0text) krf krf (fun _=>by kernel_rfl) (fun r3=>?_)
  refine xR 3 krf (xE (sN ⟨[2],[],[],[]⟩ ⟨[(2,B (!r3))],[]⟩ krf (sT ?_)))
  exact qR (.id) krf krf krf
 ·refine xN (want_tf krf h2) krf (xR 4 krf (xE (sN ⟨[2],[],[],[]⟩ ⟨[(2,B false)],[]⟩ krf (sT ?_))))
  exact qR (.id) krf krf krf
def g_p_validValue (n:Nat) (a0n:GNode) (a1words:Bool):Option Bool :=
 cond (!eqI (lenI (List.map idc a0n.Kids)) 0)
  (some false)
  (cond (eqI a0n.Kind 5)
   (cond (eqI a0n.N 0)
    ((g_p_goodName n a0n.Name).bind fun r2 =>
    cond r2
     (some true)
     (cond a1words
      ((g_p_isWord n a0n.Name).bind fun r5 =>
      some r5)
      (some false)))
    (some false))
   (cond (eqI a0n.Kind 6)
    (cond (eqS a0n.Name [])
     (cond (leI 0 a0n.N)
      (some (leI a0n.N 1000000))
      (some false))
     (some false))
    (some false)))
theorem g_p_validValue_ok (n:Nat) (a0n:GNode) (a1words:Bool):∀ r,g_p_validValue n a0n a1words=some r→PCall Tryz.prog 87 [ag (GNode.cs a0n),B a1words] (.ret (B r)):=by
 refine pcall_sim (X:=fun r:Bool=>AEnd.ret (B r)) Tryz.func87 rfl Tryz.ntmps87 rfl ?_
 unfold g_p_validValue
 refine sR tfm ⟨[1,2],[2],[],[]⟩ ⟨[(1,B a1words),(2, .ptr 2 0)],[(2, .box 24 (bxc (GNode.cs a0n)))]⟩ krf (sS (sR tfm ⟨[1,2,8],[2],[],[]⟩ ⟨[(1,B a1words),(2, .ptr 2 0),(8,B (!eqI (lenI (mI a0n.Kids)) 0))],[(2, .box 24 (bxc (GNode.cs a0n)))]⟩ krf (sC (!eqI (lenI (mI a0n.Kids)) 0) krf ?_ ?_)))
 ·refine sR tfm ⟨[4],[],[],[]⟩ ⟨[(4,B false)],[]⟩ krf (sT (sq_r ?_))
  exact qR (.id) krf krf krf
 ·refine sK (sN ⟨[1,2],[2],[],[]⟩ ⟨[(1,B a1words),(2, .ptr 2 0)],[(2, .box 24 (bxc (GNode.cs a0n)))]⟩ krf (sS (sR tfm ⟨[1,2,10],[2],[],[]⟩ ⟨[(1,B a1words),(2, .ptr 2 0),(10,I a0n.Kind)],[(2, .box 24 (bxc (GNode.cs a0n)))]⟩ krf (sB (sR tfm ⟨[1,2,10,11],[2],[],[]⟩ ⟨[(1,B a1words),(2, .ptr 2 0),(10,I a0n.Kind),(11,B (eqI a0n.Kind 5))],[(2, .box 24 (bxc (GNode.cs a0n)))]⟩ krf (sC (eqI a0n.Kind 5) krf ?_ ?_))))))
  ·refine sS (sG (xR 4 krf ?_))
   refine xS (eqI a0n.N 0) (fun h1=>?_) (fun h1=>?_)
   ·refine xO (want_tt krf h1) krf (xR 1 krf ?_)
    refine xC [] krf (g_p_goodName_ok n a0n.Name) krf krf (fun _=>by kernel_rfl) (fun r2=>?_)
    refine xR 1 krf ?_
    refine xS r2 (fun h3=>?_) (fun h3=>?_)
    ·refine xN (want_ft krf h3) krf (xR 8 krf (xE (sN ⟨[4],[],[],[]⟩ ⟨[(4,B true)],[]⟩ krf (sT (bq_r (sq_r ?_))))))
     exact qR (.id) krf krf krf
    ·refine xO (want_ff krf h3) krf (xR 1 krf ?_)
     refine xS a1words (fun h4=>?_) (fun h4=>?_)
     ·refine xO (want_tt krf h4) krf (xR 1 krf ?_)
      refine xC [] krf (g_p_isWord_ok n a0n.Name) krf krf (fun _=>by kernel_rfl) (fun r5=>?_)
      refine xR 4 krf (xE (sN ⟨[4],[],[],[]⟩ ⟨[(4,B r5)],[]⟩ krf (sT (bq_r (sq_r ?_)))))
      exact qR (.id) krf krf krf
     ·refine xN (want_tf krf h4) krf (xR 6 krf (xE (sN ⟨[4],[],[],[]⟩ ⟨[(4,B false)],[]⟩ krf (sT (bq_r (sq_r ?_))))))
      exact qR (.id) krf krf krf
   ·refine xN (want_tf krf h1) krf (xR 12 krf (xE (sN ⟨[4],[],[],[]⟩ ⟨[(4,B false)],[]⟩ krf (sT (bq_r (sq_r ?_))))))
    exact qR (.id) krf krf krf
  ·refine sR tfm ⟨[2,29],[2],[],[]⟩ ⟨[(2, .ptr 2 0),(29,B (eqI a0n.Kind 6))],[(2, .box 24 (bxc (GNode.cs a0n)))]⟩ krf (sC (eqI a0n.Kind 6) krf ?_ ?_)
   ·refine sS (sG (xR 4 krf ?_))
    refine xS (eqS a0n.Name []) (fun h6=>?_) (fun h6=>?_)
    ·refine xO (want_tt krf h6) krf (xR 4 krf ?_)
     refine xS (leI 0 a0n.N) (fun h7=>?_) (fun h7=>?_)
     ·refine xO (want_tt krf h7) krf (xR 4 krf (xE (sN ⟨[4],[],[],[]⟩ ⟨[(4,B (leI a0n.N 1000000))],[]⟩ krf (sT (bq_r (sq_r ?_))))))
      exact qR (.id) krf krf krf
     ·refine xN (want_tf krf h7) krf (xR 4 krf (xE (sN ⟨[4],[],[],[]⟩ ⟨[(4,B false)],[]⟩ krf (sT (bq_r (sq_r ?_))))))
      exact qR (.id) krf krf krf
    ·refine xN (want_tf krf h6) krf (xR 9 krf (xE (sN ⟨[4],[],[],[]⟩ ⟨[(4,B false)],[]⟩ krf (sT (bq_r (sq_r ?_))))))
     exact qR (.id) krf krf krf
   ·refine sK (bq_n (sN ⟨[],[],[],[]⟩ ⟨[],[]⟩ krf (sR tfm ⟨[4],[],[],[]⟩ ⟨[(4,B false)],[]⟩ krf (sT ?_))))
    exact qR (.id) krf krf krf
def g_p_validPart_l9 (n:Nat) (a0n:GNode) (a1left:Int) (recl9:Int→Option (Bool × Int)) (l9:Int):Option (Bool × Int) :=
 cond (ltI l9 (lenI (List.map idc a0n.Kids)))
  ((Option.bind (getI a0n.Kids l9) GNode.of).bind fun x10 =>
  (g_p_validValue n x10 (eqI a0n.Kind 4)).bind fun r11 =>
  cond (!r11)
   (some (false,wi (a1left - (lenI (List.map idc a0n.Kids)))))
   (recl9 (wi (l9+1))))
  (some (true,wi (a1left - (lenI (List.map idc a0n.Kids)))))
def g_p_validPart (n:Nat) (a0n:GNode) (a1left:Int):Option (Bool × Int) :=
 cond (!eqI a0n.N 0)
  (some (false,a1left))
  ((cond (eqI a0n.Kind 3)
   ((g_p_isAttr n a0n.Name).bind fun r3 =>
   some (!r3))
   (some false)).bind fun j1 =>
  cond j1
   (some (false,a1left))
   ((cond (eqI a0n.Kind 4)
    ((g_p_isArticle n a0n.Name).bind fun r6 =>
    some (!r6))
    (some false)).bind fun j4 =>
   cond j4
    (some (false,a1left))
    ((cond (!eqI a0n.Kind 3)
     (some (!eqI a0n.Kind 4))
     (some false)).bind fun j7 =>
    cond j7
     (some (false,a1left))
     (cond (ltI (wi (a1left - (lenI (List.map idc a0n.Kids)))) 0)
      (some (false,wi (a1left - (lenI (List.map idc a0n.Kids)))))
      (loopN (fun recl9 l9=>g_p_validPart_l9 n a0n a1left recl9 l9) n 0)))))
theorem g_p_validPart_ok (n:Nat) (a0n:GNode) (a1left:Int):∀ r,g_p_validPart n a0n a1left=some r→ACall Tryz.prog 65 [ag (GNode.cs a0n), .ptr 1001 0] (Go.Abs.look [(1001, .box 3 [I a1left])]) (heapR (fun r:Bool × Int=>((.ret (B r.1),[(1001, .box 3 [I r.2])]):AEnd × List (Nat × Blk))) r):=by
 refine acall_sim (X:=fun r:Bool × Int=>((.ret (B r.1),[(1001, .box 3 [I r.2])]):AEnd × List (Nat × Blk))) [(1001, .box 3 [I a1left])] Tryz.func65 rfl Tryz.ntmps65 rfl ?_
 unfold g_p_validPart
 refine sR tfm ⟨[1,2],[2,1001],[],[]⟩ ⟨[(1, .ptr 1001 0),(2, .ptr 2 0)],[(2, .box 24 (bxc (GNode.cs a0n))),(1001, .box 3 [I a1left])]⟩ krf (sR tfm ⟨[1,2,5],[2,1001],[],[]⟩ ⟨[(1, .ptr 1001 0),(2, .ptr 2 0),(5,B (eqI a0n.Kind 4))],[(2, .box 24 (bxc (GNode.cs a0n))),(1001, .box 3 [I a1left])]⟩ krf (sS (sB (sR tfm ⟨[1,2,5,11],[2,1001],[],[]⟩ ⟨[(1, .ptr 1001 0),(2, .ptr 2 0),(5,B (eqI a0n.Kind 4)),(11,B (!eqI a0n.N 0))],[(2, .box 24 (bxc (GNode.cs a0n))),(1001, .box 3 [I a1left])]⟩ krf (sC (!eqI a0n.N 0) krf ?_ ?_)))))
 ·refine sR tfm ⟨[4],[1001],[],[]⟩ ⟨[(4,B false)],[(1001, .box 3 [I a1left])]⟩ krf (sT (bq_r (sq_r ?_)))
  exact hq_ret (.id) [1001] [] krf krf krf krf
 ·refine sim_bind (fun j1=>⟨[(1, .ptr 1001 0),(2, .ptr 2 0),(5,B (eqI a0n.Kind 4)),(15,B j1)],[(2, .box 24 (bxc (GNode.cs a0n))),(1001, .box 3 [I a1left])]⟩:Bool→St) ?_ ?_
  ·refine sG (xR 4 krf ?_)
   refine xS (eqI a0n.Kind 3) (fun h2=>?_) (fun h2=>?_)
   ·refine xO (want_tt krf h2) krf (xR 1 krf ?_)
    refine xC [] krf (g_p_isAttr_ok n a0n.Name) krf krf (fun _=>by kernel_rfl) (fun r3=>?_)
    refine xR 3 krf (xE ?_)
    exact nq_n (!r3) ⟨[1,2,5,15],[2,1001],[],[]⟩ krf
   ·refine xN (want_tf krf h2) krf (xR 5 krf (xE ?_))
    exact nq_n false ⟨[1,2,5,15],[2,1001],[],[]⟩ krf
  ·rintro j1
   refine sC j1 krf ?_ ?_
   ·refine sR tfm ⟨[4],[1001],[],[]⟩ ⟨[(4,B false)],[(1001, .box 3 [I a1left])]⟩ krf (sT (bq_r (sq_r ?_)))
    exact hq_ret (.id) [1001] [] krf krf krf krf
   ·refine sim_bind (fun j4=>⟨[(1, .ptr 1001 0),(2, .ptr 2 0),(5,B (eqI a0n.Kind 4)),(25,B j4)],[(2, .box 24 (bxc (GNode.cs a0n))),(1001, .box 3 [I a1left])]⟩:Bool→St) ?_ ?_
    ·refine sG (xR 4 krf ?_)
     refine xS (eqI a0n.Kind 4) (fun h5=>?_) (fun h5=>?_)
     ·refine xO (want_tt krf h5) krf (xR 1 krf ?_)
      refine xC [] krf (g_p_isArticle_ok n a0n.Name) krf krf (fun _=>by kernel_rfl) (fun r6=>?_)
      refine xR 3 krf (xE ?_)
      exact nq_n (!r6) ⟨[1,2,5,25],[2,1001],[],[]⟩ krf
     ·refine xN (want_tf krf h5) krf (xR 5 krf (xE ?_))
      exact nq_n false ⟨[1,2,5,25],[2,1001],[],[]⟩ krf
    ·rintro j4
     refine sC j4 krf ?_ ?_
     ·refine sR tfm ⟨[4],[1001],[],[]⟩ ⟨[(4,B false)],[(1001, .box 3 [I a1left])]⟩ krf (sT (bq_r (sq_r ?_)))
      exact hq_ret (.id) [1001] [] krf krf krf krf
     ·refine sim_bind (fun j7=>⟨[(1, .ptr 1001 0),(2, .ptr 2 0),(5,B (eqI a0n.Kind 4)),(35,B j7)],[(2, .box 24 (bxc (GNode.cs a0n))),(1001, .box 3 [I a1left])]⟩:Bool→St) ?_ ?_
      ·refine sG (xR 4 krf ?_)
       refine xS (!eqI a0n.Kind 3) (fun h8=>?_) (fun h8=>?_)
       ·refine xO (want_tt krf h8) krf (xR 4 krf (xE ?_))
        exact nq_n (!eqI a0n.Kind 4) ⟨[1,2,5,35],[2,1001],[],[]⟩ krf
       ·refine xN (want_tf krf h8) krf (xR 4 krf (xE ?_))
        exact nq_n false ⟨[1,2,5,35],[2,1001],[],[]⟩ krf
      ·rintro j7
       refine sC j7 krf ?_ ?_
       ·refine sR tfm ⟨[4],[1001],[],[]⟩ ⟨[(4,B false)],[(1001, .box 3 [I a1left])]⟩ krf (sT (bq_r (sq_r ?_)))
        exact hq_ret (.id) [1001] [] krf krf krf krf
       ·refine sK (bq_n (sN ⟨[1,2,5],[2,1001],[],[]⟩ ⟨[(1, .ptr 1001 0),(2, .ptr 2 0),(5,B (eqI a0n.Kind 4))],[(2, .box 24 (bxc (GNode.cs a0n))),(1001, .box 3 [I a1left])]⟩ krf (sR tfm ⟨[1,2,5],[2,1001],[],[]⟩ ⟨[(1, .ptr 1001 0),(2, .ptr 2 0),(5,B (eqI a0n.Kind 4))],[(2, .box 24 (bxc (GNode.cs a0n))),(1001, .box 3 [I (wi (a1left - (lenI (mI a0n.Kids))))])]⟩ krf (sS (sR tfm ⟨[2,5,55],[2,1001],[],[]⟩ ⟨[(2, .ptr 2 0),(5,B (eqI a0n.Kind 4)),(55,B (ltI (wi (a1left - (lenI (mI a0n.Kids)))) 0))],[(2, .box 24 (bxc (GNode.cs a0n))),(1001, .box 3 [I (wi (a1left - (lenI (mI a0n.Kids))))])]⟩ krf (sC (ltI (wi (a1left - (lenI (mI a0n.Kids)))) 0) krf ?_ ?_))))))
        ·refine sR tfm ⟨[4],[1001],[],[]⟩ ⟨[(4,B false)],[(1001, .box 3 [I (wi (a1left - (lenI (mI a0n.Kids))))])]⟩ krf (sT (sq_r ?_))
         exact hq_ret (.id) [1001] [] krf krf krf krf
        ·refine sK (sN ⟨[2,5],[2,1001],[],[]⟩ ⟨[(2, .ptr 2 0),(5,B (eqI a0n.Kind 4))],[(2, .box 24 (bxc (GNode.cs a0n))),(1001, .box 3 [I (wi (a1left - (lenI (mI a0n.Kids))))])]⟩ krf (sS (sR tfm ⟨[5,57,58,59],[1001],[],[]⟩ ⟨[(5,B (eqI a0n.Kind 4)),(57, .p (.sl 5 (mI a0n.Kids))),(58,I (lenI (mI a0n.Kids))),(59,I 0)],[(1001, .box 3 [I (wi (a1left - (lenI (mI a0n.Kids))))])]⟩ krf (sB (sim_loop (fun l9=>⟨[(5,B (eqI a0n.Kind 4)),(57, .p (.sl 5 (mI a0n.Kids))),(58,I (lenI (mI a0n.Kids))),(59,I l9)],[(1001, .box 3 [I (wi (a1left - (lenI (mI a0n.Kids))))])]⟩:Int→St) (weak_shr (K:=⟨[5,57,58,59],[1001],[],[]⟩) krf) ?_)))))
         rintro recl9 l9
         show SimE (g_p_validPart_l9 n a0n a1left recl9 l9) _ _ _ _ _ _
         unfold g_p_validPart_l9
         refine sR tfm ⟨[5,57,58,59,60],[1001],[],[]⟩ ⟨[(5,B (eqI a0n.Kind 4)),(57, .p (.sl 5 (mI a0n.Kids))),(58,I (lenI (mI a0n.Kids))),(59,I l9),(60,B (ltI l9 (lenI (mI a0n.Kids))))],[(1001, .box 3 [I (wi (a1left - (lenI (mI a0n.Kids))))])]⟩ krf (sS (sC (ltI l9 (lenI (mI a0n.Kids))) krf ?_ ?_))
         ·refine sK (sN ⟨[5,57,58,59],[1001],[],[]⟩ ⟨[(5,B (eqI a0n.Kind 4)),(57, .p (.sl 5 (mI a0n.Kids))),(58,I (lenI (mI a0n.Kids))),(59,I l9)],[(1001, .box 3 [I (wi (a1left - (lenI (mI a0n.Kids))))])]⟩ krf (sS (sB (sS (sG ?_)))))
          refine xG krf krf (aop_idxR (e:=24) (S:=5) (enc:=GNode.cs) (dec:=GNode.of) (l:=a0n.Kids) (k:=.i64) (n:=l9) (sv:=.p (.sl 5 (mI a0n.Kids))) GNode.of_cs rfl krf krf krf krf krf) (fun x10=>?_)
          refine xR 3 krf (xE (sN ⟨[5,7,57,58,59],[7,1001],[],[]⟩ ⟨[(5,B (eqI a0n.Kind 4)),(7, .ptr 7 0),(57, .p (.sl 5 (mI a0n.Kids))),(58,I (lenI (mI a0n.Kids))),(59,I l9)],[(7, .box 24 (bxc (GNode.cs x10))),(1001, .box 3 [I (wi (a1left - (lenI (mI a0n.Kids))))])]⟩ krf (sS (sG (xR 2 krf ?_)))))
          refine xC [] krf (g_p_validValue_ok n x10 (eqI a0n.Kind 4)) krf krf (fun _=>by kernel_rfl) (fun r11=>?_)
          refine xR 1 krf (xE (sN ⟨[5,57,58,59,66],[1001],[],[]⟩ ⟨[(5,B (eqI a0n.Kind 4)),(57, .p (.sl 5 (mI a0n.Kids))),(58,I (lenI (mI a0n.Kids))),(59,I l9),(66,B (!r11))],[(1001, .box 3 [I (wi (a1left - (lenI (mI a0n.Kids))))])]⟩ krf (sC (!r11) krf ?_ ?_)))
          ·refine sR tfm ⟨[4],[1001],[],[]⟩ ⟨[(4,B false)],[(1001, .box 3 [I (wi (a1left - (lenI (mI a0n.Kids))))])]⟩ krf (sT (bq_r (sq_r (kq_r (bq_r (sq_r ?_))))))
           exact hq_ret (.id) [1001] [] krf krf krf krf
          ·refine sK (bq_n (sN ⟨[5,57,58,59],[1001],[],[]⟩ ⟨[(5,B (eqI a0n.Kind 4)),(57, .p (.sl 5 (mI a0n.Kids))),(58,I (lenI (mI a0n.Kids))),(59,I l9)],[(1001, .box 3 [I (wi (a1left - (lenI (mI a0n.Kids))))])]⟩ krf (sL tfm krf ?_)))
           exact kq_n (wi (l9+1)) ⟨[5,57,58,59],[1001],[],[]⟩ krf
         ·refine sim_exit (sq_x (kq_x (bq_hit (sN ⟨[],[1001],[],[]⟩ ⟨[],[(1001, .box 3 [I (wi (a1left - (lenI (mI a0n.Kids))))])]⟩ krf (sR tfm ⟨[4],[1001],[],[]⟩ ⟨[(4,B true)],[(1001, .box 3 [I (wi (a1left - (lenI (mI a0n.Kids))))])]⟩ krf (sT ?_))))))
          exact hq_ret (.id) [1001] [] krf krf krf krf
def g_p_validItem_j6 (a0n:GNode) (j6_1:Bool) (j6_2:Int):Option (Bool × Int) :=
 cond (!j6_1)
  (some (true,j6_2))
  (some (eqI a0n.N 7,j6_2))
def g_p_validItem_j10 (n:Nat) (l8_2:Int) (l8_3:Int) (recl8:(Bool × Int × Int)→Option (Bool × Int)) (x9:GNode) (j10:Bool):Option (Bool × Int) :=
 (g_p_validPart n x9 l8_3).bind fun r11 =>
 cond (!r11.1)
  (some (false,r11.2))
  (recl8 (j10,wi (l8_2+1),r11.2))
def g_p_validItem_l8 (n:Nat) (a0n:GNode) (recl8:(Bool × Int × Int)→Option (Bool × Int)) (l8_1:Bool) (l8_2:Int) (l8_3:Int):Option (Bool × Int) :=
 cond (ltI l8_2 (lenI (List.map idc a0n.Kids)))
  ((Option.bind (getI a0n.Kids l8_2) GNode.of).bind fun x9 =>
  cond (eqI x9.Kind 4)
   (g_p_validItem_j10 n l8_2 l8_3 recl8 x9 true)
   (cond l8_1
    (some (false,l8_3))
    (g_p_validItem_j10 n l8_2 l8_3 recl8 x9 l8_1)))
  (g_p_validItem_j6 a0n l8_1 l8_3)
def g_p_validItem (n:Nat) (a0n:GNode) (a1left:Int):Option (Bool × Int) :=
 (cond (!eqI a0n.Kind 2)
  (some true)
  (cond (ltI a0n.N 1)
   (some true)
   (cond (ltI 7 a0n.N)
    (some true)
    ((g_p_goodName n a0n.Name).bind fun r5 =>
    some (!r5))))).bind fun j1 =>
 cond j1
  (some (false,a1left))
  (cond (ltI (wi (a1left - (lenI (List.map idc a0n.Kids)))) 0)
   (some (false,wi (a1left - (lenI (List.map idc a0n.Kids)))))
   (loopN (fun recl8 (l8_1,l8_2,l8_3)=>g_p_validItem_l8 n a0n recl8 l8_1 l8_2 l8_3) n (false,0,wi (a1left - (lenI (List.map idc a0n.Kids))))))
theorem g_p_validItem_ok (n:Nat) (a0n:GNode) (a1left:Int):∀ r,g_p_validItem n a0n a1left=some r→ACall Tryz.prog 42 [ag (GNode.cs a0n), .ptr 1001 0] (Go.Abs.look [(1001, .box 3 [I a1left])]) (heapR (fun r:Bool × Int=>((.ret (B r.1),[(1001, .box 3 [I r.2])]):AEnd × List (Nat × Blk))) r):=by
 refine acall_sim (X:=fun r:Bool × Int=>((.ret (B r.1),[(1001, .box 3 [I r.2])]):AEnd × List (Nat × Blk))) [(1001, .box 3 [I a1left])] Tryz.func42 rfl Tryz.ntmps42 rfl ?_
 unfold g_p_validItem
 refine sR tfm ⟨[1,2],[2,1001],[],[]⟩ ⟨[(1, .ptr 1001 0),(2, .ptr 2 0)],[(2, .box 24 (bxc (GNode.cs a0n))),(1001, .box 3 [I a1left])]⟩ krf (sS (sim_bind (fun j1=>⟨[(1, .ptr 1001 0),(2, .ptr 2 0),(26,B j1)],[(2, .box 24 (bxc (GNode.cs a0n))),(1001, .box 3 [I a1left])]⟩:Bool→St) ?_ ?_))
 ·refine sG (xR 4 krf ?_)
  refine xS (!eqI a0n.Kind 2) (fun h2=>?_) (fun h2=>?_)
  ·refine xN (want_ft krf h2) krf (xR 14 krf (xE ?_))
   exact nq_n true ⟨[1,2,26],[2,1001],[],[]⟩ krf
  ·refine xO (want_ff krf h2) krf (xR 4 krf ?_)
   refine xS (ltI a0n.N 1) (fun h3=>?_) (fun h3=>?_)
   ·refine xN (want_ft krf h3) krf (xR 9 krf (xE ?_))
    exact nq_n true ⟨[1,2,26],[2,1001],[],[]⟩ krf
   ·refine xO (want_ff krf h3) krf (xR 4 krf ?_)
    refine xS (ltI 7 a0n.N) (fun h4=>?_) (fun h4=>?_)
    ·refine xN (want_ft krf h4) krf (xR 4 krf (xE ?_))
     exact nq_n true ⟨[1,2,26],[2,1001],[],[]⟩ krf
    ·refine xO (want_ff krf h4) krf (xR 1 krf ?_)
     refine xC [] krf (g_p_goodName_ok n a0n.Name) krf krf (fun _=>by kernel_rfl) (fun r5=>?_)
     refine xR 2 krf (xE ?_)
     exact nq_n (!r5) ⟨[1,2,26],[2,1001],[],[]⟩ krf
 ·rintro j1
  refine sC j1 krf ?_ ?_
  ·refine sR tfm ⟨[4],[1001],[],[]⟩ ⟨[(4,B false)],[(1001, .box 3 [I a1left])]⟩ krf (sT (sq_r ?_))
   exact hq_ret (.id) [1001] [] krf krf krf krf
  ·refine sK (sN ⟨[1,2],[2,1001],[],[]⟩ ⟨[(1, .ptr 1001 0),(2, .ptr 2 0)],[(2, .box 24 (bxc (GNode.cs a0n))),(1001, .box 3 [I a1left])]⟩ krf (sR tfm ⟨[1,2],[2,1001],[],[]⟩ ⟨[(1, .ptr 1001 0),(2, .ptr 2 0)],[(2, .box 24 (bxc (GNode.cs a0n))),(1001, .box 3 [I (wi (a1left - (lenI (mI a0n.Kids))))])]⟩ krf (sS (sR tfm ⟨[1,2,38],[2,1001],[],[]⟩ ⟨[(1, .ptr 1001 0),(2, .ptr 2 0),(38,B (ltI (wi (a1left - (lenI (mI a0n.Kids)))) 0))],[(2, .box 24 (bxc (GNode.cs a0n))),(1001, .box 3 [I (wi (a1left - (lenI (mI a0n.Kids))))])]⟩ krf (sC (ltI (wi (a1left - (lenI (mI a0n.Kids)))) 0) krf ?_ ?_)))))
   ·refine sR tfm ⟨[4],[1001],[],[]⟩ ⟨[(4,B false)],[(1001, .box 3 [I (wi (a1left - (lenI (mI a0n.Kids))))])]⟩ krf (sT (sq_r ?_))
    exact hq_ret (.id) [1001] [] krf krf krf krf
   ·refine sK (sN ⟨[1,2],[2,1001],[],[]⟩ ⟨[(1, .ptr 1001 0),(2, .ptr 2 0)],[(2, .box 24 (bxc (GNode.cs a0n))),(1001, .box 3 [I (wi (a1left - (lenI (mI a0n.Kids))))])]⟩ krf (sR tfm ⟨[1,2,5],[2,1001],[],[]⟩ ⟨[(1, .ptr 1001 0),(2, .ptr 2 0),(5,B false)],[(2, .box 24 (bxc (GNode.cs a0n))),(1001, .box 3 [I (wi (a1left - (lenI (mI a0n.Kids))))])]⟩ krf (sim_cps (fun (j6_1,j6_2)=>⟨[(2, .ptr 2 0),(5,B j6_1)],[(2, .box 24 (bxc (GNode.cs a0n))),(1001, .box 3 [I j6_2])]⟩:(Bool × Int)→St) (fun (j6_1,j6_2)=>g_p_validItem_j6 a0n j6_1 j6_2) ?_ ?_)))
    ·rintro ⟨j6_1,j6_2⟩
     show SimE (g_p_validItem_j6 a0n j6_1 j6_2) _ _ _ _ _ _
     unfold g_p_validItem_j6
     refine sS (sG (xR 3 krf ?_))
     refine xS (!j6_1) (fun h7=>?_) (fun h7=>?_)
     ·refine xN (want_ft krf h7) krf (xR 4 krf (xE (sN ⟨[4],[1001],[],[]⟩ ⟨[(4,B true)],[(1001, .box 3 [I j6_2])]⟩ krf (sT ?_))))
      exact hq_ret (.id) [1001] [] krf krf krf krf
     ·refine xO (want_ff krf h7) krf (xR 4 krf (xE (sN ⟨[4],[1001],[],[]⟩ ⟨[(4,B (eqI a0n.N 7))],[(1001, .box 3 [I j6_2])]⟩ krf (sT ?_))))
      exact hq_ret (.id) [1001] [] krf krf krf krf
    ·refine sR tfm ⟨[1,2,5,40,41,42],[2,1001],[],[]⟩ ⟨[(1, .ptr 1001 0),(2, .ptr 2 0),(5,B false),(40, .p (.sl 5 (mI a0n.Kids))),(41,I (lenI (mI a0n.Kids))),(42,I 0)],[(2, .box 24 (bxc (GNode.cs a0n))),(1001, .box 3 [I (wi (a1left - (lenI (mI a0n.Kids))))])]⟩ krf (sB (sim_loop (fun (l8_1,l8_2,l8_3)=>⟨[(1, .ptr 1001 0),(2, .ptr 2 0),(5,B l8_1),(40, .p (.sl 5 (mI a0n.Kids))),(41,I (lenI (mI a0n.Kids))),(42,I l8_2)],[(2, .box 24 (bxc (GNode.cs a0n))),(1001, .box 3 [I l8_3])]⟩:(Bool × Int × Int)→St) (weak_shr (K:=⟨[1,2,5,40,41,42],[2,1001],[],[]⟩) krf) ?_))
     rintro recl8 ⟨l8_1,l8_2,l8_3⟩
     show SimE (g_p_validItem_l8 n a0n recl8 l8_1 l8_2 l8_3) _ _ _ _ _ _
     unfold g_p_validItem_l8
     refine sR tfm ⟨[1,2,5,40,41,42,43],[2,1001],[],[]⟩ ⟨[(1, .ptr 1001 0),(2, .ptr 2 0),(5,B l8_1),(40, .p (.sl 5 (mI a0n.Kids))),(41,I (lenI (mI a0n.Kids))),(42,I l8_2),(43,B (ltI l8_2 (lenI (mI a0n.Kids))))],[(2, .box 24 (bxc (GNode.cs a0n))),(1001, .box 3 [I l8_3])]⟩ krf (sS (sC (ltI l8_2 (lenI (mI a0n.Kids))) krf ?_ ?_))
     ·refine sK (sN ⟨[1,2,5,40,41,42],[2,1001],[],[]⟩ ⟨[(1, .ptr 1001 0),(2, .ptr 2 0),(5,B l8_1),(40, .p (.sl 5 (mI a0n.Kids))),(41,I (lenI (mI a0n.Kids))),(42,I l8_2)],[(2, .box 24 (bxc (GNode.cs a0n))),(1001, .box 3 [I l8_3])]⟩ krf (sS (sB (sS (sG ?_)))))
      refine xG krf krf (aop_idxR (e:=24) (S:=5) (enc:=GNode.cs) (dec:=GNode.of) (l:=a0n.Kids) (k:=.i64) (n:=l8_2) (sv:=.p (.sl 5 (mI a0n.Kids))) GNode.of_cs rfl krf krf krf krf krf) (fun x9=>?_)
      refine xR 3 krf (xE (sN ⟨[1,2,5,7,40,41,42],[2,7,1001],[],[]⟩ ⟨[(1, .ptr 1001 0),(2, .ptr 2 0),(5,B l8_1),(7, .ptr 7 0),(40, .p (.sl 5 (mI a0n.Kids))),(41,I (lenI (mI a0n.Kids))),(42,I l8_2)],[(2, .box 24 (bxc (GNode.cs a0n))),(7, .box 24 (bxc (GNode.cs x9))),(1001, .box 3 [I l8_3])]⟩ krf (sim_cps (fun j10=>⟨[(1, .ptr 1001 0),(2, .ptr 2 0),(5,B j10),(7, .ptr 7 0),(40, .p (.sl 5 (mI a0n.Kids))),(41,I (lenI (mI a0n.Kids))),(42,I l8_2)],[(2, .box 24 (bxc (GNode.cs a0n))),(7, .box 24 (bxc (GNode.cs x9))),(1001, .box 3 [I l8_3])]⟩:Bool→St) (fun j10=>g_p_validItem_j10 n l8_2 l8_3 recl8 x9 j10) ?_ ?_)))
      ·rintro j10
       show SimE (g_p_validItem_j10 n l8_2 l8_3 recl8 x9 j10) _ _ _ _ _ _
       unfold g_p_validItem_j10
       refine sS (sG (xR 2 krf ?_))
       refine xs_heap [(1001,1001)] [] [] krf (g_p_validPart_ok n x9 l8_3) krf krf krf (fun _=>by kernel_rfl) (fun _=>by kernel_rfl) (fun r11=>?_)
       refine xR 1 krf (xE (sN ⟨[1,2,5,40,41,42,53],[2,1001],[],[]⟩ ⟨[(1, .ptr 1001 0),(2, .ptr 2 0),(5,B j10),(40, .p (.sl 5 (mI a0n.Kids))),(41,I (lenI (mI a0n.Kids))),(42,I l8_2),(53,B (!r11.1))],[(2, .box 24 (bxc (GNode.cs a0n))),(1001, .box 3 [I r11.2])]⟩ krf (sC (!r11.1) krf ?_ ?_)))
       ·refine sR tfm ⟨[4],[1001],[],[]⟩ ⟨[(4,B false)],[(1001, .box 3 [I r11.2])]⟩ krf (sT (bq_r (sq_r (kq_r (bq_r (kq_r ?_))))))
        exact hq_ret (.id) [1001] [] krf krf krf krf
       ·refine sK (bq_n (sN ⟨[1,2,5,40,41,42],[2,1001],[],[]⟩ ⟨[(1, .ptr 1001 0),(2, .ptr 2 0),(5,B j10),(40, .p (.sl 5 (mI a0n.Kids))),(41,I (lenI (mI a0n.Kids))),(42,I l8_2)],[(2, .box 24 (bxc (GNode.cs a0n))),(1001, .box 3 [I r11.2])]⟩ krf (sL tfm krf ?_)))
        exact kq_n (j10,wi (l8_2+1),r11.2) ⟨[1,2,5,40,41,42],[2,1001],[],[]⟩ krf
      ·refine sR tfm ⟨[1,2,5,7,40,41,42,48],[2,7,1001],[],[]⟩ ⟨[(1, .ptr 1001 0),(2, .ptr 2 0),(5,B l8_1),(7, .ptr 7 0),(40, .p (.sl 5 (mI a0n.Kids))),(41,I (lenI (mI a0n.Kids))),(42,I l8_2),(48,B (eqI x9.Kind 4))],[(2, .box 24 (bxc (GNode.cs a0n))),(7, .box 24 (bxc (GNode.cs x9))),(1001, .box 3 [I l8_3])]⟩ krf (sC (eqI x9.Kind 4) krf ?_ ?_)
       ·refine sL tfm krf ?_
        exact kq_n (k:=fun j10=>g_p_validItem_j10 n l8_2 l8_3 recl8 x9 j10) true ⟨[1,2,5,7,40,41,42],[2,7,1001],[],[]⟩ krf
       ·refine sR tfm ⟨[1,2,5,7,40,41,42,49],[2,7,1001],[],[]⟩ ⟨[(1, .ptr 1001 0),(2, .ptr 2 0),(5,B l8_1),(7, .ptr 7 0),(40, .p (.sl 5 (mI a0n.Kids))),(41,I (lenI (mI a0n.Kids))),(42,I l8_2),(49,B l8_1)],[(2, .box 24 (bxc (GNode.cs a0n))),(7, .box 24 (bxc (GNode.cs x9))),(1001, .box 3 [I l8_3])]⟩ krf (sC l8_1 krf ?_ ?_)
        ·refine sR tfm ⟨[4],[1001],[],[]⟩ ⟨[(4,B false)],[(1001, .box 3 [I l8_3])]⟩ krf (sT (kq_r (bq_r (sq_r (kq_r (bq_r (kq_r ?_)))))))
         exact hq_ret (.id) [1001] [] krf krf krf krf
        ·refine sK ?_
         exact kq_n (k:=fun j10=>g_p_validItem_j10 n l8_2 l8_3 recl8 x9 j10) l8_1 ⟨[1,2,5,7,40,41,42],[2,7,1001],[],[]⟩ krf
     ·refine sim_exit (sq_x (kq_x (bq_hit ?_)))
      exact kq_n (k:=fun (j6_1,j6_2)=>g_p_validItem_j6 a0n j6_1 j6_2) (l8_1,l8_3) ⟨[2,5],[2,1001],[],[]⟩ krf
def g_p_Valid_l5 (n:Nat) (a0n:GNode) (recl5:(Int × Int)→Option Bool) (l5_1:Int) (l5_2:Int):Option Bool :=
 cond (ltI l5_1 (lenI (List.map idc a0n.Kids)))
  ((Option.bind (getI a0n.Kids l5_1) GNode.of).bind fun x6 =>
  (g_p_validItem n x6 l5_2).bind fun r7 =>
  cond (!r7.1)
   (some false)
   (recl5 (wi (l5_1+1),r7.2)))
  (some true)
def g_p_Valid (n:Nat) (a0n:GNode):Option Bool :=
 (cond (!eqI a0n.Kind 1)
  (some true)
  (cond (!eqS a0n.Name [])
   (some true)
   (cond (!eqI a0n.N 0)
    (some true)
    (some (ltI (wi (1499 - (lenI (List.map idc a0n.Kids)))) 0))))).bind fun j1 =>
 cond j1
  (some false)
  (loopN (fun recl5 (l5_1,l5_2)=>g_p_Valid_l5 n a0n recl5 l5_1 l5_2) n (0,wi (1499 - (lenI (List.map idc a0n.Kids)))))
theorem g_p_Valid_ok (n:Nat) (a0n:GNode):∀ r,g_p_Valid n a0n=some r→PCall Tryz.prog 28 [ag (GNode.cs a0n)] (.ret (B r)):=by
 refine pcall_sim (X:=fun r:Bool=>AEnd.ret (B r)) Tryz.func28 rfl Tryz.ntmps28 rfl ?_
 unfold g_p_Valid
 refine sR tfm ⟨[1],[1],[],[]⟩ ⟨[(1, .ptr 1 0)],[(1, .box 24 (bxc (GNode.cs a0n)))]⟩ krf (sR tfm ⟨[1,3],[1,3],[],[]⟩ ⟨[(1, .ptr 1 0),(3, .ptr 3 0)],[(1, .box 24 (bxc (GNode.cs a0n))),(3, .box 3 [I (wi (1499 - (lenI (mI a0n.Kids))))])]⟩ krf (sS (sim_bind (fun j1=>⟨[(1, .ptr 1 0),(3, .ptr 3 0),(26,B j1)],[(1, .box 24 (bxc (GNode.cs a0n))),(3, .box 3 [I (wi (1499 - (lenI (mI a0n.Kids))))])]⟩:Bool→St) ?_ ?_)))
 ·refine sG (xR 4 krf ?_)
  refine xS (!eqI a0n.Kind 1) (fun h2=>?_) (fun h2=>?_)
  ·refine xN (want_ft krf h2) krf (xR 12 krf (xE ?_))
   exact nq_n true ⟨[1,3,26],[1,3],[],[]⟩ krf
  ·refine xO (want_ff krf h2) krf (xR 4 krf ?_)
   refine xS (!eqS a0n.Name []) (fun h3=>?_) (fun h3=>?_)
   ·refine xN (want_ft krf h3) krf (xR 7 krf (xE ?_))
    exact nq_n true ⟨[1,3,26],[1,3],[],[]⟩ krf
   ·refine xO (want_ff krf h3) krf (xR 4 krf ?_)
    refine xS (!eqI a0n.N 0) (fun h4=>?_) (fun h4=>?_)
    ·refine xN (want_ft krf h4) krf (xR 2 krf (xE ?_))
     exact nq_n true ⟨[1,3,26],[1,3],[],[]⟩ krf
    ·refine xO (want_ff krf h4) krf (xR 2 krf (xE ?_))
     exact nq_n (ltI (wi (1499 - (lenI (mI a0n.Kids)))) 0) ⟨[1,3,26],[1,3],[],[]⟩ krf
 ·rintro j1
  refine sC j1 krf ?_ ?_
  ·refine sR tfm ⟨[2],[],[],[]⟩ ⟨[(2,B false)],[]⟩ krf (sT (sq_r ?_))
   exact qR (.id) krf krf krf
  ·refine sK (sN ⟨[1,3],[1,3],[],[]⟩ ⟨[(1, .ptr 1 0),(3, .ptr 3 0)],[(1, .box 24 (bxc (GNode.cs a0n))),(3, .box 3 [I (wi (1499 - (lenI (mI a0n.Kids))))])]⟩ krf (sS (sR tfm ⟨[3,28,29,30],[3],[],[]⟩ ⟨[(3, .ptr 3 0),(28, .p (.sl 5 (mI a0n.Kids))),(29,I (lenI (mI a0n.Kids))),(30,I 0)],[(3, .box 3 [I (wi (1499 - (lenI (mI a0n.Kids))))])]⟩ krf (sB (sim_loop (fun (l5_1,l5_2)=>⟨[(3, .ptr 3 0),(28, .p (.sl 5 (mI a0n.Kids))),(29,I (lenI (mI a0n.Kids))),(30,I l5_1)],[(3, .box 3 [I l5_2])]⟩:(Int × Int)→St) (weak_shr (K:=⟨[3,28,29,30],[3],[],[]⟩) krf) ?_)))))
   rintro recl5 ⟨l5_1,l5_2⟩
   show SimE (g_p_Valid_l5 n a0n recl5 l5_1 l5_2) _ _ _ _ _ _
   unfold g_p_Valid_l5
   refine sR tfm ⟨[3,28,29,30,31],[3],[],[]⟩ ⟨[(3, .ptr 3 0),(28, .p (.sl 5 (mI a0n.Kids))),(29,I (lenI (mI a0n.Kids))),(30,I l5_1),(31,B (ltI l5_1 (lenI (mI a0n.Kids))))],[(3, .box 3 [I l5_2])]⟩ krf (sS (sC (ltI l5_1 (lenI (mI a0n.Kids))) krf ?_ ?_))
   ·refine sK (sN ⟨[3,28,29,30],[3],[],[]⟩ ⟨[(3, .ptr 3 0),(28, .p (.sl 5 (mI a0n.Kids))),(29,I (lenI (mI a0n.Kids))),(30,I l5_1)],[(3, .box 3 [I l5_2])]⟩ krf (sS (sB (sS (sG ?_)))))
    refine xG krf krf (aop_idxR (e:=24) (S:=5) (enc:=GNode.cs) (dec:=GNode.of) (l:=a0n.Kids) (k:=.i64) (n:=l5_1) (sv:=.p (.sl 5 (mI a0n.Kids))) GNode.of_cs rfl krf krf krf krf krf) (fun x6=>?_)
    refine xR 3 krf (xE (sN ⟨[3,5,28,29,30],[3,5],[],[]⟩ ⟨[(3, .ptr 3 0),(5, .ptr 5 0),(28, .p (.sl 5 (mI a0n.Kids))),(29,I (lenI (mI a0n.Kids))),(30,I l5_1)],[(3, .box 3 [I l5_2]),(5, .box 24 (bxc (GNode.cs x6)))]⟩ krf (sS (sG (xR 1 krf ?_)))))
    refine xs_heap [(1001,3)] [] [] krf (g_p_validItem_ok n x6 l5_2) krf krf krf (fun _=>by kernel_rfl) (fun _=>by kernel_rfl) (fun r7=>?_)
    refine xR 1 krf (xE (sN ⟨[3,28,29,30,36],[3],[],[]⟩ ⟨[(3, .ptr 3 0),(28, .p (.sl 5 (mI a0n.Kids))),(29,I (lenI (mI a0n.Kids))),(30,I l5_1),(36,B (!r7.1))],[(3, .box 3 [I r7.2])]⟩ krf (sC (!r7.1) krf ?_ ?_)))
    ·refine sR tfm ⟨[2],[],[],[]⟩ ⟨[(2,B false)],[]⟩ krf (sT (bq_r (sq_r (kq_r (bq_r (sq_r ?_))))))
     exact qR (.id) krf krf krf
    ·refine sK (bq_n (sN ⟨[3,28,29,30],[3],[],[]⟩ ⟨[(3, .ptr 3 0),(28, .p (.sl 5 (mI a0n.Kids))),(29,I (lenI (mI a0n.Kids))),(30,I l5_1)],[(3, .box 3 [I r7.2])]⟩ krf (sL tfm krf ?_)))
     exact kq_n (wi (l5_1+1),r7.2) ⟨[3,28,29,30],[3],[],[]⟩ krf
   ·refine sim_exit (sq_x (kq_x (bq_hit (sN ⟨[],[],[],[]⟩ ⟨[],[]⟩ krf (sR tfm ⟨[2],[],[],[]⟩ ⟨[(2,B true)],[]⟩ krf (sT ?_))))))
    exact qR (.id) krf krf krf
def g_t_kindOf (n:Nat) (a0key:List UInt8):Option Int :=
 cond (eqS a0key [115,116,97,114,116])
  (some 1)
  (cond (eqS a0key [101,110,101,114,103,121])
   (some 2)
   (cond (eqS a0key [116,105,109,101])
    (some 3)
    (cond (eqS a0key [105,100,108,101])
     (some 4)
     (cond (eqS a0key [99,97,112])
      (some 5)
      (cond (eqS a0key [116,97,120])
       (some 6)
       (some 0))))))
theorem g_t_kindOf_ok (n:Nat) (a0key:List UInt8):∀ r,g_t_kindOf n a0key=some r→PCall Tryz.prog 66 [S a0key] (.ret (I r)):=by
 refine pcall_sim (X:=fun r:Int=>AEnd.ret (I r)) Tryz.func66 rfl Tryz.ntmps66 rfl ?_
 unfold g_t_kindOf
 refine sR tfm ⟨[0],[],[],[]⟩ ⟨[(0,S a0key)],[]⟩ krf (sS (sR tfm ⟨[3],[],[],[]⟩ ⟨[(3,S a0key)],[]⟩ krf (sB (sR tfm ⟨[3,4],[],[],[]⟩ ⟨[(3,S a0key),(4,B (eqS a0key [115,116,97,114,116]))],[]⟩ krf (sC (eqS a0key [115,116,97,114,116]) krf ?_ ?_)))))
 ·refine sR tfm ⟨[2],[],[],[]⟩ ⟨[(2,I 1)],[]⟩ krf (sT (bq_r (sq_r ?_)))
  exact qR (.id) krf krf krf
 ·refine sR tfm ⟨[3,6],[],[],[]⟩ ⟨[(3,S a0key),(6,B (eqS a0key [101,110,101,114,103,121]))],[]⟩ krf (sC (eqS a0key [101,110,101,114,103,121]) krf ?_ ?_)
  ·refine sR tfm ⟨[2],[],[],[]⟩ ⟨[(2,I 2)],[]⟩ krf (sT (bq_r (sq_r ?_)))
   exact qR (.id) krf krf krf
  ·refine sR tfm ⟨[3,8],[],[],[]⟩ ⟨[(3,S a0key),(8,B (eqS a0key [116,105,109,101]))],[]⟩ krf (sC (eqS a0key [116,105,109,101]) krf ?_ ?_)
   ·refine sR tfm ⟨[2],[],[],[]⟩ ⟨[(2,I 3)],[]⟩ krf (sT (bq_r (sq_r ?_)))
    exact qR (.id) krf krf krf
   ·refine sR tfm ⟨[3,10],[],[],[]⟩ ⟨[(3,S a0key),(10,B (eqS a0key [105,100,108,101]))],[]⟩ krf (sC (eqS a0key [105,100,108,101]) krf ?_ ?_)
    ·refine sR tfm ⟨[2],[],[],[]⟩ ⟨[(2,I 4)],[]⟩ krf (sT (bq_r (sq_r ?_)))
     exact qR (.id) krf krf krf
    ·refine sR tfm ⟨[3,12],[],[],[]⟩ ⟨[(3,S a0key),(12,B (eqS a0key [99,97,112]))],[]⟩ krf (sC (eqS a0key [99,97,112]) krf ?_ ?_)
     ·refine sR tfm ⟨[2],[],[],[]⟩ ⟨[(2,I 5)],[]⟩ krf (sT (bq_r (sq_r ?_)))
      exact qR (.id) krf krf krf
     ·refine sR tfm ⟨[14],[],[],[]⟩ ⟨[(14,B (eqS a0key [116,97,120]))],[]⟩ krf (sC (eqS a0key [116,97,120]) krf ?_ ?_)
      ·refine sR tfm ⟨[2],[],[],[]⟩ ⟨[(2,I 6)],[]⟩ krf (sT (bq_r (sq_r ?_)))
       exact qR (.id) krf krf krf
      ·refine sK (bq_n (sN ⟨[],[],[],[]⟩ ⟨[],[]⟩ krf (sR tfm ⟨[2],[],[],[]⟩ ⟨[(2,I 0)],[]⟩ krf (sT ?_))))
       exact qR (.id) krf krf krf
def g_t_reader_number (n:Nat) (a0r:GTr):Option (Int × GTr) :=
 (cond (eqI (lenI (List.map idc a0r.values)) 0)
  (some true)
  ((Option.bind (getI a0r.values 0) GNode.of).bind fun x3 =>
  some (!eqI x3.Kind 6))).bind fun j1 =>
 cond j1
  (some (0,(⟨a0r.article,a0r.values,false⟩:GTr)))
  ((Option.bind (getI a0r.values 0) GNode.of).bind fun x4 =>
  cond (sliceB3 1 (lenI (List.map idc a0r.values)) (lenI (List.map idc a0r.values)) (List.length a0r.values)) (
   some (x4.N,(⟨a0r.article,List.drop (Int.toNat 1) (List.take (Int.toNat (lenI (List.map idc a0r.values))) a0r.values),a0r.good⟩:GTr))) none)
theorem g_t_reader_number_ok (n:Nat) (a0r:GTr):∀ r,g_t_reader_number n a0r=some r→ACall Tryz.prog 67 [.ptr 1000 0] (Go.Abs.look [(1000, .box 102 (bxc (GTr.cs a0r)))]) (heapR (fun r:Int × GTr=>((.ret (I r.1),[(1000, .box 102 (bxc (GTr.cs r.2)))]):AEnd × List (Nat × Blk))) r):=by
 refine acall_sim (X:=fun r:Int × GTr=>((.ret (I r.1),[(1000, .box 102 (bxc (GTr.cs r.2)))]):AEnd × List (Nat × Blk))) [(1000, .box 102 (bxc (GTr.cs a0r)))] Tryz.func67 rfl Tryz.ntmps67 rfl ?_
 unfold g_t_reader_number
 refine sR tfm ⟨[0],[1000],[],[]⟩ ⟨[(0, .ptr 1000 0)],[(1000, .box 102 (bxc (GTr.cs a0r)))]⟩ krf (sS (sim_bind (fun j1=>⟨[(0, .ptr 1000 0),(19,B j1)],[(1000, .box 102 (bxc (GTr.cs a0r)))]⟩:Bool→St) ?_ ?_))
 ·refine sG (xR 7 krf ?_)
  refine xS (eqI (lenI (mI a0r.values)) 0) (fun h2=>?_) (fun h2=>?_)
  ·refine xN (want_ft krf h2) krf (xR 8 krf (xE ?_))
   exact nq_n true ⟨[0,19],[1000],[],[]⟩ krf
  ·refine xO (want_ff krf h2) krf (xR 3 krf ?_)
   refine xG krf krf (aop_idxR (e:=24) (S:=5) (enc:=GNode.cs) (dec:=GNode.of) (l:=a0r.values) (k:=.i64) (n:=0) (sv:=.p (.sl 5 (mI a0r.values))) GNode.of_cs rfl krf krf krf krf krf) (fun x3=>?_)
   refine xR 4 krf (xE ?_)
   exact nq_n (!eqI x3.Kind 6) ⟨[0,19],[1000],[],[]⟩ krf
 ·rintro j1
  refine sC j1 krf ?_ ?_
  ·refine sR tfm ⟨[],[1000],[],[]⟩ ⟨[],[(1000, .box 102 (bxc (GTr.cs ⟨a0r.article,a0r.values,false⟩)))]⟩ krf (sR tfm ⟨[2],[1000],[],[]⟩ ⟨[(2,I 0)],[(1000, .box 102 (bxc (GTr.cs ⟨a0r.article,a0r.values,false⟩)))]⟩ krf (sT (sq_r ?_)))
   exact hq_ret (.id) [1000] [] krf krf krf krf
  ·refine sK (sN ⟨[0],[1000],[],[]⟩ ⟨[(0, .ptr 1000 0)],[(1000, .box 102 (bxc (GTr.cs a0r)))]⟩ krf (sS (sG (xR 4 krf ?_))))
   refine xG krf krf (aop_idxR (e:=24) (S:=5) (enc:=GNode.cs) (dec:=GNode.of) (l:=a0r.values) (k:=.i64) (n:=0) (sv:=.p (.sl 5 (mI a0r.values))) GNode.of_cs rfl krf krf krf krf krf) (fun x4=>?_)
   refine xR 3 krf (xE (sN ⟨[0,3],[1000],[],[]⟩ ⟨[(0, .ptr 1000 0),(3,I x4.N)],[(1000, .box 102 (bxc (GTr.cs a0r)))]⟩ krf (sS (sim_drw tfm rfl (xR 15 krf (xF krf krf (aop_slice3 (e:=24) (S:=5) (enc:=idc) (l:=a0r.values) (sv:=.p (.sl 5 (mI a0r.values))) (a:=1) (b:=lenI (mI a0r.values)) (c:=lenI (mI a0r.values)) rfl krf krf krf krf krf krf krf) (xR 3 krf ?_)))))))
   refine xs_endD krf (sN ⟨[3],[1000],[],[]⟩ ⟨[(3,I x4.N)],[(1000, .box 102 (bxc (GTr.cs ⟨a0r.article,List.drop (Int.toNat 1) (List.take (Int.toNat (lenI (mI a0r.values))) a0r.values),a0r.good⟩)))]⟩ krf (sR tfm ⟨[2],[1000],[],[]⟩ ⟨[(2,I x4.N)],[(1000, .box 102 (bxc (GTr.cs ⟨a0r.article,List.drop (Int.toNat 1) (List.take (Int.toNat (lenI (mI a0r.values))) a0r.values),a0r.good⟩)))]⟩ krf (sT ?_)))
   exact hq_ret (.id) [1000] [] krf krf krf krf
def g_t_isTime (n:Nat) (a0kind:Int):Option Bool :=
 cond (eqI a0kind 3)
  (some true)
  (some (eqI a0kind 4))
theorem g_t_isTime_ok (n:Nat) (a0kind:Int):∀ r,g_t_isTime n a0kind=some r→PCall Tryz.prog 48 [I a0kind] (.ret (B r)):=by
 refine pcall_sim (X:=fun r:Bool=>AEnd.ret (B r)) Tryz.func48 rfl Tryz.ntmps48 rfl ?_
 unfold g_t_isTime
 refine sR tfm ⟨[0],[],[],[]⟩ ⟨[(0,I a0kind)],[]⟩ krf (sS (sG (xR 3 krf ?_)))
 refine xS (eqI a0kind 3) (fun h1=>?_) (fun h1=>?_)
 ·refine xN (want_ft krf h1) krf (xR 3 krf (xE (sN ⟨[2],[],[],[]⟩ ⟨[(2,B true)],[]⟩ krf (sT ?_))))
  exact qR (.id) krf krf krf
 ·refine xO (want_ff krf h1) krf (xR 3 krf (xE (sN ⟨[2],[],[],[]⟩ ⟨[(2,B (eqI a0kind 4))],[]⟩ krf (sT ?_))))
  exact qR (.id) krf krf krf
def g_t_isWhole (n:Nat) (a0kind:Int):Option Bool :=
 cond (eqI a0kind 5)
  (some true)
  (some (eqI a0kind 6))
theorem g_t_isWhole_ok (n:Nat) (a0kind:Int):∀ r,g_t_isWhole n a0kind=some r→PCall Tryz.prog 47 [I a0kind] (.ret (B r)):=by
 refine pcall_sim (X:=fun r:Bool=>AEnd.ret (B r)) Tryz.func47 rfl Tryz.ntmps47 rfl ?_
 unfold g_t_isWhole
 refine sR tfm ⟨[0],[],[],[]⟩ ⟨[(0,I a0kind)],[]⟩ krf (sS (sG (xR 3 krf ?_)))
 refine xS (eqI a0kind 5) (fun h1=>?_) (fun h1=>?_)
 ·refine xN (want_ft krf h1) krf (xR 3 krf (xE (sN ⟨[2],[],[],[]⟩ ⟨[(2,B true)],[]⟩ krf (sT ?_))))
  exact qR (.id) krf krf krf
 ·refine xO (want_ff krf h1) krf (xR 3 krf (xE (sN ⟨[2],[],[],[]⟩ ⟨[(2,B (eqI a0kind 6))],[]⟩ krf (sT ?_))))
  exact qR (.id) krf krf krf
def g_t_reader_word (n:Nat) (a0r:GTr):Option (List UInt8) :=
 (cond (eqI (lenI (List.map idc a0r.values)) 0)
  (some true)
  ((Option.bind (getI a0r.values 0) GNode.of).bind fun x3 =>
  some (!eqI x3.Kind 5))).bind fun j1 =>
 cond j1
  (some [])
  ((Option.bind (getI a0r.values 0) GNode.of).bind fun x4 =>
  some x4.Name)
theorem g_t_reader_word_ok (n:Nat) (a0r:GTr):∀ r,g_t_reader_word n a0r=some r→PCall Tryz.prog 69 [.eptr (GTr.cs a0r)] (.ret (S r)):=by
 refine pcall_sim (X:=fun r:List UInt8=>AEnd.ret (S r)) Tryz.func69 rfl Tryz.ntmps69 rfl ?_
 unfold g_t_reader_word
 refine sR tfm ⟨[0],[],[],[]⟩ ⟨[(0, .eptr (GTr.cs a0r))],[]⟩ krf (sS (sim_bind (fun j1=>⟨[(0, .eptr (GTr.cs a0r)),(18,B j1)],[]⟩:Bool→St) ?_ ?_))
 ·refine sG (xR 7 krf ?_)
  refine xS (eqI (lenI (mI a0r.values)) 0) (fun h2=>?_) (fun h2=>?_)
  ·refine xN (want_ft krf h2) krf (xR 8 krf (xE ?_))
   exact nq_n true ⟨[0,18],[],[],[]⟩ krf
  ·refine xO (want_ff krf h2) krf (xR 3 krf ?_)
   refine xG krf krf (aop_idxR (e:=24) (S:=5) (enc:=GNode.cs) (dec:=GNode.of) (l:=a0r.values) (k:=.i64) (n:=0) (sv:=.p (.sl 5 (mI a0r.values))) GNode.of_cs rfl krf krf krf krf krf) (fun x3=>?_)
   refine xR 4 krf (xE ?_)
   exact nq_n (!eqI x3.Kind 5) ⟨[0,18],[],[],[]⟩ krf
 ·rintro j1
  refine sC j1 krf ?_ ?_
  ·refine sR tfm ⟨[2],[],[],[]⟩ ⟨[(2,S [])],[]⟩ krf (sT (sq_r ?_))
   exact qR (.id) krf krf krf
  ·refine sK (sN ⟨[0],[],[],[]⟩ ⟨[(0, .eptr (GTr.cs a0r))],[]⟩ krf (sS (sG (xR 4 krf ?_))))
   refine xG krf krf (aop_idxR (e:=24) (S:=5) (enc:=GNode.cs) (dec:=GNode.of) (l:=a0r.values) (k:=.i64) (n:=0) (sv:=.p (.sl 5 (mI a0r.values))) GNode.of_cs rfl krf krf krf krf krf) (fun x4=>?_)
   refine xR 3 krf (xE (sN ⟨[2],[],[],[]⟩ ⟨[(2,S x4.Name)],[]⟩ krf (sT ?_)))
   exact qR (.id) krf krf krf
def g_t_dayOf (n:Nat) (a0w:List UInt8):Option Int :=
 cond (eqS a0w [119,111,114,107])
  (some 1)
  (cond (eqS a0w [115,97,116,117,114,100,97,121])
   (some 2)
   (cond (eqS a0w [115,117,110,100,97,121])
    (some 4)
    (some 0)))
theorem g_t_dayOf_ok (n:Nat) (a0w:List UInt8):∀ r,g_t_dayOf n a0w=some r→PCall Tryz.prog 105 [S a0w] (.ret (I r)):=by
 refine pcall_sim (X:=fun r:Int=>AEnd.ret (I r)) Tryz.func105 rfl Tryz.ntmps105 rfl ?_
 unfold g_t_dayOf
 refine sR tfm ⟨[0],[],[],[]⟩ ⟨[(0,S a0w)],[]⟩ krf (sS (sR tfm ⟨[3],[],[],[]⟩ ⟨[(3,S a0w)],[]⟩ krf (sB (sR tfm ⟨[3,4],[],[],[]⟩ ⟨[(3,S a0w),(4,B (eqS a0w [119,111,114,107]))],[]⟩ krf (sC (eqS a0w [119,111,114,107]) krf ?_ ?_)))))
 ·refine sR tfm ⟨[2],[],[],[]⟩ ⟨[(2,I 1)],[]⟩ krf (sT (bq_r (sq_r ?_)))
  exact qR (.id) krf krf krf
 ·refine sR tfm ⟨[3,6],[],[],[]⟩ ⟨[(3,S a0w),(6,B (eqS a0w [115,97,116,117,114,100,97,121]))],[]⟩ krf (sC (eqS a0w [115,97,116,117,114,100,97,121]) krf ?_ ?_)
  ·refine sR tfm ⟨[2],[],[],[]⟩ ⟨[(2,I 2)],[]⟩ krf (sT (bq_r (sq_r ?_)))
   exact qR (.id) krf krf krf
  ·refine sR tfm ⟨[8],[],[],[]⟩ ⟨[(8,B (eqS a0w [115,117,110,100,97,121]))],[]⟩ krf (sC (eqS a0w [115,117,110,100,97,121]) krf ?_ ?_)
   ·refine sR tfm ⟨[2],[],[],[]⟩ ⟨[(2,I 4)],[]⟩ krf (sT (bq_r (sq_r ?_)))
    exact qR (.id) krf krf krf
   ·refine sK (bq_n (sN ⟨[],[],[],[]⟩ ⟨[],[]⟩ krf (sR tfm ⟨[2],[],[],[]⟩ ⟨[(2,I 0)],[]⟩ krf (sT ?_))))
    exact qR (.id) krf krf krf
def g_t_reader_days_l4 (n:Nat) (a0r:GTr) (recl4:(Int × Int × (List (List PV)) × Bool)→Option (Int × (List (List PV)) × Bool)) (l4_1:Int) (l4_2:Int) (l4_3:List (List PV)) (l4_4:Bool):Option (Int × (List (List PV)) × Bool) :=
 cond (!eqI l4_2 0)
  ((cond (!eqI (bAnd .i64 l4_1 l4_2) 0)
   (some false)
   (some l4_4)).bind fun j5 =>
  cond (sliceB3 1 (lenI (List.map idc l4_3)) (lenI (List.map idc l4_3)) (List.length l4_3)) (
   (g_t_reader_word n (⟨a0r.article,List.drop (Int.toNat 1) (List.take (Int.toNat (lenI (List.map idc l4_3))) l4_3),j5⟩:GTr)).bind fun r6 =>
   (g_t_dayOf n r6).bind fun r7 =>
   recl4 (bOr .i64 l4_1 l4_2,r7,List.drop (Int.toNat 1) (List.take (Int.toNat (lenI (List.map idc l4_3))) l4_3),j5)) none)
  (some (l4_1,l4_3,l4_4))
def g_t_reader_days (n:Nat) (a0r:GTr):Option (Int × GTr) :=
 ((g_t_reader_word n a0r).bind fun r2 =>
 (g_t_dayOf n r2).bind fun r3 =>
 loopN (fun recl4 (l4_1,l4_2,l4_3,l4_4)=>g_t_reader_days_l4 n a0r recl4 l4_1 l4_2 l4_3 l4_4) n (0,r3,a0r.values,a0r.good)).bind fun (j1_1,j1_2,j1_3) =>
 cond (eqI j1_1 0)
  (some (j1_1,(⟨a0r.article,j1_2,false⟩:GTr)))
  (some (j1_1,(⟨a0r.article,j1_2,j1_3⟩:GTr)))
theorem g_t_reader_days_ok (n:Nat) (a0r:GTr):∀ r,g_t_reader_days n a0r=some r→ACall Tryz.prog 91 [.ptr 1000 0] (Go.Abs.look [(1000, .box 102 (bxc (GTr.cs a0r)))]) (heapR (fun r:Int × GTr=>((.ret (I r.1),[(1000, .box 102 (bxc (GTr.cs r.2)))]):AEnd × List (Nat × Blk))) r):=by
 refine acall_sim (X:=fun r:Int × GTr=>((.ret (I r.1),[(1000, .box 102 (bxc (GTr.cs r.2)))]):AEnd × List (Nat × Blk))) [(1000, .box 102 (bxc (GTr.cs a0r)))] Tryz.func91 rfl Tryz.ntmps91 rfl ?_
 unfold g_t_reader_days
 refine sR tfm ⟨[0],[1000],[],[]⟩ ⟨[(0, .ptr 1000 0)],[(1000, .box 102 (bxc (GTr.cs a0r)))]⟩ krf (sR tfm ⟨[0,3],[1000],[],[]⟩ ⟨[(0, .ptr 1000 0),(3,I 0)],[(1000, .box 102 (bxc (GTr.cs a0r)))]⟩ krf (sim_bind (fun (j1_1,j1_2,j1_3)=>⟨[(0, .ptr 1000 0),(3,I j1_1)],[(1000, .box 102 (bxc (GTr.cs ⟨a0r.article,j1_2,j1_3⟩)))]⟩:(Int × (List (List PV)) × Bool)→St) ?_ ?_))
 ·refine sS (sG (xR 1 krf ?_))
  refine xs_ro [.ro []] krf (g_t_reader_word_ok n a0r) krf krf (fun _=>by kernel_rfl) (fun r2=>?_)
  refine xC [] krf (g_t_dayOf_ok n r2) krf krf (fun _=>by kernel_rfl) (fun r3=>?_)
  refine xR 1 krf (xE (sN ⟨[0,3,4],[1000],[],[]⟩ ⟨[(0, .ptr 1000 0),(3,I 0),(4,I r3)],[(1000, .box 102 (bxc (GTr.cs a0r)))]⟩ krf (sB (sim_loop (fun (l4_1,l4_2,l4_3,l4_4)=>⟨[(0, .ptr 1000 0),(3,I l4_1),(4,I l4_2)],[(1000, .box 102 (bxc (GTr.cs ⟨a0r.article,l4_3,l4_4⟩)))]⟩:(Int × Int × (List (List PV)) × Bool)→St) (weak_shr (K:=⟨[0,3,4],[1000],[],[]⟩) krf) ?_))))
  rintro recl4 ⟨l4_1,l4_2,l4_3,l4_4⟩
  show SimE (g_t_reader_days_l4 n a0r recl4 l4_1 l4_2 l4_3 l4_4) _ _ _ _ _ _
  unfold g_t_reader_days_l4
  refine sS (sR tfm ⟨[0,3,4,9],[1000],[],[]⟩ ⟨[(0, .ptr 1000 0),(3,I l4_1),(4,I l4_2),(9,B (!eqI l4_2 0))],[(1000, .box 102 (bxc (GTr.cs ⟨a0r.article,l4_3,l4_4⟩)))]⟩ krf (sC (!eqI l4_2 0) krf ?_ ?_))
  ·refine sK (sN ⟨[0,3,4],[1000],[],[]⟩ ⟨[(0, .ptr 1000 0),(3,I l4_1),(4,I l4_2)],[(1000, .box 102 (bxc (GTr.cs ⟨a0r.article,l4_3,l4_4⟩)))]⟩ krf (sS (sB (sim_bind (fun j5=>⟨[(0, .ptr 1000 0),(3,I l4_1),(4,I l4_2)],[(1000, .box 102 (bxc (GTr.cs ⟨a0r.article,l4_3,j5⟩)))]⟩:Bool→St) ?_ ?_))))
   ·refine sR tfm ⟨[0,3,4,16],[1000],[],[]⟩ ⟨[(0, .ptr 1000 0),(3,I l4_1),(4,I l4_2),(16,B (!eqI (bAnd .i64 l4_1 l4_2) 0))],[(1000, .box 102 (bxc (GTr.cs ⟨a0r.article,l4_3,l4_4⟩)))]⟩ krf (sC (!eqI (bAnd .i64 l4_1 l4_2) 0) krf ?_ ?_)
    ·refine sL tfm krf ?_
     exact nq_n false ⟨[0,3,4],[1000],[],[]⟩ krf
    ·refine sK ?_
     exact nq_n l4_4 ⟨[0,3,4],[1000],[],[]⟩ krf
   ·rintro j5
    refine sR tfm ⟨[0,3],[1000],[],[]⟩ ⟨[(0, .ptr 1000 0),(3,I (bOr .i64 l4_1 l4_2))],[(1000, .box 102 (bxc (GTr.cs ⟨a0r.article,l4_3,j5⟩)))]⟩ krf (sim_drw tfm rfl (xR 15 krf (xF krf krf (aop_slice3 (e:=24) (S:=5) (enc:=idc) (l:=l4_3) (sv:=.p (.sl 5 (mI l4_3))) (a:=1) (b:=lenI (mI l4_3)) (c:=lenI (mI l4_3)) rfl krf krf krf krf krf krf krf) (xR 3 krf (xs_endD krf (bq_n (sN ⟨[0,3],[1000],[],[]⟩ ⟨[(0, .ptr 1000 0),(3,I (bOr .i64 l4_1 l4_2))],[(1000, .box 102 (bxc (GTr.cs ⟨a0r.article,List.drop (Int.toNat 1) (List.take (Int.toNat (lenI (mI l4_3))) l4_3),j5⟩)))]⟩ krf ?_)))))))
    refine sG (xR 1 krf ?_)
    refine xs_ro [.ro []] krf (g_t_reader_word_ok n (⟨a0r.article,List.drop (Int.toNat 1) (List.take (Int.toNat (lenI (mI l4_3))) l4_3),j5⟩:GTr)) krf krf (fun _=>by kernel_rfl) (fun r6=>?_)
    refine xC [] krf (g_t_dayOf_ok n r6) krf krf (fun _=>by kernel_rfl) (fun r7=>?_)
    refine xR 1 krf (xE ?_)
    exact kq_n (bOr .i64 l4_1 l4_2,r7,List.drop (Int.toNat 1) (List.take (Int.toNat (lenI (mI l4_3))) l4_3),j5) ⟨[0,3,4],[1000],[],[]⟩ krf
  ·refine sim_exit (sq_x (kq_x (bq_hit ?_)))
   exact nq_n (l4_1,l4_3,l4_4) ⟨[0,3],[1000],[],[]⟩ krf
 ·rintro ⟨j1_1,j1_2,j1_3⟩
  refine sS (sR tfm ⟨[0,3,42],[1000],[],[]⟩ ⟨[(0, .ptr 1000 0),(3,I j1_1),(42,B (eqI j1_1 0))],[(1000, .box 102 (bxc (GTr.cs ⟨a0r.article,j1_2,j1_3⟩)))]⟩ krf (sC (eqI j1_1 0) krf ?_ ?_))
  ·refine sL tfm krf (sN ⟨[3],[1000],[],[]⟩ ⟨[(3,I j1_1)],[(1000, .box 102 (bxc (GTr.cs ⟨a0r.article,j1_2,false⟩)))]⟩ krf (sR tfm ⟨[2],[1000],[],[]⟩ ⟨[(2,I j1_1)],[(1000, .box 102 (bxc (GTr.cs ⟨a0r.article,j1_2,false⟩)))]⟩ krf (sT ?_)))
   exact hq_ret (.id) [1000] [] krf krf krf krf
  ·refine sK (sN ⟨[3],[1000],[],[]⟩ ⟨[(3,I j1_1)],[(1000, .box 102 (bxc (GTr.cs ⟨a0r.article,j1_2,j1_3⟩)))]⟩ krf (sR tfm ⟨[2],[1000],[],[]⟩ ⟨[(2,I j1_1)],[(1000, .box 102 (bxc (GTr.cs ⟨a0r.article,j1_2,j1_3⟩)))]⟩ krf (sT ?_)))
   exact hq_ret (.id) [1000] [] krf krf krf krf
def g_t_read_j8 (j8_1:Bool) (j8_2:Int) (j8_3:Int) (j8_4:Int) (j8_5:Int) (j8_6:Int) (j8_7:Int) (j8_8:Int) (j8_9:List (List PV)) (j8_10:Bool):Option (GAr × Bool) :=
 cond j8_10
  (cond j8_1
   (some ((⟨j8_2,j8_3,j8_4,j8_5,j8_6,j8_7,j8_8⟩:GAr),!eqI j8_2 0))
   (some ((⟨j8_2,j8_3,j8_4,j8_5,j8_6,j8_7,j8_8⟩:GAr),false)))
  (some ((⟨j8_2,j8_3,j8_4,j8_5,j8_6,j8_7,j8_8⟩:GAr),false))
def g_t_read_l11 (n:Nat) (recl11:(Bool × Int × Int × Int × Int × Int × Int × Int × (List (List PV)) × Bool × Bool × Bool × Bool × Bool)→Option (GAr × Bool)) (l11_1:Bool) (l11_2:Int) (l11_3:Int) (l11_4:Int) (l11_5:Int) (l11_6:Int) (l11_7:Int) (l11_8:Int) (l11_9:List (List PV)) (l11_10:Bool) (l11_11:Bool) (l11_12:Bool) (l11_13:Bool) (l11_14:Bool):Option (GAr × Bool) :=
 (cond l11_10
  (some (ltI 0 (lenI (List.map idc l11_9))))
  (some false)).bind fun j12 =>
 cond j12
  ((g_t_reader_word n (⟨(⟨l11_2,l11_3,l11_4,l11_5,l11_6,l11_7,l11_8⟩:GAr),l11_9,l11_10⟩:GTr)).bind fun r14 =>
  cond (eqS r14 [112,101,114]&&l11_11)
   ((cond l11_1
    (some true)
    (some (eqS r14 [112,101,114]))).bind fun j17 =>
   cond (sliceB3 1 (lenI (List.map idc l11_9)) (lenI (List.map idc l11_9)) (List.length l11_9)) (
    (g_t_reader_number n (⟨(⟨l11_2,l11_3,l11_4,l11_5,l11_6,l11_7,l11_8⟩:GAr),List.drop (Int.toNat 1) (List.take (Int.toNat (lenI (List.map idc l11_9))) l11_9),l11_10⟩:GTr)).bind fun r19 =>
    recl11 (j17,r19.2.article.Kind,r19.2.article.Days,r19.2.article.From,r19.2.article.To,r19.2.article.Price,r19.1,r19.2.article.Free,r19.2.values,r19.2.good,!eqS r14 [112,101,114]&&l11_11,!eqS r14 [102,114,101,101]&&l11_12,!eqS r14 [111,110]&&l11_13,!eqS r14 [98,101,116,119,101,101,110]&&l11_14)) none)
   (cond (eqS r14 [102,114,101,101]&&l11_12)
    ((cond l11_1
     (some true)
     (some (eqS r14 [112,101,114]))).bind fun j21 =>
    cond (sliceB3 1 (lenI (List.map idc l11_9)) (lenI (List.map idc l11_9)) (List.length l11_9)) (
     (g_t_reader_number n (⟨(⟨l11_2,l11_3,l11_4,l11_5,l11_6,l11_7,l11_8⟩:GAr),List.drop (Int.toNat 1) (List.take (Int.toNat (lenI (List.map idc l11_9))) l11_9),l11_10⟩:GTr)).bind fun r23 =>
     recl11 (j21,r23.2.article.Kind,r23.2.article.Days,r23.2.article.From,r23.2.article.To,r23.2.article.Price,r23.2.article.Unit,r23.1,r23.2.values,r23.2.good,!eqS r14 [112,101,114]&&l11_11,!eqS r14 [102,114,101,101]&&l11_12,!eqS r14 [111,110]&&l11_13,!eqS r14 [98,101,116,119,101,101,110]&&l11_14)) none)
    (cond (eqS r14 [111,110]&&l11_13)
     ((cond l11_1
      (some true)
      (some (eqS r14 [112,101,114]))).bind fun j25 =>
     cond (sliceB3 1 (lenI (List.map idc l11_9)) (lenI (List.map idc l11_9)) (List.length l11_9)) (
      (g_t_reader_days n (⟨(⟨l11_2,l11_3,l11_4,l11_5,l11_6,l11_7,l11_8⟩:GAr),List.drop (Int.toNat 1) (List.take (Int.toNat (lenI (List.map idc l11_9))) l11_9),l11_10⟩:GTr)).bind fun r27 =>
      recl11 (j25,r27.2.article.Kind,r27.1,r27.2.article.From,r27.2.article.To,r27.2.article.Price,r27.2.article.Unit,r27.2.article.Free,r27.2.values,r27.2.good,!eqS r14 [112,101,114]&&l11_11,!eqS r14 [102,114,101,101]&&l11_12,!eqS r14 [111,110]&&l11_13,!eqS r14 [98,101,116,119,101,101,110]&&l11_14)) none)
     (cond (eqS r14 [98,101,116,119,101,101,110]&&l11_14)
      ((cond l11_1
       (some true)
       (some (eqS r14 [112,101,114]))).bind fun j29 =>
      cond (sliceB3 1 (lenI (List.map idc l11_9)) (lenI (List.map idc l11_9)) (List.length l11_9)) (
       (g_t_reader_number n (⟨(⟨l11_2,l11_3,l11_4,l11_5,l11_6,l11_7,l11_8⟩:GAr),List.drop (Int.toNat 1) (List.take (Int.toNat (lenI (List.map idc l11_9))) l11_9),l11_10⟩:GTr)).bind fun r31 =>
       (g_t_reader_number n (⟨(⟨r31.2.article.Kind,r31.2.article.Days,r31.1,r31.2.article.To,r31.2.article.Price,r31.2.article.Unit,r31.2.article.Free⟩:GAr),r31.2.values,r31.2.good⟩:GTr)).bind fun r32 =>
       recl11 (j29,r32.2.article.Kind,r32.2.article.Days,r32.2.article.From,r32.1,r32.2.article.Price,r32.2.article.Unit,r32.2.article.Free,r32.2.values,r32.2.good,!eqS r14 [112,101,114]&&l11_11,!eqS r14 [102,114,101,101]&&l11_12,!eqS r14 [111,110]&&l11_13,!eqS r14 [98,101,116,119,101,101,110]&&l11_14)) none)
      (some ((⟨0,0,0,0,0,0,0⟩:GAr),false))))))
  (g_t_read_j8 l11_1 l11_2 l11_3 l11_4 l11_5 l11_6 l11_7 l11_8 l11_9 l11_10)
def g_t_read (n:Nat) (a0n:GNode):Option (GAr × Bool) :=
 (g_t_kindOf n a0n.Name).bind fun r1 =>
 (g_t_reader_number n (⟨(⟨r1,7,0,1440,0,0,0⟩:GAr),a0n.Kids,true⟩:GTr)).bind fun r2 =>
 ((g_t_isTime n r2.2.article.Kind).bind fun r4 =>
 cond r4
  (some true)
  (some false)).bind fun j3 =>
 ((g_t_isWhole n r2.2.article.Kind).bind fun r6 =>
 cond (!r6)
  (some true)
  (some false)).bind fun j5 =>
 (g_t_isTime n r2.2.article.Kind).bind fun r7 =>
 loopN (fun recl11 (l11_1,l11_2,l11_3,l11_4,l11_5,l11_6,l11_7,l11_8,l11_9,l11_10,l11_11,l11_12,l11_13,l11_14)=>g_t_read_l11 n recl11 l11_1 l11_2 l11_3 l11_4 l11_5 l11_6 l11_7 l11_8 l11_9 l11_10 l11_11 l11_12 l11_13 l11_14) n (!r7,r2.2.article.Kind,r2.2.article.Days,r2.2.article.From,r2.2.article.To,r2.1,r2.2.article.Unit,r2.2.article.Free,r2.2.values,r2.2.good,j3,j3,j5,j5)
theorem g_t_read_ok (n:Nat) (a0n:GNode):∀ r,g_t_read n a0n=some r→PCall Tryz.prog 43 [ag (GNode.cs a0n)] (.ret (.tup [ag (GAr.cs r.1),B r.2])):=by
 refine pcall_sim (X:=fun r:GAr × Bool=>AEnd.ret (.tup [ag (GAr.cs r.1),B r.2])) Tryz.func43 rfl Tryz.ntmps43 rfl ?_
 unfold g_t_read
 refine sR tfm ⟨[1,2],[1,2],[],[]⟩ ⟨[(1, .ptr 1 0),(2, .ptr 2 0)],[(1, .box 24 (bxc (GNode.cs a0n))),(2, .box 29 [I 0,I 0,I 0,I 0,I 0,I 0,I 0])]⟩ krf (sR tfm ⟨[1,2,4],[1,2,13],[],[]⟩ ⟨[(1, .ptr 1 0),(2, .ptr 2 0),(4, .ptr 13 0)],[(1, .box 24 (bxc (GNode.cs a0n))),(2, .box 29 [I 0,I 0,I 0,I 0,I 0,I 0,I 0]),(13, .box 102 (bxc (GTr.cs ⟨(⟨0,0,0,0,0,0,0⟩:GAr),a0n.Kids,true⟩)))]⟩ krf (sS (sG (xR 3 krf ?_))))
 refine xC [] krf (g_t_kindOf_ok n a0n.Name) krf krf (fun _=>by kernel_rfl) (fun r1=>?_)
 refine xR 4 krf (xE (sN ⟨[2,4],[2,13],[],[]⟩ ⟨[(2, .ptr 2 0),(4, .ptr 13 0)],[(2, .box 29 [I 0,I 0,I 0,I 0,I 0,I 0,I 0]),(13, .box 102 (bxc (GTr.cs ⟨(⟨r1,7,0,1440,0,0,0⟩:GAr),a0n.Kids,true⟩)))]⟩ krf (sS (sG (xR 2 krf ?_)))))
 refine xs_heap [(1000,13)] [] [] krf (g_t_reader_number_ok n (⟨(⟨r1,7,0,1440,0,0,0⟩:GAr),a0n.Kids,true⟩:GTr)) krf krf krf (fun _=>by kernel_rfl) (fun _=>by kernel_rfl) (fun r2=>?_)
 refine xR 4 krf (xE (sN ⟨[2,4],[2,13],[],[]⟩ ⟨[(2, .ptr 2 0),(4, .ptr 13 0)],[(2, .box 29 [I 0,I 0,I 0,I 0,I 0,I 0,I 0]),(13, .box 102 (bxc (GTr.cs ⟨(⟨r2.2.article.Kind,r2.2.article.Days,r2.2.article.From,r2.2.article.To,r2.1,r2.2.article.Unit,r2.2.article.Free⟩:GAr),r2.2.values,r2.2.good⟩)))]⟩ krf (sS (sG (xR 6 krf (xs_inline [(1000, .box 102 (bxc (GTr.cs ⟨(⟨r2.2.article.Kind,r2.2.article.Days,r2.2.article.From,r2.2.article.To,r2.1,r2.2.article.Unit,r2.2.article.Free⟩:GAr),r2.2.values,r2.2.good⟩)))] [.ptr 1000 0,I r2.2.article.Kind] [(1000,13),(2,402),(6,406)] [] [] krf Tryz.func68 rfl Tryz.ntmps68 rfl krf krf krf (sR tfm ⟨[1,2],[2,1000],[],[]⟩ ⟨[(1,I r2.2.article.Kind),(2, .ptr 2 0)],[(2, .box 100 [.ptr 1000 0]),(1000, .box 102 (bxc (GTr.cs ⟨(⟨r2.2.article.Kind,r2.2.article.Days,r2.2.article.From,r2.2.article.To,r2.1,r2.2.article.Unit,r2.2.article.Free⟩:GAr),r2.2.values,r2.2.good⟩)))]⟩ krf ?_)))))))
 refine sR tfm ⟨[1,2,5],[2,6,1000],[],[]⟩ ⟨[(1,I r2.2.article.Kind),(2, .ptr 2 0),(5, .mv 6)],[(2, .box 100 [.ptr 1000 0]),(6, .mp []),(1000, .box 102 (bxc (GTr.cs ⟨(⟨r2.2.article.Kind,r2.2.article.Days,r2.2.article.From,r2.2.article.To,r2.1,r2.2.article.Unit,r2.2.article.Free⟩:GAr),r2.2.values,r2.2.good⟩)))]⟩ krf (sim_bind (fun j3=>⟨[(1,I r2.2.article.Kind),(2, .ptr 2 0),(5, .mv 6)],[(2, .box 100 [.ptr 1000 0]),(6, .mf [(j3,[112,101,114], .fn (.func 88) [] [.ptr 2 0]),(j3,[102,114,101,101], .fn (.func 89) [] [.ptr 2 0])]),(1000, .box 102 (bxc (GTr.cs ⟨(⟨r2.2.article.Kind,r2.2.article.Days,r2.2.article.From,r2.2.article.To,r2.1,r2.2.article.Unit,r2.2.article.Free⟩:GAr),r2.2.values,r2.2.good⟩)))]⟩:Bool→St) ?_ ?_)
 ·refine sS (sG (xR 1 krf ?_))
  refine xC [] krf (g_t_isTime_ok n r2.2.article.Kind) krf krf (fun _=>by kernel_rfl) (fun r4=>?_)
  refine xE (sN ⟨[1,2,5,8],[2,6,1000],[],[]⟩ ⟨[(1,I r2.2.article.Kind),(2, .ptr 2 0),(5, .mv 6),(8,B r4)],[(2, .box 100 [.ptr 1000 0]),(6, .mp []),(1000, .box 102 (bxc (GTr.cs ⟨(⟨r2.2.article.Kind,r2.2.article.Days,r2.2.article.From,r2.2.article.To,r2.1,r2.2.article.Unit,r2.2.article.Free⟩:GAr),r2.2.values,r2.2.good⟩)))]⟩ krf (sC r4 krf ?_ ?_))
  ·refine sR tfm ⟨[1,2,5],[2,6,1000],[],[]⟩ ⟨[(1,I r2.2.article.Kind),(2, .ptr 2 0),(5, .mv 6)],[(2, .box 100 [.ptr 1000 0]),(6, .mf [(true,[112,101,114], .fn (.func 88) [] [.ptr 2 0])]),(1000, .box 102 (bxc (GTr.cs ⟨(⟨r2.2.article.Kind,r2.2.article.Days,r2.2.article.From,r2.2.article.To,r2.1,r2.2.article.Unit,r2.2.article.Free⟩:GAr),r2.2.values,r2.2.good⟩)))]⟩ krf (sL tfm krf ?_)
   exact nq_n true ⟨[1,2,5],[2,6,1000],[],[]⟩ krf
  ·refine sK ?_
   exact nq_f false ⟨[1,2,5],[2,6,1000],[],[]⟩ ⟨[(1,I r2.2.article.Kind),(2, .ptr 2 0),(5, .mv 6)],[(2, .box 100 [.ptr 1000 0]),(6, .mp []),(1000, .box 102 (bxc (GTr.cs ⟨(⟨r2.2.article.Kind,r2.2.article.Days,r2.2.article.From,r2.2.article.To,r2.1,r2.2.article.Unit,r2.2.article.Free⟩:GAr),r2.2.values,r2.2.good⟩)))]⟩ krf (weak_mf 6 (es:=[]) [(false,[112,101,114], .fn (.func 88) [] [.ptr 2 0]),(false,[102,114,101,101], .fn (.func 89) [] [.ptr 2 0])] krf krf) ⟨[1,2,5],[2,6,1000],[],[]⟩ krf
 ·rintro j3
  refine sim_bind (fun j5=>⟨[(5, .mv 6)],[(2, .box 100 [.ptr 1000 0]),(6, .mf [(j3,[112,101,114], .fn (.func 88) [] [.ptr 2 0]),(j3,[102,114,101,101], .fn (.func 89) [] [.ptr 2 0]),(j5,[111,110], .fn (.func 90) [] [.ptr 2 0]),(j5,[98,101,116,119,101,101,110], .fn (.func 92) [] [.ptr 2 0])]),(1000, .box 102 (bxc (GTr.cs ⟨(⟨r2.2.article.Kind,r2.2.article.Days,r2.2.article.From,r2.2.article.To,r2.1,r2.2.article.Unit,r2.2.article.Free⟩:GAr),r2.2.values,r2.2.good⟩)))]⟩:Bool→St) ?_ ?_
  ·refine sS (sG (xR 1 krf ?_))
   refine xC [] krf (g_t_isWhole_ok n r2.2.article.Kind) krf krf (fun _=>by kernel_rfl) (fun r6=>?_)
   refine xR 1 krf (xE (sN ⟨[2,5,15],[2,6,1000],[],[]⟩ ⟨[(2, .ptr 2 0),(5, .mv 6),(15,B (!r6))],[(2, .box 100 [.ptr 1000 0]),(6, .mf [(j3,[112,101,114], .fn (.func 88) [] [.ptr 2 0]),(j3,[102,114,101,101], .fn (.func 89) [] [.ptr 2 0])]),(1000, .box 102 (bxc (GTr.cs ⟨(⟨r2.2.article.Kind,r2.2.article.Days,r2.2.article.From,r2.2.article.To,r2.1,r2.2.article.Unit,r2.2.article.Free⟩:GAr),r2.2.values,r2.2.good⟩)))]⟩ krf (sC (!r6) krf ?_ ?_)))
   ·refine sR tfm ⟨[2,5],[2,6,1000],[],[]⟩ ⟨[(2, .ptr 2 0),(5, .mv 6)],[(2, .box 100 [.ptr 1000 0]),(6, .mf [(j3,[112,101,114], .fn (.func 88) [] [.ptr 2 0]),(j3,[102,114,101,101], .fn (.func 89) [] [.ptr 2 0]),(true,[111,110], .fn (.func 90) [] [.ptr 2 0])]),(1000, .box 102 (bxc (GTr.cs ⟨(⟨r2.2.article.Kind,r2.2.article.Days,r2.2.article.From,r2.2.article.To,r2.1,r2.2.article.Unit,r2.2.article.Free⟩:GAr),r2.2.values,r2.2.good⟩)))]⟩ krf (sL tfm krf ?_)
    exact nq_n true ⟨[5],[2,6,1000],[],[]⟩ krf
   ·refine sK ?_
    exact nq_f false ⟨[5],[2,6,1000],[],[]⟩ ⟨[(5, .mv 6)],[(2, .box 100 [.ptr 1000 0]),(6, .mf [(j3,[112,101,114], .fn (.func 88) [] [.ptr 2 0]),(j3,[102,114,101,101], .fn (.func 89) [] [.ptr 2 0])]),(1000, .box 102 (bxc (GTr.cs ⟨(⟨r2.2.article.Kind,r2.2.article.Days,r2.2.article.From,r2.2.article.To,r2.1,r2.2.article.Unit,r2.2.article.Free⟩:GAr),r2.2.values,r2.2.good⟩)))]⟩ krf (weak_mf 6 (es:=[(j3,[112,101,114], .fn (.func 88) [] [.ptr 2 0]),(j3,[102,114,101,101], .fn (.func 89) [] [.ptr 2 0])]) [(j3,[112,101,114], .fn (.func 88) [] [.ptr 2 0]),(j3,[102,114,101,101], .fn (.func 89) [] [.ptr 2 0]),(false,[111,110], .fn (.func 90) [] [.ptr 2 0]),(false,[98,101,116,119,101,101,110], .fn (.func 92) [] [.ptr 2 0])] krf krf) ⟨[5],[2,6,1000],[],[]⟩ krf
  ·rintro j5
   refine sR tfm ⟨[4],[2,6,1000],[],[]⟩ ⟨[(4, .mv 6)],[(2, .box 100 [.ptr 1000 0]),(6, .mf [(j3,[112,101,114], .fn (.func 88) [] [.ptr 2 0]),(j3,[102,114,101,101], .fn (.func 89) [] [.ptr 2 0]),(j5,[111,110], .fn (.func 90) [] [.ptr 2 0]),(j5,[98,101,116,119,101,101,110], .fn (.func 92) [] [.ptr 2 0])]),(1000, .box 102 (bxc (GTr.cs ⟨(⟨r2.2.article.Kind,r2.2.article.Days,r2.2.article.From,r2.2.article.To,r2.1,r2.2.article.Unit,r2.2.article.Free⟩:GAr),r2.2.values,r2.2.good⟩)))]⟩ krf (sT (iq_ret (.id) [2,6,1000] [] (.mv 6) krf krf (kr0 (xR 1 krf (xE (sN ⟨[2,4,5],[2,13,402,406],[],[]⟩ ⟨[(2, .ptr 2 0),(4, .ptr 13 0),(5, .mv 406)],[(2, .box 29 [I 0,I 0,I 0,I 0,I 0,I 0,I 0]),(13, .box 102 (bxc (GTr.cs ⟨(⟨r2.2.article.Kind,r2.2.article.Days,r2.2.article.From,r2.2.article.To,r2.1,r2.2.article.Unit,r2.2.article.Free⟩:GAr),r2.2.values,r2.2.good⟩))),(402, .box 100 [.ptr 13 0]),(406, .mf [(j3,[112,101,114], .fn (.func 88) [] [.ptr 402 0]),(j3,[102,114,101,101], .fn (.func 89) [] [.ptr 402 0]),(j5,[111,110], .fn (.func 90) [] [.ptr 402 0]),(j5,[98,101,116,119,101,101,110], .fn (.func 92) [] [.ptr 402 0])])]⟩ krf (sS ?_)))))))
   refine sG (xR 5 krf ?_)
   refine xC [] krf (g_t_isTime_ok n r2.2.article.Kind) krf krf (fun _=>by kernel_rfl) (fun r7=>?_)
   refine xR 2 krf (xE (sN ⟨[2,4,5,6],[2,13,402,406],[],[]⟩ ⟨[(2, .ptr 2 0),(4, .ptr 13 0),(5, .mv 406),(6,B (!r7))],[(2, .box 29 [I 0,I 0,I 0,I 0,I 0,I 0,I 0]),(13, .box 102 (bxc (GTr.cs ⟨(⟨r2.2.article.Kind,r2.2.article.Days,r2.2.article.From,r2.2.article.To,r2.1,r2.2.article.Unit,r2.2.article.Free⟩:GAr),r2.2.values,r2.2.good⟩))),(402, .box 100 [.ptr 13 0]),(406, .mf [(j3,[112,101,114], .fn (.func 88) [] [.ptr 402 0]),(j3,[102,114,101,101], .fn (.func 89) [] [.ptr 402 0]),(j5,[111,110], .fn (.func 90) [] [.ptr 402 0]),(j5,[98,101,116,119,101,101,110], .fn (.func 92) [] [.ptr 402 0])])]⟩ krf (sim_cps (fun (j8_1,j8_2,j8_3,j8_4,j8_5,j8_6,j8_7,j8_8,j8_9,j8_10)=>⟨[(2, .ptr 2 0),(4, .ptr 13 0),(6,B j8_1)],[(2, .box 29 [I 0,I 0,I 0,I 0,I 0,I 0,I 0]),(13, .box 102 (bxc (GTr.cs ⟨(⟨j8_2,j8_3,j8_4,j8_5,j8_6,j8_7,j8_8⟩:GAr),j8_9,j8_10⟩)))]⟩:(Bool × Int × Int × Int × Int × Int × Int × Int × (List (List PV)) × Bool)→St) (fun (j8_1,j8_2,j8_3,j8_4,j8_5,j8_6,j8_7,j8_8,j8_9,j8_10)=>g_t_read_j8 j8_1 j8_2 j8_3 j8_4 j8_5 j8_6 j8_7 j8_8 j8_9 j8_10) ?_ ?_)))
   ·rintro ⟨j8_1,j8_2,j8_3,j8_4,j8_5,j8_6,j8_7,j8_8,j8_9,j8_10⟩
    show SimE (g_t_read_j8 j8_1 j8_2 j8_3 j8_4 j8_5 j8_6 j8_7 j8_8 j8_9 j8_10) _ _ _ _ _ _
    unfold g_t_read_j8
    refine sS (sim_drw tfm rfl (xR 9 krf ?_))
    refine xS j8_10 (fun h9=>?_) (fun h9=>?_)
    ·refine xO (want_tt krf h9) krf (xR 2 krf ?_)
     refine xS j8_1 (fun h10=>?_) (fun h10=>?_)
     ·refine xO (want_tt krf h10) krf (xR 8 krf (xs_endD krf (sN ⟨[2,3],[2],[],[]⟩ ⟨[(2, .ptr 2 0),(3,B (!eqI j8_2 0))],[(2, .box 29 [I j8_2,I j8_3,I j8_4,I j8_5,I j8_6,I j8_7,I j8_8])]⟩ krf (sT ?_))))
      exact qR (.id) krf krf krf
     ·refine xN (want_tf krf h10) krf (xR 8 krf (xs_endD krf (sN ⟨[2,3],[2],[],[]⟩ ⟨[(2, .ptr 2 0),(3,B false)],[(2, .box 29 [I j8_2,I j8_3,I j8_4,I j8_5,I j8_6,I j8_7,I j8_8])]⟩ krf (sT ?_))))
      exact qR (.id) krf krf krf
    ·refine xN (want_tf krf h9) krf (xR 11 krf (xs_endD krf (sN ⟨[2,3],[2],[],[]⟩ ⟨[(2, .ptr 2 0),(3,B false)],[(2, .box 29 [I j8_2,I j8_3,I j8_4,I j8_5,I j8_6,I j8_7,I j8_8])]⟩ krf (sT ?_))))
     exact qR (.id) krf krf krf
   ·refine sB (sim_loop (fun (l11_1,l11_2,l11_3,l11_4,l11_5,l11_6,l11_7,l11_8,l11_9,l11_10,l11_11,l11_12,l11_13,l11_14)=>⟨[(2, .ptr 2 0),(4, .ptr 13 0),(5, .mv 406),(6,B l11_1)],[(2, .box 29 [I 0,I 0,I 0,I 0,I 0,I 0,I 0]),(13, .box 102 (bxc (GTr.cs ⟨(⟨l11_2,l11_3,l11_4,l11_5,l11_6,l11_7,l11_8⟩:GAr),l11_9,l11_10⟩))),(402, .box 100 [.ptr 13 0]),(406, .mf [(l11_11,[112,101,114], .fn (.func 88) [] [.ptr 402 0]),(l11_12,[102,114,101,101], .fn (.func 89) [] [.ptr 402 0]),(l11_13,[111,110], .fn (.func 90) [] [.ptr 402 0]),(l11_14,[98,101,116,119,101,101,110], .fn (.func 92) [] [.ptr 402 0])])]⟩:(Bool × Int × Int × Int × Int × Int × Int × Int × (List (List PV)) × Bool × Bool × Bool × Bool × Bool)→St) (weak_shr (K:=⟨[2,4,5,6],[2,13,402,406],[],[]⟩) krf) ?_)
    rintro recl11 ⟨l11_1,l11_2,l11_3,l11_4,l11_5,l11_6,l11_7,l11_8,l11_9,l11_10,l11_11,l11_12,l11_13,l11_14⟩
    show SimE (g_t_read_l11 n recl11 l11_1 l11_2 l11_3 l11_4 l11_5 l11_6 l11_7 l11_8 l11_9 l11_10 l11_11 l11_12 l11_13 l11_14) _ _ _ _ _ _
    unfold g_t_read_l11
    refine sS (sim_bind (fun j12=>⟨[(2, .ptr 2 0),(4, .ptr 13 0),(5, .mv 406),(6,B l11_1),(52,B j12)],[(2, .box 29 [I 0,I 0,I 0,I 0,I 0,I 0,I 0]),(13, .box 102 (bxc (GTr.cs ⟨(⟨l11_2,l11_3,l11_4,l11_5,l11_6,l11_7,l11_8⟩:GAr),l11_9,l11_10⟩))),(402, .box 100 [.ptr 13 0]),(406, .mf [(l11_11,[112,101,114], .fn (.func 88) [] [.ptr 402 0]),(l11_12,[102,114,101,101], .fn (.func 89) [] [.ptr 402 0]),(l11_13,[111,110], .fn (.func 90) [] [.ptr 402 0]),(l11_14,[98,101,116,119,101,101,110], .fn (.func 92) [] [.ptr 402 0])])]⟩:Bool→St) ?_ ?_)
    ·refine sG (xR 5 krf ?_)
     refine xS l11_10 (fun h13=>?_) (fun h13=>?_)
     ·refine xO (want_tt krf h13) krf (xR 6 krf (xE ?_))
      exact nq_n (ltI 0 (lenI (mI l11_9))) ⟨[2,4,5,6,52],[2,13,402,406],[],[]⟩ krf
     ·refine xN (want_tf krf h13) krf (xR 6 krf (xE ?_))
      exact nq_n false ⟨[2,4,5,6,52],[2,13,402,406],[],[]⟩ krf
    ·rintro j12
     refine sC j12 krf ?_ ?_
     ·refine sK (sN ⟨[2,4,5,6],[2,13,402,406],[],[]⟩ ⟨[(2, .ptr 2 0),(4, .ptr 13 0),(5, .mv 406),(6,B l11_1)],[(2, .box 29 [I 0,I 0,I 0,I 0,I 0,I 0,I 0]),(13, .box 102 (bxc (GTr.cs ⟨(⟨l11_2,l11_3,l11_4,l11_5,l11_6,l11_7,l11_8⟩:GAr),l11_9,l11_10⟩))),(402, .box 100 [.ptr 13 0]),(406, .mf [(l11_11,[112,101,114], .fn (.func 88) [] [.ptr 402 0]),(l11_12,[102,114,101,101], .fn (.func 89) [] [.ptr 402 0]),(l11_13,[111,110], .fn (.func 90) [] [.ptr 402 0]),(l11_14,[98,101,116,119,101,101,110], .fn (.func 92) [] [.ptr 402 0])])]⟩ krf (sB (sS (sG (xR 1 krf ?_)))))
      refine xs_ro [.ro []] krf (g_t_reader_word_ok n (⟨(⟨l11_2,l11_3,l11_4,l11_5,l11_6,l11_7,l11_8⟩:GAr),l11_9,l11_10⟩:GTr)) krf krf (fun _=>by kernel_rfl) (fun r14=>?_)
      refine xR 1 krf (xE (sN ⟨[2,4,5,6,7],[2,13,402,406],[],[]⟩ ⟨[(2, .ptr 2 0),(4, .ptr 13 0),(5, .mv 406),(6,B l11_1),(7,S r14)],[(2, .box 29 [I 0,I 0,I 0,I 0,I 0,I 0,I 0]),(13, .box 102 (bxc (GTr.cs ⟨(⟨l11_2,l11_3,l11_4,l11_5,l11_6,l11_7,l11_8⟩:GAr),l11_9,l11_10⟩))),(402, .box 100 [.ptr 13 0]),(406, .mf [(l11_11,[112,101,114], .fn (.func 88) [] [.ptr 402 0]),(l11_12,[102,114,101,101], .fn (.func 89) [] [.ptr 402 0]),(l11_13,[111,110], .fn (.func 90) [] [.ptr 402 0]),(l11_14,[98,101,116,119,101,101,110], .fn (.func 92) [] [.ptr 402 0])])]⟩ krf (sS (sG (xR 2 krf ?_)))))
      refine xS (eqS r14 [112,101,114]&&l11_11) (fun h16=>?_) (fun h16=>?_)
      ·refine xs_u krf krf (aop_mfT (kt:=9) (e:=1) (b:=406) (w:=r14) (ok:=true) (es:=[(l11_11,[112,101,114], .fn (.func 88) [] [.ptr 402 0]),(l11_12,[102,114,101,101], .fn (.func 89) [] [.ptr 402 0]),(l11_13,[111,110], .fn (.func 90) [] [.ptr 402 0]),(l11_14,[98,101,116,119,101,101,110], .fn (.func 92) [] [.ptr 402 0])]) (v:=.fn (.func 88) [] [.ptr 402 0]) rfl krf krf krf krf krf (findF_t h16)) (xR 5 krf (xE (sN ⟨[2,4,5,6,7,8,9],[2,13,402,406],[],[]⟩ ⟨[(2, .ptr 2 0),(4, .ptr 13 0),(5, .mv 406),(6,B l11_1),(7,S r14),(8, .fn (.func 88) [] [.ptr 402 0]),(9,B true)],[(2, .box 29 [I 0,I 0,I 0,I 0,I 0,I 0,I 0]),(13, .box 102 (bxc (GTr.cs ⟨(⟨l11_2,l11_3,l11_4,l11_5,l11_6,l11_7,l11_8⟩:GAr),l11_9,l11_10⟩))),(402, .box 100 [.ptr 13 0]),(406, .mf [(l11_11,[112,101,114], .fn (.func 88) [] [.ptr 402 0]),(l11_12,[102,114,101,101], .fn (.func 89) [] [.ptr 402 0]),(l11_13,[111,110], .fn (.func 90) [] [.ptr 402 0]),(l11_14,[98,101,116,119,101,101,110], .fn (.func 92) [] [.ptr 402 0])])]⟩ krf (sS (sR tfm ⟨[2,4,5,6,7,8,62],[2,13,402,406],[],[]⟩ ⟨[(2, .ptr 2 0),(4, .ptr 13 0),(5, .mv 406),(6,B l11_1),(7,S r14),(8, .fn (.func 88) [] [.ptr 402 0]),(62,B false)],[(2, .box 29 [I 0,I 0,I 0,I 0,I 0,I 0,I 0]),(13, .box 102 (bxc (GTr.cs ⟨(⟨l11_2,l11_3,l11_4,l11_5,l11_6,l11_7,l11_8⟩:GAr),l11_9,l11_10⟩))),(402, .box 100 [.ptr 13 0]),(406, .mf [(l11_11,[112,101,114], .fn (.func 88) [] [.ptr 402 0]),(l11_12,[102,114,101,101], .fn (.func 89) [] [.ptr 402 0]),(l11_13,[111,110], .fn (.func 90) [] [.ptr 402 0]),(l11_14,[98,101,116,119,101,101,110], .fn (.func 92) [] [.ptr 402 0])])]⟩ krf (sim_condF krf (sK ?_)))))))
       refine sN ⟨[2,4,5,6,7,8],[2,13,402,406],[],[]⟩ ⟨[(2, .ptr 2 0),(4, .ptr 13 0),(5, .mv 406),(6,B l11_1),(7,S r14),(8, .fn (.func 88) [] [.ptr 402 0])],[(2, .box 29 [I 0,I 0,I 0,I 0,I 0,I 0,I 0]),(13, .box 102 (bxc (GTr.cs ⟨(⟨l11_2,l11_3,l11_4,l11_5,l11_6,l11_7,l11_8⟩:GAr),l11_9,l11_10⟩))),(402, .box 100 [.ptr 13 0]),(406, .mf [(l11_11,[112,101,114], .fn (.func 88) [] [.ptr 402 0]),(l11_12,[102,114,101,101], .fn (.func 89) [] [.ptr 402 0]),(l11_13,[111,110], .fn (.func 90) [] [.ptr 402 0]),(l11_14,[98,101,116,119,101,101,110], .fn (.func 92) [] [.ptr 402 0])])]⟩ krf (sR tfm ⟨[2,4,5,6,7,8],[2,13,402,406],[],[]⟩ ⟨[(2, .ptr 2 0),(4, .ptr 13 0),(5, .mv 406),(6,B l11_1),(7,S r14),(8, .fn (.func 88) [] [.ptr 402 0])],[(2, .box 29 [I 0,I 0,I 0,I 0,I 0,I 0,I 0]),(13, .box 102 (bxc (GTr.cs ⟨(⟨l11_2,l11_3,l11_4,l11_5,l11_6,l11_7,l11_8⟩:GAr),l11_9,l11_10⟩))),(402, .box 100 [.ptr 13 0]),(406, .mf [(!eqS r14 [112,101,114]&&l11_11,[112,101,114], .fn (.func 88) [] [.ptr 402 0]),(!eqS r14 [102,114,101,101]&&l11_12,[102,114,101,101], .fn (.func 89) [] [.ptr 402 0]),(!eqS r14 [111,110]&&l11_13,[111,110], .fn (.func 90) [] [.ptr 402 0]),(!eqS r14 [98,101,116,119,101,101,110]&&l11_14,[98,101,116,119,101,101,110], .fn (.func 92) [] [.ptr 402 0])])]⟩ krf (sim_bind (fun j17=>⟨[(2, .ptr 2 0),(4, .ptr 13 0),(5, .mv 406),(6,B j17),(8, .fn (.func 88) [] [.ptr 402 0])],[(2, .box 29 [I 0,I 0,I 0,I 0,I 0,I 0,I 0]),(13, .box 102 (bxc (GTr.cs ⟨(⟨l11_2,l11_3,l11_4,l11_5,l11_6,l11_7,l11_8⟩:GAr),l11_9,l11_10⟩))),(402, .box 100 [.ptr 13 0]),(406, .mf [(!eqS r14 [112,101,114]&&l11_11,[112,101,114], .fn (.func 88) [] [.ptr 402 0]),(!eqS r14 [102,114,101,101]&&l11_12,[102,114,101,101], .fn (.func 89) [] [.ptr 402 0]),(!eqS r14 [111,110]&&l11_13,[111,110], .fn (.func 90) [] [.ptr 402 0]),(!eqS r14 [98,101,116,119,101,101,110]&&l11_14,[98,101,116,119,101,101,110], .fn (.func 92) [] [.ptr 402 0])])]⟩:Bool→St) ?_ ?_))
       ·refine sG (xR 2 krf ?_)
        refine xS l11_1 (fun h18=>?_) (fun h18=>?_)
        ·refine xN (want_ft krf h18) krf (xR 3 krf (xE ?_))
         exact nq_n true ⟨[2,4,5,6,8],[2,13,402,406],[],[]⟩ krf
        ·refine xO (want_ff krf h18) krf (xR 3 krf (xE ?_))
         exact nq_n (eqS r14 [112,101,114]) ⟨[2,4,5,6,8],[2,13,402,406],[],[]⟩ krf
       ·rintro j17
        refine sS (sim_drw tfm rfl (xR 15 krf (xF krf krf (aop_slice3 (e:=24) (S:=5) (enc:=idc) (l:=l11_9) (sv:=.p (.sl 5 (mI l11_9))) (a:=1) (b:=lenI (mI l11_9)) (c:=lenI (mI l11_9)) rfl krf krf krf krf krf krf krf) (xR 3 krf (xs_endD krf (sN ⟨[2,4,5,6,8],[2,13,402,406],[],[]⟩ ⟨[(2, .ptr 2 0),(4, .ptr 13 0),(5, .mv 406),(6,B j17),(8, .fn (.func 88) [] [.ptr 402 0])],[(2, .box 29 [I 0,I 0,I 0,I 0,I 0,I 0,I 0]),(13, .box 102 (bxc (GTr.cs ⟨(⟨l11_2,l11_3,l11_4,l11_5,l11_6,l11_7,l11_8⟩:GAr),List.drop (Int.toNat 1) (List.take (Int.toNat (lenI (mI l11_9))) l11_9),l11_10⟩))),(402, .box 100 [.ptr 13 0]),(406, .mf [(!eqS r14 [112,101,114]&&l11_11,[112,101,114], .fn (.func 88) [] [.ptr 402 0]),(!eqS r14 [102,114,101,101]&&l11_12,[102,114,101,101], .fn (.func 89) [] [.ptr 402 0]),(!eqS r14 [111,110]&&l11_13,[111,110], .fn (.func 90) [] [.ptr 402 0]),(!eqS r14 [98,101,116,119,101,101,110]&&l11_14,[98,101,116,119,101,101,110], .fn (.func 92) [] [.ptr 402 0])])]⟩ krf (sG ?_)))))))
        refine xR 1 krf (xs_inline [(1000, .box 102 (bxc (GTr.cs ⟨(⟨l11_2,l11_3,l11_4,l11_5,l11_6,l11_7,l11_8⟩:GAr),List.drop (Int.toNat 1) (List.take (Int.toNat (lenI (mI l11_9))) l11_9),l11_10⟩))),(1001, .box 100 [.ptr 1000 0])] [.ptr 1001 0] [(1000,13),(1001,402)] [] [] krf Tryz.func88 rfl Tryz.ntmps88 rfl krf krf krf (sim_hst [0,1] [0] [(2,[]),(3,[]),(4,[]),(5,[]),(6,[])] tfm rfl krf krf (h_enter (f:=67) (args:=[.ptr 1000 0]) (dst:=some 3) krf krf ?_)))
        refine sc_heap [(1000,1000)] [] [] (g_t_reader_number_ok n (⟨(⟨l11_2,l11_3,l11_4,l11_5,l11_6,l11_7,l11_8⟩:GAr),List.drop (Int.toNat 1) (List.take (Int.toNat (lenI (mI l11_9))) l11_9),l11_10⟩:GTr)) krf krf krf (fun _=>by kernel_rfl) (fun _=>by kernel_rfl) (fun r19=>?_)
        refine kh [0] krf (lates_cons (late_read (.ptr 1000 0) krf rfl) (lates_nil)) krf (h_op [] krf krf (lates_nil) (h_op [] krf krf (lates_nil) (h_op [] krf krf (lates_nil) (h_op [] krf krf (lates_nil) (h_end (iq_n (.id) [1000,1001] [] (.tup []) krf krf (kr0 ?_)))))))
        refine xE (bq_n ?_)
        exact kq_n (j17,r19.2.article.Kind,r19.2.article.Days,r19.2.article.From,r19.2.article.To,r19.2.article.Price,r19.1,r19.2.article.Free,r19.2.values,r19.2.good,!eqS r14 [112,101,114]&&l11_11,!eqS r14 [102,114,101,101]&&l11_12,!eqS r14 [111,110]&&l11_13,!eqS r14 [98,101,116,119,101,101,110]&&l11_14) ⟨[2,4,5,6],[2,13,402,406],[],[]⟩ krf
      ·refine xS (eqS r14 [102,114,101,101]&&l11_12) (fun h20=>?_) (fun h20=>?_)
       ·refine xs_u krf krf (aop_mfT (kt:=9) (e:=1) (b:=406) (w:=r14) (ok:=true) (es:=[(l11_11,[112,101,114], .fn (.func 88) [] [.ptr 402 0]),(l11_12,[102,114,101,101], .fn (.func 89) [] [.ptr 402 0]),(l11_13,[111,110], .fn (.func 90) [] [.ptr 402 0]),(l11_14,[98,101,116,119,101,101,110], .fn (.func 92) [] [.ptr 402 0])]) (v:=.fn (.func 89) [] [.ptr 402 0]) rfl krf krf krf krf krf (findF_f h16 (findF_t h20))) (xR 5 krf (xE (sN ⟨[2,4,5,6,7,8,9],[2,13,402,406],[],[]⟩ ⟨[(2, .ptr 2 0),(4, .ptr 13 0),(5, .mv 406),(6,B l11_1),(7,S r14),(8, .fn (.func 89) [] [.ptr 402 0]),(9,B true)],[(2, .box 29 [I 0,I 0,I 0,I 0,I 0,I 0,I 0]),(13, .box 102 (bxc (GTr.cs ⟨(⟨l11_2,l11_3,l11_4,l11_5,l11_6,l11_7,l11_8⟩:GAr),l11_9,l11_10⟩))),(402, .box 100 [.ptr 13 0]),(406, .mf [(l11_11,[112,101,114], .fn (.func 88) [] [.ptr 402 0]),(l11_12,[102,114,101,101], .fn (.func 89) [] [.ptr 402 0]),(l11_13,[111,110], .fn (.func 90) [] [.ptr 402 0]),(l11_14,[98,101,116,119,101,101,110], .fn (.func 92) [] [.ptr 402 0])])]⟩ krf (sS (sR tfm ⟨[2,4,5,6,7,8,62],[2,13,402,406],[],[]⟩ ⟨[(2, .ptr 2 0),(4, .ptr 13 0),(5, .mv 406),(6,B l11_1),(7,S r14),(8, .fn (.func 89) [] [.ptr 402 0]),(62,B false)],[(2, .box 29 [I 0,I 0,I 0,I 0,I 0,I 0,I 0]),(13, .box 102 (bxc (GTr.cs ⟨(⟨l11_2,l11_3,l11_4,l11_5,l11_6,l11_7,l11_8⟩:GAr),l11_9,l11_10⟩))),(402, .box 100 [.ptr 13 0]),(406, .mf [(l11_11,[112,101,114], .fn (.func 88) [] [.ptr 402 0]),(l11_12,[102,114,101,101], .fn (.func 89) [] [.ptr 402 0]),(l11_13,[111,110], .fn (.func 90) [] [.ptr 402 0]),(l11_14,[98,101,116,119,101,101,110], .fn (.func 92) [] [.ptr 402 0])])]⟩ krf (sim_condF krf (sK ?_)))))))
        refine sN ⟨[2,4,5,6,7,8],[2,13,402,406],[],[]⟩ ⟨[(2, .ptr 2 0),(4, .ptr 13 0),(5, .mv 406),(6,B l11_1),(7,S r14),(8, .fn (.func 89) [] [.ptr 402 0])],[(2, .box 29 [I 0,I 0,I 0,I 0,I 0,I 0,I 0]),(13, .box 102 (bxc (GTr.cs ⟨(⟨l11_2,l11_3,l11_4,l11_5,l11_6,l11_7,l11_8⟩:GAr),l11_9,l11_10⟩))),(402, .box 100 [.ptr 13 0]),(406, .mf [(l11_11,[112,101,114], .fn (.func 88) [] [.ptr 402 0]),(l11_12,[102,114,101,101], .fn (.func 89) [] [.ptr 402 0]),(l11_13,[111,110], .fn (.func 90) [] [.ptr 402 0]),(l11_14,[98,101,116,119,101,101,110], .fn (.func 92) [] [.ptr 402 0])])]⟩ krf (sR tfm ⟨[2,4,5,6,7,8],[2,13,402,406],[],[]⟩ ⟨[(2, .ptr 2 0),(4, .ptr 13 0),(5, .mv 406),(6,B l11_1),(7,S r14),(8, .fn (.func 89) [] [.ptr 402 0])],[(2, .box 29 [I 0,I 0,I 0,I 0,I 0,I 0,I 0]),(13, .box 102 (bxc (GTr.cs ⟨(⟨l11_2,l11_3,l11_4,l11_5,l11_6,l11_7,l11_8⟩:GAr),l11_9,l11_10⟩))),(402, .box 100 [.ptr 13 0]),(406, .mf [(!eqS r14 [112,101,114]&&l11_11,[112,101,114], .fn (.func 88) [] [.ptr 402 0]),(!eqS r14 [102,114,101,101]&&l11_12,[102,114,101,101], .fn (.func 89) [] [.ptr 402 0]),(!eqS r14 [111,110]&&l11_13,[111,110], .fn (.func 90) [] [.ptr 402 0]),(!eqS r14 [98,101,116,119,101,101,110]&&l11_14,[98,101,116,119,101,101,110], .fn (.func 92) [] [.ptr 402 0])])]⟩ krf (sim_bind (fun j21=>⟨[(2, .ptr 2 0),(4, .ptr 13 0),(5, .mv 406),(6,B j21),(8, .fn (.func 89) [] [.ptr 402 0])],[(2, .box 29 [I 0,I 0,I 0,I 0,I 0,I 0,I 0]),(13, .box 102 (bxc (GTr.cs ⟨(⟨l11_2,l11_3,l11_4,l11_5,l11_6,l11_7,l11_8⟩:GAr),l11_9,l11_10⟩))),(402, .box 100 [.ptr 13 0]),(406, .mf [(!eqS r14 [112,101,114]&&l11_11,[112,101,114], .fn (.func 88) [] [.ptr 402 0]),(!eqS r14 [102,114,101,101]&&l11_12,[102,114,101,101], .fn (.func 89) [] [.ptr 402 0]),(!eqS r14 [111,110]&&l11_13,[111,110], .fn (.func 90) [] [.ptr 402 0]),(!eqS r14 [98,101,116,119,101,101,110]&&l11_14,[98,101,116,119,101,101,110], .fn (.func 92) [] [.ptr 402 0])])]⟩:Bool→St) ?_ ?_))
        ·refine sG (xR 2 krf ?_)
         refine xS l11_1 (fun h22=>?_) (fun h22=>?_)
         ·refine xN (want_ft krf h22) krf (xR 3 krf (xE ?_))
          exact nq_n true ⟨[2,4,5,6,8],[2,13,402,406],[],[]⟩ krf
         ·refine xO (want_ff krf h22) krf (xR 3 krf (xE ?_))
          exact nq_n (eqS r14 [112,101,114]) ⟨[2,4,5,6,8],[2,13,402,406],[],[]⟩ krf
        ·rintro j21
         refine sS (sim_drw tfm rfl (xR 15 krf (xF krf krf (aop_slice3 (e:=24) (S:=5) (enc:=idc) (l:=l11_9) (sv:=.p (.sl 5 (mI l11_9))) (a:=1) (b:=lenI (mI l11_9)) (c:=lenI (mI l11_9)) rfl krf krf krf krf krf krf krf) (xR 3 krf (xs_endD krf (sN ⟨[2,4,5,6,8],[2,13,402,406],[],[]⟩ ⟨[(2, .ptr 2 0),(4, .ptr 13 0),(5, .mv 406),(6,B j21),(8, .fn (.func 89) [] [.ptr 402 0])],[(2, .box 29 [I 0,I 0,I 0,I 0,I 0,I 0,I 0]),(13, .box 102 (bxc (GTr.cs ⟨(⟨l11_2,l11_3,l11_4,l11_5,l11_6,l11_7,l11_8⟩:GAr),List.drop (Int.toNat 1) (List.take (Int.toNat (lenI (mI l11_9))) l11_9),l11_10⟩))),(402, .box 100 [.ptr 13 0]),(406, .mf [(!eqS r14 [112,101,114]&&l11_11,[112,101,114], .fn (.func 88) [] [.ptr 402 0]),(!eqS r14 [102,114,101,101]&&l11_12,[102,114,101,101], .fn (.func 89) [] [.ptr 402 0]),(!eqS r14 [111,110]&&l11_13,[111,110], .fn (.func 90) [] [.ptr 402 0]),(!eqS r14 [98,101,116,119,101,101,110]&&l11_14,[98,101,116,119,101,101,110], .fn (.func 92) [] [.ptr 402 0])])]⟩ krf (sG ?_)))))))
         refine xR 1 krf (xs_inline [(1000, .box 102 (bxc (GTr.cs ⟨(⟨l11_2,l11_3,l11_4,l11_5,l11_6,l11_7,l11_8⟩:GAr),List.drop (Int.toNat 1) (List.take (Int.toNat (lenI (mI l11_9))) l11_9),l11_10⟩))),(1001, .box 100 [.ptr 1000 0])] [.ptr 1001 0] [(1000,13),(1001,402)] [] [] krf Tryz.func89 rfl Tryz.ntmps89 rfl krf krf krf (sim_hst [0,1] [0] [(2,[]),(3,[]),(4,[]),(5,[]),(6,[])] tfm rfl krf krf (h_enter (f:=67) (args:=[.ptr 1000 0]) (dst:=some 3) krf krf ?_)))
         refine sc_heap [(1000,1000)] [] [] (g_t_reader_number_ok n (⟨(⟨l11_2,l11_3,l11_4,l11_5,l11_6,l11_7,l11_8⟩:GAr),List.drop (Int.toNat 1) (List.take (Int.toNat (lenI (mI l11_9))) l11_9),l11_10⟩:GTr)) krf krf krf (fun _=>by kernel_rfl) (fun _=>by kernel_rfl) (fun r23=>?_)
         refine kh [0] krf (lates_cons (late_read (.ptr 1000 0) krf rfl) (lates_nil)) krf (h_op [] krf krf (lates_nil) (h_op [] krf krf (lates_nil) (h_op [] krf krf (lates_nil) (h_op [] krf krf (lates_nil) (h_end (iq_n (.id) [1000,1001] [] (.tup []) krf krf (kr0 ?_)))))))
         refine xE (bq_n ?_)
         exact kq_n (j21,r23.2.article.Kind,r23.2.article.Days,r23.2.article.From,r23.2.article.To,r23.2.article.Price,r23.2.article.Unit,r23.1,r23.2.values,r23.2.good,!eqS r14 [112,101,114]&&l11_11,!eqS r14 [102,114,101,101]&&l11_12,!eqS r14 [111,110]&&l11_13,!eqS r14 [98,101,116,119,101,101,110]&&l11_14) ⟨[2,4,5,6],[2,13,402,406],[],[]⟩ krf
       ·refine xS (eqS r14 [111,110]&&l11_13) (fun h24=>?_) (fun h24=>?_)
        ·refine xs_u krf krf (aop_mfT (kt:=9) (e:=1) (b:=406) (w:=r14) (ok:=true) (es:=[(l11_11,[112,101,114], .fn (.func 88) [] [.ptr 402 0]),(l11_12,[102,114,101,101], .fn (.func 89) [] [.ptr 402 0]),(l11_13,[111,110], .fn (.func 90) [] [.ptr 402 0]),(l11_14,[98,101,116,119,101,101,110], .fn (.func 92) [] [.ptr 402 0])]) (v:=.fn (.func 90) [] [.ptr 402 0]) rfl krf krf krf krf krf (findF_f h16 (findF_f h20 (findF_t h24)))) (xR 5 krf (xE (sN ⟨[2,4,5,6,7,8,9],[2,13,402,406],[],[]⟩ ⟨[(2, .ptr 2 0),(4, .ptr 13 0),(5, .mv 406),(6,B l11_1),(7,S r14),(8, .fn (.func 90) [] [.ptr 402 0]),(9,B true)],[(2, .box 29 [I 0,I 0,I 0,I 0,I 0,I 0,I 0]),(13, .box 102 (bxc (GTr.cs ⟨(⟨l11_2,l11_3,l11_4,l11_5,l11_6,l11_7,l11_8⟩:GAr),l11_9,l11_10⟩))),(402, .box 100 [.ptr 13 0]),(406, .mf [(l11_11,[112,101,114], .fn (.func 88) [] [.ptr 402 0]),(l11_12,[102,114,101,101], .fn (.func 89) [] [.ptr 402 0]),(l11_13,[111,110], .fn (.func 90) [] [.ptr 402 0]),(l11_14,[98,101,116,119,101,101,110], .fn (.func 92) [] [.ptr 402 0])])]⟩ krf (sS (sR tfm ⟨[2,4,5,6,7,8,62],[2,13,402,406],[],[]⟩ ⟨[(2, .ptr 2 0),(4, .ptr 13 0),(5, .mv 406),(6,B l11_1),(7,S r14),(8, .fn (.func 90) [] [.ptr 402 0]),(62,B false)],[(2, .box 29 [I 0,I 0,I 0,I 0,I 0,I 0,I 0]),(13, .box 102 (bxc (GTr.cs ⟨(⟨l11_2,l11_3,l11_4,l11_5,l11_6,l11_7,l11_8⟩:GAr),l11_9,l11_10⟩))),(402, .box 100 [.ptr 13 0]),(406, .mf [(l11_11,[112,101,114], .fn (.func 88) [] [.ptr 402 0]),(l11_12,[102,114,101,101], .fn (.func 89) [] [.ptr 402 0]),(l11_13,[111,110], .fn (.func 90) [] [.ptr 402 0]),(l11_14,[98,101,116,119,101,101,110], .fn (.func 92) [] [.ptr 402 0])])]⟩ krf (sim_condF krf (sK ?_)))))))
         refine sN ⟨[2,4,5,6,7,8],[2,13,402,406],[],[]⟩ ⟨[(2, .ptr 2 0),(4, .ptr 13 0),(5, .mv 406),(6,B l11_1),(7,S r14),(8, .fn (.func 90) [] [.ptr 402 0])],[(2, .box 29 [I 0,I 0,I 0,I 0,I 0,I 0,I 0]),(13, .box 102 (bxc (GTr.cs ⟨(⟨l11_2,l11_3,l11_4,l11_5,l11_6,l11_7,l11_8⟩:GAr),l11_9,l11_10⟩))),(402, .box 100 [.ptr 13 0]),(406, .mf [(l11_11,[112,101,114], .fn (.func 88) [] [.ptr 402 0]),(l11_12,[102,114,101,101], .fn (.func 89) [] [.ptr 402 0]),(l11_13,[111,110], .fn (.func 90) [] [.ptr 402 0]),(l11_14,[98,101,116,119,101,101,110], .fn (.func 92) [] [.ptr 402 0])])]⟩ krf (sR tfm ⟨[2,4,5,6,7,8],[2,13,402,406],[],[]⟩ ⟨[(2, .ptr 2 0),(4, .ptr 13 0),(5, .mv 406),(6,B l11_1),(7,S r14),(8, .fn (.func 90) [] [.ptr 402 0])],[(2, .box 29 [I 0,I 0,I 0,I 0,I 0,I 0,I 0]),(13, .box 102 (bxc (GTr.cs ⟨(⟨l11_2,l11_3,l11_4,l11_5,l11_6,l11_7,l11_8⟩:GAr),l11_9,l11_10⟩))),(402, .box 100 [.ptr 13 0]),(406, .mf [(!eqS r14 [112,101,114]&&l11_11,[112,101,114], .fn (.func 88) [] [.ptr 402 0]),(!eqS r14 [102,114,101,101]&&l11_12,[102,114,101,101], .fn (.func 89) [] [.ptr 402 0]),(!eqS r14 [111,110]&&l11_13,[111,110], .fn (.func 90) [] [.ptr 402 0]),(!eqS r14 [98,101,116,119,101,101,110]&&l11_14,[98,101,116,119,101,101,110], .fn (.func 92) [] [.ptr 402 0])])]⟩ krf (sim_bind (fun j25=>⟨[(2, .ptr 2 0),(4, .ptr 13 0),(5, .mv 406),(6,B j25),(8, .fn (.func 90) [] [.ptr 402 0])],[(2, .box 29 [I 0,I 0,I 0,I 0,I 0,I 0,I 0]),(13, .box 102 (bxc (GTr.cs ⟨(⟨l11_2,l11_3,l11_4,l11_5,l11_6,l11_7,l11_8⟩:GAr),l11_9,l11_10⟩))),(402, .box 100 [.ptr 13 0]),(406, .mf [(!eqS r14 [112,101,114]&&l11_11,[112,101,114], .fn (.func 88) [] [.ptr 402 0]),(!eqS r14 [102,114,101,101]&&l11_12,[102,114,101,101], .fn (.func 89) [] [.ptr 402 0]),(!eqS r14 [111,110]&&l11_13,[111,110], .fn (.func 90) [] [.ptr 402 0]),(!eqS r14 [98,101,116,119,101,101,110]&&l11_14,[98,101,116,119,101,101,110], .fn (.func 92) [] [.ptr 402 0])])]⟩:Bool→St) ?_ ?_))
         ·refine sG (xR 2 krf ?_)
          refine xS l11_1 (fun h26=>?_) (fun h26=>?_)
          ·refine xN (want_ft krf h26) krf (xR 3 krf (xE ?_))
           exact nq_n true ⟨[2,4,5,6,8],[2,13,402,406],[],[]⟩ krf
          ·refine xO (want_ff krf h26) krf (xR 3 krf (xE ?_))
           exact nq_n (eqS r14 [112,101,114]) ⟨[2,4,5,6,8],[2,13,402,406],[],[]⟩ krf
         ·rintro j25
          refine sS (sim_drw tfm rfl (xR 15 krf (xF krf krf (aop_slice3 (e:=24) (S:=5) (enc:=idc) (l:=l11_9) (sv:=.p (.sl 5 (mI l11_9))) (a:=1) (b:=lenI (mI l11_9)) (c:=lenI (mI l11_9)) rfl krf krf krf krf krf krf krf) (xR 3 krf (xs_endD krf (sN ⟨[2,4,5,6,8],[2,13,402,406],[],[]⟩ ⟨[(2, .ptr 2 0),(4, .ptr 13 0),(5, .mv 406),(6,B j25),(8, .fn (.func 90) [] [.ptr 402 0])],[(2, .box 29 [I 0,I 0,I 0,I 0,I 0,I 0,I 0]),(13, .box 102 (bxc (GTr.cs ⟨(⟨l11_2,l11_3,l11_4,l11_5,l11_6,l11_7,l11_8⟩:GAr),List.drop (Int.toNat 1) (List.take (Int.toNat (lenI (mI l11_9))) l11_9),l11_10⟩))),(402, .box 100 [.ptr 13 0]),(406, .mf [(!eqS r14 [112,101,114]&&l11_11,[112,101,114], .fn (.func 88) [] [.ptr 402 0]),(!eqS r14 [102,114,101,101]&&l11_12,[102,114,101,101], .fn (.func 89) [] [.ptr 402 0]),(!eqS r14 [111,110]&&l11_13,[111,110], .fn (.func 90) [] [.ptr 402 0]),(!eqS r14 [98,101,116,119,101,101,110]&&l11_14,[98,101,116,119,101,101,110], .fn (.func 92) [] [.ptr 402 0])])]⟩ krf (sG ?_)))))))
          refine xR 1 krf (xs_inline [(1000, .box 102 (bxc (GTr.cs ⟨(⟨l11_2,l11_3,l11_4,l11_5,l11_6,l11_7,l11_8⟩:GAr),List.drop (Int.toNat 1) (List.take (Int.toNat (lenI (mI l11_9))) l11_9),l11_10⟩))),(1001, .box 100 [.ptr 1000 0])] [.ptr 1001 0] [(1000,13),(1001,402)] [] [] krf Tryz.func90 rfl Tryz.ntmps90 rfl krf krf krf (sim_hst [0,1] [0] [(2,[]),(3,[]),(4,[]),(5,[]),(6,[])] tfm rfl krf krf (h_enter (f:=91) (args:=[.ptr 1000 0]) (dst:=some 3) krf krf ?_)))
          refine sc_heap [(1000,1000)] [] [] (g_t_reader_days_ok n (⟨(⟨l11_2,l11_3,l11_4,l11_5,l11_6,l11_7,l11_8⟩:GAr),List.drop (Int.toNat 1) (List.take (Int.toNat (lenI (mI l11_9))) l11_9),l11_10⟩:GTr)) krf krf krf (fun _=>by kernel_rfl) (fun _=>by kernel_rfl) (fun r27=>?_)
          refine kh [0] krf (lates_cons (late_read (.ptr 1000 0) krf rfl) (lates_nil)) krf (h_op [] krf krf (lates_nil) (h_op [] krf krf (lates_nil) (h_op [] krf krf (lates_nil) (h_op [] krf krf (lates_nil) (h_end (iq_n (.id) [1000,1001] [] (.tup []) krf krf (kr0 ?_)))))))
          refine xE (bq_n ?_)
          exact kq_n (j25,r27.2.article.Kind,r27.1,r27.2.article.From,r27.2.article.To,r27.2.article.Price,r27.2.article.Unit,r27.2.article.Free,r27.2.values,r27.2.good,!eqS r14 [112,101,114]&&l11_11,!eqS r14 [102,114,101,101]&&l11_12,!eqS r14 [111,110]&&l11_13,!eqS r14 [98,101,116,119,101,101,110]&&l11_14) ⟨[2,4,5,6],[2,13,402,406],[],[]⟩ krf
        ·refine xS (eqS r14 [98,101,116,119,101,101,110]&&l11_14) (fun h28=>?_) (fun h28=>?_)
         ·refine xs_u krf krf (aop_mfT (kt:=9) (e:=1) (b:=406) (w:=r14) (ok:=true) (es:=[(l11_11,[112,101,114], .fn (.func 88) [] [.ptr 402 0]),(l11_12,[102,114,101,101], .fn (.func 89) [] [.ptr 402 0]),(l11_13,[111,110], .fn (.func 90) [] [.ptr 402 0]),(l11_14,[98,101,116,119,101,101,110], .fn (.func 92) [] [.ptr 402 0])]) (v:=.fn (.func 92) [] [.ptr 402 0]) rfl krf krf krf krf krf (findF_f h16 (findF_f h20 (findF_f h24 (findF_t h28))))) (xR 5 krf (xE (sN ⟨[2,4,5,6,7,8,9],[2,13,402,406],[],[]⟩ ⟨[(2, .ptr 2 0),(4, .ptr 13 0),(5, .mv 406),(6,B l11_1),(7,S r14),(8, .fn (.func 92) [] [.ptr 402 0]),(9,B true)],[(2, .box 29 [I 0,I 0,I 0,I 0,I 0,I 0,I 0]),(13, .box 102 (bxc (GTr.cs ⟨(⟨l11_2,l11_3,l11_4,l11_5,l11_6,l11_7,l11_8⟩:GAr),l11_9,l11_10⟩))),(402, .box 100 [.ptr 13 0]),(406, .mf [(l11_11,[112,101,114], .fn (.func 88) [] [.ptr 402 0]),(l11_12,[102,114,101,101], .fn (.func 89) [] [.ptr 402 0]),(l11_13,[111,110], .fn (.func 90) [] [.ptr 402 0]),(l11_14,[98,101,116,119,101,101,110], .fn (.func 92) [] [.ptr 402 0])])]⟩ krf (sS (sR tfm ⟨[2,4,5,6,7,8,62],[2,13,402,406],[],[]⟩ ⟨[(2, .ptr 2 0),(4, .ptr 13 0),(5, .mv 406),(6,B l11_1),(7,S r14),(8, .fn (.func 92) [] [.ptr 402 0]),(62,B false)],[(2, .box 29 [I 0,I 0,I 0,I 0,I 0,I 0,I 0]),(13, .box 102 (bxc (GTr.cs ⟨(⟨l11_2,l11_3,l11_4,l11_5,l11_6,l11_7,l11_8⟩:GAr),l11_9,l11_10⟩))),(402, .box 100 [.ptr 13 0]),(406, .mf [(l11_11,[112,101,114], .fn (.func 88) [] [.ptr 402 0]),(l11_12,[102,114,101,101], .fn (.func 89) [] [.ptr 402 0]),(l11_13,[111,110], .fn (.func 90) [] [.ptr 402 0]),(l11_14,[98,101,116,119,101,101,110], .fn (.func 92) [] [.ptr 402 0])])]⟩ krf (sim_condF krf (sK ?_)))))))
          refine sN ⟨[2,4,5,6,7,8],[2,13,402,406],[],[]⟩ ⟨[(2, .ptr 2 0),(4, .ptr 13 0),(5, .mv 406),(6,B l11_1),(7,S r14),(8, .fn (.func 92) [] [.ptr 402 0])],[(2, .box 29 [I 0,I 0,I 0,I 0,I 0,I 0,I 0]),(13, .box 102 (bxc (GTr.cs ⟨(⟨l11_2,l11_3,l11_4,l11_5,l11_6,l11_7,l11_8⟩:GAr),l11_9,l11_10⟩))),(402, .box 100 [.ptr 13 0]),(406, .mf [(l11_11,[112,101,114], .fn (.func 88) [] [.ptr 402 0]),(l11_12,[102,114,101,101], .fn (.func 89) [] [.ptr 402 0]),(l11_13,[111,110], .fn (.func 90) [] [.ptr 402 0]),(l11_14,[98,101,116,119,101,101,110], .fn (.func 92) [] [.ptr 402 0])])]⟩ krf (sR tfm ⟨[2,4,5,6,7,8],[2,13,402,406],[],[]⟩ ⟨[(2, .ptr 2 0),(4, .ptr 13 0),(5, .mv 406),(6,B l11_1),(7,S r14),(8, .fn (.func 92) [] [.ptr 402 0])],[(2, .box 29 [I 0,I 0,I 0,I 0,I 0,I 0,I 0]),(13, .box 102 (bxc (GTr.cs ⟨(⟨l11_2,l11_3,l11_4,l11_5,l11_6,l11_7,l11_8⟩:GAr),l11_9,l11_10⟩))),(402, .box 100 [.ptr 13 0]),(406, .mf [(!eqS r14 [112,101,114]&&l11_11,[112,101,114], .fn (.func 88) [] [.ptr 402 0]),(!eqS r14 [102,114,101,101]&&l11_12,[102,114,101,101], .fn (.func 89) [] [.ptr 402 0]),(!eqS r14 [111,110]&&l11_13,[111,110], .fn (.func 90) [] [.ptr 402 0]),(!eqS r14 [98,101,116,119,101,101,110]&&l11_14,[98,101,116,119,101,101,110], .fn (.func 92) [] [.ptr 402 0])])]⟩ krf (sim_bind (fun j29=>⟨[(2, .ptr 2 0),(4, .ptr 13 0),(5, .mv 406),(6,B j29),(8, .fn (.func 92) [] [.ptr 402 0])],[(2, .box 29 [I 0,I 0,I 0,I 0,I 0,I 0,I 0]),(13, .box 102 (bxc (GTr.cs ⟨(⟨l11_2,l11_3,l11_4,l11_5,l11_6,l11_7,l11_8⟩:GAr),l11_9,l11_10⟩))),(402, .box 100 [.ptr 13 0]),(406, .mf [(!eqS r14 [112,101,114]&&l11_11,[112,101,114], .fn (.func 88) [] [.ptr 402 0]),(!eqS r14 [102,114,101,101]&&l11_12,[102,114,101,101], .fn (.func 89) [] [.ptr 402 0]),(!eqS r14 [111,110]&&l11_13,[111,110], .fn (.func 90) [] [.ptr 402 0]),(!eqS r14 [98,101,116,119,101,101,110]&&l11_14,[98,101,116,119,101,101,110], .fn (.func 92) [] [.ptr 402 0])])]⟩:Bool→St) ?_ ?_))
          ·refine sG (xR 2 krf ?_)
           refine xS l11_1 (fun h30=>?_) (fun h30=>?_)
           ·refine xN (want_ft krf h30) krf (xR 3 krf (xE ?_))
            exact nq_n true ⟨[2,4,5,6,8],[2,13,402,406],[],[]⟩ krf
           ·refine xO (want_ff krf h30) krf (xR 3 krf (xE ?_))
            exact nq_n (eqS r14 [112,101,114]) ⟨[2,4,5,6,8],[2,13,402,406],[],[]⟩ krf
          ·rintro j29
           refine sS (sim_drw tfm rfl (xR 15 krf (xF krf krf (aop_slice3 (e:=24) (S:=5) (enc:=idc) (l:=l11_9) (sv:=.p (.sl 5 (mI l11_9))) (a:=1) (b:=lenI (mI l11_9)) (c:=lenI (mI l11_9)) rfl krf krf krf krf krf krf krf) (xR 3 krf (xs_endD krf (sN ⟨[2,4,5,6,8],[2,13,402,406],[],[]⟩ ⟨[(2, .ptr 2 0),(4, .ptr 13 0),(5, .mv 406),(6,B j29),(8, .fn (.func 92) [] [.ptr 402 0])],[(2, .box 29 [I 0,I 0,I 0,I 0,I 0,I 0,I 0]),(13, .box 102 (bxc (GTr.cs ⟨(⟨l11_2,l11_3,l11_4,l11_5,l11_6,l11_7,l11_8⟩:GAr),List.drop (Int.toNat 1) (List.take (Int.toNat (lenI (mI l11_9))) l11_9),l11_10⟩))),(402, .box 100 [.ptr 13 0]),(406, .mf [(!eqS r14 [112,101,114]&&l11_11,[112,101,114], .fn (.func 88) [] [.ptr 402 0]),(!eqS r14 [102,114,101,101]&&l11_12,[102,114,101,101], .fn (.func 89) [] [.ptr 402 0]),(!eqS r14 [111,110]&&l11_13,[111,110], .fn (.func 90) [] [.ptr 402 0]),(!eqS r14 [98,101,116,119,101,101,110]&&l11_14,[98,101,116,119,101,101,110], .fn (.func 92) [] [.ptr 402 0])])]⟩ krf (sG ?_)))))))
           refine xR 1 krf (xs_inline [(1000, .box 102 (bxc (GTr.cs ⟨(⟨l11_2,l11_3,l11_4,l11_5,l11_6,l11_7,l11_8⟩:GAr),List.drop (Int.toNat 1) (List.take (Int.toNat (lenI (mI l11_9))) l11_9),l11_10⟩))),(1001, .box 100 [.ptr 1000 0])] [.ptr 1001 0] [(1000,13),(1001,402)] [] [] krf Tryz.func92 rfl Tryz.ntmps92 rfl krf krf krf (sS (sim_hst [0,1] [0] [(2,[]),(3,[]),(4,[]),(5,[]),(6,[])] tfm rfl krf krf (h_enter (f:=67) (args:=[.ptr 1000 0]) (dst:=some 3) krf krf ?_))))
           refine sc_heap [(1000,1000)] [] [] (g_t_reader_number_ok n (⟨(⟨l11_2,l11_3,l11_4,l11_5,l11_6,l11_7,l11_8⟩:GAr),List.drop (Int.toNat 1) (List.take (Int.toNat (lenI (mI l11_9))) l11_9),l11_10⟩:GTr)) krf krf krf (fun _=>by kernel_rfl) (fun _=>by kernel_rfl) (fun r31=>?_)
           refine kh [0] krf (lates_cons (late_read (.ptr 1000 0) krf rfl) (lates_nil)) krf (h_op [] krf krf (lates_nil) (h_op [] krf krf (lates_nil) (h_op [] krf krf (lates_nil) (h_op [] krf krf (lates_nil) (h_end (sN ⟨[0],[1000,1001],[],[]⟩ ⟨[(0, .ptr 1001 0)],[(1000, .box 102 (bxc (GTr.cs ⟨(⟨r31.2.article.Kind,r31.2.article.Days,r31.1,r31.2.article.To,r31.2.article.Price,r31.2.article.Unit,r31.2.article.Free⟩:GAr),r31.2.values,r31.2.good⟩))),(1001, .box 100 [.ptr 1000 0])]⟩ krf (sim_hst [0,1] [0] [(2,[]),(3,[]),(4,[]),(5,[]),(6,[])] tfm rfl krf krf ?_)))))))
           refine h_enter (f:=67) (args:=[.ptr 1000 0]) (dst:=some 9) krf krf ?_
           refine sc_heap [(1000,1000)] [] [] (g_t_reader_number_ok n (⟨(⟨r31.2.article.Kind,r31.2.article.Days,r31.1,r31.2.article.To,r31.2.article.Price,r31.2.article.Unit,r31.2.article.Free⟩:GAr),r31.2.values,r31.2.good⟩:GTr)) krf krf krf (fun _=>by kernel_rfl) (fun _=>by kernel_rfl) (fun r32=>?_)
           refine kh [0] krf (lates_cons (late_read (.ptr 1000 0) krf rfl) (lates_nil)) krf (h_op [] krf krf (lates_nil) (h_op [] krf krf (lates_nil) (h_op [] krf krf (lates_nil) (h_op [] krf krf (lates_nil) (h_end (iq_n (.id) [1000,1001] [] (.tup []) krf krf (kr0 ?_)))))))
           refine xE (bq_n ?_)
           exact kq_n (j29,r32.2.article.Kind,r32.2.article.Days,r32.2.article.From,r32.1,r32.2.article.Price,r32.2.article.Unit,r32.2.article.Free,r32.2.values,r32.2.good,!eqS r14 [112,101,114]&&l11_11,!eqS r14 [102,114,101,101]&&l11_12,!eqS r14 [111,110]&&l11_13,!eqS r14 [98,101,116,119,101,101,110]&&l11_14) ⟨[2,4,5,6],[2,13,402,406],[],[]⟩ krf
         ·refine xs_u krf krf (aop_mfN (kt:=9) (e:=1) (b:=406) (w:=r14) (ok:=true) (es:=[(l11_11,[112,101,114], .fn (.func 88) [] [.ptr 402 0]),(l11_12,[102,114,101,101], .fn (.func 89) [] [.ptr 402 0]),(l11_13,[111,110], .fn (.func 90) [] [.ptr 402 0]),(l11_14,[98,101,116,119,101,101,110], .fn (.func 92) [] [.ptr 402 0])]) (z:=.nilFunc) rfl krf krf krf krf krf krf (findF_f h16 (findF_f h20 (findF_f h24 (findF_f h28 (findF_n)))))) (xR 5 krf (xE (sN ⟨[2,4,5,6,7,8,9],[2,13,402,406],[],[]⟩ ⟨[(2, .ptr 2 0),(4, .ptr 13 0),(5, .mv 406),(6,B l11_1),(7,S r14),(8, .p (.val (.nilFunc))),(9,B false)],[(2, .box 29 [I 0,I 0,I 0,I 0,I 0,I 0,I 0]),(13, .box 102 (bxc (GTr.cs ⟨(⟨l11_2,l11_3,l11_4,l11_5,l11_6,l11_7,l11_8⟩:GAr),l11_9,l11_10⟩))),(402, .box 100 [.ptr 13 0]),(406, .mf [(l11_11,[112,101,114], .fn (.func 88) [] [.ptr 402 0]),(l11_12,[102,114,101,101], .fn (.func 89) [] [.ptr 402 0]),(l11_13,[111,110], .fn (.func 90) [] [.ptr 402 0]),(l11_14,[98,101,116,119,101,101,110], .fn (.func 92) [] [.ptr 402 0])])]⟩ krf (sS (sR tfm ⟨[2,4,5,6,7,8,62],[2,13,402,406],[],[]⟩ ⟨[(2, .ptr 2 0),(4, .ptr 13 0),(5, .mv 406),(6,B l11_1),(7,S r14),(8, .p (.val (.nilFunc))),(62,B true)],[(2, .box 29 [I 0,I 0,I 0,I 0,I 0,I 0,I 0]),(13, .box 102 (bxc (GTr.cs ⟨(⟨l11_2,l11_3,l11_4,l11_5,l11_6,l11_7,l11_8⟩:GAr),l11_9,l11_10⟩))),(402, .box 100 [.ptr 13 0]),(406, .mf [(l11_11,[112,101,114], .fn (.func 88) [] [.ptr 402 0]),(l11_12,[102,114,101,101], .fn (.func 89) [] [.ptr 402 0]),(l11_13,[111,110], .fn (.func 90) [] [.ptr 402 0]),(l11_14,[98,101,116,119,101,101,110], .fn (.func 92) [] [.ptr 402 0])])]⟩ krf (sim_condT krf (sR tfm ⟨[2,3],[2],[],[]⟩ ⟨[(2, .ptr 2 0),(3,B false)],[(2, .box 29 [I 0,I 0,I 0,I 0,I 0,I 0,I 0])]⟩ krf ?_)))))))
          refine sT (sq_r (bq_r (kq_r (bq_r (kq_r ?_)))))
          exact qR (.id) krf krf krf
     ·refine sim_exit (sq_x (kq_x (bq_hit ?_)))
      exact kq_n (k:=fun (j8_1,j8_2,j8_3,j8_4,j8_5,j8_6,j8_7,j8_8,j8_9,j8_10)=>g_t_read_j8 j8_1 j8_2 j8_3 j8_4 j8_5 j8_6 j8_7 j8_8 j8_9 j8_10) (l11_1,l11_2,l11_3,l11_4,l11_5,l11_6,l11_7,l11_8,l11_9,l11_10) ⟨[2,4,6],[2,13],[],[]⟩ krf
def g_t_inside (n:Nat) (a0n:Int) (a1least:Int) (a2greatest:Int):Option Bool :=
 cond (leI a1least a0n)
  (some (leI a0n a2greatest))
  (some false)
theorem g_t_inside_ok (n:Nat) (a0n:Int) (a1least:Int) (a2greatest:Int):∀ r,g_t_inside n a0n a1least a2greatest=some r→PCall Tryz.prog 46 [I a0n,I a1least,I a2greatest] (.ret (B r)):=by
 refine pcall_sim (X:=fun r:Bool=>AEnd.ret (B r)) Tryz.func46 rfl Tryz.ntmps46 rfl ?_
 unfold g_t_inside
 refine sR tfm ⟨[0,1,2],[],[],[]⟩ ⟨[(0,I a0n),(1,I a1least),(2,I a2greatest)],[]⟩ krf (sS (sG (xR 4 krf ?_)))
 refine xS (leI a1least a0n) (fun h1=>?_) (fun h1=>?_)
 ·refine xO (want_tt krf h1) krf (xR 4 krf (xE (sN ⟨[6],[],[],[]⟩ ⟨[(6,B (leI a0n a2greatest))],[]⟩ krf (sT ?_))))
  exact qR (.id) krf krf krf
 ·refine xN (want_tf krf h1) krf (xR 4 krf (xE (sN ⟨[6],[],[],[]⟩ ⟨[(6,B false)],[]⟩ krf (sT ?_))))
  exact qR (.id) krf krf krf
def g_t_validArticle (n:Nat) (a0a:GAr):Option Bool :=
 ((g_t_inside n a0a.Kind 1 6).bind fun r2 =>
 cond (!r2)
  (some true)
  ((g_t_inside n a0a.From 0 1439).bind fun r4 =>
  cond (!r4)
   (some true)
   ((g_t_inside n a0a.To (wi (a0a.From+1)) 1440).bind fun r6 =>
   cond (!r6)
    (some true)
    ((g_t_inside n a0a.Days 1 7).bind fun r8 =>
    some (!r8))))).bind fun j1 =>
 cond j1
  (some false)
  (((g_t_isWhole n a0a.Kind).bind fun r10 =>
  cond r10
   (cond (!eqI a0a.From 0)
    (some true)
    (cond (!eqI a0a.To 1440)
     (some true)
     (some (!eqI a0a.Days 7))))
   (some false)).bind fun j9 =>
  cond j9
   (some false)
   ((cond (eqI a0a.Kind 6)
    (some 10000)
    (some 1000000)).bind fun j14 =>
   (g_t_inside n a0a.Price 0 j14).bind fun r15 =>
   cond (!r15)
    (some false)
    ((g_t_isTime n a0a.Kind).bind fun r16 =>
    cond r16
     (((g_t_inside n a0a.Unit 1 1440).bind fun r18 =>
     cond r18
      ((g_t_inside n a0a.Free 0 1440).bind fun r20 =>
      some r20)
      (some false)).bind fun j17 =>
     some j17)
     (cond (eqI a0a.Unit 0)
      (some (eqI a0a.Free 0))
      (some false)))))
theorem g_t_validArticle_ok (n:Nat) (a0a:GAr):∀ r,g_t_validArticle n a0a=some r→PCall Tryz.prog 33 [ag (GAr.cs a0a)] (.ret (B r)):=by
 refine pcall_sim (X:=fun r:Bool=>AEnd.ret (B r)) Tryz.func33 rfl Tryz.ntmps33 rfl ?_
 unfold g_t_validArticle
 refine sR tfm ⟨[1],[1],[],[]⟩ ⟨[(1, .ptr 1 0)],[(1, .box 29 (bxc (GAr.cs a0a)))]⟩ krf (sS (sim_bind (fun j1=>⟨[(1, .ptr 1 0),(28,B j1)],[(1, .box 29 (bxc (GAr.cs a0a)))]⟩:Bool→St) ?_ ?_))
 ·refine sG (xR 2 krf ?_)
  refine xC [] krf (g_t_inside_ok n a0a.Kind 1 6) krf krf (fun _=>by kernel_rfl) (fun r2=>?_)
  refine xR 2 krf ?_
  refine xS (!r2) (fun h3=>?_) (fun h3=>?_)
  ·refine xN (want_ft krf h3) krf (xR 19 krf (xE ?_))
   exact nq_n true ⟨[1,28],[1],[],[]⟩ krf
  ·refine xO (want_ff krf h3) krf (xR 1 krf ?_)
   refine xC [] krf (g_t_inside_ok n a0a.From 0 1439) krf krf (fun _=>by kernel_rfl) (fun r4=>?_)
   refine xR 3 krf ?_
   refine xS (!r4) (fun h5=>?_) (fun h5=>?_)
   ·refine xN (want_ft krf h5) krf (xR 13 krf (xE ?_))
    exact nq_n true ⟨[1,28],[1],[],[]⟩ krf
   ·refine xO (want_ff krf h5) krf (xR 4 krf ?_)
    refine xC [] krf (g_t_inside_ok n a0a.To (wi (a0a.From+1)) 1440) krf krf (fun _=>by kernel_rfl) (fun r6=>?_)
    refine xR 3 krf ?_
    refine xS (!r6) (fun h7=>?_) (fun h7=>?_)
    ·refine xN (want_ft krf h7) krf (xR 4 krf (xE ?_))
     exact nq_n true ⟨[1,28],[1],[],[]⟩ krf
    ·refine xO (want_ff krf h7) krf (xR 1 krf ?_)
     refine xC [] krf (g_t_inside_ok n a0a.Days 1 7) krf krf (fun _=>by kernel_rfl) (fun r8=>?_)
     refine xR 2 krf (xE ?_)
     exact nq_n (!r8) ⟨[1,28],[1],[],[]⟩ krf
 ·rintro j1
  refine sC j1 krf ?_ ?_
  ·refine sR tfm ⟨[2],[],[],[]⟩ ⟨[(2,B false)],[]⟩ krf (sT (sq_r ?_))
   exact qR (.id) krf krf krf
  ·refine sK (sN ⟨[1],[1],[],[]⟩ ⟨[(1, .ptr 1 0)],[(1, .box 29 (bxc (GAr.cs a0a)))]⟩ krf (sS (sim_bind (fun j9=>⟨[(1, .ptr 1 0),(46,B j9)],[(1, .box 29 (bxc (GAr.cs a0a)))]⟩:Bool→St) ?_ ?_)))
   ·refine sG (xR 2 krf ?_)
    refine xC [] krf (g_t_isWhole_ok n a0a.Kind) krf krf (fun _=>by kernel_rfl) (fun r10=>?_)
    refine xR 1 krf ?_
    refine xS r10 (fun h11=>?_) (fun h11=>?_)
    ·refine xO (want_tt krf h11) krf (xR 3 krf ?_)
     refine xS (!eqI a0a.From 0) (fun h12=>?_) (fun h12=>?_)
     ·refine xN (want_ft krf h12) krf (xR 9 krf (xE ?_))
      exact nq_n true ⟨[1,46],[1],[],[]⟩ krf
     ·refine xO (want_ff krf h12) krf (xR 4 krf ?_)
      refine xS (!eqI a0a.To 1440) (fun h13=>?_) (fun h13=>?_)
      ·refine xN (want_ft krf h13) krf (xR 4 krf (xE ?_))
       exact nq_n true ⟨[1,46],[1],[],[]⟩ krf
      ·refine xO (want_ff krf h13) krf (xR 4 krf (xE ?_))
       exact nq_n (!eqI a0a.Days 7) ⟨[1,46],[1],[],[]⟩ krf
    ·refine xN (want_tf krf h11) krf (xR 13 krf (xE ?_))
     exact nq_n false ⟨[1,46],[1],[],[]⟩ krf
   ·rintro j9
    refine sC j9 krf ?_ ?_
    ·refine sR tfm ⟨[2],[],[],[]⟩ ⟨[(2,B false)],[]⟩ krf (sT (sq_r ?_))
     exact qR (.id) krf krf krf
    ·refine sK (sN ⟨[1],[1],[],[]⟩ ⟨[(1, .ptr 1 0)],[(1, .box 29 (bxc (GAr.cs a0a)))]⟩ krf (sR tfm ⟨[1,3],[1],[],[]⟩ ⟨[(1, .ptr 1 0),(3,I 1000000)],[(1, .box 29 (bxc (GAr.cs a0a)))]⟩ krf (sim_bind (fun j14=>⟨[(1, .ptr 1 0),(3,I j14)],[(1, .box 29 (bxc (GAr.cs a0a)))]⟩:Int→St) ?_ ?_)))
     ·refine sR tfm ⟨[1,3,49],[1],[],[]⟩ ⟨[(1, .ptr 1 0),(3,I 1000000),(49,B (eqI a0a.Kind 6))],[(1, .box 29 (bxc (GAr.cs a0a)))]⟩ krf (sC (eqI a0a.Kind 6) krf ?_ ?_)
      ·refine sL tfm krf ?_
       exact nq_n 10000 ⟨[1,3],[1],[],[]⟩ krf
      ·refine sK ?_
       exact nq_n 1000000 ⟨[1,3],[1],[],[]⟩ krf
     ·rintro j14
      refine sS (sS (sG (xR 3 krf ?_)))
      refine xC [] krf (g_t_inside_ok n a0a.Price 0 j14) krf krf (fun _=>by kernel_rfl) (fun r15=>?_)
      refine xR 1 krf (xE (sN ⟨[1,54],[1],[],[]⟩ ⟨[(1, .ptr 1 0),(54,B (!r15))],[(1, .box 29 (bxc (GAr.cs a0a)))]⟩ krf (sC (!r15) krf ?_ ?_)))
      ·refine sR tfm ⟨[2],[],[],[]⟩ ⟨[(2,B false)],[]⟩ krf (sT (sq_r ?_))
       exact qR (.id) krf krf krf
      ·refine sK (sN ⟨[1],[1],[],[]⟩ ⟨[(1, .ptr 1 0)],[(1, .box 29 (bxc (GAr.cs a0a)))]⟩ krf (sS (sS (sG (xR 2 krf ?_)))))
       refine xC [] krf (g_t_isTime_ok n a0a.Kind) krf krf (fun _=>by kernel_rfl) (fun r16=>?_)
       refine xE (sN ⟨[1,57],[1],[],[]⟩ ⟨[(1, .ptr 1 0),(57,B r16)],[(1, .box 29 (bxc (GAr.cs a0a)))]⟩ krf (sC r16 krf ?_ ?_))
       ·refine sim_bind (fun j17=>⟨[(2,B j17)],[]⟩:Bool→St) ?_ ?_
        ·refine sG (xR 2 krf ?_)
         refine xC [] krf (g_t_inside_ok n a0a.Unit 1 1440) krf krf (fun _=>by kernel_rfl) (fun r18=>?_)
         refine xR 1 krf ?_
         refine xS r18 (fun h19=>?_) (fun h19=>?_)
         ·refine xO (want_tt krf h19) krf (xR 1 krf ?_)
          refine xC [] krf (g_t_inside_ok n a0a.Free 0 1440) krf krf (fun _=>by kernel_rfl) (fun r20=>?_)
          refine xR 2 krf (xE ?_)
          exact nq_n r20 ⟨[2],[],[],[]⟩ krf
         ·refine xN (want_tf krf h19) krf (xR 4 krf (xE ?_))
          exact nq_n false ⟨[2],[],[],[]⟩ krf
        ·rintro j17
         refine sT (sq_r ?_)
         exact qR (.id) krf krf krf
       ·refine sK (sN ⟨[1],[1],[],[]⟩ ⟨[(1, .ptr 1 0)],[(1, .box 29 (bxc (GAr.cs a0a)))]⟩ krf (sS (sG (xR 4 krf ?_))))
        refine xS (eqI a0a.Unit 0) (fun h21=>?_) (fun h21=>?_)
        ·refine xO (want_tt krf h21) krf (xR 4 krf (xE (sN ⟨[2],[],[],[]⟩ ⟨[(2,B (eqI a0a.Free 0))],[]⟩ krf (sT ?_))))
         exact qR (.id) krf krf krf
        ·refine xN (want_tf krf h21) krf (xR 4 krf (xE (sN ⟨[2],[],[],[]⟩ ⟨[(2,B false)],[]⟩ krf (sT ?_))))
         exact qR (.id) krf krf krf
def g_t_articles_l1 (n:Nat) (a0item:GNode) (recl1:((List GAr) × Bool × Int)→Option ((List GAr) × GDg)) (l1_1:List GAr) (l1_2:Bool) (l1_3:Int):Option ((List GAr) × GDg) :=
 cond (ltI l1_3 (lenI (List.map idc a0item.Kids)))
  ((Option.bind (getI a0item.Kids l1_3) GNode.of).bind fun x2 =>
  cond (eqI x2.Kind 3)
   (some ([],(⟨9,x2.At⟩:GDg)))
   (cond (eqI (lenI (List.map GAr.cs l1_1)) 12)
    (some ([],(⟨2,x2.At⟩:GDg)))
    ((g_t_read n x2).bind fun r3 =>
    cond (!r3.2)
     (some ([],(⟨9,x2.At⟩:GDg)))
     ((g_t_validArticle n r3.1).bind fun r4 =>
     cond (!r4)
      (some ([],(⟨3,x2.At⟩:GDg)))
      ((cond (eqI r3.1.Kind 6)
       (some l1_2)
       (some false)).bind fun j5 =>
      cond j5
       (some ([],(⟨5,x2.At⟩:GDg)))
       (cond l1_2
        (cond (roomB (List.length (l1_1++[r3.1])) 56) (
         recl1 (l1_1++[r3.1],true,wi (l1_3+1))) none)
        (cond (roomB (List.length (l1_1++[r3.1])) 56) (
         recl1 (l1_1++[r3.1],eqI r3.1.Kind 6,wi (l1_3+1))) none)))))))
  (some (l1_1,(⟨0,0⟩:GDg)))
def g_t_articles (n:Nat) (a0item:GNode):Option ((List GAr) × GDg) :=
 loopN (fun recl1 (l1_1,l1_2,l1_3)=>g_t_articles_l1 n a0item recl1 l1_1 l1_2 l1_3) n ([],false,0)
theorem g_t_articles_ok (n:Nat) (a0item:GNode):∀ r,g_t_articles n a0item=some r→PCall Tryz.prog 29 [ag (GNode.cs a0item)] (.ret (.tup [.p (.sl 7 (mAr r.1)),ag (GDg.cs r.2)])):=by
 refine pcall_sim (X:=fun r:(List GAr) × GDg=>AEnd.ret (.tup [.p (.sl 7 (mAr r.1)),ag (GDg.cs r.2)])) Tryz.func29 rfl Tryz.ntmps29 rfl ?_
 unfold g_t_articles
 refine sR tfm ⟨[1,3],[1,3],[],[]⟩ ⟨[(1, .ptr 1 0),(3, .ptr 3 0)],[(1, .box 24 (bxc (GNode.cs a0item))),(3, .box 56 [I 0,I 0])]⟩ krf (sR tfm ⟨[1,3,4],[1,3],[],[]⟩ ⟨[(1, .ptr 1 0),(3, .ptr 3 0),(4,zS)],[(1, .box 24 (bxc (GNode.cs a0item))),(3, .box 56 [I 0,I 0])]⟩ krf (sR tfm ⟨[1,3,4,5],[1,3],[],[]⟩ ⟨[(1, .ptr 1 0),(3, .ptr 3 0),(4,zS),(5,B false)],[(1, .box 24 (bxc (GNode.cs a0item))),(3, .box 56 [I 0,I 0])]⟩ krf (sS (sR tfm ⟨[3,4,5,11,12,13],[3],[],[]⟩ ⟨[(3, .ptr 3 0),(4,zS),(5,B false),(11, .p (.sl 5 (mI a0item.Kids))),(12,I (lenI (mI a0item.Kids))),(13,I 0)],[(3, .box 56 [I 0,I 0])]⟩ krf (sB (sP ⟨[3,4,5,11,12,13],[3],[],[]⟩ ⟨[(3, .ptr 3 0),(4,zS),(5,B false),(11, .p (.sl 5 (mI a0item.Kids))),(12,I (lenI (mI a0item.Kids))),(13,I 0)],[(3, .box 56 [I 0,I 0])]⟩ krf (sim_weak (weak_pn 29 7 66 [4] [] krf) ?_)))))))
 refine sim_loop (fun (l1_1,l1_2,l1_3)=>⟨[(3, .ptr 3 0),(4, .tsl 7 (mAr l1_1) 66),(5,B l1_2),(11, .p (.sl 5 (mI a0item.Kids))),(12,I (lenI (mI a0item.Kids))),(13,I l1_3)],[(3, .box 56 [I 0,I 0]),(66, .arr 29 7 (mAr l1_1).length)]⟩:((List GAr) × Bool × Int)→St) (weak_shr (K:=⟨[3,4,5,11,12,13],[3,66],[],[]⟩) krf) ?_
 rintro recl1 ⟨l1_1,l1_2,l1_3⟩
 show SimE (g_t_articles_l1 n a0item recl1 l1_1 l1_2 l1_3) _ _ _ _ _ _
 unfold g_t_articles_l1
 refine sR tfm ⟨[3,4,5,11,12,13,14],[3,66],[],[]⟩ ⟨[(3, .ptr 3 0),(4, .tsl 7 (mAr l1_1) 66),(5,B l1_2),(11, .p (.sl 5 (mI a0item.Kids))),(12,I (lenI (mI a0item.Kids))),(13,I l1_3),(14,B (ltI l1_3 (lenI (mI a0item.Kids))))],[(3, .box 56 [I 0,I 0]),(66, .arr 29 7 (mAr l1_1).length)]⟩ krf (sS (sC (ltI l1_3 (lenI (mI a0item.Kids))) krf ?_ ?_))
 ·refine sK (sN ⟨[3,4,5,11,12,13],[3,66],[],[]⟩ ⟨[(3, .ptr 3 0),(4, .tsl 7 (mAr l1_1) 66),(5,B l1_2),(11, .p (.sl 5 (mI a0item.Kids))),(12,I (lenI (mI a0item.Kids))),(13,I l1_3)],[(3, .box 56 [I 0,I 0]),(66, .arr 29 7 (mAr l1_1).length)]⟩ krf (sS (sB (sS (sG ?_)))))
  refine xG krf krf (aop_idxR (e:=24) (S:=5) (enc:=GNode.cs) (dec:=GNode.of) (l:=a0item.Kids) (k:=.i64) (n:=l1_3) (sv:=.p (.sl 5 (mI a0item.Kids))) GNode.of_cs rfl krf krf krf krf krf) (fun x2=>?_)
  refine xR 3 krf (xE (sN ⟨[3,4,5,7,11,12,13],[3,7,66],[],[]⟩ ⟨[(3, .ptr 3 0),(4, .tsl 7 (mAr l1_1) 66),(5,B l1_2),(7, .ptr 7 0),(11, .p (.sl 5 (mI a0item.Kids))),(12,I (lenI (mI a0item.Kids))),(13,I l1_3)],[(3, .box 56 [I 0,I 0]),(7, .box 24 (bxc (GNode.cs x2))),(66, .arr 29 7 (mAr l1_1).length)]⟩ krf (sS (sR tfm ⟨[3,4,5,7,11,12,13,19],[3,7,66],[],[]⟩ ⟨[(3, .ptr 3 0),(4, .tsl 7 (mAr l1_1) 66),(5,B l1_2),(7, .ptr 7 0),(11, .p (.sl 5 (mI a0item.Kids))),(12,I (lenI (mI a0item.Kids))),(13,I l1_3),(19,B (eqI x2.Kind 3))],[(3, .box 56 [I 0,I 0]),(7, .box 24 (bxc (GNode.cs x2))),(66, .arr 29 7 (mAr l1_1).length)]⟩ krf (sC (eqI x2.Kind 3) krf ?_ ?_)))))
  ·refine sR tfm ⟨[2,3],[3],[],[]⟩ ⟨[(2,zS),(3, .ptr 3 0)],[(3, .box 56 [I 9,I x2.At])]⟩ krf (sT (sq_r (bq_r (sq_r (kq_r (bq_r (sq_r ?_)))))))
   exact qR (.agg [.sl 7, .id]) krf krf krf
  ·refine sK (sN ⟨[3,4,5,7,11,12,13],[3,7,66],[],[]⟩ ⟨[(3, .ptr 3 0),(4, .tsl 7 (mAr l1_1) 66),(5,B l1_2),(7, .ptr 7 0),(11, .p (.sl 5 (mI a0item.Kids))),(12,I (lenI (mI a0item.Kids))),(13,I l1_3)],[(3, .box 56 [I 0,I 0]),(7, .box 24 (bxc (GNode.cs x2))),(66, .arr 29 7 (mAr l1_1).length)]⟩ krf (sS (sR tfm ⟨[3,4,5,7,11,12,13,25],[3,7,66],[],[]⟩ ⟨[(3, .ptr 3 0),(4, .tsl 7 (mAr l1_1) 66),(5,B l1_2),(7, .ptr 7 0),(11, .p (.sl 5 (mI a0item.Kids))),(12,I (lenI (mI a0item.Kids))),(13,I l1_3),(25,B (eqI (lenI (mAr l1_1)) 12))],[(3, .box 56 [I 0,I 0]),(7, .box 24 (bxc (GNode.cs x2))),(66, .arr 29 7 (mAr l1_1).length)]⟩ krf (sC (eqI (lenI (mAr l1_1)) 12) krf ?_ ?_))))
   ·refine sR tfm ⟨[2,3],[3],[],[]⟩ ⟨[(2,zS),(3, .ptr 3 0)],[(3, .box 56 [I 2,I x2.At])]⟩ krf (sT (sq_r (bq_r (sq_r (kq_r (bq_r (sq_r ?_)))))))
    exact qR (.agg [.sl 7, .id]) krf krf krf
   ·refine sK (sN ⟨[3,4,5,7,11,12,13],[3,7,66],[],[]⟩ ⟨[(3, .ptr 3 0),(4, .tsl 7 (mAr l1_1) 66),(5,B l1_2),(7, .ptr 7 0),(11, .p (.sl 5 (mI a0item.Kids))),(12,I (lenI (mI a0item.Kids))),(13,I l1_3)],[(3, .box 56 [I 0,I 0]),(7, .box 24 (bxc (GNode.cs x2))),(66, .arr 29 7 (mAr l1_1).length)]⟩ krf (sS (sG (xR 1 krf ?_))))
    refine xC [] krf (g_t_read_ok n x2) krf krf (fun _=>by kernel_rfl) (fun r3=>?_)
    refine xR 6 krf (xE (sN ⟨[3,4,5,7,8,9,11,12,13],[3,7,8,66],[],[]⟩ ⟨[(3, .ptr 3 0),(4, .tsl 7 (mAr l1_1) 66),(5,B l1_2),(7, .ptr 7 0),(8, .ptr 8 0),(9,B r3.2),(11, .p (.sl 5 (mI a0item.Kids))),(12,I (lenI (mI a0item.Kids))),(13,I l1_3)],[(3, .box 56 [I 0,I 0]),(7, .box 24 (bxc (GNode.cs x2))),(8, .box 29 (bxc (GAr.cs r3.1))),(66, .arr 29 7 (mAr l1_1).length)]⟩ krf (sS (sB (sR tfm ⟨[3,4,5,7,8,11,12,13,34],[3,7,8,66],[],[]⟩ ⟨[(3, .ptr 3 0),(4, .tsl 7 (mAr l1_1) 66),(5,B l1_2),(7, .ptr 7 0),(8, .ptr 8 0),(11, .p (.sl 5 (mI a0item.Kids))),(12,I (lenI (mI a0item.Kids))),(13,I l1_3),(34,B (!r3.2))],[(3, .box 56 [I 0,I 0]),(7, .box 24 (bxc (GNode.cs x2))),(8, .box 29 (bxc (GAr.cs r3.1))),(66, .arr 29 7 (mAr l1_1).length)]⟩ krf (sC (!r3.2) krf ?_ ?_))))))
    ·refine sR tfm ⟨[2,3],[3],[],[]⟩ ⟨[(2,zS),(3, .ptr 3 0)],[(3, .box 56 [I 9,I x2.At])]⟩ krf (sT (bq_r (sq_r (bq_r (sq_r (kq_r (bq_r ?_)))))))
     refine sq_r ?_
     exact qR (.agg [.sl 7, .id]) krf krf krf
    ·refine sS (sG (xR 1 krf ?_))
     refine xC [] krf (g_t_validArticle_ok n r3.1) krf krf (fun _=>by kernel_rfl) (fun r4=>?_)
     refine xR 2 krf (xE (sN ⟨[3,4,5,7,8,11,12,13,40],[3,7,8,66],[],[]⟩ ⟨[(3, .ptr 3 0),(4, .tsl 7 (mAr l1_1) 66),(5,B l1_2),(7, .ptr 7 0),(8, .ptr 8 0),(11, .p (.sl 5 (mI a0item.Kids))),(12,I (lenI (mI a0item.Kids))),(13,I l1_3),(40,B (!r4))],[(3, .box 56 [I 0,I 0]),(7, .box 24 (bxc (GNode.cs x2))),(8, .box 29 (bxc (GAr.cs r3.1))),(66, .arr 29 7 (mAr l1_1).length)]⟩ krf (sC (!r4) krf ?_ ?_)))
     ·refine sR tfm ⟨[2,3],[3],[],[]⟩ ⟨[(2,zS),(3, .ptr 3 0)],[(3, .box 56 [I 3,I x2.At])]⟩ krf (sT (bq_r (sq_r (bq_r (sq_r (kq_r (bq_r ?_)))))))
      refine sq_r ?_
      exact qR (.agg [.sl 7, .id]) krf krf krf
     ·refine sim_bind (fun j5=>⟨[(3, .ptr 3 0),(4, .tsl 7 (mAr l1_1) 66),(5,B l1_2),(7, .ptr 7 0),(8, .ptr 8 0),(11, .p (.sl 5 (mI a0item.Kids))),(12,I (lenI (mI a0item.Kids))),(13,I l1_3),(47,B j5)],[(3, .box 56 [I 0,I 0]),(7, .box 24 (bxc (GNode.cs x2))),(8, .box 29 (bxc (GAr.cs r3.1))),(66, .arr 29 7 (mAr l1_1).length)]⟩:Bool→St) ?_ ?_
      ·refine sG (xR 4 krf ?_)
       refine xS (eqI r3.1.Kind 6) (fun h6=>?_) (fun h6=>?_)
       ·refine xO (want_tt krf h6) krf (xR 2 krf (xE ?_))
        exact nq_n l1_2 ⟨[3,4,5,7,8,11,12,13,47],[3,7,8,66],[],[]⟩ krf
       ·refine xN (want_tf krf h6) krf (xR 2 krf (xE ?_))
        exact nq_n false ⟨[3,4,5,7,8,11,12,13,47],[3,7,8,66],[],[]⟩ krf
      ·rintro j5
       refine sC j5 krf ?_ ?_
       ·refine sR tfm ⟨[2,3],[3],[],[]⟩ ⟨[(2,zS),(3, .ptr 3 0)],[(3, .box 56 [I 5,I x2.At])]⟩ krf (sT (bq_r (sq_r (bq_r (sq_r (kq_r (bq_r ?_)))))))
        refine sq_r ?_
        exact qR (.agg [.sl 7, .id]) krf krf krf
       ·refine sK (bq_n (sN ⟨[3,4,5,8,11,12,13],[3,8,66],[],[]⟩ ⟨[(3, .ptr 3 0),(4, .tsl 7 (mAr l1_1) 66),(5,B l1_2),(8, .ptr 8 0),(11, .p (.sl 5 (mI a0item.Kids))),(12,I (lenI (mI a0item.Kids))),(13,I l1_3)],[(3, .box 56 [I 0,I 0]),(8, .box 29 (bxc (GAr.cs r3.1))),(66, .arr 29 7 (mAr l1_1).length)]⟩ krf (sS (sG (xR 2 krf ?_)))))
        refine xS l1_2 (fun h7=>?_) (fun h7=>?_)
        ·refine xN (want_ft krf h7) krf (xR 4 krf (xE (sN ⟨[3,4,5,8,11,12,13],[3,8,66],[],[]⟩ ⟨[(3, .ptr 3 0),(4, .tsl 7 (mAr l1_1) 66),(5,B true),(8, .ptr 8 0),(11, .p (.sl 5 (mI a0item.Kids))),(12,I (lenI (mI a0item.Kids))),(13,I l1_3)],[(3, .box 56 [I 0,I 0]),(8, .box 29 (bxc (GAr.cs r3.1))),(66, .arr 29 7 (mAr l1_1).length)]⟩ krf (sG (xR 3 krf (xF krf krf (aop_app (e:=29) (S:=7) (by_:=56) (enc:=GAr.cs) (tk:=66) (l:=l1_1) (l2:=[r3.1]) (xv:=.tsl 7 (mAr [r3.1]) 65) rfl krf krf rfl krf krf krf rfl krf) (xR 1 krf ?_)))))))
         refine xE (bq_n (sN ⟨[3,4,5,11,12,13],[3,66],[],[]⟩ ⟨[(3, .ptr 3 0),(4, .tsl 7 (mAr (l1_1++[r3.1])) 66),(5,B true),(11, .p (.sl 5 (mI a0item.Kids))),(12,I (lenI (mI a0item.Kids))),(13,I l1_3)],[(3, .box 56 [I 0,I 0]),(66, .arr 29 7 (mAr (l1_1++[r3.1])).length)]⟩ krf (sL tfm krf ?_)))
         exact kq_n (l1_1++[r3.1],true,wi (l1_3+1)) ⟨[3,4,5,11,12,13],[3,66],[],[]⟩ krf
        ·refine xO (want_ff krf h7) krf (xR 4 krf (xE (sN ⟨[3,4,5,8,11,12,13,59,60,61],[3,8,66],[],[]⟩ ⟨[(3, .ptr 3 0),(4, .tsl 7 (mAr l1_1) 66),(5,B (eqI r3.1.Kind 6)),(8, .ptr 8 0),(11, .p (.sl 5 (mI a0item.Kids))),(12,I (lenI (mI a0item.Kids))),(13,I l1_3),(59, .ptr 8 0),(60,I r3.1.Kind),(61,B (eqI r3.1.Kind 6))],[(3, .box 56 [I 0,I 0]),(8, .box 29 (bxc (GAr.cs r3.1))),(66, .arr 29 7 (mAr l1_1).length)]⟩ krf (sG (xR 3 krf (xF krf krf (aop_app (e:=29) (S:=7) (by_:=56) (enc:=GAr.cs) (tk:=66) (l:=l1_1) (l2:=[r3.1]) (xv:=.tsl 7 (mAr [r3.1]) 65) rfl krf krf rfl krf krf krf rfl krf) (xR 1 krf ?_)))))))
         refine xE (bq_n (sN ⟨[3,4,5,11,12,13,59,60,61],[3,8,66],[],[]⟩ ⟨[(3, .ptr 3 0),(4, .tsl 7 (mAr (l1_1++[r3.1])) 66),(5,B (eqI r3.1.Kind 6)),(11, .p (.sl 5 (mI a0item.Kids))),(12,I (lenI (mI a0item.Kids))),(13,I l1_3),(59, .ptr 8 0),(60,I r3.1.Kind),(61,B (eqI r3.1.Kind 6))],[(3, .box 56 [I 0,I 0]),(8, .box 29 (bxc (GAr.cs r3.1))),(66, .arr 29 7 (mAr (l1_1++[r3.1])).length)]⟩ krf (sL tfm krf ?_)))
         exact kq_n (l1_1++[r3.1],eqI r3.1.Kind 6,wi (l1_3+1)) ⟨[3,4,5,11,12,13],[3,66],[],[]⟩ krf
 ·refine sim_exit (sq_x (kq_x (bq_hit (sN ⟨[3,4],[3,66],[],[]⟩ ⟨[(3, .ptr 3 0),(4, .tsl 7 (mAr l1_1) 66)],[(3, .box 56 [I 0,I 0]),(66, .arr 29 7 (mAr l1_1).length)]⟩ krf (sR tfm ⟨[2,3],[3,66],[],[]⟩ ⟨[(2, .tsl 7 (mAr l1_1) 66),(3, .ptr 3 0)],[(3, .box 56 [I 0,I 0]),(66, .arr 29 7 (mAr l1_1).length)]⟩ krf (sT ?_))))))
  exact qR (.agg [.sl 7, .id]) krf krf krf
def g_t_Build_l3 (n:Nat) (a0n:GNode) (recl3:((List GTf) × (List GDg) × Int × Int × (List ((List UInt8) × Bool)))→Option ((List GTf) × (List GDg))) (l3_1:List GTf) (l3_2:List GDg) (l3_3:Int) (l3_4:Int) (l3_5:List ((List UInt8) × Bool)):Option ((List GTf) × (List GDg)) :=
 cond (ltI l3_4 (lenI (List.map idc a0n.Kids)))
  ((Option.bind (getI a0n.Kids l3_4) GNode.of).bind fun x4 =>
  cond (!eqI x4.N 7)
   (recl3 (l3_1,l3_2,l3_3,wi (l3_4+1),l3_5))
   ((cond (mgetD me_msb x4.Name false l3_5)
    (some ([],5,x4.At))
    (cond (leI 8 l3_3)
     (some ([],2,x4.At))
     ((g_t_articles n x4).bind fun r6 =>
     some (r6.1,r6.2.Err,r6.2.At)))).bind fun (j5_1,j5_2,j5_3) =>
   (cond (!eqI j5_2 0)
    (cond (roomB (List.length (l3_2++[(⟨j5_2,j5_3⟩:GDg)])) 16) (
     some (l3_2++[(⟨j5_2,j5_3⟩:GDg)])) none)
    (some l3_2)).bind fun j7 =>
   cond (eqI (lenI (List.map GDg.cs j7)) 20)
    (some (l3_1,j7))
    (cond (roomB (List.length (l3_1++[(⟨x4.Name,j5_1⟩:GTf)])) 40) (
     recl3 (l3_1++[(⟨x4.Name,j5_1⟩:GTf)],j7,wi (l3_3+1),wi (l3_4+1),mset me_msb x4.Name true l3_5)) none)))
  (some (l3_1,l3_2))
def g_t_Build (n:Nat) (a0n:GNode):Option ((List GTf) × (List GDg)) :=
 (g_p_Valid n a0n).bind fun r1 =>
 cond (!r1)
  (some ([],[(⟨1,0⟩:GDg)]))
  ((loopN (fun recl3 (l3_1,l3_2,l3_3,l3_4,l3_5)=>g_t_Build_l3 n a0n recl3 l3_1 l3_2 l3_3 l3_4 l3_5) n ([],[],0,0,[])).bind fun (j2_1,j2_2) =>
  cond (ltI 0 (lenI (List.map GDg.cs j2_2)))
   (some ([],j2_2))
   (some (j2_1,[])))
theorem g_t_Build_ok (n:Nat) (a0n:GNode):∀ r,g_t_Build n a0n=some r→PCall Tryz.prog 11 [ag (GNode.cs a0n)] (.ret (.tup [.p (.sl 2 (mTf r.1)), .p (.sl 2 (mDg r.2))])):=by
 refine pcall_sim (X:=fun r:(List GTf) × (List GDg)=>AEnd.ret (.tup [.p (.sl 2 (mTf r.1)), .p (.sl 2 (mDg r.2))])) Tryz.func11 rfl Tryz.ntmps11 rfl ?_
 unfold g_t_Build
 refine sR tfm ⟨[1],[1],[],[]⟩ ⟨[(1, .ptr 1 0)],[(1, .box 24 (bxc (GNode.cs a0n)))]⟩ krf (sS (sS (sG (xR 1 krf ?_))))
 refine xC [] krf (g_p_Valid_ok n a0n) krf krf (fun _=>by kernel_rfl) (fun r1=>?_)
 refine xR 1 krf (xE (sN ⟨[1,14],[1],[],[]⟩ ⟨[(1, .ptr 1 0),(14,B (!r1))],[(1, .box 24 (bxc (GNode.cs a0n)))]⟩ krf (sC (!r1) krf ?_ ?_)))
 ·refine sR tfm ⟨[2,3],[16],[],[]⟩ ⟨[(2,zS),(3, .tsl 2 (mDg [(⟨1,0⟩:GDg)]) 16)],[(16, .arr 56 2 (mDg [(⟨1,0⟩:GDg)]).length)]⟩ krf (sT (sq_r ?_))
  exact qR (.agg [.sl 2, .sl 2]) krf krf krf
 ·refine sK (sN ⟨[1],[1],[],[]⟩ ⟨[(1, .ptr 1 0)],[(1, .box 24 (bxc (GNode.cs a0n)))]⟩ krf (sR tfm ⟨[1,4],[1],[],[]⟩ ⟨[(1, .ptr 1 0),(4,zS)],[(1, .box 24 (bxc (GNode.cs a0n)))]⟩ krf (sR tfm ⟨[1,4,5],[1],[],[]⟩ ⟨[(1, .ptr 1 0),(4,zS),(5,zS)],[(1, .box 24 (bxc (GNode.cs a0n)))]⟩ krf (sS (sG (xs_u krf krf (aop_mk (d:=17) (rsv:=none) rfl rfl krf) (xR 1 krf ?_)))))))
  refine xE (sN ⟨[1,4,5,6],[1,17],[],[]⟩ ⟨[(1, .ptr 1 0),(4,zS),(5,zS),(6, .mv 17)],[(1, .box 24 (bxc (GNode.cs a0n))),(17, .mp (mpL mk_msb mv_msb []))]⟩ krf (sR tfm ⟨[1,4,5,6,7],[1,17],[],[]⟩ ⟨[(1, .ptr 1 0),(4,zS),(5,zS),(6, .mv 17),(7,I 0)],[(1, .box 24 (bxc (GNode.cs a0n))),(17, .mp (mpL mk_msb mv_msb []))]⟩ krf (sim_bind (fun (j2_1,j2_2)=>⟨[(4, .tsl 2 (mTf j2_1) 68),(5, .tsl 2 (mDg j2_2) 58)],[(58, .arr 56 2 (mDg j2_2).length),(68, .arr 27 2 (mTf j2_1).length)]⟩:((List GTf) × (List GDg))→St) ?_ ?_)))
  ·refine sR tfm ⟨[4,5,6,7,19,20,21],[17],[],[]⟩ ⟨[(4,zS),(5,zS),(6, .mv 17),(7,I 0),(19, .p (.sl 5 (mI a0n.Kids))),(20,I (lenI (mI a0n.Kids))),(21,I 0)],[(17, .mp (mpL mk_msb mv_msb []))]⟩ krf (sB (sP ⟨[4,5,6,7,19,20,21],[17],[],[]⟩ ⟨[(4,zS),(5,zS),(6, .mv 17),(7,I 0),(19, .p (.sl 5 (mI a0n.Kids))),(20,I (lenI (mI a0n.Kids))),(21,I 0)],[(17, .mp (mpL mk_msb mv_msb []))]⟩ krf (sim_weak (Weak.trans (weak_pn 56 2 58 [5] [] krf) (weak_pn 27 2 68 [4] [] krf)) (sim_loop (fun (l3_1,l3_2,l3_3,l3_4,l3_5)=>⟨[(4, .tsl 2 (mTf l3_1) 68),(5, .tsl 2 (mDg l3_2) 58),(6, .mv 17),(7,I l3_3),(19, .p (.sl 5 (mI a0n.Kids))),(20,I (lenI (mI a0n.Kids))),(21,I l3_4)],[(17, .mp (mpL mk_msb mv_msb l3_5)),(58, .arr 56 2 (mDg l3_2).length),(68, .arr 27 2 (mTf l3_1).length)]⟩:((List GTf) × (List GDg) × Int × Int × (List ((List UInt8) × Bool)))→St) (weak_shr (K:=⟨[4,5,6,7,19,20,21],[17,58,68],[],[]⟩) krf) ?_))))
   rintro recl3 ⟨l3_1,l3_2,l3_3,l3_4,l3_5⟩
   show SimE (g_t_Build_l3 n a0n recl3 l3_1 l3_2 l3_3 l3_4 l3_5) _ _ _ _ _ _
   unfold g_t_Build_l3
   refine sR tfm ⟨[4,5,6,7,19,20,21,22],[17,58,68],[],[]⟩ ⟨[(4, .tsl 2 (mTf l3_1) 68),(5, .tsl 2 (mDg l3_2) 58),(6, .mv 17),(7,I l3_3),(19, .p (.sl 5 (mI a0n.Kids))),(20,I (lenI (mI a0n.Kids))),(21,I l3_4),(22,B (ltI l3_4 (lenI (mI a0n.Kids))))],[(17, .mp (mpL mk_msb mv_msb l3_5)),(58, .arr 56 2 (mDg l3_2).length),(68, .arr 27 2 (mTf l3_1).length)]⟩ krf (sS (sC (ltI l3_4 (lenI (mI a0n.Kids))) krf ?_ ?_))
   ·refine sK (sN ⟨[4,5,6,7,19,20,21],[17,58,68],[],[]⟩ ⟨[(4, .tsl 2 (mTf l3_1) 68),(5, .tsl 2 (mDg l3_2) 58),(6, .mv 17),(7,I l3_3),(19, .p (.sl 5 (mI a0n.Kids))),(20,I (lenI (mI a0n.Kids))),(21,I l3_4)],[(17, .mp (mpL mk_msb mv_msb l3_5)),(58, .arr 56 2 (mDg l3_2).length),(68, .arr 27 2 (mTf l3_1).length)]⟩ krf (sS (sB (sS (sG ?_)))))
    refine xG krf krf (aop_idxR (e:=24) (S:=5) (enc:=GNode.cs) (dec:=GNode.of) (l:=a0n.Kids) (k:=.i64) (n:=l3_4) (sv:=.p (.sl 5 (mI a0n.Kids))) GNode.of_cs rfl krf krf krf krf krf) (fun x4=>?_)
    refine xR 3 krf (xE (sN ⟨[4,5,6,7,9,19,20,21],[9,17,58,68],[],[]⟩ ⟨[(4, .tsl 2 (mTf l3_1) 68),(5, .tsl 2 (mDg l3_2) 58),(6, .mv 17),(7,I l3_3),(9, .ptr 9 0),(19, .p (.sl 5 (mI a0n.Kids))),(20,I (lenI (mI a0n.Kids))),(21,I l3_4)],[(9, .box 24 (bxc (GNode.cs x4))),(17, .mp (mpL mk_msb mv_msb l3_5)),(58, .arr 56 2 (mDg l3_2).length),(68, .arr 27 2 (mTf l3_1).length)]⟩ krf (sS (sR tfm ⟨[4,5,6,7,9,19,20,21,27],[9,17,58,68],[],[]⟩ ⟨[(4, .tsl 2 (mTf l3_1) 68),(5, .tsl 2 (mDg l3_2) 58),(6, .mv 17),(7,I l3_3),(9, .ptr 9 0),(19, .p (.sl 5 (mI a0n.Kids))),(20,I (lenI (mI a0n.Kids))),(21,I l3_4),(27,B (!eqI x4.N 7))],[(9, .box 24 (bxc (GNode.cs x4))),(17, .mp (mpL mk_msb mv_msb l3_5)),(58, .arr 56 2 (mDg l3_2).length),(68, .arr 27 2 (mTf l3_1).length)]⟩ krf (sC (!eqI x4.N 7) krf ?_ ?_)))))
    ·refine sim_exit (sq_x (bq_hit (sN ⟨[4,5,6,7,19,20,21],[17,58,68],[],[]⟩ ⟨[(4, .tsl 2 (mTf l3_1) 68),(5, .tsl 2 (mDg l3_2) 58),(6, .mv 17),(7,I l3_3),(19, .p (.sl 5 (mI a0n.Kids))),(20,I (lenI (mI a0n.Kids))),(21,I l3_4)],[(17, .mp (mpL mk_msb mv_msb l3_5)),(58, .arr 56 2 (mDg l3_2).length),(68, .arr 27 2 (mTf l3_1).length)]⟩ krf (sL tfm krf ?_))))
     exact kq_n (l3_1,l3_2,l3_3,wi (l3_4+1),l3_5) ⟨[4,5,6,7,19,20,21],[17,58,68],[],[]⟩ krf
    ·refine sK (sN ⟨[4,5,6,7,9,19,20,21],[9,17,58,68],[],[]⟩ ⟨[(4, .tsl 2 (mTf l3_1) 68),(5, .tsl 2 (mDg l3_2) 58),(6, .mv 17),(7,I l3_3),(9, .ptr 9 0),(19, .p (.sl 5 (mI a0n.Kids))),(20,I (lenI (mI a0n.Kids))),(21,I l3_4)],[(9, .box 24 (bxc (GNode.cs x4))),(17, .mp (mpL mk_msb mv_msb l3_5)),(58, .arr 56 2 (mDg l3_2).length),(68, .arr 27 2 (mTf l3_1).length)]⟩ krf (sR tfm ⟨[4,5,6,7,9,10,19,20,21],[9,17,58,68],[],[]⟩ ⟨[(4, .tsl 2 (mTf l3_1) 68),(5, .tsl 2 (mDg l3_2) 58),(6, .mv 17),(7,I l3_3),(9, .ptr 9 0),(10,zS),(19, .p (.sl 5 (mI a0n.Kids))),(20,I (lenI (mI a0n.Kids))),(21,I l3_4)],[(9, .box 24 (bxc (GNode.cs x4))),(17, .mp (mpL mk_msb mv_msb l3_5)),(58, .arr 56 2 (mDg l3_2).length),(68, .arr 27 2 (mTf l3_1).length)]⟩ krf (sR tfm ⟨[4,5,6,7,9,10,11,19,20,21],[9,11,17,58,68],[],[]⟩ ⟨[(4, .tsl 2 (mTf l3_1) 68),(5, .tsl 2 (mDg l3_2) 58),(6, .mv 17),(7,I l3_3),(9, .ptr 9 0),(10,zS),(11, .ptr 11 0),(19, .p (.sl 5 (mI a0n.Kids))),(20,I (lenI (mI a0n.Kids))),(21,I l3_4)],[(9, .box 24 (bxc (GNode.cs x4))),(11, .box 56 [I 0,I 0]),(17, .mp (mpL mk_msb mv_msb l3_5)),(58, .arr 56 2 (mDg l3_2).length),(68, .arr 27 2 (mTf l3_1).length)]⟩ krf (sim_bind (fun (j5_1,j5_2,j5_3)=>⟨[(4, .tsl 2 (mTf l3_1) 68),(5, .tsl 2 (mDg l3_2) 58),(6, .mv 17),(7,I l3_3),(9, .ptr 9 0),(10, .p (.sl 7 (mAr j5_1))),(11, .ptr 11 0),(19, .p (.sl 5 (mI a0n.Kids))),(20,I (lenI (mI a0n.Kids))),(21,I l3_4)],[(9, .box 24 (bxc (GNode.cs x4))),(11, .box 56 [I j5_2,I j5_3]),(17, .mp (mpL mk_msb mv_msb l3_5)),(58, .arr 56 2 (mDg l3_2).length),(68, .arr 27 2 (mTf l3_1).length)]⟩:((List GAr) × Int × Int)→St) ?_ ?_))))
     ·refine sB (sS (sG (xR 3 krf ?_)))
      refine xs_u krf krf (aop_look (kt:=9) (e:=4) (ke:=mk_msb) (ve:=mv_msb) (eq:=me_msb) (b:=17) (m:=l3_5) (k:=x4.Name) (z0:=false) rfl krf krf krf krf krf (fun _=>by kernel_rfl) (fun _ _=>eqV_strK rfl _ _) krf) ?_
      refine xR 1 krf (xE (sN ⟨[4,5,6,7,9,10,11,19,20,21,33],[9,11,17,58,68],[],[]⟩ ⟨[(4, .tsl 2 (mTf l3_1) 68),(5, .tsl 2 (mDg l3_2) 58),(6, .mv 17),(7,I l3_3),(9, .ptr 9 0),(10,zS),(11, .ptr 11 0),(19, .p (.sl 5 (mI a0n.Kids))),(20,I (lenI (mI a0n.Kids))),(21,I l3_4),(33,B (mgetD me_msb x4.Name false l3_5))],[(9, .box 24 (bxc (GNode.cs x4))),(11, .box 56 [I 0,I 0]),(17, .mp (mpL mk_msb mv_msb l3_5)),(58, .arr 56 2 (mDg l3_2).length),(68, .arr 27 2 (mTf l3_1).length)]⟩ krf (sC (mgetD me_msb x4.Name false l3_5) krf ?_ ?_)))
      ·refine sL tfm krf (bq_n ?_)
       exact nq_n ([],5,x4.At) ⟨[4,5,6,7,9,10,11,19,20,21],[9,11,17,58,68],[(10, .sl 7)],[]⟩ krf
      ·refine sR tfm ⟨[4,5,6,7,9,10,11,19,20,21,41],[9,11,17,58,68],[],[]⟩ ⟨[(4, .tsl 2 (mTf l3_1) 68),(5, .tsl 2 (mDg l3_2) 58),(6, .mv 17),(7,I l3_3),(9, .ptr 9 0),(10,zS),(11, .ptr 11 0),(19, .p (.sl 5 (mI a0n.Kids))),(20,I (lenI (mI a0n.Kids))),(21,I l3_4),(41,B (leI 8 l3_3))],[(9, .box 24 (bxc (GNode.cs x4))),(11, .box 56 [I 0,I 0]),(17, .mp (mpL mk_msb mv_msb l3_5)),(58, .arr 56 2 (mDg l3_2).length),(68, .arr 27 2 (mTf l3_1).length)]⟩ krf (sC (leI 8 l3_3) krf ?_ ?_)
       ·refine sL tfm krf (bq_n ?_)
        exact nq_n ([],2,x4.At) ⟨[4,5,6,7,9,10,11,19,20,21],[9,11,17,58,68],[(10, .sl 7)],[]⟩ krf
       ·refine sG (xR 1 krf ?_)
        refine xC [] krf (g_t_articles_ok n x4) krf krf (fun _=>by kernel_rfl) (fun r6=>?_)
        refine xR 5 krf (xE (bq_n ?_))
        exact nq_n (r6.1,r6.2.Err,r6.2.At) ⟨[4,5,6,7,9,10,11,19,20,21],[9,11,17,58,68],[],[]⟩ krf
     ·rintro ⟨j5_1,j5_2,j5_3⟩
      refine sS (sG (xR 3 krf ?_))
      refine xs_u krf krf (aop_mset (kt:=9) (e:=4) (ke:=mk_msb) (ve:=mv_msb) (eq:=me_msb) (b:=17) (m:=l3_5) (k:=x4.Name) (v:=true) rfl krf krf krf krf krf krf (fun _=>by kernel_rfl) (fun _ _=>eqV_strK rfl _ _)) ?_
      refine xE (sN ⟨[4,5,6,7,9,10,11,19,20,21],[9,11,17,58,68],[],[]⟩ ⟨[(4, .tsl 2 (mTf l3_1) 68),(5, .tsl 2 (mDg l3_2) 58),(6, .mv 17),(7,I l3_3),(9, .ptr 9 0),(10, .p (.sl 7 (mAr j5_1))),(11, .ptr 11 0),(19, .p (.sl 5 (mI a0n.Kids))),(20,I (lenI (mI a0n.Kids))),(21,I l3_4)],[(9, .box 24 (bxc (GNode.cs x4))),(11, .box 56 [I j5_2,I j5_3]),(17, .mp (mpL mk_msb mv_msb (mset me_msb x4.Name true l3_5))),(58, .arr 56 2 (mDg l3_2).length),(68, .arr 27 2 (mTf l3_1).length)]⟩ krf (sR tfm ⟨[4,5,6,7,9,10,11,19,20,21],[9,11,17,58,68],[],[]⟩ ⟨[(4, .tsl 2 (mTf l3_1) 68),(5, .tsl 2 (mDg l3_2) 58),(6, .mv 17),(7,I (wi (l3_3+1))),(9, .ptr 9 0),(10, .p (.sl 7 (mAr j5_1))),(11, .ptr 11 0),(19, .p (.sl 5 (mI a0n.Kids))),(20,I (lenI (mI a0n.Kids))),(21,I l3_4)],[(9, .box 24 (bxc (GNode.cs x4))),(11, .box 56 [I j5_2,I j5_3]),(17, .mp (mpL mk_msb mv_msb (mset me_msb x4.Name true l3_5))),(58, .arr 56 2 (mDg l3_2).length),(68, .arr 27 2 (mTf l3_1).length)]⟩ krf (sim_bind (fun j7=>⟨[(4, .tsl 2 (mTf l3_1) 68),(5, .tsl 2 (mDg j7) 58),(6, .mv 17),(7,I (wi (l3_3+1))),(9, .ptr 9 0),(10, .p (.sl 7 (mAr j5_1))),(19, .p (.sl 5 (mI a0n.Kids))),(20,I (lenI (mI a0n.Kids))),(21,I l3_4)],[(9, .box 24 (bxc (GNode.cs x4))),(17, .mp (mpL mk_msb mv_msb (mset me_msb x4.Name true l3_5))),(58, .arr 56 2 (mDg j7).length),(68, .arr 27 2 (mTf l3_1).length)]⟩:(List GDg)→St) ?_ ?_)))
      ·refine sR tfm ⟨[4,5,6,7,9,10,11,19,20,21,54],[9,11,17,58,68],[],[]⟩ ⟨[(4, .tsl 2 (mTf l3_1) 68),(5, .tsl 2 (mDg l3_2) 58),(6, .mv 17),(7,I (wi (l3_3+1))),(9, .ptr 9 0),(10, .p (.sl 7 (mAr j5_1))),(11, .ptr 11 0),(19, .p (.sl 5 (mI a0n.Kids))),(20,I (lenI (mI a0n.Kids))),(21,I l3_4),(54,B (!eqI j5_2 0))],[(9, .box 24 (bxc (GNode.cs x4))),(11, .box 56 [I j5_2,I j5_3]),(17, .mp (mpL mk_msb mv_msb (mset me_msb x4.Name true l3_5))),(58, .arr 56 2 (mDg l3_2).length),(68, .arr 27 2 (mTf l3_1).length)]⟩ krf (sC (!eqI j5_2 0) krf ?_ ?_)
       ·refine sG (xR 3 krf (xF krf krf (aop_app (e:=56) (S:=2) (by_:=16) (enc:=GDg.cs) (tk:=58) (l:=l3_2) (l2:=[(⟨j5_2,j5_3⟩:GDg)]) (xv:=.tsl 2 (mDg [(⟨j5_2,j5_3⟩:GDg)]) 57) rfl krf krf rfl krf krf krf rfl krf) (xR 1 krf (xE ?_))))
        exact nq_n (l3_2++[(⟨j5_2,j5_3⟩:GDg)]) ⟨[4,5,6,7,9,10,19,20,21],[9,17,58,68],[],[]⟩ krf
       ·refine sK ?_
        exact nq_n l3_2 ⟨[4,5,6,7,9,10,19,20,21],[9,17,58,68],[],[]⟩ krf
      ·rintro j7
       refine sS (sR tfm ⟨[4,5,6,7,9,10,19,20,21,61],[9,17,58,68],[],[]⟩ ⟨[(4, .tsl 2 (mTf l3_1) 68),(5, .tsl 2 (mDg j7) 58),(6, .mv 17),(7,I (wi (l3_3+1))),(9, .ptr 9 0),(10, .p (.sl 7 (mAr j5_1))),(19, .p (.sl 5 (mI a0n.Kids))),(20,I (lenI (mI a0n.Kids))),(21,I l3_4),(61,B (eqI (lenI (mDg j7)) 20))],[(9, .box 24 (bxc (GNode.cs x4))),(17, .mp (mpL mk_msb mv_msb (mset me_msb x4.Name true l3_5))),(58, .arr 56 2 (mDg j7).length),(68, .arr 27 2 (mTf l3_1).length)]⟩ krf (sC (eqI (lenI (mDg j7)) 20) krf ?_ ?_))
       ·refine sim_exit (sq_x (bq_miss rfl (sq_x (kq_x (bq_hit ?_)))))
        exact nq_n (l3_1,j7) ⟨[4,5],[58,68],[],[]⟩ krf
       ·refine sK (sN ⟨[4,5,6,7,9,10,19,20,21],[9,17,58,68],[],[]⟩ ⟨[(4, .tsl 2 (mTf l3_1) 68),(5, .tsl 2 (mDg j7) 58),(6, .mv 17),(7,I (wi (l3_3+1))),(9, .ptr 9 0),(10, .p (.sl 7 (mAr j5_1))),(19, .p (.sl 5 (mI a0n.Kids))),(20,I (lenI (mI a0n.Kids))),(21,I l3_4)],[(9, .box 24 (bxc (GNode.cs x4))),(17, .mp (mpL mk_msb mv_msb (mset me_msb x4.Name true l3_5))),(58, .arr 56 2 (mDg j7).length),(68, .arr 27 2 (mTf l3_1).length)]⟩ krf (sG (xR 6 krf (xF krf krf (aop_app (e:=27) (S:=2) (by_:=40) (enc:=GTf.cs) (tk:=68) (l:=l3_1) (l2:=[(⟨x4.Name,j5_1⟩:GTf)]) (xv:=.tsl 2 (mTf [(⟨x4.Name,j5_1⟩:GTf)]) 67) rfl krf krf rfl krf krf krf rfl krf) (xR 1 krf (xE (bq_n ?_)))))))
        refine sN ⟨[4,5,6,7,19,20,21],[17,58,68],[],[]⟩ ⟨[(4, .tsl 2 (mTf (l3_1++[(⟨x4.Name,j5_1⟩:GTf)])) 68),(5, .tsl 2 (mDg j7) 58),(6, .mv 17),(7,I (wi (l3_3+1))),(19, .p (.sl 5 (mI a0n.Kids))),(20,I (lenI (mI a0n.Kids))),(21,I l3_4)],[(17, .mp (mpL mk_msb mv_msb (mset me_msb x4.Name true l3_5))),(58, .arr 56 2 (mDg j7).length),(68, .arr 27 2 (mTf (l3_1++[(⟨x4.Name,j5_1⟩:GTf)])).length)]⟩ krf (sL tfm krf ?_)
        exact kq_n (l3_1++[(⟨x4.Name,j5_1⟩:GTf)],j7,wi (l3_3+1),wi (l3_4+1),mset me_msb x4.Name true l3_5) ⟨[4,5,6,7,19,20,21],[17,58,68],[],[]⟩ krf
   ·refine sim_exit (sq_x (kq_x (bq_hit ?_)))
    exact nq_n (l3_1,l3_2) ⟨[4,5],[58,68],[],[]⟩ krf
  ·rintro ⟨j2_1,j2_2⟩
   refine sS (sR tfm ⟨[4,5,72],[58,68],[],[]⟩ ⟨[(4, .tsl 2 (mTf j2_1) 68),(5, .tsl 2 (mDg j2_2) 58),(72,B (ltI 0 (lenI (mDg j2_2))))],[(58, .arr 56 2 (mDg j2_2).length),(68, .arr 27 2 (mTf j2_1).length)]⟩ krf (sC (ltI 0 (lenI (mDg j2_2))) krf ?_ ?_))
   ·refine sR tfm ⟨[2,3],[58],[],[]⟩ ⟨[(2,zS),(3, .tsl 2 (mDg j2_2) 58)],[(58, .arr 56 2 (mDg j2_2).length)]⟩ krf (sT (sq_r ?_))
    exact qR (.agg [.sl 2, .sl 2]) krf krf krf
   ·refine sK (sN ⟨[4],[68],[],[]⟩ ⟨[(4, .tsl 2 (mTf j2_1) 68)],[(68, .arr 27 2 (mTf j2_1).length)]⟩ krf (sR tfm ⟨[2,3],[68],[],[]⟩ ⟨[(2, .tsl 2 (mTf j2_1) 68),(3,zS)],[(68, .arr 27 2 (mTf j2_1).length)]⟩ krf (sT ?_)))
    exact qR (.agg [.sl 2, .sl 2]) krf krf krf
def g_law32_builds (n:Nat) (a0z:List UInt8):Option ((List GTf) × (List GDg) × Bool) :=
 (g_p_Parse n a0z).bind fun r1 =>
 (g_t_Build n r1.1).bind fun r2 =>
 some (r2.1,r2.2,eqI (lenI (List.map GDg.cs r1.2)) 0)
theorem g_law32_builds_ok (n:Nat) (a0z:List UInt8):∀ r,g_law32_builds n a0z=some r→PCall Tryz.prog 41 [S a0z] (.ret (.tup [.p (.sl 2 (mTf r.1)), .p (.sl 2 (mDg r.2.1)),B r.2.2])):=by
 refine pcall_sim (X:=fun r:(List GTf) × (List GDg) × Bool=>AEnd.ret (.tup [.p (.sl 2 (mTf r.1)), .p (.sl 2 (mDg r.2.1)),B r.2.2])) Tryz.func41 rfl Tryz.ntmps41 rfl ?_
 unfold g_law32_builds
 refine sR tfm ⟨[0],[],[],[]⟩ ⟨[(0,S a0z)],[]⟩ krf (sS (sG (xR 1 krf ?_)))
 refine xC [] krf (g_p_Parse_ok n a0z) krf krf (fun _=>by kernel_rfl) (fun r1=>?_)
 refine xR 6 krf (xE (sN ⟨[5,6],[5],[],[]⟩ ⟨[(5, .ptr 5 0),(6, .p (.sl 2 (mDg r1.2)))],[(5, .box 24 (bxc (GNode.cs r1.1)))]⟩ krf (sS (sG (xR 1 krf ?_)))))
 refine xC [] krf (g_t_Build_ok n r1.1) krf krf (fun _=>by kernel_rfl) (fun r2=>?_)
 refine xR 5 krf (xE (sN ⟨[6,7,8],[],[],[]⟩ ⟨[(6, .p (.sl 2 (mDg r1.2))),(7, .p (.sl 2 (mTf r2.1))),(8, .p (.sl 2 (mDg r2.2)))],[]⟩ krf (sR tfm ⟨[2,3,4],[],[],[]⟩ ⟨[(2, .p (.sl 2 (mTf r2.1))),(3, .p (.sl 2 (mDg r2.2))),(4,B (eqI (lenI (mDg r1.2)) 0))],[]⟩ krf (sT ?_))))
 exact qR (.id) krf krf krf
def g_ref32_Same_l3 (a0a:GTf) (a1b:GTf) (recl3:Int→Option Bool) (l3:Int):Option Bool :=
 cond (ltI l3 (lenI (List.map GAr.cs a0a.Articles)))
  ((getI a0a.Articles l3).bind fun x4 =>
  (getI a1b.Articles l3).bind fun x5 =>
  cond (!opq ((eqI x4.Kind x5.Kind)&&((eqI x4.Days x5.Days)&&((eqI x4.From x5.From)&&((eqI x4.To x5.To)&&((eqI x4.Price x5.Price)&&((eqI x4.Unit x5.Unit)&&((eqI x4.Free x5.Free)&&true))))))))
   (some false)
   (recl3 (wi (l3+1))))
  (some true)
def g_ref32_Same (n:Nat) (a0a:GTf) (a1b:GTf):Option Bool :=
 (cond (!eqS a0a.Name a1b.Name)
  (some true)
  (some (!eqI (lenI (List.map GAr.cs a0a.Articles)) (lenI (List.map GAr.cs a1b.Articles))))).bind fun j1 =>
 cond j1
  (some false)
  (loopN (fun recl3 l3=>g_ref32_Same_l3 a0a a1b recl3 l3) n 0)
theorem g_ref32_Same_ok (n:Nat) (a0a:GTf) (a1b:GTf):∀ r,g_ref32_Same n a0a a1b=some r→PCall Tryz.prog 21 [ag (GTf.cs a0a),ag (GTf.cs a1b)] (.ret (B r)):=by
 refine pcall_sim (X:=fun r:Bool=>AEnd.ret (B r)) Tryz.func21 rfl Tryz.ntmps21 rfl ?_
 unfold g_ref32_Same
 refine sR tfm ⟨[2,3],[2,3],[],[]⟩ ⟨[(2, .ptr 2 0),(3, .ptr 3 0)],[(2, .box 27 (bxc (GTf.cs a0a))),(3, .box 27 (bxc (GTf.cs a1b)))]⟩ krf (sS (sim_bind (fun j1=>⟨[(2, .ptr 2 0),(3, .ptr 3 0),(19,B j1)],[(2, .box 27 (bxc (GTf.cs a0a))),(3, .box 27 (bxc (GTf.cs a1b)))]⟩:Bool→St) ?_ ?_))
 ·refine sG (xR 6 krf ?_)
  refine xS (!eqS a0a.Name a1b.Name) (fun h2=>?_) (fun h2=>?_)
  ·refine xN (want_ft krf h2) krf (xR 7 krf (xE ?_))
   exact nq_n true ⟨[2,3,19],[2,3],[],[]⟩ krf
  ·refine xO (want_ff krf h2) krf (xR 7 krf (xE ?_))
   exact nq_n (!eqI (lenI (mAr a0a.Articles)) (lenI (mAr a1b.Articles))) ⟨[2,3,19],[2,3],[],[]⟩ krf
 ·rintro j1
  refine sC j1 krf ?_ ?_
  ·refine sR tfm ⟨[4],[],[],[]⟩ ⟨[(4,B false)],[]⟩ krf (sT (sq_r ?_))
   exact qR (.id) krf krf krf
  ·refine sK (sN ⟨[2,3],[2,3],[],[]⟩ ⟨[(2, .ptr 2 0),(3, .ptr 3 0)],[(2, .box 27 (bxc (GTf.cs a0a))),(3, .box 27 (bxc (GTf.cs a1b)))]⟩ krf (sS (sR tfm ⟨[2,3,5],[2,3],[],[]⟩ ⟨[(2, .ptr 2 0),(3, .ptr 3 0),(5,I 0)],[(2, .box 27 (bxc (GTf.cs a0a))),(3, .box 27 (bxc (GTf.cs a1b)))]⟩ krf (sB (sim_loop (fun l3=>⟨[(2, .ptr 2 0),(3, .ptr 3 0),(5,I l3)],[(2, .box 27 (bxc (GTf.cs a0a))),(3, .box 27 (bxc (GTf.cs a1b)))]⟩:Int→St) (weak_shr (K:=⟨[2,3,5],[2,3],[],[]⟩) krf) ?_)))))
   rintro recl3 l3
   show SimE (g_ref32_Same_l3 a0a a1b recl3 l3) _ _ _ _ _ _
   unfold g_ref32_Same_l3
   refine sS (sR tfm ⟨[2,3,5,24],[2,3],[],[]⟩ ⟨[(2, .ptr 2 0),(3, .ptr 3 0),(5,I l3),(24,B (ltI l3 (lenI (mAr a0a.Articles))))],[(2, .box 27 (bxc (GTf.cs a0a))),(3, .box 27 (bxc (GTf.cs a1b)))]⟩ krf (sC (ltI l3 (lenI (mAr a0a.Articles))) krf ?_ ?_))
   ·refine sK (sN ⟨[2,3,5],[2,3],[],[]⟩ ⟨[(2, .ptr 2 0),(3, .ptr 3 0),(5,I l3)],[(2, .box 27 (bxc (GTf.cs a0a))),(3, .box 27 (bxc (GTf.cs a1b)))]⟩ krf (sS (sB (sS (sim_drw tfm rfl (xR 3 krf ?_))))))
    refine xG krf krf (aop_idx (e:=29) (S:=7) (enc:=GAr.cs) (l:=a0a.Articles) (k:=.i64) (n:=l3) (sv:=.p (.sl 7 (mAr a0a.Articles))) rfl krf krf krf krf krf) (fun x4=>?_)
    refine xR 4 krf ?_
    refine xG krf krf (aop_idx (e:=29) (S:=7) (enc:=GAr.cs) (l:=a1b.Articles) (k:=.i64) (n:=l3) (sv:=.p (.sl 7 (mAr a1b.Articles))) rfl krf krf krf krf krf) (fun x5=>?_)
    refine xR 1 krf (xs_u krf krf (aop_neq (xs:=[I x4.Kind,I x4.Days,I x4.From,I x4.To,I x4.Price,I x4.Unit,I x4.Free]) (ys:=[I x5.Kind,I x5.Days,I x5.From,I x5.To,I x5.Price,I x5.Unit,I x5.Free]) (vx:=[.int .i64 x4.Kind, .int .i64 x4.Days, .int .i64 x4.From, .int .i64 x4.To, .int .i64 x4.Price, .int .i64 x4.Unit, .int .i64 x4.Free]) (vy:=[.int .i64 x5.Kind, .int .i64 x5.Days, .int .i64 x5.From, .int .i64 x5.To, .int .i64 x5.Price, .int .i64 x5.Unit, .int .i64 x5.Free]) (b:=(eqI x4.Kind x5.Kind)&&((eqI x4.Days x5.Days)&&((eqI x4.From x5.From)&&((eqI x4.To x5.To)&&((eqI x4.Price x5.Price)&&((eqI x4.Unit x5.Unit)&&((eqI x4.Free x5.Free)&&true))))))) rfl krf krf krf krf krf krf) (xs_endD krf (sN ⟨[2,3,5,37],[2,3],[],[]⟩ ⟨[(2, .ptr 2 0),(3, .ptr 3 0),(5,I l3),(37,B (!opq ((eqI x4.Kind x5.Kind)&&((eqI x4.Days x5.Days)&&((eqI x4.From x5.From)&&((eqI x4.To x5.To)&&((eqI x4.Price x5.Price)&&((eqI x4.Unit x5.Unit)&&((eqI x4.Free x5.Free)&&true)))))))))],[(2, .box 27 (bxc (GTf.cs a0a))),(3, .box 27 (bxc (GTf.cs a1b)))]⟩ krf (sC (!opq ((eqI x4.Kind x5.Kind)&&((eqI x4.Days x5.Days)&&((eqI x4.From x5.From)&&((eqI x4.To x5.To)&&((eqI x4.Price x5.Price)&&((eqI x4.Unit x5.Unit)&&((eqI x4.Free x5.Free)&&true)))))))) krf ?_ ?_))))
    ·refine sR tfm ⟨[4],[],[],[]⟩ ⟨[(4,B false)],[]⟩ krf (sT (bq_r (sq_r (kq_r (bq_r (sq_r ?_))))))
     exact qR (.id) krf krf krf
    ·refine sK (bq_n (sN ⟨[2,3,5],[2,3],[],[]⟩ ⟨[(2, .ptr 2 0),(3, .ptr 3 0),(5,I l3)],[(2, .box 27 (bxc (GTf.cs a0a))),(3, .box 27 (bxc (GTf.cs a1b)))]⟩ krf (sL tfm krf ?_)))
     exact kq_n (wi (l3+1)) ⟨[2,3,5],[2,3],[],[]⟩ krf
   ·refine sim_exit (sq_x (kq_x (bq_hit (sN ⟨[],[],[],[]⟩ ⟨[],[]⟩ krf (sR tfm ⟨[4],[],[],[]⟩ ⟨[(4,B true)],[]⟩ krf (sT ?_))))))
    exact qR (.id) krf krf krf
def g_law32_is (n:Nat) (a0z:List UInt8) (a1a:GAr):Option Bool :=
 (g_law32_builds n a0z).bind fun r1 =>
 cond r1.2.2
  (cond (eqI (lenI (List.map GDg.cs r1.2.1)) 0)
   (cond (eqI (lenI (List.map GTf.cs r1.1)) 1)
    ((getI r1.1 0).bind fun x5 =>
    (g_ref32_Same n x5 (⟨[116],[a1a]⟩:GTf)).bind fun r6 =>
    some r6)
    (some false))
   (some false))
  (some false)
theorem g_law32_is_ok (n:Nat) (a0z:List UInt8) (a1a:GAr):∀ r,g_law32_is n a0z a1a=some r→PCall Tryz.prog 24 [S a0z,ag (GAr.cs a1a)] (.ret (B r)):=by
 refine pcall_sim (X:=fun r:Bool=>AEnd.ret (B r)) Tryz.func24 rfl Tryz.ntmps24 rfl ?_
 unfold g_law32_is
 refine sR tfm ⟨[0,3],[3],[],[]⟩ ⟨[(0,S a0z),(3, .ptr 3 0)],[(3, .box 29 (bxc (GAr.cs a1a)))]⟩ krf (sS (sG (xR 1 krf ?_)))
 refine xC [] krf (g_law32_builds_ok n a0z) krf krf (fun _=>by kernel_rfl) (fun r1=>?_)
 refine xR 7 krf (xE (sN ⟨[3,5,6,7],[3],[],[]⟩ ⟨[(3, .ptr 3 0),(5, .p (.sl 2 (mTf r1.1))),(6, .p (.sl 2 (mDg r1.2.1))),(7,B r1.2.2)],[(3, .box 29 (bxc (GAr.cs a1a)))]⟩ krf (sS (sim_drw tfm rfl (xR 2 krf ?_)))))
 refine xS r1.2.2 (fun h2=>?_) (fun h2=>?_)
 ·refine xO (want_tt krf h2) krf (xR 4 krf ?_)
  refine xS (eqI (lenI (mDg r1.2.1)) 0) (fun h3=>?_) (fun h3=>?_)
  ·refine xO (want_tt krf h3) krf (xR 4 krf ?_)
   refine xS (eqI (lenI (mTf r1.1)) 1) (fun h4=>?_) (fun h4=>?_)
   ·refine xO (want_tt krf h4) krf ?_
    refine xG krf krf (aop_idx (e:=27) (S:=2) (enc:=GTf.cs) (l:=r1.1) (k:=.i64) (n:=0) (sv:=.p (.sl 2 (mTf r1.1))) rfl krf krf krf krf krf) (fun x5=>?_)
    refine xR 4 krf ?_
    refine xC [.id, .agg [.id, .sl 7]] krf (g_ref32_Same_ok n x5 (⟨[116],[a1a]⟩:GTf)) krf krf (fun _=>by kernel_rfl) (fun r6=>?_)
    refine xR 2 krf (xs_endD krf (sN ⟨[4],[],[],[]⟩ ⟨[(4,B r6)],[]⟩ krf (sT ?_)))
    exact qR (.id) krf krf krf
   ·refine xN (want_tf krf h4) krf (xR 8 krf (xs_endD krf (sN ⟨[4],[],[],[]⟩ ⟨[(4,B false)],[]⟩ krf (sT ?_))))
    exact qR (.id) krf krf krf
  ·refine xN (want_tf krf h3) krf (xR 13 krf (xs_endD krf (sN ⟨[4],[],[],[]⟩ ⟨[(4,B false)],[]⟩ krf (sT ?_))))
   exact qR (.id) krf krf krf
 ·refine xN (want_tf krf h2) krf (xR 18 krf (xs_endD krf (sN ⟨[4],[],[],[]⟩ ⟨[(4,B false)],[]⟩ krf (sT ?_))))
  exact qR (.id) krf krf krf
def g_ref02_SameDiags_l1 (a0a:List GDg) (a1b:List GDg) (recl1:Int→Option Bool) (l1:Int):Option Bool :=
 cond (ltI l1 (lenI (List.map GDg.cs a0a)))
  ((getI a0a l1).bind fun x2 =>
  (getI a1b l1).bind fun x3 =>
  cond (!opq ((eqI x2.Err x3.Err)&&((eqI x2.At x3.At)&&true)))
   (some false)
   (recl1 (wi (l1+1))))
  (some true)
def g_ref02_SameDiags (n:Nat) (a0a:List GDg) (a1b:List GDg):Option Bool :=
 cond (!eqI (lenI (List.map GDg.cs a0a)) (lenI (List.map GDg.cs a1b)))
  (some false)
  (loopN (fun recl1 l1=>g_ref02_SameDiags_l1 a0a a1b recl1 l1) n 0)
theorem g_ref02_SameDiags_ok (n:Nat) (a0a:List GDg) (a1b:List GDg):∀ r,g_ref02_SameDiags n a0a a1b=some r→PCall Tryz.prog 14 [.p (.sl 2 (mDg a0a)), .p (.sl 2 (mDg a1b))] (.ret (B r)):=by
 refine pcall_sim (X:=fun r:Bool=>AEnd.ret (B r)) Tryz.func14 rfl Tryz.ntmps14 rfl ?_
 unfold g_ref02_SameDiags
 refine sR tfm ⟨[0,1],[],[],[]⟩ ⟨[(0, .p (.sl 2 (mDg a0a))),(1, .p (.sl 2 (mDg a1b)))],[]⟩ krf (sS (sR tfm ⟨[0,1,10],[],[],[]⟩ ⟨[(0, .p (.sl 2 (mDg a0a))),(1, .p (.sl 2 (mDg a1b))),(10,B (!eqI (lenI (mDg a0a)) (lenI (mDg a1b))))],[]⟩ krf (sC (!eqI (lenI (mDg a0a)) (lenI (mDg a1b))) krf ?_ ?_)))
 ·refine sR tfm ⟨[4],[],[],[]⟩ ⟨[(4,B false)],[]⟩ krf (sT (sq_r ?_))
  exact qR (.id) krf krf krf
 ·refine sK (sN ⟨[0,1],[],[],[]⟩ ⟨[(0, .p (.sl 2 (mDg a0a))),(1, .p (.sl 2 (mDg a1b)))],[]⟩ krf (sS (sR tfm ⟨[0,1,5],[],[],[]⟩ ⟨[(0, .p (.sl 2 (mDg a0a))),(1, .p (.sl 2 (mDg a1b))),(5,I 0)],[]⟩ krf (sB (sim_loop (fun l1=>⟨[(0, .p (.sl 2 (mDg a0a))),(1, .p (.sl 2 (mDg a1b))),(5,I l1)],[]⟩:Int→St) (weak_shr (K:=⟨[0,1,5],[],[],[]⟩) krf) ?_)))))
  rintro recl1 l1
  show SimE (g_ref02_SameDiags_l1 a0a a1b recl1 l1) _ _ _ _ _ _
  unfold g_ref02_SameDiags_l1
  refine sS (sR tfm ⟨[0,1,5,14],[],[],[]⟩ ⟨[(0, .p (.sl 2 (mDg a0a))),(1, .p (.sl 2 (mDg a1b))),(5,I l1),(14,B (ltI l1 (lenI (mDg a0a))))],[]⟩ krf (sC (ltI l1 (lenI (mDg a0a))) krf ?_ ?_))
  ·refine sK (sN ⟨[0,1,5],[],[],[]⟩ ⟨[(0, .p (.sl 2 (mDg a0a))),(1, .p (.sl 2 (mDg a1b))),(5,I l1)],[]⟩ krf (sS (sB (sS (sim_drw tfm rfl (xR 2 krf ?_))))))
   refine xG krf krf (aop_idx (e:=56) (S:=2) (enc:=GDg.cs) (l:=a0a) (k:=.i64) (n:=l1) (sv:=.p (.sl 2 (mDg a0a))) rfl krf krf krf krf krf) (fun x2=>?_)
   refine xR 3 krf ?_
   refine xG krf krf (aop_idx (e:=56) (S:=2) (enc:=GDg.cs) (l:=a1b) (k:=.i64) (n:=l1) (sv:=.p (.sl 2 (mDg a1b))) rfl krf krf krf krf krf) (fun x3=>?_)
   refine xR 1 krf (xs_u krf krf (aop_neq (xs:=[I x2.Err,I x2.At]) (ys:=[I x3.Err,I x3.At]) (vx:=[.int .i64 x2.Err, .int .i64 x2.At]) (vy:=[.int .i64 x3.Err, .int .i64 x3.At]) (b:=(eqI x2.Err x3.Err)&&((eqI x2.At x3.At)&&true)) rfl krf krf krf krf krf krf) (xs_endD krf (sN ⟨[0,1,5,25],[],[],[]⟩ ⟨[(0, .p (.sl 2 (mDg a0a))),(1, .p (.sl 2 (mDg a1b))),(5,I l1),(25,B (!opq ((eqI x2.Err x3.Err)&&((eqI x2.At x3.At)&&true))))],[]⟩ krf (sC (!opq ((eqI x2.Err x3.Err)&&((eqI x2.At x3.At)&&true))) krf ?_ ?_))))
   ·refine sR tfm ⟨[4],[],[],[]⟩ ⟨[(4,B false)],[]⟩ krf (sT (bq_r (sq_r (kq_r (bq_r (sq_r ?_))))))
    exact qR (.id) krf krf krf
   ·refine sK (bq_n (sN ⟨[0,1,5],[],[],[]⟩ ⟨[(0, .p (.sl 2 (mDg a0a))),(1, .p (.sl 2 (mDg a1b))),(5,I l1)],[]⟩ krf (sL tfm krf ?_)))
    exact kq_n (wi (l1+1)) ⟨[0,1,5],[],[],[]⟩ krf
  ·refine sim_exit (sq_x (kq_x (bq_hit (sN ⟨[],[],[],[]⟩ ⟨[],[]⟩ krf (sR tfm ⟨[4],[],[],[]⟩ ⟨[(4,B true)],[]⟩ krf (sT ?_))))))
   exact qR (.id) krf krf krf
def g_law32_fails (n:Nat) (a0z:List UInt8) (a1e:Int) (a2at:Int):Option Bool :=
 (g_law32_builds n a0z).bind fun r1 =>
 cond r1.2.2
  (cond (eqI (lenI (List.map GTf.cs r1.1)) 0)
   ((g_ref02_SameDiags n r1.2.1 [(⟨a1e,a2at⟩:GDg)]).bind fun r4 =>
   some r4)
   (some false))
  (some false)
theorem g_law32_fails_ok (n:Nat) (a0z:List UInt8) (a1e:Int) (a2at:Int):∀ r,g_law32_fails n a0z a1e a2at=some r→PCall Tryz.prog 25 [S a0z,I a1e,I a2at] (.ret (B r)):=by
 refine pcall_sim (X:=fun r:Bool=>AEnd.ret (B r)) Tryz.func25 rfl Tryz.ntmps25 rfl ?_
 unfold g_law32_fails
 refine sR tfm ⟨[0,1,2],[],[],[]⟩ ⟨[(0,S a0z),(1,I a1e),(2,I a2at)],[]⟩ krf (sS (sG (xR 1 krf ?_)))
 refine xC [] krf (g_law32_builds_ok n a0z) krf krf (fun _=>by kernel_rfl) (fun r1=>?_)
 refine xR 7 krf (xE (sN ⟨[1,2,7,8,9],[],[],[]⟩ ⟨[(1,I a1e),(2,I a2at),(7, .p (.sl 2 (mTf r1.1))),(8, .p (.sl 2 (mDg r1.2.1))),(9,B r1.2.2)],[]⟩ krf (sS (sG (xR 2 krf ?_)))))
 refine xS r1.2.2 (fun h2=>?_) (fun h2=>?_)
 ·refine xO (want_tt krf h2) krf (xR 4 krf ?_)
  refine xS (eqI (lenI (mTf r1.1)) 0) (fun h3=>?_) (fun h3=>?_)
  ·refine xO (want_tt krf h3) krf (xR 4 krf ?_)
   refine xC [.id, .sl 2] krf (g_ref02_SameDiags_ok n r1.2.1 [(⟨a1e,a2at⟩:GDg)]) krf krf (fun _=>by kernel_rfl) (fun r4=>?_)
   refine xR 2 krf (xE (sN ⟨[6],[],[],[]⟩ ⟨[(6,B r4)],[]⟩ krf (sT ?_)))
   exact qR (.id) krf krf krf
  ·refine xN (want_tf krf h3) krf (xR 7 krf (xE (sN ⟨[6],[],[],[]⟩ ⟨[(6,B false)],[]⟩ krf (sT ?_))))
   exact qR (.id) krf krf krf
 ·refine xN (want_tf krf h2) krf (xR 12 krf (xE (sN ⟨[6],[],[],[]⟩ ⟨[(6,B false)],[]⟩ krf (sT ?_))))
  exact qR (.id) krf krf krf
def g_days_inside (n:Nat) (a0n:Int) (a1least:Int) (a2greatest:Int):Option Bool :=
 cond (leI a1least a0n)
  (some (leI a0n a2greatest))
  (some false)
theorem g_days_inside_ok (n:Nat) (a0n:Int) (a1least:Int) (a2greatest:Int):∀ r,g_days_inside n a0n a1least a2greatest=some r→PCall Tryz.prog 54 [I a0n,I a1least,I a2greatest] (.ret (B r)):=by
 refine pcall_sim (X:=fun r:Bool=>AEnd.ret (B r)) Tryz.func54 rfl Tryz.ntmps54 rfl ?_
 unfold g_days_inside
 refine sR tfm ⟨[0,1,2],[],[],[]⟩ ⟨[(0,I a0n),(1,I a1least),(2,I a2greatest)],[]⟩ krf (sS (sG (xR 4 krf ?_)))
 refine xS (leI a1least a0n) (fun h1=>?_) (fun h1=>?_)
 ·refine xO (want_tt krf h1) krf (xR 4 krf (xE (sN ⟨[6],[],[],[]⟩ ⟨[(6,B (leI a0n a2greatest))],[]⟩ krf (sT ?_))))
  exact qR (.id) krf krf krf
 ·refine xN (want_tf krf h1) krf (xR 4 krf (xE (sN ⟨[6],[],[],[]⟩ ⟨[(6,B false)],[]⟩ krf (sT ?_))))
  exact qR (.id) krf krf krf
def g_days_keys_1 (n:Nat) (a0c:GCh):Option Int :=
 some a0c.At
theorem g_days_keys_1_ok (n:Nat) (a0c:GCh):∀ r,g_days_keys_1 n a0c=some r→PCall Tryz.prog 76 [ag (GCh.cs a0c)] (.ret (I r)):=by
 refine pcall_sim (X:=fun r:Int=>AEnd.ret (I r)) Tryz.func76 rfl Tryz.ntmps76 rfl ?_
 unfold g_days_keys_1
 refine sR tfm ⟨[1],[1],[],[]⟩ ⟨[(1, .ptr 1 0)],[(1, .box 89 (bxc (GCh.cs a0c)))]⟩ krf (sR tfm ⟨[2],[],[],[]⟩ ⟨[(2,I a0c.At)],[]⟩ krf (sT ?_))
 exact qR (.id) krf krf krf
def g_dv_api_Change_l1 (n:Nat) (a0list:List GCh) (a1most:Int) (recl1:(Int × Int)→Option Bool) (l1_1:Int) (l1_2:Int):Option Bool :=
 cond (ltI l1_2 (lenI (List.map GCh.cs a0list)))
  ((getI a0list l1_2).bind fun x2 =>
  (g_days_keys_1 n x2).bind fun r3 =>
  (cond (leI r3 l1_1)
   (some true)
   (some (ltI a1most r3))).bind fun j4 =>
  cond j4
   (some false)
   ((g_days_keys_1 n x2).bind fun r6 =>
   recl1 (r6,wi (l1_2+1))))
  (some true)
def g_dv_api_Change (n:Nat) (a0list:List GCh) (a1most:Int):Option Bool :=
 loopN (fun recl1 (l1_1,l1_2)=>g_dv_api_Change_l1 n a0list a1most recl1 l1_1 l1_2) n ((-1),0)
theorem g_dv_api_Change_ok (n:Nat) (a0list:List GCh) (a1most:Int):∀ r,g_dv_api_Change n a0list a1most=some r→PCall Tryz.prog 74 [.p (.sl 2 (mCh a0list)),I a1most, .p (.val (.func (.func 76) #[] #[]))] (.ret (B r)):=by
 refine pcall_sim (X:=fun r:Bool=>AEnd.ret (B r)) Tryz.func74 rfl Tryz.ntmps74 rfl ?_
 unfold g_dv_api_Change
 refine sR tfm ⟨[0,1,2],[],[],[]⟩ ⟨[(0, .p (.sl 2 (mCh a0list))),(1,I a1most),(2, .p (.val (.func (.func 76) #[] #[])))],[]⟩ krf (sR tfm ⟨[0,1,2,7],[],[],[]⟩ ⟨[(0, .p (.sl 2 (mCh a0list))),(1,I a1most),(2, .p (.val (.func (.func 76) #[] #[]))),(7,I (-1))],[]⟩ krf (sS (sR tfm ⟨[1,2,7,11,12,13],[],[],[]⟩ ⟨[(1,I a1most),(2, .p (.val (.func (.func 76) #[] #[]))),(7,I (-1)),(11, .p (.sl 2 (mCh a0list))),(12,I (lenI (mCh a0list))),(13,I 0)],[]⟩ krf (sB (sim_loop (fun (l1_1,l1_2)=>⟨[(1,I a1most),(2, .p (.val (.func (.func 76) #[] #[]))),(7,I l1_1),(11, .p (.sl 2 (mCh a0list))),(12,I (lenI (mCh a0list))),(13,I l1_2)],[]⟩:(Int × Int)→St) (weak_shr (K:=⟨[1,2,7,11,12,13],[],[],[]⟩) krf) ?_)))))
 rintro recl1 ⟨l1_1,l1_2⟩
 show SimE (g_dv_api_Change_l1 n a0list a1most recl1 l1_1 l1_2) _ _ _ _ _ _
 unfold g_dv_api_Change_l1
 refine sR tfm ⟨[1,2,7,11,12,13,14],[],[],[]⟩ ⟨[(1,I a1most),(2, .p (.val (.func (.func 76) #[] #[]))),(7,I l1_1),(11, .p (.sl 2 (mCh a0list))),(12,I (lenI (mCh a0list))),(13,I l1_2),(14,B (ltI l1_2 (lenI (mCh a0list))))],[]⟩ krf (sS (sC (ltI l1_2 (lenI (mCh a0list))) krf ?_ ?_))
 ·refine sK (sN ⟨[1,2,7,11,12,13],[],[],[]⟩ ⟨[(1,I a1most),(2, .p (.val (.func (.func 76) #[] #[]))),(7,I l1_1),(11, .p (.sl 2 (mCh a0list))),(12,I (lenI (mCh a0list))),(13,I l1_2)],[]⟩ krf (sS (sB (sS (sG ?_)))))
  refine xG krf krf (aop_idx (e:=89) (S:=2) (enc:=GCh.cs) (l:=a0list) (k:=.i64) (n:=l1_2) (sv:=.p (.sl 2 (mCh a0list))) rfl krf krf krf krf krf) (fun x2=>?_)
  refine xR 3 krf (xE (sN ⟨[1,2,7,9,11,12,13],[9],[],[]⟩ ⟨[(1,I a1most),(2, .p (.val (.func (.func 76) #[] #[]))),(7,I l1_1),(9, .ptr 9 0),(11, .p (.sl 2 (mCh a0list))),(12,I (lenI (mCh a0list))),(13,I l1_2)],[(9, .box 89 (bxc (GCh.cs x2)))]⟩ krf (sS (sS (sG (xR 2 krf ?_))))))
  refine xC [] krf (g_days_keys_1_ok n x2) krf krf (fun _=>by kernel_rfl) (fun r3=>?_)
  refine xR 1 krf (xE (sN ⟨[1,2,7,9,10,11,12,13],[9],[],[]⟩ ⟨[(1,I a1most),(2, .p (.val (.func (.func 76) #[] #[]))),(7,I l1_1),(9, .ptr 9 0),(10,I r3),(11, .p (.sl 2 (mCh a0list))),(12,I (lenI (mCh a0list))),(13,I l1_2)],[(9, .box 89 (bxc (GCh.cs x2)))]⟩ krf (sim_bind (fun j4=>⟨[(1,I a1most),(2, .p (.val (.func (.func 76) #[] #[]))),(9, .ptr 9 0),(11, .p (.sl 2 (mCh a0list))),(12,I (lenI (mCh a0list))),(13,I l1_2),(27,B j4)],[(9, .box 89 (bxc (GCh.cs x2)))]⟩:Bool→St) ?_ ?_)))
  ·refine sG (xR 4 krf ?_)
   refine xS (leI r3 l1_1) (fun h5=>?_) (fun h5=>?_)
   ·refine xN (want_ft krf h5) krf (xR 3 krf (xE ?_))
    exact nq_n true ⟨[1,2,9,11,12,13,27],[9],[],[]⟩ krf
   ·refine xO (want_ff krf h5) krf (xR 3 krf (xE ?_))
    exact nq_n (ltI a1most r3) ⟨[1,2,9,11,12,13,27],[9],[],[]⟩ krf
  ·rintro j4
   refine sC j4 krf ?_ ?_
   ·refine sR tfm ⟨[6],[],[],[]⟩ ⟨[(6,B false)],[]⟩ krf (sT (sq_r (bq_r (sq_r (kq_r (bq_r (sq_r ?_)))))))
    exact qR (.id) krf krf krf
   ·refine sK (sN ⟨[1,2,9,11,12,13],[9],[],[]⟩ ⟨[(1,I a1most),(2, .p (.val (.func (.func 76) #[] #[]))),(9, .ptr 9 0),(11, .p (.sl 2 (mCh a0list))),(12,I (lenI (mCh a0list))),(13,I l1_2)],[(9, .box 89 (bxc (GCh.cs x2)))]⟩ krf (sG (xR 2 krf ?_)))
    refine xC [] krf (g_days_keys_1_ok n x2) krf krf (fun _=>by kernel_rfl) (fun r6=>?_)
    refine xR 1 krf (xE (bq_n (sN ⟨[1,2,7,11,12,13],[],[],[]⟩ ⟨[(1,I a1most),(2, .p (.val (.func (.func 76) #[] #[]))),(7,I r6),(11, .p (.sl 2 (mCh a0list))),(12,I (lenI (mCh a0list))),(13,I l1_2)],[]⟩ krf (sL tfm krf ?_))))
    exact kq_n (r6,wi (l1_2+1)) ⟨[1,2,7,11,12,13],[],[],[]⟩ krf
 ·refine sim_exit (sq_x (kq_x (bq_hit (sN ⟨[],[],[],[]⟩ ⟨[],[]⟩ krf (sR tfm ⟨[6],[],[],[]⟩ ⟨[(6,B true)],[]⟩ krf (sT ?_))))))
  exact qR (.id) krf krf krf
def g_days_keys_2 (n:Nat) (a0day:Int):Option Int :=
 some a0day
theorem g_days_keys_2_ok (n:Nat) (a0day:Int):∀ r,g_days_keys_2 n a0day=some r→PCall Tryz.prog 77 [I a0day] (.ret (I r)):=by
 refine pcall_sim (X:=fun r:Int=>AEnd.ret (I r)) Tryz.func77 rfl Tryz.ntmps77 rfl ?_
 unfold g_days_keys_2
 refine sR tfm ⟨[0],[],[],[]⟩ ⟨[(0,I a0day)],[]⟩ krf (sR tfm ⟨[2],[],[],[]⟩ ⟨[(2,I a0day)],[]⟩ krf (sT ?_))
 exact qR (.id) krf krf krf
def g_dv_int_l1 (n:Nat) (a0list:List Int) (a1most:Int) (recl1:(Int × Int)→Option Bool) (l1_1:Int) (l1_2:Int):Option Bool :=
 cond (ltI l1_2 (lenI (List.map ci a0list)))
  ((getI a0list l1_2).bind fun x2 =>
  (g_days_keys_2 n x2).bind fun r3 =>
  (cond (leI r3 l1_1)
   (some true)
   (some (ltI a1most r3))).bind fun j4 =>
  cond j4
   (some false)
   ((g_days_keys_2 n x2).bind fun r6 =>
   recl1 (r6,wi (l1_2+1))))
  (some true)
def g_dv_int (n:Nat) (a0list:List Int) (a1most:Int):Option Bool :=
 loopN (fun recl1 (l1_1,l1_2)=>g_dv_int_l1 n a0list a1most recl1 l1_1 l1_2) n ((-1),0)
end Go.Proofs
