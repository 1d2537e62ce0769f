/-
  A part of the proof of a statement of the seat Ytniaojaeacgpoaa.
-/
import Derived.Test.YtniaojaeacgpoaaJof03
namespace Go.Proofs
open Go Go.Abs
set_option maxRecDepth 100000
set_option linter.unusedVariables false
theorem g_p_reader_item_ok (n:Nat) (a0r:GPr):∀ r,g_p_reader_item n a0r=some r→ACall Try.prog 46 [.ptr 1000 0] (Go.Abs.look [(1000, .box 53 [.p (.sl 4 (mTk a0r.tokens)),I a0r.pos,I a0r.length, .tsl 2 (mDg a0r.diags) 1103]),(1103, .arr 41 2 (mDg a0r.diags).length)]) (heapR (excX (fun r:GNode × GPr=>((.ret (ag (GNode.cs r.1)),[(1000, .box 53 [.p (.sl 4 (mTk r.2.tokens)),I r.2.pos,I r.2.length, .tsl 2 (mDg r.2.diags) 1103]),(1103, .arr 41 2 (mDg r.2.diags).length)]):AEnd × List (Nat × Blk))) (fun e:Int × GPr=>((.panic (.ifc 97 (.agg [I e.1])),[(1000, .box 53 [.p (.sl 4 (mTk e.2.tokens)),I e.2.pos,I e.2.length, .tsl 2 (mDg e.2.diags) 1103]),(1103, .arr 41 2 (mDg e.2.diags).length)]):AEnd × List (Nat × Blk)))) r):=by
 refine acall_sim (X:=excX (fun r:GNode × GPr=>((.ret (ag (GNode.cs r.1)),[(1000, .box 53 [.p (.sl 4 (mTk r.2.tokens)),I r.2.pos,I r.2.length, .tsl 2 (mDg r.2.diags) 1103]),(1103, .arr 41 2 (mDg r.2.diags).length)]):AEnd × List (Nat × Blk))) (fun e:Int × GPr=>((.panic (.ifc 97 (.agg [I e.1])),[(1000, .box 53 [.p (.sl 4 (mTk e.2.tokens)),I e.2.pos,I e.2.length, .tsl 2 (mDg e.2.diags) 1103]),(1103, .arr 41 2 (mDg e.2.diags).length)]):AEnd × List (Nat × Blk)))) [(1000, .box 53 [.p (.sl 4 (mTk a0r.tokens)),I a0r.pos,I a0r.length, .tsl 2 (mDg a0r.diags) 1103]),(1103, .arr 41 2 (mDg a0r.diags).length)] Try.func46 rfl Try.ntmps46 rfl ?_
 unfold g_p_reader_item
 refine sR tfm ⟨[1,2],[1,2,1000,1103],[],[]⟩ ⟨[(1, .ptr 1 0),(2, .ptr 2 0)],[(1, .box 51 [.ptr 1000 0]),(2, .box 24 [I 0,S [],I 0,I 0,zS]),(1000, .box 53 [.p (.sl 4 (mTk a0r.tokens)),I a0r.pos,I a0r.length, .tsl 2 (mDg a0r.diags) 1103]),(1103, .arr 41 2 (mDg a0r.diags).length)]⟩ krf (sS (sP ⟨[1,2],[1,2,1000,1103],[],[]⟩ ⟨[(1, .ptr 1 0),(2, .ptr 2 0)],[(1, .box 51 [.ptr 1000 0]),(2, .box 24 [I 0,S [],I 0,I 0,zS]),(1000, .box 53 [.p (.sl 4 (mTk a0r.tokens)),I a0r.pos,I a0r.length, .tsl 2 (mDg a0r.diags) 1103]),(1103, .arr 41 2 (mDg a0r.diags).length)]⟩ krf (sim_hstF [0] 3 3 [1,2,3,4] tfm rfl krf krf (lates_cons (late_read (.ptr 1000 0) krf rfl) (lates_nil)) krf (f_enter (f:=68) (args:=[.p (.val (.func (.func 69) #[] #[]))]) (dst:=some 9) krf krf rfl (sc_inline (hc:=[]) (args':=[.p (.val (.func (.func 69) #[] #[]))]) [(1,401)] [] [] Try.func68 rfl Try.ntmps68 rfl krf krf krf (sR tfm ⟨[1],[1],[],[]⟩ ⟨[(1, .ptr 1 0)],[(1, .box 35 [.p (.val (.func (.func 69) #[] #[]))])]⟩ krf (sR tfm ⟨[2],[1],[],[]⟩ ⟨[(2, .fn (.func 88) [] [.ptr 1 0])],[(1, .box 35 [.p (.val (.func (.func 69) #[] #[]))])]⟩ krf ?_)))))))
 refine sT (iq_ret (.id) [1] [] (.fn (.func 88) [] [.ptr 1 0]) krf krf (kf [0] krf (lates_cons (late_read (.ptr 1000 0) krf rfl) (lates_nil)) krf (f_enter (f:=67) (args:=[.ptr 1000 0, .fn (.func 88) [] [.ptr 401 0]]) (dst:=some 10) krf krf rfl (sc_inline (hc:=[(1000, .box 35 [.p (.val (.func (.func 69) #[] #[]))]),(1001, .box 53 [.p (.sl 4 (mTk a0r.tokens)),I a0r.pos,I a0r.length, .tsl 2 (mDg a0r.diags) 1002]),(1002, .arr 41 2 (mDg a0r.diags).length)]) (args':=[.ptr 1001 0, .fn (.func 88) [] [.ptr 1000 0]]) [(1000,401),(1001,1000),(1002,1103)] [] [] Try.func67 rfl Try.ntmps67 rfl krf krf krf (sR tfm ⟨[0,1,4],[4,1000,1001,1002],[],[]⟩ ⟨[(0, .ptr 1001 0),(1, .fn (.func 88) [] [.ptr 1000 0]),(4, .ptr 4 0)],[(4, .box 56 [I 0,S [],I 0,I 0]),(1000, .box 35 [.p (.val (.func (.func 69) #[] #[]))]),(1001, .box 53 [.p (.sl 4 (mTk a0r.tokens)),I a0r.pos,I a0r.length, .tsl 2 (mDg a0r.diags) 1002]),(1002, .arr 41 2 (mDg a0r.diags).length)]⟩ krf (sS (sG ?_)))))))
 refine xR 1 krf ?_
 refine xs_ro [.ro [.id, .id, .id, .sl 2]] krf (g_p_reader_peek_2_ok n a0r) krf krf (fun _=>by kernel_rfl) (fun r1=>?_)
 refine xR 2 krf (xE (sN ⟨[0,1,4,5],[4,5,1000,1001,1002],[],[]⟩ ⟨[(0, .ptr 1001 0),(1, .fn (.func 88) [] [.ptr 1000 0]),(4, .ptr 4 0),(5, .ptr 5 0)],[(4, .box 56 [I 0,S [],I 0,I 0]),(5, .box 56 (bxc (GTk.cs r1))),(1000, .box 35 [.p (.val (.func (.func 69) #[] #[]))]),(1001, .box 53 [.p (.sl 4 (mTk a0r.tokens)),I a0r.pos,I a0r.length, .tsl 2 (mDg a0r.diags) 1002]),(1002, .arr 41 2 (mDg a0r.diags).length)]⟩ krf (sim_cps (fun _=>⟨[(0, .ptr 1001 0),(4, .ptr 4 0),(5, .ptr 5 0)],[(4, .box 56 [I 0,S [],I 0,I 0]),(5, .box 56 (bxc (GTk.cs r1))),(1000, .box 35 [.p (.val (.func (.func 69) #[] #[]))]),(1001, .box 53 [.p (.sl 4 (mTk a0r.tokens)),I a0r.pos,I a0r.length, .tsl 2 (mDg a0r.diags) 1002]),(1002, .arr 41 2 (mDg a0r.diags).length)]⟩:Unit→St) (fun _=>g_p_reader_item_j2 n a0r r1) ?_ ?_)))
 ·rintro _
  show SimE (g_p_reader_item_j2 n a0r r1) _ _ _ _ _ _
  unfold g_p_reader_item_j2
  refine sR tfm ⟨[4,5],[4,5,1000,1001,1002],[],[]⟩ ⟨[(4, .ptr 4 0),(5, .ptr 5 0)],[(4, .box 56 [I 0,S [],I 0,I 0]),(5, .box 56 (bxc (GTk.cs r1))),(1000, .box 35 [.p (.val (.func (.func 69) #[] #[]))]),(1001, .box 53 [.p (.sl 4 (mTk a0r.tokens)),I (wi (a0r.pos+1)),I a0r.length, .tsl 2 (mDg a0r.diags) 1002]),(1002, .arr 41 2 (mDg a0r.diags).length)]⟩ krf (sR tfm ⟨[4],[4,1000,1001,1002],[],[]⟩ ⟨[(4, .ptr 4 0)],[(4, .box 56 (bxc (GTk.cs r1))),(1000, .box 35 [.p (.val (.func (.func 69) #[] #[]))]),(1001, .box 53 [.p (.sl 4 (mTk a0r.tokens)),I (wi (a0r.pos+1)),I a0r.length, .tsl 2 (mDg a0r.diags) 1002]),(1002, .arr 41 2 (mDg a0r.diags).length)]⟩ krf (sT (iq_ret (.id) [1000,1001,1002] [] (.agg [I r1.Kind,S r1.Text,I r1.N,I r1.At]) krf krf (kf [] krf (lates_nil) krf (f_q [0] krf krf (lates_cons (late_read (.ptr 1000 0) krf rfl) (lates_nil)) (f_op [] rfl krf krf (lates_nil) krf (f_end ?_)))))))
  refine sN ⟨[1,2,3],[1,2,3,1000,1103],[],[]⟩ ⟨[(1, .ptr 1 0),(2, .ptr 2 0),(3, .ptr 3 0)],[(1, .box 51 [.ptr 1000 0]),(2, .box 24 [I 0,S [],I 0,I 0,zS]),(3, .box 56 (bxc (GTk.cs r1))),(1000, .box 53 [.p (.sl 4 (mTk a0r.tokens)),I (wi (a0r.pos+1)),I a0r.length, .tsl 2 (mDg a0r.diags) 1103]),(1103, .arr 41 2 (mDg a0r.diags).length)]⟩ krf (sS (sim_hst [0] [0] [(1,[]),(2,[]),(3,[]),(4,[])] tfm rfl krf krf (h_enter (f:=68) (args:=[.p (.val (.func (.func 71) #[] #[]))]) (dst:=some 12) krf krf (sc_inline (hc:=[]) (args':=[.p (.val (.func (.func 71) #[] #[]))]) [(1,401)] [] [] Try.func68 rfl Try.ntmps68 rfl krf krf krf (sR tfm ⟨[1],[1],[],[]⟩ ⟨[(1, .ptr 1 0)],[(1, .box 35 [.p (.val (.func (.func 71) #[] #[]))])]⟩ krf (sR tfm ⟨[2],[1],[],[]⟩ ⟨[(2, .fn (.func 88) [] [.ptr 1 0])],[(1, .box 35 [.p (.val (.func (.func 71) #[] #[]))])]⟩ krf (sT ?_)))))))
  refine iq_ret (.id) [1] [] (.fn (.func 88) [] [.ptr 1 0]) krf krf (kh [0] krf (lates_cons (late_read (.ptr 1000 0) krf rfl) (lates_nil)) krf (h_enter (f:=67) (args:=[.ptr 1000 0, .fn (.func 88) [] [.ptr 401 0]]) (dst:=some 13) krf krf (sc_inline (hc:=[(1000, .box 35 [.p (.val (.func (.func 71) #[] #[]))]),(1001, .box 53 [.p (.sl 4 (mTk a0r.tokens)),I (wi (a0r.pos+1)),I a0r.length, .tsl 2 (mDg a0r.diags) 1002]),(1002, .arr 41 2 (mDg a0r.diags).length)]) (args':=[.ptr 1001 0, .fn (.func 88) [] [.ptr 1000 0]]) [(1000,401),(1001,1000),(1002,1103)] [] [] Try.func67 rfl Try.ntmps67 rfl krf krf krf (sR tfm ⟨[0,1,4],[4,1000,1001,1002],[],[]⟩ ⟨[(0, .ptr 1001 0),(1, .fn (.func 88) [] [.ptr 1000 0]),(4, .ptr 4 0)],[(4, .box 56 [I 0,S [],I 0,I 0]),(1000, .box 35 [.p (.val (.func (.func 71) #[] #[]))]),(1001, .box 53 [.p (.sl 4 (mTk a0r.tokens)),I (wi (a0r.pos+1)),I a0r.length, .tsl 2 (mDg a0r.diags) 1002]),(1002, .arr 41 2 (mDg a0r.diags).length)]⟩ krf (sS (sG (xR 1 krf ?_)))))))
  refine xs_ro [.ro [.id, .id, .id, .sl 2]] krf (g_p_reader_peek_2_ok n (⟨a0r.tokens,wi (a0r.pos+1),a0r.length,a0r.diags⟩:GPr)) krf krf (fun _=>by kernel_rfl) (fun r3=>?_)
  refine xR 2 krf (xE (sN ⟨[0,1,4,5],[4,5,1000,1001,1002],[],[]⟩ ⟨[(0, .ptr 1001 0),(1, .fn (.func 88) [] [.ptr 1000 0]),(4, .ptr 4 0),(5, .ptr 5 0)],[(4, .box 56 [I 0,S [],I 0,I 0]),(5, .box 56 (bxc (GTk.cs r3))),(1000, .box 35 [.p (.val (.func (.func 71) #[] #[]))]),(1001, .box 53 [.p (.sl 4 (mTk a0r.tokens)),I (wi (a0r.pos+1)),I a0r.length, .tsl 2 (mDg a0r.diags) 1002]),(1002, .arr 41 2 (mDg a0r.diags).length)]⟩ krf (sim_cps (fun _=>⟨[(0, .ptr 1001 0),(4, .ptr 4 0),(5, .ptr 5 0)],[(4, .box 56 [I 0,S [],I 0,I 0]),(5, .box 56 (bxc (GTk.cs r3))),(1000, .box 35 [.p (.val (.func (.func 71) #[] #[]))]),(1001, .box 53 [.p (.sl 4 (mTk a0r.tokens)),I (wi (a0r.pos+1)),I a0r.length, .tsl 2 (mDg a0r.diags) 1002]),(1002, .arr 41 2 (mDg a0r.diags).length)]⟩:Unit→St) (fun _=>g_p_reader_item_j4 n a0r r1 r3) ?_ ?_)))
  ·rintro _
   show SimE (g_p_reader_item_j4 n a0r r1 r3) _ _ _ _ _ _
   unfold g_p_reader_item_j4
   refine sR tfm ⟨[4,5],[4,5,1000,1001,1002],[],[]⟩ ⟨[(4, .ptr 4 0),(5, .ptr 5 0)],[(4, .box 56 [I 0,S [],I 0,I 0]),(5, .box 56 (bxc (GTk.cs r3))),(1000, .box 35 [.p (.val (.func (.func 71) #[] #[]))]),(1001, .box 53 [.p (.sl 4 (mTk a0r.tokens)),I (wi ((wi (a0r.pos+1))+1)),I a0r.length, .tsl 2 (mDg a0r.diags) 1002]),(1002, .arr 41 2 (mDg a0r.diags).length)]⟩ krf (sR tfm ⟨[4],[4,1000,1001,1002],[],[]⟩ ⟨[(4, .ptr 4 0)],[(4, .box 56 (bxc (GTk.cs r3))),(1000, .box 35 [.p (.val (.func (.func 71) #[] #[]))]),(1001, .box 53 [.p (.sl 4 (mTk a0r.tokens)),I (wi ((wi (a0r.pos+1))+1)),I a0r.length, .tsl 2 (mDg a0r.diags) 1002]),(1002, .arr 41 2 (mDg a0r.diags).length)]⟩ krf (sT (iq_ret (.id) [1000,1001,1002] [] (.agg [I r3.Kind,S r3.Text,I r3.N,I r3.At]) krf krf (kh [] krf (lates_nil) krf (h_op [] krf krf (lates_nil) (h_op [] krf krf (lates_nil) (h_end ?_)))))))
   refine sN ⟨[1,2,3,4],[1,2,3,1000,1103],[],[]⟩ ⟨[(1, .ptr 1 0),(2, .ptr 2 0),(3, .ptr 3 0),(4,S r3.Text)],[(1, .box 51 [.ptr 1000 0]),(2, .box 24 [I 0,S [],I 0,I 0,zS]),(3, .box 56 (bxc (GTk.cs r1))),(1000, .box 53 [.p (.sl 4 (mTk a0r.tokens)),I (wi ((wi (a0r.pos+1))+1)),I a0r.length, .tsl 2 (mDg a0r.diags) 1103]),(1103, .arr 41 2 (mDg a0r.diags).length)]⟩ krf (sS (sG (xR 2 krf ?_)))
   refine xC [] krf (g_p_kindOf_ok n r1.Text) krf krf (fun _=>by kernel_rfl) (fun r5=>?_)
   refine xR 1 krf (xE (sN ⟨[1,2,3,4,5],[1,2,3,1000,1103],[],[]⟩ ⟨[(1, .ptr 1 0),(2, .ptr 2 0),(3, .ptr 3 0),(4,S r3.Text),(5,I r5)],[(1, .box 51 [.ptr 1000 0]),(2, .box 24 [I 0,S [],I 0,I 0,zS]),(3, .box 56 (bxc (GTk.cs r1))),(1000, .box 53 [.p (.sl 4 (mTk a0r.tokens)),I (wi ((wi (a0r.pos+1))+1)),I a0r.length, .tsl 2 (mDg a0r.diags) 1103]),(1103, .arr 41 2 (mDg a0r.diags).length)]⟩ krf (sS (sR tfm ⟨[1,2,3,4,5,19],[1,2,3,1000,1103],[],[]⟩ ⟨[(1, .ptr 1 0),(2, .ptr 2 0),(3, .ptr 3 0),(4,S r3.Text),(5,I r5),(19,B (eqI r5 7))],[(1, .box 51 [.ptr 1000 0]),(2, .box 24 [I 0,S [],I 0,I 0,zS]),(3, .box 56 (bxc (GTk.cs r1))),(1000, .box 53 [.p (.sl 4 (mTk a0r.tokens)),I (wi ((wi (a0r.pos+1))+1)),I a0r.length, .tsl 2 (mDg a0r.diags) 1103]),(1103, .arr 41 2 (mDg a0r.diags).length)]⟩ krf (sC (eqI r5 7) krf ?_ ?_)))))
   ·refine sR tfm ⟨[1,2,3,4,5,6],[1,2,3,1000,1103],[],[]⟩ ⟨[(1, .ptr 1 0),(2, .ptr 2 0),(3, .ptr 3 0),(4,S r3.Text),(5,I r5),(6, .fn (.func 72) [] [.ptr 1 0])],[(1, .box 51 [.ptr 1000 0]),(2, .box 24 [I 0,S [],I 0,I 0,zS]),(3, .box 56 (bxc (GTk.cs r1))),(1000, .box 53 [.p (.sl 4 (mTk a0r.tokens)),I (wi ((wi (a0r.pos+1))+1)),I a0r.length, .tsl 2 (mDg a0r.diags) 1103]),(1103, .arr 41 2 (mDg a0r.diags).length)]⟩ krf (sS (sG (xR 9 krf (xs_inline [(1000, .box 51 [.ptr 1002 0]),(1001, .box 57 [.fn (.func 74) [.ptr 1002 0] [], .fn (.func 72) [] [.ptr 1000 0], .fn (.func 75) [.ptr 1002 0] []]),(1002, .box 53 [.p (.sl 4 (mTk a0r.tokens)),I (wi ((wi (a0r.pos+1))+1)),I a0r.length, .tsl 2 (mDg a0r.diags) 1003]),(1003, .arr 41 2 (mDg a0r.diags).length)] [.agg [I r1.Kind,S r1.Text,I r1.N,I r1.At],I 2,S r3.Text,I r5, .bsl 1001 3] [(1000,1),(1001,29),(1002,1000),(1003,1103)] [] [] krf Try.func23 rfl Try.ntmps23 rfl krf krf krf (sR tfm ⟨[1,2,3,4,5,10],[5,10,1000,1001,1002,1003],[],[]⟩ ⟨[(1,I 2),(2,S r3.Text),(3,I r5),(4, .bsl 1001 3),(5, .ptr 5 0),(10, .ptr 10 0)],[(5, .box 56 (bxc (GTk.cs r1))),(10, .box 24 [I 0,S [],I 0,I 0,zS]),(1000, .box 51 [.ptr 1002 0]),(1001, .box 57 [.fn (.func 74) [.ptr 1002 0] [], .fn (.func 72) [] [.ptr 1000 0], .fn (.func 75) [.ptr 1002 0] []]),(1002, .box 53 [.p (.sl 4 (mTk a0r.tokens)),I (wi ((wi (a0r.pos+1))+1)),I a0r.length, .tsl 2 (mDg a0r.diags) 1003]),(1003, .arr 41 2 (mDg a0r.diags).length)]⟩ krf (sR tfm ⟨[4,10,11],[10,11,1000,1001,1002,1003],[],[]⟩ ⟨[(4, .bsl 1001 3),(10, .ptr 10 0),(11, .ptr 11 0)],[(10, .box 24 [I 0,S [],I 0,I 0,zS]),(11, .box 24 [I 2,S r3.Text,I r5,I r1.At,zS]),(1000, .box 51 [.ptr 1002 0]),(1001, .box 57 [.fn (.func 74) [.ptr 1002 0] [], .fn (.func 72) [] [.ptr 1000 0], .fn (.func 75) [.ptr 1002 0] []]),(1002, .box 53 [.p (.sl 4 (mTk a0r.tokens)),I (wi ((wi (a0r.pos+1))+1)),I a0r.length, .tsl 2 (mDg a0r.diags) 1003]),(1003, .arr 41 2 (mDg a0r.diags).length)]⟩ krf (sim_cps (fun (j6_1,j6_2,j6_3,j6_4,j6_5)=>⟨[(10, .ptr 10 0),(11, .ptr 11 0)],[(10, .box 24 [I 0,S [],I 0,I 0,zS]),(11, .box 24 [I 2,S r3.Text,I r5,I r1.At, .tsl 5 (mI j6_1) 600]),(600, .arr 24 5 (mI j6_1).length),(1000, .box 51 [.ptr 1002 0]),(1001, .box 57 [.fn (.func 74) [.ptr 1002 0] [], .fn (.func 72) [] [.ptr 1000 0], .fn (.func 75) [.ptr 1002 0] []]),(1002, .box 53 [.p (.sl 4 (mTk j6_2)),I j6_3,I j6_4, .tsl 2 (mDg j6_5) 1003]),(1003, .arr 41 2 (mDg j6_5).length)]⟩:((List (List PV)) × (List GTk) × Int × Int × (List GDg))→St) (fun (j6_1,j6_2,j6_3,j6_4,j6_5)=>g_p_reader_item_j6 r1 r3 r5 j6_1 j6_2 j6_3 j6_4 j6_5) ?_ ?_)))))))
    ·rintro ⟨j6_1,j6_2,j6_3,j6_4,j6_5⟩
     show SimE (g_p_reader_item_j6 r1 r3 r5 j6_1 j6_2 j6_3 j6_4 j6_5) _ _ _ _ _ _
     unfold g_p_reader_item_j6
     refine sR tfm ⟨[10],[10,600,1000,1001,1002,1003],[],[]⟩ ⟨[(10, .ptr 10 0)],[(10, .box 24 [I 2,S r3.Text,I r5,I r1.At, .tsl 5 (mI j6_1) 600]),(600, .arr 24 5 (mI j6_1).length),(1000, .box 51 [.ptr 1002 0]),(1001, .box 57 [.fn (.func 74) [.ptr 1002 0] [], .fn (.func 72) [] [.ptr 1000 0], .fn (.func 75) [.ptr 1002 0] []]),(1002, .box 53 [.p (.sl 4 (mTk j6_2)),I j6_3,I j6_4, .tsl 2 (mDg j6_5) 1003]),(1003, .arr 41 2 (mDg j6_5).length)]⟩ krf (sT (iq_ret (.agg [.id, .id, .id, .id, .sl 5]) [1000,1001,1002,1003] [] (.agg [I 2,S r3.Text,I r5,I r1.At, .p (.sl 5 (mI j6_1))]) krf krf (kr0 (xR 1 krf (xE (sN ⟨[2],[2,1000,1103],[],[]⟩ ⟨[(2, .ptr 2 0)],[(2, .box 24 (bxc (GNode.cs ⟨2,r3.Text,r5,r1.At,j6_1⟩))),(1000, .box 53 [.p (.sl 4 (mTk j6_2)),I j6_3,I j6_4, .tsl 2 (mDg j6_5) 1103]),(1103, .arr 41 2 (mDg j6_5).length)]⟩ krf (sT ?_)))))))
     refine sq_r ?_
     exact hq_ret (.id) [1000,1103] [] krf krf krf krf
    ·refine sR tfm ⟨[10,11,20,21,22],[10,11,1000,1001,1002,1003],[],[]⟩ ⟨[(10, .ptr 10 0),(11, .ptr 11 0),(20, .bsl 1001 3),(21,I 3),(22,I 0)],[(10, .box 24 [I 0,S [],I 0,I 0,zS]),(11, .box 24 [I 2,S r3.Text,I r5,I r1.At,zS]),(1000, .box 51 [.ptr 1002 0]),(1001, .box 57 [.fn (.func 74) [.ptr 1002 0] [], .fn (.func 72) [] [.ptr 1000 0], .fn (.func 75) [.ptr 1002 0] []]),(1002, .box 53 [.p (.sl 4 (mTk a0r.tokens)),I (wi ((wi (a0r.pos+1))+1)),I a0r.length, .tsl 2 (mDg a0r.diags) 1003]),(1003, .arr 41 2 (mDg a0r.diags).length)]⟩ krf (sB (sim_unroll 3 (sR tfm ⟨[10,11,20,21,22,23],[10,11,1000,1001,1002,1003],[],[]⟩ ⟨[(10, .ptr 10 0),(11, .ptr 11 0),(20, .bsl 1001 3),(21,I 3),(22,I 0),(23,B true)],[(10, .box 24 [I 0,S [],I 0,I 0,zS]),(11, .box 24 [I 2,S r3.Text,I r5,I r1.At,zS]),(1000, .box 51 [.ptr 1002 0]),(1001, .box 57 [.fn (.func 74) [.ptr 1002 0] [], .fn (.func 72) [] [.ptr 1000 0], .fn (.func 75) [.ptr 1002 0] []]),(1002, .box 53 [.p (.sl 4 (mTk a0r.tokens)),I (wi ((wi (a0r.pos+1))+1)),I a0r.length, .tsl 2 (mDg a0r.diags) 1003]),(1003, .arr 41 2 (mDg a0r.diags).length)]⟩ krf (sS (sim_condT krf (sK (sN ⟨[10,11,20,21,22],[10,11,1000,1001,1002,1003],[],[]⟩ ⟨[(10, .ptr 10 0),(11, .ptr 11 0),(20, .bsl 1001 3),(21,I 3),(22,I 0)],[(10, .box 24 [I 0,S [],I 0,I 0,zS]),(11, .box 24 [I 2,S r3.Text,I r5,I r1.At,zS]),(1000, .box 51 [.ptr 1002 0]),(1001, .box 57 [.fn (.func 74) [.ptr 1002 0] [], .fn (.func 72) [] [.ptr 1000 0], .fn (.func 75) [.ptr 1002 0] []]),(1002, .box 53 [.p (.sl 4 (mTk a0r.tokens)),I (wi ((wi (a0r.pos+1))+1)),I a0r.length, .tsl 2 (mDg a0r.diags) 1003]),(1003, .arr 41 2 (mDg a0r.diags).length)]⟩ krf ?_)))))))
     refine sS (sB (sR tfm ⟨[10,11,13,20,21,22],[10,11,1000,1001,1002,1003],[],[]⟩ ⟨[(10, .ptr 10 0),(11, .ptr 11 0),(13, .fn (.func 74) [.ptr 1002 0] []),(20, .bsl 1001 3),(21,I 3),(22,I 0)],[(10, .box 24 [I 0,S [],I 0,I 0,zS]),(11, .box 24 [I 2,S r3.Text,I r5,I r1.At,zS]),(1000, .box 51 [.ptr 1002 0]),(1001, .box 57 [.fn (.func 74) [.ptr 1002 0] [], .fn (.func 72) [] [.ptr 1000 0], .fn (.func 75) [.ptr 1002 0] []]),(1002, .box 53 [.p (.sl 4 (mTk a0r.tokens)),I (wi ((wi (a0r.pos+1))+1)),I a0r.length, .tsl 2 (mDg a0r.diags) 1003]),(1003, .arr 41 2 (mDg a0r.diags).length)]⟩ krf (sP ⟨[10,11,13,20,21,22],[10,11,1000,1001,1002,1003],[],[]⟩ ⟨[(10, .ptr 10 0),(11, .ptr 11 0),(13, .fn (.func 74) [.ptr 1002 0] []),(20, .bsl 1001 3),(21,I 3),(22,I 0)],[(10, .box 24 [I 0,S [],I 0,I 0,zS]),(11, .box 24 [I 2,S r3.Text,I r5,I r1.At,zS]),(1000, .box 51 [.ptr 1002 0]),(1001, .box 57 [.fn (.func 74) [.ptr 1002 0] [], .fn (.func 72) [] [.ptr 1000 0], .fn (.func 75) [.ptr 1002 0] []]),(1002, .box 53 [.p (.sl 4 (mTk a0r.tokens)),I (wi ((wi (a0r.pos+1))+1)),I a0r.length, .tsl 2 (mDg a0r.diags) 1003]),(1003, .arr 41 2 (mDg a0r.diags).length)]⟩ krf (sim_weak (weak_pn 24 5 600 [] [(11,4)] krf) (sim_hst [0,1,2] [0,1] [(3,[]),(4,[]),(5,[]),(6,[])] tfm rfl krf krf (h_enter (f:=74) (args:=[.ptr 1002 0]) (dst:=some 29) krf krf (sc_inline (hc:=[(1000, .box 53 [.p (.sl 4 (mTk a0r.tokens)),I (wi ((wi (a0r.pos+1))+1)),I a0r.length, .tsl 2 (mDg a0r.diags) 1001]),(1001, .arr 41 2 (mDg a0r.diags).length)]) (args':=[.ptr 1000 0]) [(1000,1002),(1001,1003)] [] [] Try.func74 rfl Try.ntmps74 rfl krf krf krf ?_)))))))
     refine sR tfm ⟨[1],[1,1000,1001],[],[]⟩ ⟨[(1, .ptr 1 0)],[(1, .box 51 [.ptr 1000 0]),(1000, .box 53 [.p (.sl 4 (mTk a0r.tokens)),I (wi ((wi (a0r.pos+1))+1)),I a0r.length, .tsl 2 (mDg a0r.diags) 1001]),(1001, .arr 41 2 (mDg a0r.diags).length)]⟩ krf (sR tfm ⟨[1,3],[1,1000,1001],[],[]⟩ ⟨[(1, .ptr 1 0),(3,zS)],[(1, .box 51 [.ptr 1000 0]),(1000, .box 53 [.p (.sl 4 (mTk a0r.tokens)),I (wi ((wi (a0r.pos+1))+1)),I a0r.length, .tsl 2 (mDg a0r.diags) 1001]),(1001, .arr 41 2 (mDg a0r.diags).length)]⟩ krf (sim_bind (fun (j7_1,j7_2,j7_3,j7_4)=>⟨[(3, .tsl 5 (mI j7_1) 600)],[(600, .arr 24 5 (mI j7_1).length),(1000, .box 53 [.p (.sl 4 (mTk j7_2)),I j7_3,I j7_4, .tsl 2 (mDg a0r.diags) 1001]),(1001, .arr 41 2 (mDg a0r.diags).length)]⟩:((List (List PV)) × (List GTk) × Int × Int)→St) ?_ ?_))
     ·refine sS (sG (xR 1 krf ?_))
      refine xs_ro [.ro [.id, .id, .id, .sl 2]] krf (g_p_reader_peek_2_ok n (⟨a0r.tokens,wi ((wi (a0r.pos+1))+1),a0r.length,a0r.diags⟩:GPr)) krf krf (fun _=>by kernel_rfl) (fun r8=>?_)
      refine xR 2 krf (xE (sN ⟨[1,3,4],[1,4,1000,1001],[],[]⟩ ⟨[(1, .ptr 1 0),(3,zS),(4, .ptr 4 0)],[(1, .box 51 [.ptr 1000 0]),(4, .box 56 (bxc (GTk.cs r8))),(1000, .box 53 [.p (.sl 4 (mTk a0r.tokens)),I (wi ((wi (a0r.pos+1))+1)),I a0r.length, .tsl 2 (mDg a0r.diags) 1001]),(1001, .arr 41 2 (mDg a0r.diags).length)]⟩ krf (sB (sP ⟨[1,3,4],[1,4,1000,1001],[],[]⟩ ⟨[(1, .ptr 1 0),(3,zS),(4, .ptr 4 0)],[(1, .box 51 [.ptr 1000 0]),(4, .box 56 (bxc (GTk.cs r8))),(1000, .box 53 [.p (.sl 4 (mTk a0r.tokens)),I (wi ((wi (a0r.pos+1))+1)),I a0r.length, .tsl 2 (mDg a0r.diags) 1001]),(1001, .arr 41 2 (mDg a0r.diags).length)]⟩ krf (sim_weak (weak_pn 24 5 600 [3] [] krf) (sim_loop (fun (l9_1,l9_2,l9_3,l9_4,l9_5,l9_6,l9_7,l9_8)=>⟨[(1, .ptr 1 0),(3, .tsl 5 (mI l9_1) 600),(4, .ptr 4 0)],[(1, .box 51 [.ptr 1000 0]),(4, .box 56 [I l9_5,S l9_6,I l9_7,I l9_8]),(600, .arr 24 5 (mI l9_1).length),(1000, .box 53 [.p (.sl 4 (mTk l9_2)),I l9_3,I l9_4, .tsl 2 (mDg a0r.diags) 1001]),(1001, .arr 41 2 (mDg a0r.diags).length)]⟩:((List (List PV)) × (List GTk) × Int × Int × Int × (List UInt8) × Int × Int)→St) (weak_shr (K:=⟨[1,3,4],[1,4,600,1000,1001],[],[]⟩) krf) ?_))))))
      rintro recl9 ⟨l9_1,l9_2,l9_3,l9_4,l9_5,l9_6,l9_7,l9_8⟩
      show SimE (g_p_reader_item_l9 n a0r recl9 l9_1 l9_2 l9_3 l9_4 l9_5 l9_6 l9_7 l9_8) _ _ _ _ _ _
      unfold g_p_reader_item_l9
      refine sS (sim_bind (fun j10=>⟨[(1, .ptr 1 0),(3, .tsl 5 (mI l9_1) 600),(4, .ptr 4 0),(14,B j10)],[(1, .box 51 [.ptr 1000 0]),(4, .box 56 [I l9_5,S l9_6,I l9_7,I l9_8]),(600, .arr 24 5 (mI l9_1).length),(1000, .box 53 [.p (.sl 4 (mTk l9_2)),I l9_3,I l9_4, .tsl 2 (mDg a0r.diags) 1001]),(1001, .arr 41 2 (mDg a0r.diags).length)]⟩:Bool→St) ?_ ?_)
      ·refine sG (xR 4 krf ?_)
       refine xS (eqI l9_5 1) (fun h11=>?_) (fun h11=>?_)
       ·refine xO (want_tt krf h11) krf (xR 1 krf ?_)
        refine xC [] krf (g_p_isAttr_ok n l9_6) krf krf (fun _=>by kernel_rfl) (fun r12=>?_)
        refine xR 1 krf (xE ?_)
        exact nq_n r12 ⟨[1,3,4,14],[1,4,600,1000,1001],[],[]⟩ krf
       ·refine xN (want_tf krf h11) krf (xR 3 krf (xE ?_))
        exact nq_n false ⟨[1,3,4,14],[1,4,600,1000,1001],[],[]⟩ krf
      ·rintro j10
       refine sC j10 krf ?_ ?_
       ·refine sK (sN ⟨[1,3,4],[1,4,600,1000,1001],[],[]⟩ ⟨[(1, .ptr 1 0),(3, .tsl 5 (mI l9_1) 600),(4, .ptr 4 0)],[(1, .box 51 [.ptr 1000 0]),(4, .box 56 [I l9_5,S l9_6,I l9_7,I l9_8]),(600, .arr 24 5 (mI l9_1).length),(1000, .box 53 [.p (.sl 4 (mTk l9_2)),I l9_3,I l9_4, .tsl 2 (mDg a0r.diags) 1001]),(1001, .arr 41 2 (mDg a0r.diags).length)]⟩ krf (sS (sB (sR tfm ⟨[1,3,4],[1,4,600,1000,1001],[],[]⟩ ⟨[(1, .ptr 1 0),(3, .tsl 5 (mI l9_1) 600),(4, .ptr 4 0)],[(1, .box 51 [.ptr 1000 0]),(4, .box 56 [I l9_5,S l9_6,I l9_7,I l9_8]),(600, .arr 24 5 (mI l9_1).length),(1000, .box 53 [.p (.sl 4 (mTk l9_2)),I (wi (l9_3+1)),I l9_4, .tsl 2 (mDg a0r.diags) 1001]),(1001, .arr 41 2 (mDg a0r.diags).length)]⟩ krf (sG (xR 6 krf (xs_inline [(1000, .box 51 [.ptr 1002 0]),(1001, .box 57 [.fn (.func 90) [] [.ptr 1000 0]]),(1002, .box 53 [.p (.sl 4 (mTk l9_2)),I (wi (l9_3+1)),I l9_4, .tsl 2 (mDg a0r.diags) 1003]),(1003, .arr 41 2 (mDg a0r.diags).length)] [.agg [I l9_5,S l9_6,I l9_7,I l9_8],I 3,S l9_6,I 0, .bsl 1001 1] [(1000,1),(1001,29),(1002,1000),(1003,1001)] [] [] krf Try.func23 rfl Try.ntmps23 rfl krf krf krf ?_)))))))
        refine sR tfm ⟨[1,2,3,4,5,10],[5,10,1000,1001,1002,1003],[],[]⟩ ⟨[(1,I 3),(2,S l9_6),(3,I 0),(4, .bsl 1001 1),(5, .ptr 5 0),(10, .ptr 10 0)],[(5, .box 56 [I l9_5,S l9_6,I l9_7,I l9_8]),(10, .box 24 [I 0,S [],I 0,I 0,zS]),(1000, .box 51 [.ptr 1002 0]),(1001, .box 57 [.fn (.func 90) [] [.ptr 1000 0]]),(1002, .box 53 [.p (.sl 4 (mTk l9_2)),I (wi (l9_3+1)),I l9_4, .tsl 2 (mDg a0r.diags) 1003]),(1003, .arr 41 2 (mDg a0r.diags).length)]⟩ krf (sR tfm ⟨[4,10,11],[10,11,1000,1001,1002,1003],[],[]⟩ ⟨[(4, .bsl 1001 1),(10, .ptr 10 0),(11, .ptr 11 0)],[(10, .box 24 [I 0,S [],I 0,I 0,zS]),(11, .box 24 [I 3,S l9_6,I 0,I l9_8,zS]),(1000, .box 51 [.ptr 1002 0]),(1001, .box 57 [.fn (.func 90) [] [.ptr 1000 0]]),(1002, .box 53 [.p (.sl 4 (mTk l9_2)),I (wi (l9_3+1)),I l9_4, .tsl 2 (mDg a0r.diags) 1003]),(1003, .arr 41 2 (mDg a0r.diags).length)]⟩ krf (sim_bind (fun (j13_1,j13_2,j13_3,j13_4)=>⟨[(10, .ptr 10 0),(11, .ptr 11 0)],[(10, .box 24 [I 0,S [],I 0,I 0,zS]),(11, .box 24 [I 3,S l9_6,I 0,I l9_8, .tsl 5 (mI j13_1) 600]),(600, .arr 24 5 (mI j13_1).length),(1000, .box 51 [.ptr 1002 0]),(1001, .box 57 [.fn (.func 90) [] [.ptr 1000 0]]),(1002, .box 53 [.p (.sl 4 (mTk j13_2)),I j13_3,I j13_4, .tsl 2 (mDg a0r.diags) 1003]),(1003, .arr 41 2 (mDg a0r.diags).length)]⟩:((List (List PV)) × (List GTk) × Int × Int)→St) ?_ ?_))
        ·refine sR tfm ⟨[10,11,20,21,22],[10,11,1000,1001,1002,1003],[],[]⟩ ⟨[(10, .ptr 10 0),(11, .ptr 11 0),(20, .bsl 1001 1),(21,I 1),(22,I 0)],[(10, .box 24 [I 0,S [],I 0,I 0,zS]),(11, .box 24 [I 3,S l9_6,I 0,I l9_8,zS]),(1000, .box 51 [.ptr 1002 0]),(1001, .box 57 [.fn (.func 90) [] [.ptr 1000 0]]),(1002, .box 53 [.p (.sl 4 (mTk l9_2)),I (wi (l9_3+1)),I l9_4, .tsl 2 (mDg a0r.diags) 1003]),(1003, .arr 41 2 (mDg a0r.diags).length)]⟩ krf (sB (sim_unroll 1 (sR tfm ⟨[10,11,20,21,22,23],[10,11,1000,1001,1002,1003],[],[]⟩ ⟨[(10, .ptr 10 0),(11, .ptr 11 0),(20, .bsl 1001 1),(21,I 1),(22,I 0),(23,B true)],[(10, .box 24 [I 0,S [],I 0,I 0,zS]),(11, .box 24 [I 3,S l9_6,I 0,I l9_8,zS]),(1000, .box 51 [.ptr 1002 0]),(1001, .box 57 [.fn (.func 90) [] [.ptr 1000 0]]),(1002, .box 53 [.p (.sl 4 (mTk l9_2)),I (wi (l9_3+1)),I l9_4, .tsl 2 (mDg a0r.diags) 1003]),(1003, .arr 41 2 (mDg a0r.diags).length)]⟩ krf (sS (sim_condT krf (sK (sN ⟨[10,11,20,21,22],[10,11,1000,1001,1002,1003],[],[]⟩ ⟨[(10, .ptr 10 0),(11, .ptr 11 0),(20, .bsl 1001 1),(21,I 1),(22,I 0)],[(10, .box 24 [I 0,S [],I 0,I 0,zS]),(11, .box 24 [I 3,S l9_6,I 0,I l9_8,zS]),(1000, .box 51 [.ptr 1002 0]),(1001, .box 57 [.fn (.func 90) [] [.ptr 1000 0]]),(1002, .box 53 [.p (.sl 4 (mTk l9_2)),I (wi (l9_3+1)),I l9_4, .tsl 2 (mDg a0r.diags) 1003]),(1003, .arr 41 2 (mDg a0r.diags).length)]⟩ krf ?_)))))))
         refine sS (sB (sR tfm ⟨[10,11,13,20,21,22],[10,11,1000,1001,1002,1003],[],[]⟩ ⟨[(10, .ptr 10 0),(11, .ptr 11 0),(13, .fn (.func 90) [] [.ptr 1000 0]),(20, .bsl 1001 1),(21,I 1),(22,I 0)],[(10, .box 24 [I 0,S [],I 0,I 0,zS]),(11, .box 24 [I 3,S l9_6,I 0,I l9_8,zS]),(1000, .box 51 [.ptr 1002 0]),(1001, .box 57 [.fn (.func 90) [] [.ptr 1000 0]]),(1002, .box 53 [.p (.sl 4 (mTk l9_2)),I (wi (l9_3+1)),I l9_4, .tsl 2 (mDg a0r.diags) 1003]),(1003, .arr 41 2 (mDg a0r.diags).length)]⟩ krf (sP ⟨[10,11,13,20,21,22],[10,11,1000,1001,1002,1003],[],[]⟩ ⟨[(10, .ptr 10 0),(11, .ptr 11 0),(13, .fn (.func 90) [] [.ptr 1000 0]),(20, .bsl 1001 1),(21,I 1),(22,I 0)],[(10, .box 24 [I 0,S [],I 0,I 0,zS]),(11, .box 24 [I 3,S l9_6,I 0,I l9_8,zS]),(1000, .box 51 [.ptr 1002 0]),(1001, .box 57 [.fn (.func 90) [] [.ptr 1000 0]]),(1002, .box 53 [.p (.sl 4 (mTk l9_2)),I (wi (l9_3+1)),I l9_4, .tsl 2 (mDg a0r.diags) 1003]),(1003, .arr 41 2 (mDg a0r.diags).length)]⟩ krf (sim_weak (weak_pn 24 5 600 [] [(11,4)] krf) (sim_hst [0,1,2] [0,1] [(3,[]),(4,[]),(5,[]),(6,[])] tfm rfl krf krf (h_enter (f:=90) (args:=[.ptr 1000 0]) (dst:=some 29) krf krf (sc_inline (hc:=[(1000, .box 51 [.ptr 1001 0]),(1001, .box 53 [.p (.sl 4 (mTk l9_2)),I (wi (l9_3+1)),I l9_4, .tsl 2 (mDg a0r.diags) 1002]),(1002, .arr 41 2 (mDg a0r.diags).length)]) (args':=[.ptr 1000 0]) [(1000,1000),(1001,1002),(1002,1003)] [] [] Try.func90 rfl Try.ntmps90 rfl krf krf krf ?_)))))))
         refine sR tfm ⟨[0],[1000,1001,1002],[],[]⟩ ⟨[(0, .ptr 1000 0)],[(1000, .box 51 [.ptr 1001 0]),(1001, .box 53 [.p (.sl 4 (mTk l9_2)),I (wi (l9_3+1)),I l9_4, .tsl 2 (mDg a0r.diags) 1002]),(1002, .arr 41 2 (mDg a0r.diags).length)]⟩ krf (sS (sG (xR 1 krf (xs_enter (f:=91) (args:=[.ptr 1001 0, .p (.val (.func (.func 71) #[] #[]))]) krf krf krf ?_))))
         refine sc_hold 1001 3 1002 41 2 (mDg a0r.diags).length (mDg a0r.diags) ⟨[0,2],[1000,1001],[],[]⟩ krf krf rfl (fun _ _ _=>by kernel_rfl) (fun hu14w hu14l hu14c=>?_)
         refine sc_heap [(1000,1001)] [] [] (g_p_reader_values_ok n (⟨l9_2,wi (l9_3+1),l9_4,[]⟩:GPr) hu14w hu14l hu14c) krf krf krf (fun _=>by kernel_rfl) (fun _=>by kernel_rfl) (fun r14=>?_)
         refine k_hold _ rfl krf krf (kr0 (xR 1 krf (xE (sN ⟨[1],[1000,1001,1002],[],[]⟩ ⟨[(1, .p (.sl 5 (mI r14.1)))],[(1000, .box 51 [.ptr 1001 0]),(1001, .box 53 [.p (.sl 4 (mTk r14.2.tokens)),I r14.2.pos,I r14.2.length, .tsl 2 (mDg a0r.diags) 1002]),(1002, .arr 41 2 (mDg a0r.diags).length)]⟩ krf (sT (iq_ret (.id) [1000,1001,1002] [] (.p (.sl 5 (mI r14.1))) krf krf (kh [0,1] krf (lates_cons (late_read (.ptr 11 4) krf rfl) (lates_cons (late_tsl (S:=5) (t:=600) (ty:=24) (es:=mI []) krf krf rfl) (lates_nil))) krf ?_)))))))
         refine h_if [] rfl krf krf (aop_appL (e:=24) (S:=5) (by_:=64) (enc:=idc) (tk:=600) (l:=[]) (l2:=r14.1) (xv:=.p (.sl 5 (mI r14.1))) rfl krf krf rfl krf krf krf krf) (fun _=>lates_nil) (h_op [] krf krf (lates_nil) (h_op [] krf krf (lates_nil) (h_end (bq_n (sN ⟨[10,11,20,21,22],[10,11,600,1000,1001,1002,1003],[],[]⟩ ⟨[(10, .ptr 10 0),(11, .ptr 11 0),(20, .bsl 1001 1),(21,I 1),(22,I 0)],[(10, .box 24 [I 0,S [],I 0,I 0,zS]),(11, .box 24 [I 3,S l9_6,I 0,I l9_8, .tsl 5 (mI ([]++r14.1)) 600]),(600, .arr 24 5 (mI ([]++r14.1)).length),(1000, .box 51 [.ptr 1002 0]),(1001, .box 57 [.fn (.func 90) [] [.ptr 1000 0]]),(1002, .box 53 [.p (.sl 4 (mTk r14.2.tokens)),I r14.2.pos,I r14.2.length, .tsl 2 (mDg a0r.diags) 1003]),(1003, .arr 41 2 (mDg a0r.diags).length)]⟩ krf (sL tfm krf (ru_n ⟨[10,11,20,21,22],[10,11,600,1000,1001,1002,1003],[],[]⟩ ⟨[(10, .ptr 10 0),(11, .ptr 11 0),(20, .bsl 1001 1),(21,I 1),(22,I 1)],[(10, .box 24 [I 0,S [],I 0,I 0,zS]),(11, .box 24 [I 3,S l9_6,I 0,I l9_8, .tsl 5 (mI ([]++r14.1)) 600]),(600, .arr 24 5 (mI ([]++r14.1)).length),(1000, .box 51 [.ptr 1002 0]),(1001, .box 57 [.fn (.func 90) [] [.ptr 1000 0]]),(1002, .box 53 [.p (.sl 4 (mTk r14.2.tokens)),I r14.2.pos,I r14.2.length, .tsl 2 (mDg a0r.diags) 1003]),(1003, .arr 41 2 (mDg a0r.diags).length)]⟩ krf ?_)))))))
         refine sR tfm ⟨[10,11,20,21,22,23],[10,11,600,1000,1001,1002,1003],[],[]⟩ ⟨[(10, .ptr 10 0),(11, .ptr 11 0),(20, .bsl 1001 1),(21,I 1),(22,I 1),(23,B false)],[(10, .box 24 [I 0,S [],I 0,I 0,zS]),(11, .box 24 [I 3,S l9_6,I 0,I l9_8, .tsl 5 (mI ([]++r14.1)) 600]),(600, .arr 24 5 (mI ([]++r14.1)).length),(1000, .box 51 [.ptr 1002 0]),(1001, .box 57 [.fn (.func 90) [] [.ptr 1000 0]]),(1002, .box 53 [.p (.sl 4 (mTk r14.2.tokens)),I r14.2.pos,I r14.2.length, .tsl 2 (mDg a0r.diags) 1003]),(1003, .arr 41 2 (mDg a0r.diags).length)]⟩ krf (sS (sim_condF krf (sim_exit (sq_x (ru_x (bq_hit ?_))))))
         exact nq_n ([]++r14.1,r14.2.tokens,r14.2.pos,r14.2.length) ⟨[10,11],[10,11,600,1000,1001,1002,1003],[],[]⟩ krf
        ·rintro ⟨j13_1,j13_2,j13_3,j13_4⟩
         refine sR tfm ⟨[10],[10,600,1000,1001,1002,1003],[],[]⟩ ⟨[(10, .ptr 10 0)],[(10, .box 24 [I 3,S l9_6,I 0,I l9_8, .tsl 5 (mI j13_1) 600]),(600, .arr 24 5 (mI j13_1).length),(1000, .box 51 [.ptr 1002 0]),(1001, .box 57 [.fn (.func 90) [] [.ptr 1000 0]]),(1002, .box 53 [.p (.sl 4 (mTk j13_2)),I j13_3,I j13_4, .tsl 2 (mDg a0r.diags) 1003]),(1003, .arr 41 2 (mDg a0r.diags).length)]⟩ krf (sT (iq_ret (.agg [.id, .id, .id, .id, .sl 5]) [1000,1001,1002,1003] [] (.agg [I 3,S l9_6,I 0,I l9_8, .p (.sl 5 (mI j13_1))]) krf krf (kr0 (xR 1 krf (xF krf krf (aop_app (e:=24) (S:=5) (by_:=64) (enc:=idc) (tk:=600) (l:=l9_1) (l2:=[GNode.cs (⟨3,l9_6,0,l9_8,j13_1⟩:GNode)]) (xv:=.tsl 5 (mI [GNode.cs (⟨3,l9_6,0,l9_8,j13_1⟩:GNode)]) 31) rfl krf krf rfl krf krf krf rfl krf) (xR 1 krf (xE ?_)))))))
         refine bq_n (sN ⟨[1,3,4],[1,4,600,1000,1001],[],[]⟩ ⟨[(1, .ptr 1 0),(3, .tsl 5 (mI (l9_1++[GNode.cs (⟨3,l9_6,0,l9_8,j13_1⟩:GNode)])) 600),(4, .ptr 4 0)],[(1, .box 51 [.ptr 1000 0]),(4, .box 56 [I l9_5,S l9_6,I l9_7,I l9_8]),(600, .arr 24 5 (mI (l9_1++[GNode.cs (⟨3,l9_6,0,l9_8,j13_1⟩:GNode)])).length),(1000, .box 53 [.p (.sl 4 (mTk j13_2)),I j13_3,I j13_4, .tsl 2 (mDg a0r.diags) 1001]),(1001, .arr 41 2 (mDg a0r.diags).length)]⟩ krf (sS (sR tfm ⟨[1,3,33],[1,600,1000,1001],[],[]⟩ ⟨[(1, .ptr 1 0),(3, .tsl 5 (mI (l9_1++[GNode.cs (⟨3,l9_6,0,l9_8,j13_1⟩:GNode)])) 600),(33, .agg [I l9_5,S l9_6,I l9_7,I l9_8])],[(1, .box 51 [.ptr 1000 0]),(600, .arr 24 5 (mI (l9_1++[GNode.cs (⟨3,l9_6,0,l9_8,j13_1⟩:GNode)])).length),(1000, .box 53 [.p (.sl 4 (mTk j13_2)),I j13_3,I j13_4, .tsl 2 (mDg a0r.diags) 1001]),(1001, .arr 41 2 (mDg a0r.diags).length)]⟩ krf (sL tfm krf (sN ⟨[1,3,4],[1,4,600,1000,1001],[],[]⟩ ⟨[(1, .ptr 1 0),(3, .tsl 5 (mI (l9_1++[GNode.cs (⟨3,l9_6,0,l9_8,j13_1⟩:GNode)])) 600),(4, .ptr 4 0)],[(1, .box 51 [.ptr 1000 0]),(4, .box 56 [I l9_5,S l9_6,I l9_7,I l9_8]),(600, .arr 24 5 (mI (l9_1++[GNode.cs (⟨3,l9_6,0,l9_8,j13_1⟩:GNode)])).length),(1000, .box 53 [.p (.sl 4 (mTk j13_2)),I j13_3,I j13_4, .tsl 2 (mDg a0r.diags) 1001]),(1001, .arr 41 2 (mDg a0r.diags).length)]⟩ krf (sG (xR 1 krf ?_)))))))
         refine xs_ro [.ro [.id, .id, .id, .sl 2]] krf (g_p_reader_peek_2_ok n (⟨j13_2,j13_3,j13_4,a0r.diags⟩:GPr)) krf krf (fun _=>by kernel_rfl) (fun r15=>?_)
         refine xR 1 krf (xE ?_)
         exact kq_n (l9_1++[GNode.cs (⟨3,l9_6,0,l9_8,j13_1⟩:GNode)],j13_2,j13_3,j13_4,r15.Kind,r15.Text,r15.N,r15.At) ⟨[1,3,4],[1,4,600,1000,1001],[],[]⟩ krf
       ·refine sim_exit (sq_x (kq_x (bq_hit ?_)))
        exact nq_n (l9_1,l9_2,l9_3,l9_4) ⟨[3],[600,1000,1001],[],[]⟩ krf
     ·rintro ⟨j7_1,j7_2,j7_3,j7_4⟩
      refine sR tfm ⟨[2],[600,1000,1001],[],[]⟩ ⟨[(2, .tsl 5 (mI j7_1) 600)],[(600, .arr 24 5 (mI j7_1).length),(1000, .box 53 [.p (.sl 4 (mTk j7_2)),I j7_3,I j7_4, .tsl 2 (mDg a0r.diags) 1001]),(1001, .arr 41 2 (mDg a0r.diags).length)]⟩ krf (sT (iq_ret (.sl 5) [1000,1001] [] (.p (.sl 5 (mI j7_1))) krf krf (kh [0,1] krf (lates_cons (late_read (.ptr 11 4) krf rfl) (lates_cons (late_tsl (S:=5) (t:=600) (ty:=24) (es:=mI []) krf krf rfl) (lates_nil))) krf (h_if [] rfl krf krf (aop_appL (e:=24) (S:=5) (by_:=64) (enc:=idc) (tk:=600) (l:=[]) (l2:=j7_1) (xv:=.p (.sl 5 (mI j7_1))) rfl krf krf rfl krf krf krf krf) (fun _=>lates_nil) (h_op [] krf krf (lates_nil) (h_op [] krf krf (lates_nil) (h_end ?_)))))))
      refine bq_n (sN ⟨[10,11,20,21,22],[10,11,600,1000,1001,1002,1003],[],[]⟩ ⟨[(10, .ptr 10 0),(11, .ptr 11 0),(20, .bsl 1001 3),(21,I 3),(22,I 0)],[(10, .box 24 [I 0,S [],I 0,I 0,zS]),(11, .box 24 [I 2,S r3.Text,I r5,I r1.At, .tsl 5 (mI ([]++j7_1)) 600]),(600, .arr 24 5 (mI ([]++j7_1)).length),(1000, .box 51 [.ptr 1002 0]),(1001, .box 57 [.fn (.func 74) [.ptr 1002 0] [], .fn (.func 72) [] [.ptr 1000 0], .fn (.func 75) [.ptr 1002 0] []]),(1002, .box 53 [.p (.sl 4 (mTk j7_2)),I j7_3,I j7_4, .tsl 2 (mDg a0r.diags) 1003]),(1003, .arr 41 2 (mDg a0r.diags).length)]⟩ krf (sL tfm krf (ru_n ⟨[10,11,20,21,22],[10,11,600,1000,1001,1002,1003],[],[]⟩ ⟨[(10, .ptr 10 0),(11, .ptr 11 0),(20, .bsl 1001 3),(21,I 3),(22,I 1)],[(10, .box 24 [I 0,S [],I 0,I 0,zS]),(11, .box 24 [I 2,S r3.Text,I r5,I r1.At, .tsl 5 (mI ([]++j7_1)) 600]),(600, .arr 24 5 (mI ([]++j7_1)).length),(1000, .box 51 [.ptr 1002 0]),(1001, .box 57 [.fn (.func 74) [.ptr 1002 0] [], .fn (.func 72) [] [.ptr 1000 0], .fn (.func 75) [.ptr 1002 0] []]),(1002, .box 53 [.p (.sl 4 (mTk j7_2)),I j7_3,I j7_4, .tsl 2 (mDg a0r.diags) 1003]),(1003, .arr 41 2 (mDg a0r.diags).length)]⟩ krf (sR tfm ⟨[10,11,20,21,22,23],[10,11,600,1000,1001,1002,1003],[],[]⟩ ⟨[(10, .ptr 10 0),(11, .ptr 11 0),(20, .bsl 1001 3),(21,I 3),(22,I 1),(23,B true)],[(10, .box 24 [I 0,S [],I 0,I 0,zS]),(11, .box 24 [I 2,S r3.Text,I r5,I r1.At, .tsl 5 (mI ([]++j7_1)) 600]),(600, .arr 24 5 (mI ([]++j7_1)).length),(1000, .box 51 [.ptr 1002 0]),(1001, .box 57 [.fn (.func 74) [.ptr 1002 0] [], .fn (.func 72) [] [.ptr 1000 0], .fn (.func 75) [.ptr 1002 0] []]),(1002, .box 53 [.p (.sl 4 (mTk j7_2)),I j7_3,I j7_4, .tsl 2 (mDg a0r.diags) 1003]),(1003, .arr 41 2 (mDg a0r.diags).length)]⟩ krf (sS (sim_condT krf (sK ?_)))))))
      refine sN ⟨[10,11,20,21,22],[10,11,600,1000,1001,1002,1003],[],[]⟩ ⟨[(10, .ptr 10 0),(11, .ptr 11 0),(20, .bsl 1001 3),(21,I 3),(22,I 1)],[(10, .box 24 [I 0,S [],I 0,I 0,zS]),(11, .box 24 [I 2,S r3.Text,I r5,I r1.At, .tsl 5 (mI ([]++j7_1)) 600]),(600, .arr 24 5 (mI ([]++j7_1)).length),(1000, .box 51 [.ptr 1002 0]),(1001, .box 57 [.fn (.func 74) [.ptr 1002 0] [], .fn (.func 72) [] [.ptr 1000 0], .fn (.func 75) [.ptr 1002 0] []]),(1002, .box 53 [.p (.sl 4 (mTk j7_2)),I j7_3,I j7_4, .tsl 2 (mDg a0r.diags) 1003]),(1003, .arr 41 2 (mDg a0r.diags).length)]⟩ krf (sS (sB (sR tfm ⟨[10,11,13,20,21,22],[10,11,600,1000,1001,1002,1003],[],[]⟩ ⟨[(10, .ptr 10 0),(11, .ptr 11 0),(13, .fn (.func 72) [] [.ptr 1000 0]),(20, .bsl 1001 3),(21,I 3),(22,I 1)],[(10, .box 24 [I 0,S [],I 0,I 0,zS]),(11, .box 24 [I 2,S r3.Text,I r5,I r1.At, .tsl 5 (mI ([]++j7_1)) 600]),(600, .arr 24 5 (mI ([]++j7_1)).length),(1000, .box 51 [.ptr 1002 0]),(1001, .box 57 [.fn (.func 74) [.ptr 1002 0] [], .fn (.func 72) [] [.ptr 1000 0], .fn (.func 75) [.ptr 1002 0] []]),(1002, .box 53 [.p (.sl 4 (mTk j7_2)),I j7_3,I j7_4, .tsl 2 (mDg a0r.diags) 1003]),(1003, .arr 41 2 (mDg a0r.diags).length)]⟩ krf (sim_hst [0,1,2] [0,1] [(3,[]),(4,[]),(5,[]),(6,[])] tfm rfl krf krf (h_enter (f:=72) (args:=[.ptr 1000 0]) (dst:=some 29) krf krf (sc_inline (hc:=[(1000, .box 51 [.ptr 1001 0]),(1001, .box 53 [.p (.sl 4 (mTk j7_2)),I j7_3,I j7_4, .tsl 2 (mDg a0r.diags) 1002]),(1002, .arr 41 2 (mDg a0r.diags).length)]) (args':=[.ptr 1000 0]) [(1000,1000),(1001,1002),(1002,1003)] [] [] Try.func72 rfl Try.ntmps72 rfl krf krf krf (sR tfm ⟨[0],[1000,1001,1002],[],[]⟩ ⟨[(0, .ptr 1000 0)],[(1000, .box 51 [.ptr 1001 0]),(1001, .box 53 [.p (.sl 4 (mTk j7_2)),I j7_3,I j7_4, .tsl 2 (mDg a0r.diags) 1002]),(1002, .arr 41 2 (mDg a0r.diags).length)]⟩ krf ?_)))))))
      refine sS (sim_hst [0] [0] [(1,[]),(2,[])] tfm rfl krf krf (h_enter (f:=73) (args:=[S [123]]) (dst:=some 3) krf krf (sc_inline (hc:=[]) (args':=[S [123]]) [(1,401)] [] [] Try.func73 rfl Try.ntmps73 rfl krf krf krf (sR tfm ⟨[1],[1],[],[]⟩ ⟨[(1, .ptr 1 0)],[(1, .box 9 [S [123]])]⟩ krf (sR tfm ⟨[2],[1],[],[]⟩ ⟨[(2, .fn (.func 89) [] [.ptr 1 0])],[(1, .box 9 [S [123]])]⟩ krf (sT (iq_ret (.id) [1] [] (.fn (.func 89) [] [.ptr 1 0]) krf krf ?_)))))))
      refine kh [0] krf (lates_cons (late_read (.ptr 1001 0) krf rfl) (lates_nil)) krf (h_enter (f:=67) (args:=[.ptr 1001 0, .fn (.func 89) [] [.ptr 401 0]]) (dst:=some 4) krf krf (sc_inline (hc:=[(1000, .box 9 [S [123]]),(1001, .box 53 [.p (.sl 4 (mTk j7_2)),I j7_3,I j7_4, .tsl 2 (mDg a0r.diags) 1002]),(1002, .arr 41 2 (mDg a0r.diags).length)]) (args':=[.ptr 1001 0, .fn (.func 89) [] [.ptr 1000 0]]) [(1000,401),(1001,1001),(1002,1002)] [] [] Try.func67 rfl Try.ntmps67 rfl krf krf krf (sR tfm ⟨[0,1,4],[4,1000,1001,1002],[],[]⟩ ⟨[(0, .ptr 1001 0),(1, .fn (.func 89) [] [.ptr 1000 0]),(4, .ptr 4 0)],[(4, .box 56 [I 0,S [],I 0,I 0]),(1000, .box 9 [S [123]]),(1001, .box 53 [.p (.sl 4 (mTk j7_2)),I j7_3,I j7_4, .tsl 2 (mDg a0r.diags) 1002]),(1002, .arr 41 2 (mDg a0r.diags).length)]⟩ krf (sS (sG (xR 1 krf ?_))))))
      refine xs_ro [.ro [.id, .id, .id, .sl 2]] krf (g_p_reader_peek_2_ok n (⟨j7_2,j7_3,j7_4,a0r.diags⟩:GPr)) krf krf (fun _=>by kernel_rfl) (fun r16=>?_)
      refine xR 2 krf (xE (sN ⟨[0,1,4,5],[4,5,1000,1001,1002],[],[]⟩ ⟨[(0, .ptr 1001 0),(1, .fn (.func 89) [] [.ptr 1000 0]),(4, .ptr 4 0),(5, .ptr 5 0)],[(4, .box 56 [I 0,S [],I 0,I 0]),(5, .box 56 (bxc (GTk.cs r16))),(1000, .box 9 [S [123]]),(1001, .box 53 [.p (.sl 4 (mTk j7_2)),I j7_3,I j7_4, .tsl 2 (mDg a0r.diags) 1002]),(1002, .arr 41 2 (mDg a0r.diags).length)]⟩ krf (sim_cps (fun _=>⟨[(0, .ptr 1001 0),(4, .ptr 4 0),(5, .ptr 5 0)],[(4, .box 56 [I 0,S [],I 0,I 0]),(5, .box 56 (bxc (GTk.cs r16))),(1000, .box 9 [S [123]]),(1001, .box 53 [.p (.sl 4 (mTk j7_2)),I j7_3,I j7_4, .tsl 2 (mDg a0r.diags) 1002]),(1002, .arr 41 2 (mDg a0r.diags).length)]⟩:Unit→St) (fun _=>g_p_reader_item_j17 n a0r r1 r3 r5 j7_1 j7_2 j7_3 j7_4) ?_ ?_)))
      ·rintro _
       show SimE (g_p_reader_item_j17 n a0r r1 r3 r5 j7_1 j7_2 j7_3 j7_4) _ _ _ _ _ _
       unfold g_p_reader_item_j17
       refine sR tfm ⟨[4,5],[4,5,1000,1001,1002],[],[]⟩ ⟨[(4, .ptr 4 0),(5, .ptr 5 0)],[(4, .box 56 [I 0,S [],I 0,I 0]),(5, .box 56 (bxc (GTk.cs r16))),(1000, .box 9 [S [123]]),(1001, .box 53 [.p (.sl 4 (mTk j7_2)),I (wi (j7_3+1)),I j7_4, .tsl 2 (mDg a0r.diags) 1002]),(1002, .arr 41 2 (mDg a0r.diags).length)]⟩ krf (sR tfm ⟨[4],[4,1000,1001,1002],[],[]⟩ ⟨[(4, .ptr 4 0)],[(4, .box 56 (bxc (GTk.cs r16))),(1000, .box 9 [S [123]]),(1001, .box 53 [.p (.sl 4 (mTk j7_2)),I (wi (j7_3+1)),I j7_4, .tsl 2 (mDg a0r.diags) 1002]),(1002, .arr 41 2 (mDg a0r.diags).length)]⟩ krf (sT (iq_ret (.id) [1000,1001,1002] [] (.agg [I r16.Kind,S r16.Text,I r16.N,I r16.At]) krf krf (kh [] krf (lates_nil) krf (h_end (sN ⟨[],[1000,1001,1002],[],[]⟩ ⟨[],[(1000, .box 51 [.ptr 1001 0]),(1001, .box 53 [.p (.sl 4 (mTk j7_2)),I (wi (j7_3+1)),I j7_4, .tsl 2 (mDg a0r.diags) 1002]),(1002, .arr 41 2 (mDg a0r.diags).length)]⟩ krf (sR tfm ⟨[1],[1000,1001,1002],[],[]⟩ ⟨[(1,zS)],[(1000, .box 51 [.ptr 1001 0]),(1001, .box 53 [.p (.sl 4 (mTk j7_2)),I (wi (j7_3+1)),I j7_4, .tsl 2 (mDg a0r.diags) 1002]),(1002, .arr 41 2 (mDg a0r.diags).length)]⟩ krf ?_)))))))
       refine sT (iq_ret (.sl 5) [1000,1001,1002] [] (.p (.sl 5 (mI []))) krf krf (kh [0,1] krf (lates_cons (late_read (.ptr 11 4) krf rfl) (lates_cons (late_tsl (S:=5) (t:=600) (ty:=24) (es:=mI ([]++j7_1)) krf krf rfl) (lates_nil))) krf (h_if [] rfl krf krf (aop_appL (e:=24) (S:=5) (by_:=64) (enc:=idc) (tk:=600) (l:=[]++j7_1) (l2:=[]) (xv:=.p (.sl 5 (mI []))) rfl krf krf rfl krf krf krf krf) (fun _=>lates_nil) (h_op [] krf krf (lates_nil) (h_op [] krf krf (lates_nil) (h_end (bq_n ?_)))))))
       refine sN ⟨[10,11,20,21,22],[10,11,600,1000,1001,1002,1003],[],[]⟩ ⟨[(10, .ptr 10 0),(11, .ptr 11 0),(20, .bsl 1001 3),(21,I 3),(22,I 1)],[(10, .box 24 [I 0,S [],I 0,I 0,zS]),(11, .box 24 [I 2,S r3.Text,I r5,I r1.At, .tsl 5 (mI (([]++j7_1)++[])) 600]),(600, .arr 24 5 (mI (([]++j7_1)++[])).length),(1000, .box 51 [.ptr 1002 0]),(1001, .box 57 [.fn (.func 74) [.ptr 1002 0] [], .fn (.func 72) [] [.ptr 1000 0], .fn (.func 75) [.ptr 1002 0] []]),(1002, .box 53 [.p (.sl 4 (mTk j7_2)),I (wi (j7_3+1)),I j7_4, .tsl 2 (mDg a0r.diags) 1003]),(1003, .arr 41 2 (mDg a0r.diags).length)]⟩ krf (sL tfm krf (ru_n ⟨[10,11,20,21,22],[10,11,600,1000,1001,1002,1003],[],[]⟩ ⟨[(10, .ptr 10 0),(11, .ptr 11 0),(20, .bsl 1001 3),(21,I 3),(22,I 2)],[(10, .box 24 [I 0,S [],I 0,I 0,zS]),(11, .box 24 [I 2,S r3.Text,I r5,I r1.At, .tsl 5 (mI (([]++j7_1)++[])) 600]),(600, .arr 24 5 (mI (([]++j7_1)++[])).length),(1000, .box 51 [.ptr 1002 0]),(1001, .box 57 [.fn (.func 74) [.ptr 1002 0] [], .fn (.func 72) [] [.ptr 1000 0], .fn (.func 75) [.ptr 1002 0] []]),(1002, .box 53 [.p (.sl 4 (mTk j7_2)),I (wi (j7_3+1)),I j7_4, .tsl 2 (mDg a0r.diags) 1003]),(1003, .arr 41 2 (mDg a0r.diags).length)]⟩ krf (sR tfm ⟨[10,11,20,21,22,23],[10,11,600,1000,1001,1002,1003],[],[]⟩ ⟨[(10, .ptr 10 0),(11, .ptr 11 0),(20, .bsl 1001 3),(21,I 3),(22,I 2),(23,B true)],[(10, .box 24 [I 0,S [],I 0,I 0,zS]),(11, .box 24 [I 2,S r3.Text,I r5,I r1.At, .tsl 5 (mI (([]++j7_1)++[])) 600]),(600, .arr 24 5 (mI (([]++j7_1)++[])).length),(1000, .box 51 [.ptr 1002 0]),(1001, .box 57 [.fn (.func 74) [.ptr 1002 0] [], .fn (.func 72) [] [.ptr 1000 0], .fn (.func 75) [.ptr 1002 0] []]),(1002, .box 53 [.p (.sl 4 (mTk j7_2)),I (wi (j7_3+1)),I j7_4, .tsl 2 (mDg a0r.diags) 1003]),(1003, .arr 41 2 (mDg a0r.diags).length)]⟩ krf (sS (sim_condT krf (sK (sN ⟨[10,11,20,21,22],[10,11,600,1000,1001,1002,1003],[],[]⟩ ⟨[(10, .ptr 10 0),(11, .ptr 11 0),(20, .bsl 1001 3),(21,I 3),(22,I 2)],[(10, .box 24 [I 0,S [],I 0,I 0,zS]),(11, .box 24 [I 2,S r3.Text,I r5,I r1.At, .tsl 5 (mI (([]++j7_1)++[])) 600]),(600, .arr 24 5 (mI (([]++j7_1)++[])).length),(1000, .box 51 [.ptr 1002 0]),(1001, .box 57 [.fn (.func 74) [.ptr 1002 0] [], .fn (.func 72) [] [.ptr 1000 0], .fn (.func 75) [.ptr 1002 0] []]),(1002, .box 53 [.p (.sl 4 (mTk j7_2)),I (wi (j7_3+1)),I j7_4, .tsl 2 (mDg a0r.diags) 1003]),(1003, .arr 41 2 (mDg a0r.diags).length)]⟩ krf ?_)))))))
       refine sim_bind (fun (j18_1,j18_2,j18_3,j18_4,j18_5)=>⟨[(10, .ptr 10 0),(11, .ptr 11 0),(20, .bsl 1001 3),(21,I 3),(22,I 2)],[(10, .box 24 [I 0,S [],I 0,I 0,zS]),(11, .box 24 [I 2,S r3.Text,I r5,I r1.At, .tsl 5 (mI j18_1) 600]),(600, .arr 24 5 (mI j18_1).length),(1000, .box 51 [.ptr 1002 0]),(1001, .box 57 [.fn (.func 74) [.ptr 1002 0] [], .fn (.func 72) [] [.ptr 1000 0], .fn (.func 75) [.ptr 1002 0] []]),(1002, .box 53 [.p (.sl 4 (mTk j18_2)),I j18_3,I j18_4, .tsl 2 (mDg j18_5) 1003]),(1003, .arr 41 2 (mDg j18_5).length)]⟩:((List (List PV)) × (List GTk) × Int × Int × (List GDg))→St) ?_ ?_
       ·refine sB (sR tfm ⟨[10,11,13,20,21,22],[10,11,600,1000,1001,1002,1003],[],[]⟩ ⟨[(10, .ptr 10 0),(11, .ptr 11 0),(13, .fn (.func 75) [.ptr 1002 0] []),(20, .bsl 1001 3),(21,I 3),(22,I 2)],[(10, .box 24 [I 0,S [],I 0,I 0,zS]),(11, .box 24 [I 2,S r3.Text,I r5,I r1.At, .tsl 5 (mI (([]++j7_1)++[])) 600]),(600, .arr 24 5 (mI (([]++j7_1)++[])).length),(1000, .box 51 [.ptr 1002 0]),(1001, .box 57 [.fn (.func 74) [.ptr 1002 0] [], .fn (.func 72) [] [.ptr 1000 0], .fn (.func 75) [.ptr 1002 0] []]),(1002, .box 53 [.p (.sl 4 (mTk j7_2)),I (wi (j7_3+1)),I j7_4, .tsl 2 (mDg a0r.diags) 1003]),(1003, .arr 41 2 (mDg a0r.diags).length)]⟩ krf (sim_hst [0,1,2] [0,1] [(3,[]),(4,[]),(5,[]),(6,[])] tfm rfl krf krf (h_enter (f:=75) (args:=[.ptr 1002 0]) (dst:=some 29) krf krf (sc_inline (hc:=[(1000, .box 53 [.p (.sl 4 (mTk j7_2)),I (wi (j7_3+1)),I j7_4, .tsl 2 (mDg a0r.diags) 1001]),(1001, .arr 41 2 (mDg a0r.diags).length)]) (args':=[.ptr 1000 0]) [(1000,1002),(1001,1003)] [] [] Try.func75 rfl Try.ntmps75 rfl krf krf krf (sR tfm ⟨[1],[1,1000,1001],[],[]⟩ ⟨[(1, .ptr 1 0)],[(1, .box 51 [.ptr 1000 0]),(1000, .box 53 [.p (.sl 4 (mTk j7_2)),I (wi (j7_3+1)),I j7_4, .tsl 2 (mDg a0r.diags) 1001]),(1001, .arr 41 2 (mDg a0r.diags).length)]⟩ krf (sR tfm ⟨[1,3],[1,1000,1001],[],[]⟩ ⟨[(1, .ptr 1 0),(3,zS)],[(1, .box 51 [.ptr 1000 0]),(1000, .box 53 [.p (.sl 4 (mTk j7_2)),I (wi (j7_3+1)),I j7_4, .tsl 2 (mDg a0r.diags) 1001]),(1001, .arr 41 2 (mDg a0r.diags).length)]⟩ krf (sim_cps (fun (j19_1,j19_2,j19_3,j19_4,j19_5)=>⟨[(3, .tsl 5 (mI j19_1) 32)],[(32, .arr 24 5 (mI j19_1).length),(1000, .box 53 [.p (.sl 4 (mTk j19_2)),I j19_3,I j19_4, .tsl 2 (mDg j19_5) 1001]),(1001, .arr 41 2 (mDg j19_5).length)]⟩:((List (List PV)) × (List GTk) × Int × Int × (List GDg))→St) (fun (j19_1,j19_2,j19_3,j19_4,j19_5)=>g_p_reader_item_j19 j7_1 j19_1 j19_2 j19_3 j19_4 j19_5) ?_ ?_)))))))
        ·rintro ⟨j19_1,j19_2,j19_3,j19_4,j19_5⟩
         show SimE (g_p_reader_item_j19 j7_1 j19_1 j19_2 j19_3 j19_4 j19_5) _ _ _ _ _ _
         unfold g_p_reader_item_j19
         refine sR tfm ⟨[2],[32,1000,1001],[],[]⟩ ⟨[(2, .tsl 5 (mI j19_1) 32)],[(32, .arr 24 5 (mI j19_1).length),(1000, .box 53 [.p (.sl 4 (mTk j19_2)),I j19_3,I j19_4, .tsl 2 (mDg j19_5) 1001]),(1001, .arr 41 2 (mDg j19_5).length)]⟩ krf (sT (iq_ret (.sl 5) [1000,1001] [] (.p (.sl 5 (mI j19_1))) krf krf (kh [0,1] krf (lates_cons (late_read (.ptr 11 4) krf rfl) (lates_cons (late_tsl (S:=5) (t:=600) (ty:=24) (es:=mI (([]++j7_1)++[])) krf krf rfl) (lates_nil))) krf (h_if [] rfl krf krf (aop_appL (e:=24) (S:=5) (by_:=64) (enc:=idc) (tk:=600) (l:=([]++j7_1)++[]) (l2:=j19_1) (xv:=.p (.sl 5 (mI j19_1))) rfl krf krf rfl krf krf krf krf) (fun _=>lates_nil) (h_op [] krf krf (lates_nil) (h_op [] krf krf (lates_nil) (h_end ?_)))))))
         refine bq_n ?_
         exact nq_n ((([]++j7_1)++[])++j19_1,j19_2,j19_3,j19_4,j19_5) ⟨[10,11,20,21,22],[10,11,600,1000,1001,1002,1003],[],[]⟩ krf
        ·refine sB (sP ⟨[1,3],[1,1000,1001],[],[]⟩ ⟨[(1, .ptr 1 0),(3,zS)],[(1, .box 51 [.ptr 1000 0]),(1000, .box 53 [.p (.sl 4 (mTk j7_2)),I (wi (j7_3+1)),I j7_4, .tsl 2 (mDg a0r.diags) 1001]),(1001, .arr 41 2 (mDg a0r.diags).length)]⟩ krf (sim_weak (weak_pn 24 5 32 [3] [] krf) (sim_loop (fun (l20_1,l20_2,l20_3,l20_4,l20_5)=>⟨[(1, .ptr 1 0),(3, .tsl 5 (mI l20_1) 32)],[(1, .box 51 [.ptr 1000 0]),(32, .arr 24 5 (mI l20_1).length),(1000, .box 53 [.p (.sl 4 (mTk l20_2)),I l20_3,I l20_4, .tsl 2 (mDg l20_5) 1001]),(1001, .arr 41 2 (mDg l20_5).length)]⟩:((List (List PV)) × (List GTk) × Int × Int × (List GDg))→St) (weak_shr (K:=⟨[1,3],[1,32,1000,1001],[],[]⟩) krf) ?_)))
         rintro recl20 ⟨l20_1,l20_2,l20_3,l20_4,l20_5⟩
         show SimE (g_p_reader_item_l20 n j7_1 recl20 l20_1 l20_2 l20_3 l20_4 l20_5) _ _ _ _ _ _
         unfold g_p_reader_item_l20
         refine sS (sS (sG (xR 1 krf ?_)))
         refine xs_ro [.ro [.id, .id, .id, .sl 2]] krf (g_p_reader_full_ok n (⟨l20_2,l20_3,l20_4,l20_5⟩:GPr)) krf krf (fun _=>by kernel_rfl) (fun r21=>?_)
         refine xR 1 krf (xE (sN ⟨[1,3,9],[1,32,1000,1001],[],[]⟩ ⟨[(1, .ptr 1 0),(3, .tsl 5 (mI l20_1) 32),(9,B (!r21))],[(1, .box 51 [.ptr 1000 0]),(32, .arr 24 5 (mI l20_1).length),(1000, .box 53 [.p (.sl 4 (mTk l20_2)),I l20_3,I l20_4, .tsl 2 (mDg l20_5) 1001]),(1001, .arr 41 2 (mDg l20_5).length)]⟩ krf (sC (!r21) krf ?_ ?_)))
         ·refine sK (sN ⟨[1,3],[1,32,1000,1001],[],[]⟩ ⟨[(1, .ptr 1 0),(3, .tsl 5 (mI l20_1) 32)],[(1, .box 51 [.ptr 1000 0]),(32, .arr 24 5 (mI l20_1).length),(1000, .box 53 [.p (.sl 4 (mTk l20_2)),I l20_3,I l20_4, .tsl 2 (mDg l20_5) 1001]),(1001, .arr 41 2 (mDg l20_5).length)]⟩ krf (sB (sS (sS (sim_hst [1] [1] [(0,[]),(2,[]),(3,[])] tfm rfl krf krf (h_enter (f:=73) (args:=[S [125]]) (dst:=some 10) krf krf (sc_inline (hc:=[]) (args':=[S [125]]) [(1,401)] [] [] Try.func73 rfl Try.ntmps73 rfl krf krf krf ?_)))))))
          refine sR tfm ⟨[1],[1],[],[]⟩ ⟨[(1, .ptr 1 0)],[(1, .box 9 [S [125]])]⟩ krf (sR tfm ⟨[2],[1],[],[]⟩ ⟨[(2, .fn (.func 89) [] [.ptr 1 0])],[(1, .box 9 [S [125]])]⟩ krf (sT (iq_ret (.id) [1] [] (.fn (.func 89) [] [.ptr 1 0]) krf krf (kh [1] krf (lates_cons (late_read (.ptr 1000 0) krf rfl) (lates_nil)) krf (h_enter (f:=86) (args:=[.ptr 1000 0]) (dst:=some 12) krf krf ?_)))))
          refine sc_ro [.ro [.id, .id, .id, .sl 2]] (g_p_reader_peek_2_ok n (⟨l20_2,l20_3,l20_4,l20_5⟩:GPr)) krf krf (fun _=>by kernel_rfl) (fun r22=>?_)
          refine kh [] krf (lates_nil) krf (h_enter (f:=89) (args:=[.agg [I r22.Kind,S r22.Text,I r22.N,I r22.At], .ptr 401 0]) (dst:=some 13) krf krf (sc_inline (hc:=[(1000, .box 9 [S [125]])]) (args':=[.agg [I r22.Kind,S r22.Text,I r22.N,I r22.At], .ptr 1000 0]) [(1000,401)] [] [] Try.func89 rfl Try.ntmps89 rfl krf krf krf (sR tfm ⟨[1,2],[2,1000],[],[]⟩ ⟨[(1, .ptr 1000 0),(2, .ptr 2 0)],[(2, .box 56 (bxc (GTk.cs r22))),(1000, .box 9 [S [125]])]⟩ krf (sim_bind (fun j23=>⟨[(3,B j23)],[(1000, .box 9 [S [125]])]⟩:Bool→St) ?_ ?_))))
          ·refine sG (xR 4 krf ?_)
           refine xS (eqI r22.Kind 3) (fun h24=>?_) (fun h24=>?_)
           ·refine xO (want_tt krf h24) krf (xR 5 krf (xE ?_))
            exact nq_n (eqS r22.Text [125]) ⟨[3],[1000],[],[]⟩ krf
           ·refine xN (want_tf krf h24) krf (xR 5 krf (xE ?_))
            exact nq_n false ⟨[3],[1000],[],[]⟩ krf
          ·rintro j23
           refine sT (iq_ret (.id) [1000] [] (B j23) krf krf (kh [] krf (lates_nil) krf (h_end (sN ⟨[1,3,13],[1,32,1000,1001],[],[]⟩ ⟨[(1, .ptr 1 0),(3, .tsl 5 (mI l20_1) 32),(13,B j23)],[(1, .box 51 [.ptr 1000 0]),(32, .arr 24 5 (mI l20_1).length),(1000, .box 53 [.p (.sl 4 (mTk l20_2)),I l20_3,I l20_4, .tsl 2 (mDg l20_5) 1001]),(1001, .arr 41 2 (mDg l20_5).length)]⟩ krf (sC j23 krf ?_ ?_)))))
           ·refine sR tfm ⟨[3],[32,1000,1001],[],[]⟩ ⟨[(3, .tsl 5 (mI l20_1) 32)],[(32, .arr 24 5 (mI l20_1).length),(1000, .box 53 [.p (.sl 4 (mTk l20_2)),I (wi (l20_3+1)),I l20_4, .tsl 2 (mDg l20_5) 1001]),(1001, .arr 41 2 (mDg l20_5).length)]⟩ krf (sR tfm ⟨[2],[32,1000,1001],[],[]⟩ ⟨[(2, .tsl 5 (mI l20_1) 32)],[(32, .arr 24 5 (mI l20_1).length),(1000, .box 53 [.p (.sl 4 (mTk l20_2)),I (wi (l20_3+1)),I l20_4, .tsl 2 (mDg l20_5) 1001]),(1001, .arr 41 2 (mDg l20_5).length)]⟩ krf (sT (sq_r (bq_r (kq_r (bq_r (kq_r ?_)))))))
            refine iq_ret (.sl 5) [1000,1001] [] (.p (.sl 5 (mI l20_1))) krf krf (kh [0,1] krf (lates_cons (late_read (.ptr 11 4) krf rfl) (lates_cons (late_tsl (S:=5) (t:=600) (ty:=24) (es:=mI (([]++j7_1)++[])) krf krf rfl) (lates_nil))) krf (h_if [] rfl krf krf (aop_appL (e:=24) (S:=5) (by_:=64) (enc:=idc) (tk:=600) (l:=([]++j7_1)++[]) (l2:=l20_1) (xv:=.p (.sl 5 (mI l20_1))) rfl krf krf rfl krf krf krf krf) (fun _=>lates_nil) (h_op [] krf krf (lates_nil) (h_op [] krf krf (lates_nil) (h_end (bq_n ?_))))))
            exact nq_n ((([]++j7_1)++[])++l20_1,l20_2,wi (l20_3+1),l20_4,l20_5) ⟨[10,11,20,21,22],[10,11,600,1000,1001,1002,1003],[],[]⟩ krf
           ·refine sK (sN ⟨[1,3],[1,32,1000,1001],[],[]⟩ ⟨[(1, .ptr 1 0),(3, .tsl 5 (mI l20_1) 32)],[(1, .box 51 [.ptr 1000 0]),(32, .arr 24 5 (mI l20_1).length),(1000, .box 53 [.p (.sl 4 (mTk l20_2)),I l20_3,I l20_4, .tsl 2 (mDg l20_5) 1001]),(1001, .arr 41 2 (mDg l20_5).length)]⟩ krf (sR tfm ⟨[1,3,4],[1,4,32,1000,1001],[],[]⟩ ⟨[(1, .ptr 1 0),(3, .tsl 5 (mI l20_1) 32),(4, .ptr 4 0)],[(1, .box 51 [.ptr 1000 0]),(4, .box 24 [I 0,S [],I 0,I 0,zS]),(32, .arr 24 5 (mI l20_1).length),(1000, .box 53 [.p (.sl 4 (mTk l20_2)),I l20_3,I l20_4, .tsl 2 (mDg l20_5) 1001]),(1001, .arr 41 2 (mDg l20_5).length)]⟩ krf (sim_bind (fun (j25_1,j25_2,j25_3,j25_4,j25_5,j25_6,j25_7,j25_8,j25_9,j25_10,j25_11)=>⟨[(1, .ptr 1 0),(3, .tsl 5 (mI l20_1) 32),(4, .ptr 4 0),(5,B j25_1),(6,S j25_2)],[(1, .box 51 [.ptr 1000 0]),(4, .box 24 (bxc (GNode.cs ⟨j25_7,j25_8,j25_9,j25_10,j25_11⟩))),(32, .arr 24 5 (mI l20_1).length),(1000, .box 53 [.p (.sl 4 (mTk j25_3)),I j25_4,I j25_5, .tsl 2 (mDg j25_6) 1001]),(1001, .arr 41 2 (mDg j25_6).length)]⟩:(Bool × (List UInt8) × (List GTk) × Int × Int × (List GDg) × Int × (List UInt8) × Int × Int × (List (List PV)))→St) ?_ ?_)))
            ·refine sG (xR 2 krf (xs_enter (f:=44) (args:=[.ptr 1000 0, .fn (.func 92) [] [.ptr 1 0, .ptr 4 0]]) krf krf krf ?_))
             refine sc_inlineD (hc:=[(1000, .box 51 [.ptr 1002 0]),(1001, .box 24 [I 0,S [],I 0,I 0,zS]),(1002, .box 53 [.p (.sl 4 (mTk l20_2)),I l20_3,I l20_4, .tsl 2 (mDg l20_5) 1003]),(1003, .arr 41 2 (mDg l20_5).length)]) (args':=[.ptr 1002 0, .fn (.func 92) [] [.ptr 1000 0, .ptr 1001 0]]) [(1000,1),(1001,4),(1002,1000),(1003,1001)] [] [] (⟨_,_,_,_,_,_,[2,4,5],6,_,rfl,rfl,rfl,rfl,rfl,rfl,rfl,rfl,by decide⟩:Deferrer2 Try.f44 65) [(2,1900),(4,1901),(5,1902)] Try.func44 Try.ntmps44 krf krf krf krf krf tfm rfl krf krf ?_
             refine sP ⟨[1,4,5],[1000,1001,1002,1003,1900,1901,1902],[],[]⟩ ⟨[(1, .fn (.func 92) [] [.ptr 1000 0, .ptr 1001 0]),(4, .ptr 1901 0),(5, .ptr 1902 0)],[(1000, .box 51 [.ptr 1002 0]),(1001, .box 24 [I 0,S [],I 0,I 0,zS]),(1002, .box 53 [.p (.sl 4 (mTk l20_2)),I l20_3,I l20_4, .tsl 2 (mDg l20_5) 1003]),(1003, .arr 41 2 (mDg l20_5).length),(1900, .box 51 [.ptr 1002 0]),(1901, .box 4 [B false]),(1902, .box 9 [S []])]⟩ krf (sS (sG (xR 1 krf (xs_inline [(1000, .box 51 [.ptr 1002 0]),(1001, .box 24 [I 0,S [],I 0,I 0,zS]),(1002, .box 53 [.p (.sl 4 (mTk l20_2)),I l20_3,I l20_4, .tsl 2 (mDg l20_5) 1003]),(1003, .arr 41 2 (mDg l20_5).length)] [.ptr 1000 0, .ptr 1001 0] [(1000,1000),(1001,1001),(1002,1002),(1003,1003)] [] [] krf Try.func92 rfl Try.ntmps92 rfl krf krf krf (sG (xR 1 krf (xs_enter (f:=93) (args:=[.ptr 1002 0]) krf krf krf ?_)))))))
             refine sc_hold 1002 3 1003 41 2 (mDg l20_5).length (mDg l20_5) ⟨[0,1,2],[1000,1001,1002],[],[]⟩ krf krf rfl (fun _ _ _=>by kernel_rfl) (fun hu26w hu26l hu26c=>?_)
             refine sc_heapE [(1000,1002)] [] [] (g_p_reader_article_ok n (⟨l20_2,l20_3,l20_4,[]⟩:GPr) hu26w hu26l hu26c) krf krf krf (fun _=>by kernel_rfl) (fun _=>by kernel_rfl) (fun _=>by kernel_rfl) (fun _=>by kernel_rfl) (fun r26=>?_) (fun e27=>?_)
             ·refine k_hold _ rfl krf krf (kr0 (xR 1 krf (xE (iq_n (.id) [1000,1001,1002,1003] [] (.tup []) krf krf (kr0 (xE (sN ⟨[4,5],[1000,1001,1002,1003,1900,1901,1902],[],[]⟩ ⟨[(4, .ptr 1901 0),(5, .ptr 1902 0)],[(1000, .box 51 [.ptr 1002 0]),(1001, .box 24 (bxc (GNode.cs r26.1))),(1002, .box 53 [.p (.sl 4 (mTk r26.2.tokens)),I r26.2.pos,I r26.2.length, .tsl 2 (mDg l20_5) 1003]),(1003, .arr 41 2 (mDg l20_5).length),(1900, .box 51 [.ptr 1002 0]),(1901, .box 4 [B false]),(1902, .box 9 [S []])]⟩ krf ?_)))))))
              refine sR tfm ⟨[4,5],[1000,1001,1002,1003,1900,1901,1902],[],[]⟩ ⟨[(4, .ptr 1901 0),(5, .ptr 1902 0)],[(1000, .box 51 [.ptr 1002 0]),(1001, .box 24 (bxc (GNode.cs r26.1))),(1002, .box 53 [.p (.sl 4 (mTk r26.2.tokens)),I r26.2.pos,I r26.2.length, .tsl 2 (mDg l20_5) 1003]),(1003, .arr 41 2 (mDg l20_5).length),(1900, .box 51 [.ptr 1002 0]),(1901, .box 4 [B true]),(1902, .box 9 [S []])]⟩ krf (sT ?_)
              refine dI_end (⟨Try.f65,_,_,_,6,3,_,_,Try.func65,rfl,rfl,rfl,rfl,rfl,rfl,rfl,by decide,by decide⟩:Recoverer Try.prog 65) [(1000,1002),(1001,1003),(1002,1900),(1003,1901),(1004,1902)] [(1000, .box 53 [.p (.sl 4 (mTk r26.2.tokens)),I r26.2.pos,I r26.2.length, .tsl 2 (mDg l20_5) 1001]),(1001, .arr 41 2 (mDg l20_5).length),(1002, .box 51 [.ptr 1000 0]),(1003, .box 4 [B true]),(1004, .box 9 [S []])] (.p (.val (.nilIface))) [.ptr 1002 0, .ptr 1003 0, .ptr 1004 0] [] rfl krf krf krf krf ?_
              refine sS (sR tfm ⟨[0,1,2,3,8],[1000,1001,1002,1003,1004],[],[]⟩ ⟨[(0, .ptr 1002 0),(1, .ptr 1003 0),(2, .ptr 1004 0),(3, .p (.val (.nilIface))),(8,B true)],[(1000, .box 53 [.p (.sl 4 (mTk r26.2.tokens)),I r26.2.pos,I r26.2.length, .tsl 2 (mDg l20_5) 1001]),(1001, .arr 41 2 (mDg l20_5).length),(1002, .box 51 [.ptr 1000 0]),(1003, .box 4 [B true]),(1004, .box 9 [S []])]⟩ krf (sim_condT krf (sT (sq_r (cl_ret [1000,1001,1002,1003,1004] [] krf krf (iq_ret (.id) [1000,1001,1002,1003] [] (.tup [B true,S []]) krf krf (kr0 ?_)))))))
              refine xR 5 krf (xE ?_)
              exact nq_n (true,[],r26.2.tokens,r26.2.pos,r26.2.length,l20_5,r26.1.Kind,r26.1.Name,r26.1.N,r26.1.At,r26.1.Kids) ⟨[1,3,4,5,6],[1,4,32,1000,1001],[],[]⟩ krf
             ·refine q_hold _ rfl krf krf (iq_p [1000,1001,1002,1003] [] krf (sq_p ?_))
              refine dI_end (⟨Try.f65,_,_,_,6,3,_,_,Try.func65,rfl,rfl,rfl,rfl,rfl,rfl,rfl,by decide,by decide⟩:Recoverer Try.prog 65) [(1000,1002),(1001,1003),(1002,1900),(1003,1901),(1004,1902)] [(1000, .box 53 [.p (.sl 4 (mTk e27.2.tokens)),I e27.2.pos,I e27.2.length, .tsl 2 (mDg l20_5) 1001]),(1001, .arr 41 2 (mDg l20_5).length),(1002, .box 51 [.ptr 1000 0]),(1003, .box 4 [B false]),(1004, .box 9 [S []])] (.ifc 97 (.agg [I e27.1])) [.ptr 1002 0, .ptr 1003 0, .ptr 1004 0] [] rfl krf krf krf krf ?_
              refine sS (sR tfm ⟨[0,1,2,3,8],[1000,1001,1002,1003,1004],[],[]⟩ ⟨[(0, .ptr 1002 0),(1, .ptr 1003 0),(2, .ptr 1004 0),(3, .ifc 97 (.agg [I e27.1])),(8,B false)],[(1000, .box 53 [.p (.sl 4 (mTk e27.2.tokens)),I e27.2.pos,I e27.2.length, .tsl 2 (mDg l20_5) 1001]),(1001, .arr 41 2 (mDg l20_5).length),(1002, .box 51 [.ptr 1000 0]),(1003, .box 4 [B false]),(1004, .box 9 [S []])]⟩ krf (sim_condF krf (sK (sN ⟨[0,1,2,3],[1000,1001,1002,1003,1004],[],[]⟩ ⟨[(0, .ptr 1002 0),(1, .ptr 1003 0),(2, .ptr 1004 0),(3, .ifc 97 (.agg [I e27.1]))],[(1000, .box 53 [.p (.sl 4 (mTk e27.2.tokens)),I e27.2.pos,I e27.2.length, .tsl 2 (mDg l20_5) 1001]),(1001, .arr 41 2 (mDg l20_5).length),(1002, .box 51 [.ptr 1000 0]),(1003, .box 4 [B false]),(1004, .box 9 [S []])]⟩ krf (sR tfm ⟨[0,1,2,3,4,5],[4,1000,1001,1002,1003,1004],[],[]⟩ ⟨[(0, .ptr 1002 0),(1, .ptr 1003 0),(2, .ptr 1004 0),(3, .ifc 97 (.agg [I e27.1])),(4, .ptr 4 0),(5,B true)],[(4, .box 97 [I e27.1]),(1000, .box 53 [.p (.sl 4 (mTk e27.2.tokens)),I e27.2.pos,I e27.2.length, .tsl 2 (mDg l20_5) 1001]),(1001, .arr 41 2 (mDg l20_5).length),(1002, .box 51 [.ptr 1000 0]),(1003, .box 4 [B false]),(1004, .box 9 [S []])]⟩ krf (sS (sR tfm ⟨[0,1,2,3,4,15],[4,1000,1001,1002,1003,1004],[],[]⟩ ⟨[(0, .ptr 1002 0),(1, .ptr 1003 0),(2, .ptr 1004 0),(3, .ifc 97 (.agg [I e27.1])),(4, .ptr 4 0),(15,B false)],[(4, .box 97 [I e27.1]),(1000, .box 53 [.p (.sl 4 (mTk e27.2.tokens)),I e27.2.pos,I e27.2.length, .tsl 2 (mDg l20_5) 1001]),(1001, .arr 41 2 (mDg l20_5).length),(1002, .box 51 [.ptr 1000 0]),(1003, .box 4 [B false]),(1004, .box 9 [S []])]⟩ krf ?_)))))))
              refine sim_condF krf (sK (sN ⟨[0,1,2,4],[4,1000,1001,1002,1003,1004],[],[]⟩ ⟨[(0, .ptr 1002 0),(1, .ptr 1003 0),(2, .ptr 1004 0),(4, .ptr 4 0)],[(4, .box 97 [I e27.1]),(1000, .box 53 [.p (.sl 4 (mTk e27.2.tokens)),I e27.2.pos,I e27.2.length, .tsl 2 (mDg l20_5) 1001]),(1001, .arr 41 2 (mDg l20_5).length),(1002, .box 51 [.ptr 1000 0]),(1003, .box 4 [B false]),(1004, .box 9 [S []])]⟩ krf (sS (sim_drw tfm rfl (xR 9 krf (xF krf krf (aop_app (e:=41) (S:=2) (by_:=16) (enc:=GDg.cs) (tk:=1001) (l:=l20_5) (l2:=[(⟨7,e27.1⟩:GDg)]) (xv:=.tsl 2 (mDg [(⟨7,e27.1⟩:GDg)]) 25) rfl krf krf rfl krf krf krf rfl krf) (xR 3 krf ?_)))))))
              refine xs_endD krf (sN ⟨[0,1,2],[1000,1001,1002,1003,1004],[],[]⟩ ⟨[(0, .ptr 1002 0),(1, .ptr 1003 0),(2, .ptr 1004 0)],[(1000, .box 53 [.p (.sl 4 (mTk e27.2.tokens)),I e27.2.pos,I e27.2.length, .tsl 2 (mDg (l20_5++[(⟨7,e27.1⟩:GDg)])) 1001]),(1001, .arr 41 2 (mDg (l20_5++[(⟨7,e27.1⟩:GDg)])).length),(1002, .box 51 [.ptr 1000 0]),(1003, .box 4 [B false]),(1004, .box 9 [S []])]⟩ krf (sG (xR 1 krf (xs_enter (f:=66) (args:=[.ptr 1000 0]) krf krf krf ?_))))
              refine sc_hold 1000 3 1001 41 2 (mDg (l20_5++[(⟨7,e27.1⟩:GDg)])).length (mDg (l20_5++[(⟨7,e27.1⟩:GDg)])) ⟨[0,1,2,29],[1000,1002,1003,1004],[],[]⟩ krf krf rfl (fun _ _ _=>by kernel_rfl) (fun hu28w hu28l hu28c=>?_)
              refine sc_heap [(1000,1000)] [] [] (g_p_reader_skip_ok n (⟨e27.2.tokens,e27.2.pos,e27.2.length,[]⟩:GPr) hu28w hu28l hu28c) krf krf krf (fun _=>by kernel_rfl) (fun _=>by kernel_rfl) (fun r28=>?_)
              refine k_hold _ rfl krf krf (kr0 (xR 2 krf (xE (cl_n [1000,1001,1002,1003,1004] [] krf krf (iq_ret (.id) [1000,1001,1002,1003] [] (.tup [B false,S r28.1]) krf krf (kr0 (xR 5 krf ?_)))))))
              refine xE ?_
              exact nq_n (false,r28.1,r28.2.tokens,r28.2.pos,r28.2.length,l20_5++[(⟨7,e27.1⟩:GDg)],0,[],0,0,[]) ⟨[1,3,4,5,6],[1,4,32,1000,1001],[],[(4,[.id, .id, .id, .id, .sl 5])]⟩ krf
            ·rintro ⟨j25_1,j25_2,j25_3,j25_4,j25_5,j25_6,j25_7,j25_8,j25_9,j25_10,j25_11⟩
             refine sR tfm ⟨[1,3,4,6,28],[1,4,32,1000,1001],[],[]⟩ ⟨[(1, .ptr 1 0),(3, .tsl 5 (mI l20_1) 32),(4, .ptr 4 0),(6,S j25_2),(28,B j25_1)],[(1, .box 51 [.ptr 1000 0]),(4, .box 24 (bxc (GNode.cs ⟨j25_7,j25_8,j25_9,j25_10,j25_11⟩))),(32, .arr 24 5 (mI l20_1).length),(1000, .box 53 [.p (.sl 4 (mTk j25_3)),I j25_4,I j25_5, .tsl 2 (mDg j25_6) 1001]),(1001, .arr 41 2 (mDg j25_6).length)]⟩ krf (sC j25_1 krf ?_ ?_)
             ·refine sG (xR 3 krf (xF krf krf (aop_app (e:=24) (S:=5) (by_:=64) (enc:=idc) (tk:=32) (l:=l20_1) (l2:=[GNode.cs (⟨j25_7,j25_8,j25_9,j25_10,j25_11⟩:GNode)]) (xv:=.tsl 5 (mI [GNode.cs (⟨j25_7,j25_8,j25_9,j25_10,j25_11⟩:GNode)]) 31) rfl krf krf rfl krf krf krf rfl krf) (xR 1 krf (xE (bq_n ?_)))))
              exact kq_n (l20_1++[GNode.cs (⟨j25_7,j25_8,j25_9,j25_10,j25_11⟩:GNode)],j25_3,j25_4,j25_5,j25_6) ⟨[1,3],[1,32,1000,1001],[],[]⟩ krf
             ·refine sR tfm ⟨[1,3,34],[1,32,1000,1001],[],[]⟩ ⟨[(1, .ptr 1 0),(3, .tsl 5 (mI l20_1) 32),(34,B (!eqS j25_2 [59]))],[(1, .box 51 [.ptr 1000 0]),(32, .arr 24 5 (mI l20_1).length),(1000, .box 53 [.p (.sl 4 (mTk j25_3)),I j25_4,I j25_5, .tsl 2 (mDg j25_6) 1001]),(1001, .arr 41 2 (mDg j25_6).length)]⟩ krf (sC (!eqS j25_2 [59]) krf ?_ ?_)
              ·refine sR tfm ⟨[2],[32,1000,1001],[],[]⟩ ⟨[(2, .tsl 5 (mI l20_1) 32)],[(32, .arr 24 5 (mI l20_1).length),(1000, .box 53 [.p (.sl 4 (mTk j25_3)),I j25_4,I j25_5, .tsl 2 (mDg j25_6) 1001]),(1001, .arr 41 2 (mDg j25_6).length)]⟩ krf (sT (bq_r (kq_r (bq_r (kq_r (iq_ret (.sl 5) [1000,1001] [] (.p (.sl 5 (mI l20_1))) krf krf (kh [0,1] krf (lates_cons (late_read (.ptr 11 4) krf rfl) (lates_cons (late_tsl (S:=5) (t:=600) (ty:=24) (es:=mI (([]++j7_1)++[])) krf krf rfl) (lates_nil))) krf ?_)))))))
               refine h_if [] rfl krf krf (aop_appL (e:=24) (S:=5) (by_:=64) (enc:=idc) (tk:=600) (l:=([]++j7_1)++[]) (l2:=l20_1) (xv:=.p (.sl 5 (mI l20_1))) rfl krf krf rfl krf krf krf krf) (fun _=>lates_nil) (h_op [] krf krf (lates_nil) (h_op [] krf krf (lates_nil) (h_end (bq_n ?_))))
               exact nq_n ((([]++j7_1)++[])++l20_1,j25_3,j25_4,j25_5,j25_6) ⟨[10,11,20,21,22],[10,11,600,1000,1001,1002,1003],[],[]⟩ krf
              ·refine sK (bq_n ?_)
               exact kq_n (l20_1,j25_3,j25_4,j25_5,j25_6) ⟨[1,3],[1,32,1000,1001],[],[]⟩ krf
         ·refine sim_exit (sq_x (kq_x (bq_hit ?_)))
          exact kq_n (k:=fun (j19_1,j19_2,j19_3,j19_4,j19_5)=>g_p_reader_item_j19 j7_1 j19_1 j19_2 j19_3 j19_4 j19_5) (l20_1,l20_2,l20_3,l20_4,l20_5) ⟨[3],[32,1000,1001],[],[]⟩ krf
       ·rintro ⟨j18_1,j18_2,j18_3,j18_4,j18_5⟩
        refine sL tfm krf (ru_n ⟨[10,11,20,21,22],[10,11,600,1000,1001,1002,1003],[],[]⟩ ⟨[(10, .ptr 10 0),(11, .ptr 11 0),(20, .bsl 1001 3),(21,I 3),(22,I 3)],[(10, .box 24 [I 0,S [],I 0,I 0,zS]),(11, .box 24 [I 2,S r3.Text,I r5,I r1.At, .tsl 5 (mI j18_1) 600]),(600, .arr 24 5 (mI j18_1).length),(1000, .box 51 [.ptr 1002 0]),(1001, .box 57 [.fn (.func 74) [.ptr 1002 0] [], .fn (.func 72) [] [.ptr 1000 0], .fn (.func 75) [.ptr 1002 0] []]),(1002, .box 53 [.p (.sl 4 (mTk j18_2)),I j18_3,I j18_4, .tsl 2 (mDg j18_5) 1003]),(1003, .arr 41 2 (mDg j18_5).length)]⟩ krf (sR tfm ⟨[10,11,20,21,22,23],[10,11,600,1000,1001,1002,1003],[],[]⟩ ⟨[(10, .ptr 10 0),(11, .ptr 11 0),(20, .bsl 1001 3),(21,I 3),(22,I 3),(23,B false)],[(10, .box 24 [I 0,S [],I 0,I 0,zS]),(11, .box 24 [I 2,S r3.Text,I r5,I r1.At, .tsl 5 (mI j18_1) 600]),(600, .arr 24 5 (mI j18_1).length),(1000, .box 51 [.ptr 1002 0]),(1001, .box 57 [.fn (.func 74) [.ptr 1002 0] [], .fn (.func 72) [] [.ptr 1000 0], .fn (.func 75) [.ptr 1002 0] []]),(1002, .box 53 [.p (.sl 4 (mTk j18_2)),I j18_3,I j18_4, .tsl 2 (mDg j18_5) 1003]),(1003, .arr 41 2 (mDg j18_5).length)]⟩ krf (sS (sim_condF krf (sim_exit (sq_x (ru_x ?_)))))))
        refine bq_hit ?_
        exact kq_n (k:=fun (j6_1,j6_2,j6_3,j6_4,j6_5)=>g_p_reader_item_j6 r1 r3 r5 j6_1 j6_2 j6_3 j6_4 j6_5) (j18_1,j18_2,j18_3,j18_4,j18_5) ⟨[10,11],[10,11,600,1000,1001,1002,1003],[],[]⟩ krf
      ·refine sim_bind (fun j29=>⟨[(0, .ptr 1001 0),(4, .ptr 4 0),(5, .ptr 5 0),(16,B j29)],[(4, .box 56 [I 0,S [],I 0,I 0]),(5, .box 56 (bxc (GTk.cs r16))),(1000, .box 9 [S [123]]),(1001, .box 53 [.p (.sl 4 (mTk j7_2)),I j7_3,I j7_4, .tsl 2 (mDg a0r.diags) 1002]),(1002, .arr 41 2 (mDg a0r.diags).length)]⟩:Bool→St) ?_ ?_
       ·refine sG (xR 4 krf ?_)
        refine xS (eqI r16.Kind 0) (fun h30=>?_) (fun h30=>?_)
        ·refine xN (want_ft krf h30) krf (xR 4 krf (xE ?_))
         exact nq_n true ⟨[0,4,5,16],[4,5,1000,1001,1002],[],[]⟩ krf
        ·refine xO (want_ff krf h30) krf (xR 1 krf (xs_inline [(1000, .box 9 [S [123]])] [.agg [I r16.Kind,S r16.Text,I r16.N,I r16.At], .ptr 1000 0] [(1000,1000)] [] [] krf Try.func89 rfl Try.ntmps89 rfl krf krf krf (sR tfm ⟨[1,2],[2,1000],[],[]⟩ ⟨[(1, .ptr 1000 0),(2, .ptr 2 0)],[(2, .box 56 (bxc (GTk.cs r16))),(1000, .box 9 [S [123]])]⟩ krf (sim_bind (fun j31=>⟨[(3,B j31)],[(1000, .box 9 [S [123]])]⟩:Bool→St) ?_ ?_))))
         ·refine sG (xR 4 krf ?_)
          refine xS (eqI r16.Kind 3) (fun h32=>?_) (fun h32=>?_)
          ·refine xO (want_tt krf h32) krf (xR 5 krf (xE ?_))
           exact nq_n (eqS r16.Text [123]) ⟨[3],[1000],[],[]⟩ krf
          ·refine xN (want_tf krf h32) krf (xR 5 krf (xE ?_))
           exact nq_n false ⟨[3],[1000],[],[]⟩ krf
         ·rintro j31
          refine sT (iq_ret (.id) [1000] [] (B j31) krf krf (kr0 (xR 2 krf (xE ?_))))
          exact nq_n (!j31) ⟨[0,4,5,16],[4,5,1000,1001,1002],[],[]⟩ krf
       ·rintro j29
        refine sC j29 krf ?_ ?_
        ·refine sG (xR 1 krf ?_)
         refine xs_roE [.ro [.id, .id, .id, .sl 2]] krf (g_p_reader_fail_2_ok n (⟨j7_2,j7_3,j7_4,a0r.diags⟩:GPr)) krf krf (fun _=>by kernel_rfl) (fun _=>by kernel_rfl) (fun r33=>?_) (fun e34=>?_)
         ·refine xE ?_
          exact kq_n (k:=fun _=>g_p_reader_item_j17 n a0r r1 r3 r5 j7_1 j7_2 j7_3 j7_4) () ⟨[0,4,5],[4,5,1000,1001,1002],[],[]⟩ krf
         ·refine kq_p (iq_p [1000,1001,1002] [] krf (qh_p _ rfl (sq_p (iq_p [1000,1001,1002] [] krf (qh_p _ rfl (bq_p (sq_p ?_)))))))
          refine ru_p (bq_p (kq_p (iq_p [1000,1001,1002,1003] [] krf (sq_p (sq_p ?_)))))
          exact hq_p [1000,1103] [] krf krf krf
        ·refine sK ?_
         exact kq_n (k:=fun _=>g_p_reader_item_j17 n a0r r1 r3 r5 j7_1 j7_2 j7_3 j7_4) () ⟨[0,4,5],[4,5,1000,1001,1002],[],[]⟩ krf
   ·refine sK (sN ⟨[1,2,3,4,5],[1,2,3,1000,1103],[],[]⟩ ⟨[(1, .ptr 1 0),(2, .ptr 2 0),(3, .ptr 3 0),(4,S r3.Text),(5,I r5)],[(1, .box 51 [.ptr 1000 0]),(2, .box 24 [I 0,S [],I 0,I 0,zS]),(3, .box 56 (bxc (GTk.cs r1))),(1000, .box 53 [.p (.sl 4 (mTk a0r.tokens)),I (wi ((wi (a0r.pos+1))+1)),I a0r.length, .tsl 2 (mDg a0r.diags) 1103]),(1103, .arr 41 2 (mDg a0r.diags).length)]⟩ krf (sR tfm ⟨[1,2,3,4,5,7],[1,2,3,1000,1103],[],[]⟩ ⟨[(1, .ptr 1 0),(2, .ptr 2 0),(3, .ptr 3 0),(4,S r3.Text),(5,I r5),(7, .fn (.func 76) [] [.ptr 1 0])],[(1, .box 51 [.ptr 1000 0]),(2, .box 24 [I 0,S [],I 0,I 0,zS]),(3, .box 56 (bxc (GTk.cs r1))),(1000, .box 53 [.p (.sl 4 (mTk a0r.tokens)),I (wi ((wi (a0r.pos+1))+1)),I a0r.length, .tsl 2 (mDg a0r.diags) 1103]),(1103, .arr 41 2 (mDg a0r.diags).length)]⟩ krf (sS (sG (xR 7 krf (xs_inline [(1000, .box 51 [.ptr 1002 0]),(1001, .box 57 [.fn (.func 74) [.ptr 1002 0] [], .fn (.func 76) [] [.ptr 1000 0]]),(1002, .box 53 [.p (.sl 4 (mTk a0r.tokens)),I (wi ((wi (a0r.pos+1))+1)),I a0r.length, .tsl 2 (mDg a0r.diags) 1003]),(1003, .arr 41 2 (mDg a0r.diags).length)] [.agg [I r1.Kind,S r1.Text,I r1.N,I r1.At],I 2,S r3.Text,I r5, .bsl 1001 2] [(1000,1),(1001,38),(1002,1000),(1003,1103)] [] [] krf Try.func23 rfl Try.ntmps23 rfl krf krf krf (sR tfm ⟨[1,2,3,4,5,10],[5,10,1000,1001,1002,1003],[],[]⟩ ⟨[(1,I 2),(2,S r3.Text),(3,I r5),(4, .bsl 1001 2),(5, .ptr 5 0),(10, .ptr 10 0)],[(5, .box 56 (bxc (GTk.cs r1))),(10, .box 24 [I 0,S [],I 0,I 0,zS]),(1000, .box 51 [.ptr 1002 0]),(1001, .box 57 [.fn (.func 74) [.ptr 1002 0] [], .fn (.func 76) [] [.ptr 1000 0]]),(1002, .box 53 [.p (.sl 4 (mTk a0r.tokens)),I (wi ((wi (a0r.pos+1))+1)),I a0r.length, .tsl 2 (mDg a0r.diags) 1003]),(1003, .arr 41 2 (mDg a0r.diags).length)]⟩ krf ?_)))))))
    refine sR tfm ⟨[4,10,11],[10,11,1000,1001,1002,1003],[],[]⟩ ⟨[(4, .bsl 1001 2),(10, .ptr 10 0),(11, .ptr 11 0)],[(10, .box 24 [I 0,S [],I 0,I 0,zS]),(11, .box 24 [I 2,S r3.Text,I r5,I r1.At,zS]),(1000, .box 51 [.ptr 1002 0]),(1001, .box 57 [.fn (.func 74) [.ptr 1002 0] [], .fn (.func 76) [] [.ptr 1000 0]]),(1002, .box 53 [.p (.sl 4 (mTk a0r.tokens)),I (wi ((wi (a0r.pos+1))+1)),I a0r.length, .tsl 2 (mDg a0r.diags) 1003]),(1003, .arr 41 2 (mDg a0r.diags).length)]⟩ krf (sim_cps (fun (j35_1,j35_2,j35_3,j35_4)=>⟨[(10, .ptr 10 0),(11, .ptr 11 0)],[(10, .box 24 [I 0,S [],I 0,I 0,zS]),(11, .box 24 [I 2,S r3.Text,I r5,I r1.At, .tsl 5 (mI j35_1) 600]),(600, .arr 24 5 (mI j35_1).length),(1000, .box 51 [.ptr 1002 0]),(1001, .box 57 [.fn (.func 74) [.ptr 1002 0] [], .fn (.func 76) [] [.ptr 1000 0]]),(1002, .box 53 [.p (.sl 4 (mTk j35_2)),I j35_3,I j35_4, .tsl 2 (mDg a0r.diags) 1003]),(1003, .arr 41 2 (mDg a0r.diags).length)]⟩:((List (List PV)) × (List GTk) × Int × Int)→St) (fun (j35_1,j35_2,j35_3,j35_4)=>g_p_reader_item_j35 a0r r1 r3 r5 j35_1 j35_2 j35_3 j35_4) ?_ ?_)
    ·rintro ⟨j35_1,j35_2,j35_3,j35_4⟩
     show SimE (g_p_reader_item_j35 a0r r1 r3 r5 j35_1 j35_2 j35_3 j35_4) _ _ _ _ _ _
     unfold g_p_reader_item_j35
     refine sR tfm ⟨[10],[10,600,1000,1001,1002,1003],[],[]⟩ ⟨[(10, .ptr 10 0)],[(10, .box 24 [I 2,S r3.Text,I r5,I r1.At, .tsl 5 (mI j35_1) 600]),(600, .arr 24 5 (mI j35_1).length),(1000, .box 51 [.ptr 1002 0]),(1001, .box 57 [.fn (.func 74) [.ptr 1002 0] [], .fn (.func 76) [] [.ptr 1000 0]]),(1002, .box 53 [.p (.sl 4 (mTk j35_2)),I j35_3,I j35_4, .tsl 2 (mDg a0r.diags) 1003]),(1003, .arr 41 2 (mDg a0r.diags).length)]⟩ krf (sT (iq_ret (.agg [.id, .id, .id, .id, .sl 5]) [1000,1001,1002,1003] [] (.agg [I 2,S r3.Text,I r5,I r1.At, .p (.sl 5 (mI j35_1))]) krf krf (kr0 (xR 1 krf (xE (sN ⟨[2],[2,1000,1103],[],[]⟩ ⟨[(2, .ptr 2 0)],[(2, .box 24 (bxc (GNode.cs ⟨2,r3.Text,r5,r1.At,j35_1⟩))),(1000, .box 53 [.p (.sl 4 (mTk j35_2)),I j35_3,I j35_4, .tsl 2 (mDg a0r.diags) 1103]),(1103, .arr 41 2 (mDg a0r.diags).length)]⟩ krf (sT ?_)))))))
     exact hq_ret (.id) [1000,1103] [] krf krf krf krf
    ·refine sR tfm ⟨[10,11,20,21,22],[10,11,1000,1001,1002,1003],[],[]⟩ ⟨[(10, .ptr 10 0),(11, .ptr 11 0),(20, .bsl 1001 2),(21,I 2),(22,I 0)],[(10, .box 24 [I 0,S [],I 0,I 0,zS]),(11, .box 24 [I 2,S r3.Text,I r5,I r1.At,zS]),(1000, .box 51 [.ptr 1002 0]),(1001, .box 57 [.fn (.func 74) [.ptr 1002 0] [], .fn (.func 76) [] [.ptr 1000 0]]),(1002, .box 53 [.p (.sl 4 (mTk a0r.tokens)),I (wi ((wi (a0r.pos+1))+1)),I a0r.length, .tsl 2 (mDg a0r.diags) 1003]),(1003, .arr 41 2 (mDg a0r.diags).length)]⟩ krf (sB (sim_unroll 2 (sR tfm ⟨[10,11,20,21,22,23],[10,11,1000,1001,1002,1003],[],[]⟩ ⟨[(10, .ptr 10 0),(11, .ptr 11 0),(20, .bsl 1001 2),(21,I 2),(22,I 0),(23,B true)],[(10, .box 24 [I 0,S [],I 0,I 0,zS]),(11, .box 24 [I 2,S r3.Text,I r5,I r1.At,zS]),(1000, .box 51 [.ptr 1002 0]),(1001, .box 57 [.fn (.func 74) [.ptr 1002 0] [], .fn (.func 76) [] [.ptr 1000 0]]),(1002, .box 53 [.p (.sl 4 (mTk a0r.tokens)),I (wi ((wi (a0r.pos+1))+1)),I a0r.length, .tsl 2 (mDg a0r.diags) 1003]),(1003, .arr 41 2 (mDg a0r.diags).length)]⟩ krf (sS (sim_condT krf (sK (sN ⟨[10,11,20,21,22],[10,11,1000,1001,1002,1003],[],[]⟩ ⟨[(10, .ptr 10 0),(11, .ptr 11 0),(20, .bsl 1001 2),(21,I 2),(22,I 0)],[(10, .box 24 [I 0,S [],I 0,I 0,zS]),(11, .box 24 [I 2,S r3.Text,I r5,I r1.At,zS]),(1000, .box 51 [.ptr 1002 0]),(1001, .box 57 [.fn (.func 74) [.ptr 1002 0] [], .fn (.func 76) [] [.ptr 1000 0]]),(1002, .box 53 [.p (.sl 4 (mTk a0r.tokens)),I (wi ((wi (a0r.pos+1))+1)),I a0r.length, .tsl 2 (mDg a0r.diags) 1003]),(1003, .arr 41 2 (mDg a0r.diags).length)]⟩ krf ?_)))))))
     refine sS (sB (sR tfm ⟨[10,11,13,20,21,22],[10,11,1000,1001,1002,1003],[],[]⟩ ⟨[(10, .ptr 10 0),(11, .ptr 11 0),(13, .fn (.func 74) [.ptr 1002 0] []),(20, .bsl 1001 2),(21,I 2),(22,I 0)],[(10, .box 24 [I 0,S [],I 0,I 0,zS]),(11, .box 24 [I 2,S r3.Text,I r5,I r1.At,zS]),(1000, .box 51 [.ptr 1002 0]),(1001, .box 57 [.fn (.func 74) [.ptr 1002 0] [], .fn (.func 76) [] [.ptr 1000 0]]),(1002, .box 53 [.p (.sl 4 (mTk a0r.tokens)),I (wi ((wi (a0r.pos+1))+1)),I a0r.length, .tsl 2 (mDg a0r.diags) 1003]),(1003, .arr 41 2 (mDg a0r.diags).length)]⟩ krf (sP ⟨[10,11,13,20,21,22],[10,11,1000,1001,1002,1003],[],[]⟩ ⟨[(10, .ptr 10 0),(11, .ptr 11 0),(13, .fn (.func 74) [.ptr 1002 0] []),(20, .bsl 1001 2),(21,I 2),(22,I 0)],[(10, .box 24 [I 0,S [],I 0,I 0,zS]),(11, .box 24 [I 2,S r3.Text,I r5,I r1.At,zS]),(1000, .box 51 [.ptr 1002 0]),(1001, .box 57 [.fn (.func 74) [.ptr 1002 0] [], .fn (.func 76) [] [.ptr 1000 0]]),(1002, .box 53 [.p (.sl 4 (mTk a0r.tokens)),I (wi ((wi (a0r.pos+1))+1)),I a0r.length, .tsl 2 (mDg a0r.diags) 1003]),(1003, .arr 41 2 (mDg a0r.diags).length)]⟩ krf (sim_weak (weak_pn 24 5 600 [] [(11,4)] krf) (sim_hst [0,1,2] [0,1] [(3,[]),(4,[]),(5,[]),(6,[])] tfm rfl krf krf (h_enter (f:=74) (args:=[.ptr 1002 0]) (dst:=some 29) krf krf (sc_inline (hc:=[(1000, .box 53 [.p (.sl 4 (mTk a0r.tokens)),I (wi ((wi (a0r.pos+1))+1)),I a0r.length, .tsl 2 (mDg a0r.diags) 1001]),(1001, .arr 41 2 (mDg a0r.diags).length)]) (args':=[.ptr 1000 0]) [(1000,1002),(1001,1003)] [] [] Try.func74 rfl Try.ntmps74 rfl krf krf krf ?_)))))))
     refine sR tfm ⟨[1],[1,1000,1001],[],[]⟩ ⟨[(1, .ptr 1 0)],[(1, .box 51 [.ptr 1000 0]),(1000, .box 53 [.p (.sl 4 (mTk a0r.tokens)),I (wi ((wi (a0r.pos+1))+1)),I a0r.length, .tsl 2 (mDg a0r.diags) 1001]),(1001, .arr 41 2 (mDg a0r.diags).length)]⟩ krf (sR tfm ⟨[1,3],[1,1000,1001],[],[]⟩ ⟨[(1, .ptr 1 0),(3,zS)],[(1, .box 51 [.ptr 1000 0]),(1000, .box 53 [.p (.sl 4 (mTk a0r.tokens)),I (wi ((wi (a0r.pos+1))+1)),I a0r.length, .tsl 2 (mDg a0r.diags) 1001]),(1001, .arr 41 2 (mDg a0r.diags).length)]⟩ krf (sim_bind (fun (j36_1,j36_2,j36_3,j36_4)=>⟨[(3, .tsl 5 (mI j36_1) 600)],[(600, .arr 24 5 (mI j36_1).length),(1000, .box 53 [.p (.sl 4 (mTk j36_2)),I j36_3,I j36_4, .tsl 2 (mDg a0r.diags) 1001]),(1001, .arr 41 2 (mDg a0r.diags).length)]⟩:((List (List PV)) × (List GTk) × Int × Int)→St) ?_ ?_))
     ·refine sS (sG (xR 1 krf ?_))
      refine xs_ro [.ro [.id, .id, .id, .sl 2]] krf (g_p_reader_peek_2_ok n (⟨a0r.tokens,wi ((wi (a0r.pos+1))+1),a0r.length,a0r.diags⟩:GPr)) krf krf (fun _=>by kernel_rfl) (fun r37=>?_)
      refine xR 2 krf (xE (sN ⟨[1,3,4],[1,4,1000,1001],[],[]⟩ ⟨[(1, .ptr 1 0),(3,zS),(4, .ptr 4 0)],[(1, .box 51 [.ptr 1000 0]),(4, .box 56 (bxc (GTk.cs r37))),(1000, .box 53 [.p (.sl 4 (mTk a0r.tokens)),I (wi ((wi (a0r.pos+1))+1)),I a0r.length, .tsl 2 (mDg a0r.diags) 1001]),(1001, .arr 41 2 (mDg a0r.diags).length)]⟩ krf (sB (sP ⟨[1,3,4],[1,4,1000,1001],[],[]⟩ ⟨[(1, .ptr 1 0),(3,zS),(4, .ptr 4 0)],[(1, .box 51 [.ptr 1000 0]),(4, .box 56 (bxc (GTk.cs r37))),(1000, .box 53 [.p (.sl 4 (mTk a0r.tokens)),I (wi ((wi (a0r.pos+1))+1)),I a0r.length, .tsl 2 (mDg a0r.diags) 1001]),(1001, .arr 41 2 (mDg a0r.diags).length)]⟩ krf (sim_weak (weak_pn 24 5 600 [3] [] krf) (sim_loop (fun (l38_1,l38_2,l38_3,l38_4,l38_5,l38_6,l38_7,l38_8)=>⟨[(1, .ptr 1 0),(3, .tsl 5 (mI l38_1) 600),(4, .ptr 4 0)],[(1, .box 51 [.ptr 1000 0]),(4, .box 56 [I l38_5,S l38_6,I l38_7,I l38_8]),(600, .arr 24 5 (mI l38_1).length),(1000, .box 53 [.p (.sl 4 (mTk l38_2)),I l38_3,I l38_4, .tsl 2 (mDg a0r.diags) 1001]),(1001, .arr 41 2 (mDg a0r.diags).length)]⟩:((List (List PV)) × (List GTk) × Int × Int × Int × (List UInt8) × Int × Int)→St) (weak_shr (K:=⟨[1,3,4],[1,4,600,1000,1001],[],[]⟩) krf) ?_))))))
      rintro recl38 ⟨l38_1,l38_2,l38_3,l38_4,l38_5,l38_6,l38_7,l38_8⟩
      show SimE (g_p_reader_item_l38 n a0r recl38 l38_1 l38_2 l38_3 l38_4 l38_5 l38_6 l38_7 l38_8) _ _ _ _ _ _
      unfold g_p_reader_item_l38
      refine sS (sim_bind (fun j39=>⟨[(1, .ptr 1 0),(3, .tsl 5 (mI l38_1) 600),(4, .ptr 4 0),(14,B j39)],[(1, .box 51 [.ptr 1000 0]),(4, .box 56 [I l38_5,S l38_6,I l38_7,I l38_8]),(600, .arr 24 5 (mI l38_1).length),(1000, .box 53 [.p (.sl 4 (mTk l38_2)),I l38_3,I l38_4, .tsl 2 (mDg a0r.diags) 1001]),(1001, .arr 41 2 (mDg a0r.diags).length)]⟩:Bool→St) ?_ ?_)
      ·refine sG (xR 4 krf ?_)
       refine xS (eqI l38_5 1) (fun h40=>?_) (fun h40=>?_)
       ·refine xO (want_tt krf h40) krf (xR 1 krf ?_)
        refine xC [] krf (g_p_isAttr_ok n l38_6) krf krf (fun _=>by kernel_rfl) (fun r41=>?_)
        refine xR 1 krf (xE ?_)
        exact nq_n r41 ⟨[1,3,4,14],[1,4,600,1000,1001],[],[]⟩ krf
       ·refine xN (want_tf krf h40) krf (xR 3 krf (xE ?_))
        exact nq_n false ⟨[1,3,4,14],[1,4,600,1000,1001],[],[]⟩ krf
      ·rintro j39
       refine sC j39 krf ?_ ?_
       ·refine sK (sN ⟨[1,3,4],[1,4,600,1000,1001],[],[]⟩ ⟨[(1, .ptr 1 0),(3, .tsl 5 (mI l38_1) 600),(4, .ptr 4 0)],[(1, .box 51 [.ptr 1000 0]),(4, .box 56 [I l38_5,S l38_6,I l38_7,I l38_8]),(600, .arr 24 5 (mI l38_1).length),(1000, .box 53 [.p (.sl 4 (mTk l38_2)),I l38_3,I l38_4, .tsl 2 (mDg a0r.diags) 1001]),(1001, .arr 41 2 (mDg a0r.diags).length)]⟩ krf (sS (sB (sR tfm ⟨[1,3,4],[1,4,600,1000,1001],[],[]⟩ ⟨[(1, .ptr 1 0),(3, .tsl 5 (mI l38_1) 600),(4, .ptr 4 0)],[(1, .box 51 [.ptr 1000 0]),(4, .box 56 [I l38_5,S l38_6,I l38_7,I l38_8]),(600, .arr 24 5 (mI l38_1).length),(1000, .box 53 [.p (.sl 4 (mTk l38_2)),I (wi (l38_3+1)),I l38_4, .tsl 2 (mDg a0r.diags) 1001]),(1001, .arr 41 2 (mDg a0r.diags).length)]⟩ krf (sG (xR 6 krf (xs_inline [(1000, .box 51 [.ptr 1002 0]),(1001, .box 57 [.fn (.func 90) [] [.ptr 1000 0]]),(1002, .box 53 [.p (.sl 4 (mTk l38_2)),I (wi (l38_3+1)),I l38_4, .tsl 2 (mDg a0r.diags) 1003]),(1003, .arr 41 2 (mDg a0r.diags).length)] [.agg [I l38_5,S l38_6,I l38_7,I l38_8],I 3,S l38_6,I 0, .bsl 1001 1] [(1000,1),(1001,29),(1002,1000),(1003,1001)] [] [] krf Try.func23 rfl Try.ntmps23 rfl krf krf krf ?_)))))))
        refine sR tfm ⟨[1,2,3,4,5,10],[5,10,1000,1001,1002,1003],[],[]⟩ ⟨[(1,I 3),(2,S l38_6),(3,I 0),(4, .bsl 1001 1),(5, .ptr 5 0),(10, .ptr 10 0)],[(5, .box 56 [I l38_5,S l38_6,I l38_7,I l38_8]),(10, .box 24 [I 0,S [],I 0,I 0,zS]),(1000, .box 51 [.ptr 1002 0]),(1001, .box 57 [.fn (.func 90) [] [.ptr 1000 0]]),(1002, .box 53 [.p (.sl 4 (mTk l38_2)),I (wi (l38_3+1)),I l38_4, .tsl 2 (mDg a0r.diags) 1003]),(1003, .arr 41 2 (mDg a0r.diags).length)]⟩ krf (sR tfm ⟨[4,10,11],[10,11,1000,1001,1002,1003],[],[]⟩ ⟨[(4, .bsl 1001 1),(10, .ptr 10 0),(11, .ptr 11 0)],[(10, .box 24 [I 0,S [],I 0,I 0,zS]),(11, .box 24 [I 3,S l38_6,I 0,I l38_8,zS]),(1000, .box 51 [.ptr 1002 0]),(1001, .box 57 [.fn (.func 90) [] [.ptr 1000 0]]),(1002, .box 53 [.p (.sl 4 (mTk l38_2)),I (wi (l38_3+1)),I l38_4, .tsl 2 (mDg a0r.diags) 1003]),(1003, .arr 41 2 (mDg a0r.diags).length)]⟩ krf (sim_bind (fun (j42_1,j42_2,j42_3,j42_4)=>⟨[(10, .ptr 10 0),(11, .ptr 11 0)],[(10, .box 24 [I 0,S [],I 0,I 0,zS]),(11, .box 24 [I 3,S l38_6,I 0,I l38_8, .tsl 5 (mI j42_1) 600]),(600, .arr 24 5 (mI j42_1).length),(1000, .box 51 [.ptr 1002 0]),(1001, .box 57 [.fn (.func 90) [] [.ptr 1000 0]]),(1002, .box 53 [.p (.sl 4 (mTk j42_2)),I j42_3,I j42_4, .tsl 2 (mDg a0r.diags) 1003]),(1003, .arr 41 2 (mDg a0r.diags).length)]⟩:((List (List PV)) × (List GTk) × Int × Int)→St) ?_ ?_))
        ·refine sR tfm ⟨[10,11,20,21,22],[10,11,1000,1001,1002,1003],[],[]⟩ ⟨[(10, .ptr 10 0),(11, .ptr 11 0),(20, .bsl 1001 1),(21,I 1),(22,I 0)],[(10, .box 24 [I 0,S [],I 0,I 0,zS]),(11, .box 24 [I 3,S l38_6,I 0,I l38_8,zS]),(1000, .box 51 [.ptr 1002 0]),(1001, .box 57 [.fn (.func 90) [] [.ptr 1000 0]]),(1002, .box 53 [.p (.sl 4 (mTk l38_2)),I (wi (l38_3+1)),I l38_4, .tsl 2 (mDg a0r.diags) 1003]),(1003, .arr 41 2 (mDg a0r.diags).length)]⟩ krf (sB (sim_unroll 1 (sR tfm ⟨[10,11,20,21,22,23],[10,11,1000,1001,1002,1003],[],[]⟩ ⟨[(10, .ptr 10 0),(11, .ptr 11 0),(20, .bsl 1001 1),(21,I 1),(22,I 0),(23,B true)],[(10, .box 24 [I 0,S [],I 0,I 0,zS]),(11, .box 24 [I 3,S l38_6,I 0,I l38_8,zS]),(1000, .box 51 [.ptr 1002 0]),(1001, .box 57 [.fn (.func 90) [] [.ptr 1000 0]]),(1002, .box 53 [.p (.sl 4 (mTk l38_2)),I (wi (l38_3+1)),I l38_4, .tsl 2 (mDg a0r.diags) 1003]),(1003, .arr 41 2 (mDg a0r.diags).length)]⟩ krf (sS (sim_condT krf (sK (sN ⟨[10,11,20,21,22],[10,11,1000,1001,1002,1003],[],[]⟩ ⟨[(10, .ptr 10 0),(11, .ptr 11 0),(20, .bsl 1001 1),(21,I 1),(22,I 0)],[(10, .box 24 [I 0,S [],I 0,I 0,zS]),(11, .box 24 [I 3,S l38_6,I 0,I l38_8,zS]),(1000, .box 51 [.ptr 1002 0]),(1001, .box 57 [.fn (.func 90) [] [.ptr 1000 0]]),(1002, .box 53 [.p (.sl 4 (mTk l38_2)),I (wi (l38_3+1)),I l38_4, .tsl 2 (mDg a0r.diags) 1003]),(1003, .arr 41 2 (mDg a0r.diags).length)]⟩ krf ?_)))))))
         refine sS (sB (sR tfm ⟨[10,11,13,20,21,22],[10,11,1000,1001,1002,1003],[],[]⟩ ⟨[(10, .ptr 10 0),(11, .ptr 11 0),(13, .fn (.func 90) [] [.ptr 1000 0]),(20, .bsl 1001 1),(21,I 1),(22,I 0)],[(10, .box 24 [I 0,S [],I 0,I 0,zS]),(11, .box 24 [I 3,S l38_6,I 0,I l38_8,zS]),(1000, .box 51 [.ptr 1002 0]),(1001, .box 57 [.fn (.func 90) [] [.ptr 1000 0]]),(1002, .box 53 [.p (.sl 4 (mTk l38_2)),I (wi (l38_3+1)),I l38_4, .tsl 2 (mDg a0r.diags) 1003]),(1003, .arr 41 2 (mDg a0r.diags).length)]⟩ krf (sP ⟨[10,11,13,20,21,22],[10,11,1000,1001,1002,1003],[],[]⟩ ⟨[(10, .ptr 10 0),(11, .ptr 11 0),(13, .fn (.func 90) [] [.ptr 1000 0]),(20, .bsl 1001 1),(21,I 1),(22,I 0)],[(10, .box 24 [I 0,S [],I 0,I 0,zS]),(11, .box 24 [I 3,S l38_6,I 0,I l38_8,zS]),(1000, .box 51 [.ptr 1002 0]),(1001, .box 57 [.fn (.func 90) [] [.ptr 1000 0]]),(1002, .box 53 [.p (.sl 4 (mTk l38_2)),I (wi (l38_3+1)),I l38_4, .tsl 2 (mDg a0r.diags) 1003]),(1003, .arr 41 2 (mDg a0r.diags).length)]⟩ krf (sim_weak (weak_pn 24 5 600 [] [(11,4)] krf) (sim_hst [0,1,2] [0,1] [(3,[]),(4,[]),(5,[]),(6,[])] tfm rfl krf krf (h_enter (f:=90) (args:=[.ptr 1000 0]) (dst:=some 29) krf krf (sc_inline (hc:=[(1000, .box 51 [.ptr 1001 0]),(1001, .box 53 [.p (.sl 4 (mTk l38_2)),I (wi (l38_3+1)),I l38_4, .tsl 2 (mDg a0r.diags) 1002]),(1002, .arr 41 2 (mDg a0r.diags).length)]) (args':=[.ptr 1000 0]) [(1000,1000),(1001,1002),(1002,1003)] [] [] Try.func90 rfl Try.ntmps90 rfl krf krf krf ?_)))))))
         refine sR tfm ⟨[0],[1000,1001,1002],[],[]⟩ ⟨[(0, .ptr 1000 0)],[(1000, .box 51 [.ptr 1001 0]),(1001, .box 53 [.p (.sl 4 (mTk l38_2)),I (wi (l38_3+1)),I l38_4, .tsl 2 (mDg a0r.diags) 1002]),(1002, .arr 41 2 (mDg a0r.diags).length)]⟩ krf (sS (sG (xR 1 krf (xs_enter (f:=91) (args:=[.ptr 1001 0, .p (.val (.func (.func 71) #[] #[]))]) krf krf krf ?_))))
         refine sc_hold 1001 3 1002 41 2 (mDg a0r.diags).length (mDg a0r.diags) ⟨[0,2],[1000,1001],[],[]⟩ krf krf rfl (fun _ _ _=>by kernel_rfl) (fun hu43w hu43l hu43c=>?_)
         refine sc_heap [(1000,1001)] [] [] (g_p_reader_values_ok n (⟨l38_2,wi (l38_3+1),l38_4,[]⟩:GPr) hu43w hu43l hu43c) krf krf krf (fun _=>by kernel_rfl) (fun _=>by kernel_rfl) (fun r43=>?_)
         refine k_hold _ rfl krf krf (kr0 (xR 1 krf (xE (sN ⟨[1],[1000,1001,1002],[],[]⟩ ⟨[(1, .p (.sl 5 (mI r43.1)))],[(1000, .box 51 [.ptr 1001 0]),(1001, .box 53 [.p (.sl 4 (mTk r43.2.tokens)),I r43.2.pos,I r43.2.length, .tsl 2 (mDg a0r.diags) 1002]),(1002, .arr 41 2 (mDg a0r.diags).length)]⟩ krf (sT (iq_ret (.id) [1000,1001,1002] [] (.p (.sl 5 (mI r43.1))) krf krf (kh [0,1] krf (lates_cons (late_read (.ptr 11 4) krf rfl) (lates_cons (late_tsl (S:=5) (t:=600) (ty:=24) (es:=mI []) krf krf rfl) (lates_nil))) krf ?_)))))))
         refine h_if [] rfl krf krf (aop_appL (e:=24) (S:=5) (by_:=64) (enc:=idc) (tk:=600) (l:=[]) (l2:=r43.1) (xv:=.p (.sl 5 (mI r43.1))) rfl krf krf rfl krf krf krf krf) (fun _=>lates_nil) (h_op [] krf krf (lates_nil) (h_op [] krf krf (lates_nil) (h_end (bq_n (sN ⟨[10,11,20,21,22],[10,11,600,1000,1001,1002,1003],[],[]⟩ ⟨[(10, .ptr 10 0),(11, .ptr 11 0),(20, .bsl 1001 1),(21,I 1),(22,I 0)],[(10, .box 24 [I 0,S [],I 0,I 0,zS]),(11, .box 24 [I 3,S l38_6,I 0,I l38_8, .tsl 5 (mI ([]++r43.1)) 600]),(600, .arr 24 5 (mI ([]++r43.1)).length),(1000, .box 51 [.ptr 1002 0]),(1001, .box 57 [.fn (.func 90) [] [.ptr 1000 0]]),(1002, .box 53 [.p (.sl 4 (mTk r43.2.tokens)),I r43.2.pos,I r43.2.length, .tsl 2 (mDg a0r.diags) 1003]),(1003, .arr 41 2 (mDg a0r.diags).length)]⟩ krf (sL tfm krf (ru_n ⟨[10,11,20,21,22],[10,11,600,1000,1001,1002,1003],[],[]⟩ ⟨[(10, .ptr 10 0),(11, .ptr 11 0),(20, .bsl 1001 1),(21,I 1),(22,I 1)],[(10, .box 24 [I 0,S [],I 0,I 0,zS]),(11, .box 24 [I 3,S l38_6,I 0,I l38_8, .tsl 5 (mI ([]++r43.1)) 600]),(600, .arr 24 5 (mI ([]++r43.1)).length),(1000, .box 51 [.ptr 1002 0]),(1001, .box 57 [.fn (.func 90) [] [.ptr 1000 0]]),(1002, .box 53 [.p (.sl 4 (mTk r43.2.tokens)),I r43.2.pos,I r43.2.length, .tsl 2 (mDg a0r.diags) 1003]),(1003, .arr 41 2 (mDg a0r.diags).length)]⟩ krf ?_)))))))
         refine sR tfm ⟨[10,11,20,21,22,23],[10,11,600,1000,1001,1002,1003],[],[]⟩ ⟨[(10, .ptr 10 0),(11, .ptr 11 0),(20, .bsl 1001 1),(21,I 1),(22,I 1),(23,B false)],[(10, .box 24 [I 0,S [],I 0,I 0,zS]),(11, .box 24 [I 3,S l38_6,I 0,I l38_8, .tsl 5 (mI ([]++r43.1)) 600]),(600, .arr 24 5 (mI ([]++r43.1)).length),(1000, .box 51 [.ptr 1002 0]),(1001, .box 57 [.fn (.func 90) [] [.ptr 1000 0]]),(1002, .box 53 [.p (.sl 4 (mTk r43.2.tokens)),I r43.2.pos,I r43.2.length, .tsl 2 (mDg a0r.diags) 1003]),(1003, .arr 41 2 (mDg a0r.diags).length)]⟩ krf (sS (sim_condF krf (sim_exit (sq_x (ru_x (bq_hit ?_))))))
         exact nq_n ([]++r43.1,r43.2.tokens,r43.2.pos,r43.2.length) ⟨[10,11],[10,11,600,1000,1001,1002,1003],[],[]⟩ krf
        ·rintro ⟨j42_1,j42_2,j42_3,j42_4⟩
         refine sR tfm ⟨[10],[10,600,1000,1001,1002,1003],[],[]⟩ ⟨[(10, .ptr 10 0)],[(10, .box 24 [I 3,S l38_6,I 0,I l38_8, .tsl 5 (mI j42_1) 600]),(600, .arr 24 5 (mI j42_1).length),(1000, .box 51 [.ptr 1002 0]),(1001, .box 57 [.fn (.func 90) [] [.ptr 1000 0]]),(1002, .box 53 [.p (.sl 4 (mTk j42_2)),I j42_3,I j42_4, .tsl 2 (mDg a0r.diags) 1003]),(1003, .arr 41 2 (mDg a0r.diags).length)]⟩ krf (sT (iq_ret (.agg [.id, .id, .id, .id, .sl 5]) [1000,1001,1002,1003] [] (.agg [I 3,S l38_6,I 0,I l38_8, .p (.sl 5 (mI j42_1))]) krf krf (kr0 (xR 1 krf (xF krf krf (aop_app (e:=24) (S:=5) (by_:=64) (enc:=idc) (tk:=600) (l:=l38_1) (l2:=[GNode.cs (⟨3,l38_6,0,l38_8,j42_1⟩:GNode)]) (xv:=.tsl 5 (mI [GNode.cs (⟨3,l38_6,0,l38_8,j42_1⟩:GNode)]) 31) rfl krf krf rfl krf krf krf rfl krf) (xR 1 krf (xE ?_)))))))
         refine bq_n (sN ⟨[1,3,4],[1,4,600,1000,1001],[],[]⟩ ⟨[(1, .ptr 1 0),(3, .tsl 5 (mI (l38_1++[GNode.cs (⟨3,l38_6,0,l38_8,j42_1⟩:GNode)])) 600),(4, .ptr 4 0)],[(1, .box 51 [.ptr 1000 0]),(4, .box 56 [I l38_5,S l38_6,I l38_7,I l38_8]),(600, .arr 24 5 (mI (l38_1++[GNode.cs (⟨3,l38_6,0,l38_8,j42_1⟩:GNode)])).length),(1000, .box 53 [.p (.sl 4 (mTk j42_2)),I j42_3,I j42_4, .tsl 2 (mDg a0r.diags) 1001]),(1001, .arr 41 2 (mDg a0r.diags).length)]⟩ krf (sS (sR tfm ⟨[1,3,33],[1,600,1000,1001],[],[]⟩ ⟨[(1, .ptr 1 0),(3, .tsl 5 (mI (l38_1++[GNode.cs (⟨3,l38_6,0,l38_8,j42_1⟩:GNode)])) 600),(33, .agg [I l38_5,S l38_6,I l38_7,I l38_8])],[(1, .box 51 [.ptr 1000 0]),(600, .arr 24 5 (mI (l38_1++[GNode.cs (⟨3,l38_6,0,l38_8,j42_1⟩:GNode)])).length),(1000, .box 53 [.p (.sl 4 (mTk j42_2)),I j42_3,I j42_4, .tsl 2 (mDg a0r.diags) 1001]),(1001, .arr 41 2 (mDg a0r.diags).length)]⟩ krf (sL tfm krf (sN ⟨[1,3,4],[1,4,600,1000,1001],[],[]⟩ ⟨[(1, .ptr 1 0),(3, .tsl 5 (mI (l38_1++[GNode.cs (⟨3,l38_6,0,l38_8,j42_1⟩:GNode)])) 600),(4, .ptr 4 0)],[(1, .box 51 [.ptr 1000 0]),(4, .box 56 [I l38_5,S l38_6,I l38_7,I l38_8]),(600, .arr 24 5 (mI (l38_1++[GNode.cs (⟨3,l38_6,0,l38_8,j42_1⟩:GNode)])).length),(1000, .box 53 [.p (.sl 4 (mTk j42_2)),I j42_3,I j42_4, .tsl 2 (mDg a0r.diags) 1001]),(1001, .arr 41 2 (mDg a0r.diags).length)]⟩ krf (sG (xR 1 krf ?_)))))))
         refine xs_ro [.ro [.id, .id, .id, .sl 2]] krf (g_p_reader_peek_2_ok n (⟨j42_2,j42_3,j42_4,a0r.diags⟩:GPr)) krf krf (fun _=>by kernel_rfl) (fun r44=>?_)
         refine xR 1 krf (xE ?_)
         exact kq_n (l38_1++[GNode.cs (⟨3,l38_6,0,l38_8,j42_1⟩:GNode)],j42_2,j42_3,j42_4,r44.Kind,r44.Text,r44.N,r44.At) ⟨[1,3,4],[1,4,600,1000,1001],[],[]⟩ krf
       ·refine sim_exit (sq_x (kq_x (bq_hit ?_)))
        exact nq_n (l38_1,l38_2,l38_3,l38_4) ⟨[3],[600,1000,1001],[],[]⟩ krf
     ·rintro ⟨j36_1,j36_2,j36_3,j36_4⟩
      refine sR tfm ⟨[2],[600,1000,1001],[],[]⟩ ⟨[(2, .tsl 5 (mI j36_1) 600)],[(600, .arr 24 5 (mI j36_1).length),(1000, .box 53 [.p (.sl 4 (mTk j36_2)),I j36_3,I j36_4, .tsl 2 (mDg a0r.diags) 1001]),(1001, .arr 41 2 (mDg a0r.diags).length)]⟩ krf (sT (iq_ret (.sl 5) [1000,1001] [] (.p (.sl 5 (mI j36_1))) krf krf (kh [0,1] krf (lates_cons (late_read (.ptr 11 4) krf rfl) (lates_cons (late_tsl (S:=5) (t:=600) (ty:=24) (es:=mI []) krf krf rfl) (lates_nil))) krf (h_if [] rfl krf krf (aop_appL (e:=24) (S:=5) (by_:=64) (enc:=idc) (tk:=600) (l:=[]) (l2:=j36_1) (xv:=.p (.sl 5 (mI j36_1))) rfl krf krf rfl krf krf krf krf) (fun _=>lates_nil) (h_op [] krf krf (lates_nil) (h_op [] krf krf (lates_nil) (h_end ?_)))))))
      refine bq_n (sN ⟨[10,11,20,21,22],[10,11,600,1000,1001,1002,1003],[],[]⟩ ⟨[(10, .ptr 10 0),(11, .ptr 11 0),(20, .bsl 1001 2),(21,I 2),(22,I 0)],[(10, .box 24 [I 0,S [],I 0,I 0,zS]),(11, .box 24 [I 2,S r3.Text,I r5,I r1.At, .tsl 5 (mI ([]++j36_1)) 600]),(600, .arr 24 5 (mI ([]++j36_1)).length),(1000, .box 51 [.ptr 1002 0]),(1001, .box 57 [.fn (.func 74) [.ptr 1002 0] [], .fn (.func 76) [] [.ptr 1000 0]]),(1002, .box 53 [.p (.sl 4 (mTk j36_2)),I j36_3,I j36_4, .tsl 2 (mDg a0r.diags) 1003]),(1003, .arr 41 2 (mDg a0r.diags).length)]⟩ krf (sL tfm krf (ru_n ⟨[10,11,20,21,22],[10,11,600,1000,1001,1002,1003],[],[]⟩ ⟨[(10, .ptr 10 0),(11, .ptr 11 0),(20, .bsl 1001 2),(21,I 2),(22,I 1)],[(10, .box 24 [I 0,S [],I 0,I 0,zS]),(11, .box 24 [I 2,S r3.Text,I r5,I r1.At, .tsl 5 (mI ([]++j36_1)) 600]),(600, .arr 24 5 (mI ([]++j36_1)).length),(1000, .box 51 [.ptr 1002 0]),(1001, .box 57 [.fn (.func 74) [.ptr 1002 0] [], .fn (.func 76) [] [.ptr 1000 0]]),(1002, .box 53 [.p (.sl 4 (mTk j36_2)),I j36_3,I j36_4, .tsl 2 (mDg a0r.diags) 1003]),(1003, .arr 41 2 (mDg a0r.diags).length)]⟩ krf (sR tfm ⟨[10,11,20,21,22,23],[10,11,600,1000,1001,1002,1003],[],[]⟩ ⟨[(10, .ptr 10 0),(11, .ptr 11 0),(20, .bsl 1001 2),(21,I 2),(22,I 1),(23,B true)],[(10, .box 24 [I 0,S [],I 0,I 0,zS]),(11, .box 24 [I 2,S r3.Text,I r5,I r1.At, .tsl 5 (mI ([]++j36_1)) 600]),(600, .arr 24 5 (mI ([]++j36_1)).length),(1000, .box 51 [.ptr 1002 0]),(1001, .box 57 [.fn (.func 74) [.ptr 1002 0] [], .fn (.func 76) [] [.ptr 1000 0]]),(1002, .box 53 [.p (.sl 4 (mTk j36_2)),I j36_3,I j36_4, .tsl 2 (mDg a0r.diags) 1003]),(1003, .arr 41 2 (mDg a0r.diags).length)]⟩ krf (sS (sim_condT krf (sK ?_)))))))
      refine sN ⟨[10,11,20,21,22],[10,11,600,1000,1001,1002,1003],[],[]⟩ ⟨[(10, .ptr 10 0),(11, .ptr 11 0),(20, .bsl 1001 2),(21,I 2),(22,I 1)],[(10, .box 24 [I 0,S [],I 0,I 0,zS]),(11, .box 24 [I 2,S r3.Text,I r5,I r1.At, .tsl 5 (mI ([]++j36_1)) 600]),(600, .arr 24 5 (mI ([]++j36_1)).length),(1000, .box 51 [.ptr 1002 0]),(1001, .box 57 [.fn (.func 74) [.ptr 1002 0] [], .fn (.func 76) [] [.ptr 1000 0]]),(1002, .box 53 [.p (.sl 4 (mTk j36_2)),I j36_3,I j36_4, .tsl 2 (mDg a0r.diags) 1003]),(1003, .arr 41 2 (mDg a0r.diags).length)]⟩ krf (sS (sB (sR tfm ⟨[10,11,13,20,21,22],[10,11,600,1000,1001,1002,1003],[],[]⟩ ⟨[(10, .ptr 10 0),(11, .ptr 11 0),(13, .fn (.func 76) [] [.ptr 1000 0]),(20, .bsl 1001 2),(21,I 2),(22,I 1)],[(10, .box 24 [I 0,S [],I 0,I 0,zS]),(11, .box 24 [I 2,S r3.Text,I r5,I r1.At, .tsl 5 (mI ([]++j36_1)) 600]),(600, .arr 24 5 (mI ([]++j36_1)).length),(1000, .box 51 [.ptr 1002 0]),(1001, .box 57 [.fn (.func 74) [.ptr 1002 0] [], .fn (.func 76) [] [.ptr 1000 0]]),(1002, .box 53 [.p (.sl 4 (mTk j36_2)),I j36_3,I j36_4, .tsl 2 (mDg a0r.diags) 1003]),(1003, .arr 41 2 (mDg a0r.diags).length)]⟩ krf (sim_hst [0,1,2] [0,1] [(3,[]),(4,[]),(5,[]),(6,[])] tfm rfl krf krf (h_enter (f:=76) (args:=[.ptr 1000 0]) (dst:=some 29) krf krf (sc_inline (hc:=[(1000, .box 51 [.ptr 1001 0]),(1001, .box 53 [.p (.sl 4 (mTk j36_2)),I j36_3,I j36_4, .tsl 2 (mDg a0r.diags) 1002]),(1002, .arr 41 2 (mDg a0r.diags).length)]) (args':=[.ptr 1000 0]) [(1000,1000),(1001,1002),(1002,1003)] [] [] Try.func76 rfl Try.ntmps76 rfl krf krf krf (sR tfm ⟨[0],[1000,1001,1002],[],[]⟩ ⟨[(0, .ptr 1000 0)],[(1000, .box 51 [.ptr 1001 0]),(1001, .box 53 [.p (.sl 4 (mTk j36_2)),I j36_3,I j36_4, .tsl 2 (mDg a0r.diags) 1002]),(1002, .arr 41 2 (mDg a0r.diags).length)]⟩ krf ?_)))))))
      refine sS (sim_hst [0] [0] [(1,[]),(2,[])] tfm rfl krf krf (h_enter (f:=73) (args:=[S [59]]) (dst:=some 3) krf krf (sc_inline (hc:=[]) (args':=[S [59]]) [(1,401)] [] [] Try.func73 rfl Try.ntmps73 rfl krf krf krf (sR tfm ⟨[1],[1],[],[]⟩ ⟨[(1, .ptr 1 0)],[(1, .box 9 [S [59]])]⟩ krf (sR tfm ⟨[2],[1],[],[]⟩ ⟨[(2, .fn (.func 89) [] [.ptr 1 0])],[(1, .box 9 [S [59]])]⟩ krf (sT (iq_ret (.id) [1] [] (.fn (.func 89) [] [.ptr 1 0]) krf krf ?_)))))))
      refine kh [0] krf (lates_cons (late_read (.ptr 1001 0) krf rfl) (lates_nil)) krf (h_enter (f:=67) (args:=[.ptr 1001 0, .fn (.func 89) [] [.ptr 401 0]]) (dst:=some 4) krf krf (sc_inline (hc:=[(1000, .box 9 [S [59]]),(1001, .box 53 [.p (.sl 4 (mTk j36_2)),I j36_3,I j36_4, .tsl 2 (mDg a0r.diags) 1002]),(1002, .arr 41 2 (mDg a0r.diags).length)]) (args':=[.ptr 1001 0, .fn (.func 89) [] [.ptr 1000 0]]) [(1000,401),(1001,1001),(1002,1002)] [] [] Try.func67 rfl Try.ntmps67 rfl krf krf krf (sR tfm ⟨[0,1,4],[4,1000,1001,1002],[],[]⟩ ⟨[(0, .ptr 1001 0),(1, .fn (.func 89) [] [.ptr 1000 0]),(4, .ptr 4 0)],[(4, .box 56 [I 0,S [],I 0,I 0]),(1000, .box 9 [S [59]]),(1001, .box 53 [.p (.sl 4 (mTk j36_2)),I j36_3,I j36_4, .tsl 2 (mDg a0r.diags) 1002]),(1002, .arr 41 2 (mDg a0r.diags).length)]⟩ krf (sS (sG (xR 1 krf ?_))))))
      refine xs_ro [.ro [.id, .id, .id, .sl 2]] krf (g_p_reader_peek_2_ok n (⟨j36_2,j36_3,j36_4,a0r.diags⟩:GPr)) krf krf (fun _=>by kernel_rfl) (fun r45=>?_)
      refine xR 2 krf (xE (sN ⟨[0,1,4,5],[4,5,1000,1001,1002],[],[]⟩ ⟨[(0, .ptr 1001 0),(1, .fn (.func 89) [] [.ptr 1000 0]),(4, .ptr 4 0),(5, .ptr 5 0)],[(4, .box 56 [I 0,S [],I 0,I 0]),(5, .box 56 (bxc (GTk.cs r45))),(1000, .box 9 [S [59]]),(1001, .box 53 [.p (.sl 4 (mTk j36_2)),I j36_3,I j36_4, .tsl 2 (mDg a0r.diags) 1002]),(1002, .arr 41 2 (mDg a0r.diags).length)]⟩ krf (sim_cps (fun _=>⟨[(0, .ptr 1001 0),(4, .ptr 4 0),(5, .ptr 5 0)],[(4, .box 56 [I 0,S [],I 0,I 0]),(5, .box 56 (bxc (GTk.cs r45))),(1000, .box 9 [S [59]]),(1001, .box 53 [.p (.sl 4 (mTk j36_2)),I j36_3,I j36_4, .tsl 2 (mDg a0r.diags) 1002]),(1002, .arr 41 2 (mDg a0r.diags).length)]⟩:Unit→St) (fun _=>g_p_reader_item_j46 a0r r1 r3 r5 j36_1 j36_2 j36_3 j36_4) ?_ ?_)))
      ·rintro _
       show SimE (g_p_reader_item_j46 a0r r1 r3 r5 j36_1 j36_2 j36_3 j36_4) _ _ _ _ _ _
       unfold g_p_reader_item_j46
       refine sR tfm ⟨[4,5],[4,5,1000,1001,1002],[],[]⟩ ⟨[(4, .ptr 4 0),(5, .ptr 5 0)],[(4, .box 56 [I 0,S [],I 0,I 0]),(5, .box 56 (bxc (GTk.cs r45))),(1000, .box 9 [S [59]]),(1001, .box 53 [.p (.sl 4 (mTk j36_2)),I (wi (j36_3+1)),I j36_4, .tsl 2 (mDg a0r.diags) 1002]),(1002, .arr 41 2 (mDg a0r.diags).length)]⟩ krf (sR tfm ⟨[4],[4,1000,1001,1002],[],[]⟩ ⟨[(4, .ptr 4 0)],[(4, .box 56 (bxc (GTk.cs r45))),(1000, .box 9 [S [59]]),(1001, .box 53 [.p (.sl 4 (mTk j36_2)),I (wi (j36_3+1)),I j36_4, .tsl 2 (mDg a0r.diags) 1002]),(1002, .arr 41 2 (mDg a0r.diags).length)]⟩ krf (sT (iq_ret (.id) [1000,1001,1002] [] (.agg [I r45.Kind,S r45.Text,I r45.N,I r45.At]) krf krf (kh [] krf (lates_nil) krf (h_end (sN ⟨[],[1000,1001,1002],[],[]⟩ ⟨[],[(1000, .box 51 [.ptr 1001 0]),(1001, .box 53 [.p (.sl 4 (mTk j36_2)),I (wi (j36_3+1)),I j36_4, .tsl 2 (mDg a0r.diags) 1002]),(1002, .arr 41 2 (mDg a0r.diags).length)]⟩ krf (sR tfm ⟨[1],[1000,1001,1002],[],[]⟩ ⟨[(1,zS)],[(1000, .box 51 [.ptr 1001 0]),(1001, .box 53 [.p (.sl 4 (mTk j36_2)),I (wi (j36_3+1)),I j36_4, .tsl 2 (mDg a0r.diags) 1002]),(1002, .arr 41 2 (mDg a0r.diags).length)]⟩ krf ?_)))))))
       refine sT (iq_ret (.sl 5) [1000,1001,1002] [] (.p (.sl 5 (mI []))) krf krf (kh [0,1] krf (lates_cons (late_read (.ptr 11 4) krf rfl) (lates_cons (late_tsl (S:=5) (t:=600) (ty:=24) (es:=mI ([]++j36_1)) krf krf rfl) (lates_nil))) krf (h_if [] rfl krf krf (aop_appL (e:=24) (S:=5) (by_:=64) (enc:=idc) (tk:=600) (l:=[]++j36_1) (l2:=[]) (xv:=.p (.sl 5 (mI []))) rfl krf krf rfl krf krf krf krf) (fun _=>lates_nil) (h_op [] krf krf (lates_nil) (h_op [] krf krf (lates_nil) (h_end (bq_n ?_)))))))
       refine sN ⟨[10,11,20,21,22],[10,11,600,1000,1001,1002,1003],[],[]⟩ ⟨[(10, .ptr 10 0),(11, .ptr 11 0),(20, .bsl 1001 2),(21,I 2),(22,I 1)],[(10, .box 24 [I 0,S [],I 0,I 0,zS]),(11, .box 24 [I 2,S r3.Text,I r5,I r1.At, .tsl 5 (mI (([]++j36_1)++[])) 600]),(600, .arr 24 5 (mI (([]++j36_1)++[])).length),(1000, .box 51 [.ptr 1002 0]),(1001, .box 57 [.fn (.func 74) [.ptr 1002 0] [], .fn (.func 76) [] [.ptr 1000 0]]),(1002, .box 53 [.p (.sl 4 (mTk j36_2)),I (wi (j36_3+1)),I j36_4, .tsl 2 (mDg a0r.diags) 1003]),(1003, .arr 41 2 (mDg a0r.diags).length)]⟩ krf (sL tfm krf (ru_n ⟨[10,11,20,21,22],[10,11,600,1000,1001,1002,1003],[],[]⟩ ⟨[(10, .ptr 10 0),(11, .ptr 11 0),(20, .bsl 1001 2),(21,I 2),(22,I 2)],[(10, .box 24 [I 0,S [],I 0,I 0,zS]),(11, .box 24 [I 2,S r3.Text,I r5,I r1.At, .tsl 5 (mI (([]++j36_1)++[])) 600]),(600, .arr 24 5 (mI (([]++j36_1)++[])).length),(1000, .box 51 [.ptr 1002 0]),(1001, .box 57 [.fn (.func 74) [.ptr 1002 0] [], .fn (.func 76) [] [.ptr 1000 0]]),(1002, .box 53 [.p (.sl 4 (mTk j36_2)),I (wi (j36_3+1)),I j36_4, .tsl 2 (mDg a0r.diags) 1003]),(1003, .arr 41 2 (mDg a0r.diags).length)]⟩ krf (sR tfm ⟨[10,11,20,21,22,23],[10,11,600,1000,1001,1002,1003],[],[]⟩ ⟨[(10, .ptr 10 0),(11, .ptr 11 0),(20, .bsl 1001 2),(21,I 2),(22,I 2),(23,B false)],[(10, .box 24 [I 0,S [],I 0,I 0,zS]),(11, .box 24 [I 2,S r3.Text,I r5,I r1.At, .tsl 5 (mI (([]++j36_1)++[])) 600]),(600, .arr 24 5 (mI (([]++j36_1)++[])).length),(1000, .box 51 [.ptr 1002 0]),(1001, .box 57 [.fn (.func 74) [.ptr 1002 0] [], .fn (.func 76) [] [.ptr 1000 0]]),(1002, .box 53 [.p (.sl 4 (mTk j36_2)),I (wi (j36_3+1)),I j36_4, .tsl 2 (mDg a0r.diags) 1003]),(1003, .arr 41 2 (mDg a0r.diags).length)]⟩ krf (sS (sim_condF krf (sim_exit (sq_x ?_)))))))
       refine ru_x (bq_hit ?_)
       exact kq_n (k:=fun (j35_1,j35_2,j35_3,j35_4)=>g_p_reader_item_j35 a0r r1 r3 r5 j35_1 j35_2 j35_3 j35_4) (([]++j36_1)++[],j36_2,wi (j36_3+1),j36_4) ⟨[10,11],[10,11,600,1000,1001,1002,1003],[],[]⟩ krf
      ·refine sim_bind (fun j47=>⟨[(0, .ptr 1001 0),(4, .ptr 4 0),(5, .ptr 5 0),(16,B j47)],[(4, .box 56 [I 0,S [],I 0,I 0]),(5, .box 56 (bxc (GTk.cs r45))),(1000, .box 9 [S [59]]),(1001, .box 53 [.p (.sl 4 (mTk j36_2)),I j36_3,I j36_4, .tsl 2 (mDg a0r.diags) 1002]),(1002, .arr 41 2 (mDg a0r.diags).length)]⟩:Bool→St) ?_ ?_
       ·refine sG (xR 4 krf ?_)
        refine xS (eqI r45.Kind 0) (fun h48=>?_) (fun h48=>?_)
        ·refine xN (want_ft krf h48) krf (xR 4 krf (xE ?_))
         exact nq_n true ⟨[0,4,5,16],[4,5,1000,1001,1002],[],[]⟩ krf
        ·refine xO (want_ff krf h48) krf (xR 1 krf (xs_inline [(1000, .box 9 [S [59]])] [.agg [I r45.Kind,S r45.Text,I r45.N,I r45.At], .ptr 1000 0] [(1000,1000)] [] [] krf Try.func89 rfl Try.ntmps89 rfl krf krf krf (sR tfm ⟨[1,2],[2,1000],[],[]⟩ ⟨[(1, .ptr 1000 0),(2, .ptr 2 0)],[(2, .box 56 (bxc (GTk.cs r45))),(1000, .box 9 [S [59]])]⟩ krf (sim_bind (fun j49=>⟨[(3,B j49)],[(1000, .box 9 [S [59]])]⟩:Bool→St) ?_ ?_))))
         ·refine sG (xR 4 krf ?_)
          refine xS (eqI r45.Kind 3) (fun h50=>?_) (fun h50=>?_)
          ·refine xO (want_tt krf h50) krf (xR 5 krf (xE ?_))
           exact nq_n (eqS r45.Text [59]) ⟨[3],[1000],[],[]⟩ krf
          ·refine xN (want_tf krf h50) krf (xR 5 krf (xE ?_))
           exact nq_n false ⟨[3],[1000],[],[]⟩ krf
         ·rintro j49
          refine sT (iq_ret (.id) [1000] [] (B j49) krf krf (kr0 (xR 2 krf (xE ?_))))
          exact nq_n (!j49) ⟨[0,4,5,16],[4,5,1000,1001,1002],[],[]⟩ krf
       ·rintro j47
        refine sC j47 krf ?_ ?_
        ·refine sG (xR 1 krf ?_)
         refine xs_roE [.ro [.id, .id, .id, .sl 2]] krf (g_p_reader_fail_2_ok n (⟨j36_2,j36_3,j36_4,a0r.diags⟩:GPr)) krf krf (fun _=>by kernel_rfl) (fun _=>by kernel_rfl) (fun r51=>?_) (fun e52=>?_)
         ·refine xE ?_
          exact kq_n (k:=fun _=>g_p_reader_item_j46 a0r r1 r3 r5 j36_1 j36_2 j36_3 j36_4) () ⟨[0,4,5],[4,5,1000,1001,1002],[],[]⟩ krf
         ·refine kq_p (iq_p [1000,1001,1002] [] krf (qh_p _ rfl (sq_p (iq_p [1000,1001,1002] [] krf (qh_p _ rfl (bq_p (sq_p ?_)))))))
          refine ru_p (bq_p (kq_p (iq_p [1000,1001,1002,1003] [] krf (sq_p ?_))))
          exact hq_p [1000,1103] [] krf krf krf
        ·refine sK ?_
         exact kq_n (k:=fun _=>g_p_reader_item_j46 a0r r1 r3 r5 j36_1 j36_2 j36_3 j36_4) () ⟨[0,4,5],[4,5,1000,1001,1002],[],[]⟩ krf
  ·refine sim_bind (fun j53=>⟨[(0, .ptr 1001 0),(4, .ptr 4 0),(5, .ptr 5 0),(16,B j53)],[(4, .box 56 [I 0,S [],I 0,I 0]),(5, .box 56 (bxc (GTk.cs r3))),(1000, .box 35 [.p (.val (.func (.func 71) #[] #[]))]),(1001, .box 53 [.p (.sl 4 (mTk a0r.tokens)),I (wi (a0r.pos+1)),I a0r.length, .tsl 2 (mDg a0r.diags) 1002]),(1002, .arr 41 2 (mDg a0r.diags).length)]⟩:Bool→St) ?_ ?_
   ·refine sG (xR 4 krf ?_)
    refine xS (eqI r3.Kind 0) (fun h54=>?_) (fun h54=>?_)
    ·refine xN (want_ft krf h54) krf (xR 4 krf (xE ?_))
     exact nq_n true ⟨[0,4,5,16],[4,5,1000,1001,1002],[],[]⟩ krf
    ·refine xO (want_ff krf h54) krf (xR 1 krf (xs_inline [(1000, .box 35 [.p (.val (.func (.func 71) #[] #[]))])] [.agg [I r3.Kind,S r3.Text,I r3.N,I r3.At], .ptr 1000 0] [(1000,1000)] [] [] krf Try.func88 rfl Try.ntmps88 rfl krf krf krf (sR tfm ⟨[1,2],[2,1000],[],[]⟩ ⟨[(1, .ptr 1000 0),(2, .ptr 2 0)],[(2, .box 56 (bxc (GTk.cs r3))),(1000, .box 35 [.p (.val (.func (.func 71) #[] #[]))])]⟩ krf (sim_bind (fun j55=>⟨[(3,B j55)],[(1000, .box 35 [.p (.val (.func (.func 71) #[] #[]))])]⟩:Bool→St) ?_ ?_))))
     ·refine sG (xR 4 krf ?_)
      refine xS (eqI r3.Kind 1) (fun h56=>?_) (fun h56=>?_)
      ·refine xO (want_tt krf h56) krf (xR 2 krf ?_)
       refine xC [] krf (g_p_notKey_ok n r3.Text) krf krf (fun _=>by kernel_rfl) (fun r57=>?_)
       refine xR 2 krf (xE ?_)
       exact nq_n r57 ⟨[3],[1000],[],[]⟩ krf
      ·refine xN (want_tf krf h56) krf (xR 5 krf (xE ?_))
       exact nq_n false ⟨[3],[1000],[],[]⟩ krf
     ·rintro j55
      refine sT (iq_ret (.id) [1000] [] (B j55) krf krf (kr0 (xR 2 krf (xE ?_))))
      exact nq_n (!j55) ⟨[0,4,5,16],[4,5,1000,1001,1002],[],[]⟩ krf
   ·rintro j53
    refine sC j53 krf ?_ ?_
    ·refine sG (xR 1 krf ?_)
     refine xs_roE [.ro [.id, .id, .id, .sl 2]] krf (g_p_reader_fail_2_ok n (⟨a0r.tokens,wi (a0r.pos+1),a0r.length,a0r.diags⟩:GPr)) krf krf (fun _=>by kernel_rfl) (fun _=>by kernel_rfl) (fun r58=>?_) (fun e59=>?_)
     ·refine xE ?_
      exact kq_n (k:=fun _=>g_p_reader_item_j4 n a0r r1 r3) () ⟨[0,4,5],[4,5,1000,1001,1002],[],[]⟩ krf
     ·refine kq_p (iq_p [1000,1001,1002] [] krf (qh_p _ rfl (sq_p ?_)))
      exact hq_p [1000,1103] [] krf krf krf
    ·refine sK ?_
     exact kq_n (k:=fun _=>g_p_reader_item_j4 n a0r r1 r3) () ⟨[0,4,5],[4,5,1000,1001,1002],[],[]⟩ krf
 ·refine sim_bind (fun j60=>⟨[(0, .ptr 1001 0),(4, .ptr 4 0),(5, .ptr 5 0),(16,B j60)],[(4, .box 56 [I 0,S [],I 0,I 0]),(5, .box 56 (bxc (GTk.cs r1))),(1000, .box 35 [.p (.val (.func (.func 69) #[] #[]))]),(1001, .box 53 [.p (.sl 4 (mTk a0r.tokens)),I a0r.pos,I a0r.length, .tsl 2 (mDg a0r.diags) 1002]),(1002, .arr 41 2 (mDg a0r.diags).length)]⟩:Bool→St) ?_ ?_
  ·refine sG (xR 4 krf ?_)
   refine xS (eqI r1.Kind 0) (fun h61=>?_) (fun h61=>?_)
   ·refine xN (want_ft krf h61) krf (xR 4 krf (xE ?_))
    exact nq_n true ⟨[0,4,5,16],[4,5,1000,1001,1002],[],[]⟩ krf
   ·refine xO (want_ff krf h61) krf (xR 1 krf (xs_inline [(1000, .box 35 [.p (.val (.func (.func 69) #[] #[]))])] [.agg [I r1.Kind,S r1.Text,I r1.N,I r1.At], .ptr 1000 0] [(1000,1000)] [] [] krf Try.func88 rfl Try.ntmps88 rfl krf krf krf (sR tfm ⟨[1,2],[2,1000],[],[]⟩ ⟨[(1, .ptr 1000 0),(2, .ptr 2 0)],[(2, .box 56 (bxc (GTk.cs r1))),(1000, .box 35 [.p (.val (.func (.func 69) #[] #[]))])]⟩ krf (sim_bind (fun j62=>⟨[(3,B j62)],[(1000, .box 35 [.p (.val (.func (.func 69) #[] #[]))])]⟩:Bool→St) ?_ ?_))))
    ·refine sG (xR 4 krf ?_)
     refine xS (eqI r1.Kind 1) (fun h63=>?_) (fun h63=>?_)
     ·refine xO (want_tt krf h63) krf (xR 2 krf ?_)
      refine xC [] krf (g_p_reader_item_1_ok n r1.Text) krf krf (fun _=>by kernel_rfl) (fun r64=>?_)
      refine xR 2 krf (xE ?_)
      exact nq_n r64 ⟨[3],[1000],[],[]⟩ krf
     ·refine xN (want_tf krf h63) krf (xR 5 krf (xE ?_))
      exact nq_n false ⟨[3],[1000],[],[]⟩ krf
    ·rintro j62
     refine sT (iq_ret (.id) [1000] [] (B j62) krf krf (kr0 (xR 2 krf (xE ?_))))
     exact nq_n (!j62) ⟨[0,4,5,16],[4,5,1000,1001,1002],[],[]⟩ krf
  ·rintro j60
   refine sC j60 krf ?_ ?_
   ·refine sG (xR 1 krf ?_)
    refine xs_roE [.ro [.id, .id, .id, .sl 2]] krf (g_p_reader_fail_2_ok n a0r) krf krf (fun _=>by kernel_rfl) (fun _=>by kernel_rfl) (fun r65=>?_) (fun e66=>?_)
    ·refine xE ?_
     exact kq_n (k:=fun _=>g_p_reader_item_j2 n a0r r1) () ⟨[0,4,5],[4,5,1000,1001,1002],[],[]⟩ krf
    ·refine kq_p (iq_p [1000,1001,1002] [] krf (qh_p _ rfl (sq_p ?_)))
     exact hq_p [1000,1103] [] krf krf krf
   ·refine sK ?_
    exact kq_n (k:=fun _=>g_p_reader_item_j2 n a0r r1) () ⟨[0,4,5],[4,5,1000,1001,1002],[],[]⟩ krf
def g_p_count_l1 (a0n:GNode) (a1limit:Int) (rf_parser_count:GNode→Int→Option Int) (recl1:(Int × Int)→Option Int) (l1_1:Int) (l1_2:Int):Option Int :=
 cond (ltI l1_2 (lenI (List.map idc a0n.Kids)))
  ((Option.bind (getI a0n.Kids l1_2) GNode.of).bind fun x2 =>
  cond (ltI a1limit l1_1)
   (some l1_1)
   ((rf_parser_count x2 (wi (a1limit - l1_1))).bind fun r3 =>
   recl1 (wi (l1_1+r3),wi (l1_2+1))))
  (some l1_1)
def g_p_count_body (n:Nat) (rf_parser_count:GNode→Int→Option Int) (a0n:GNode) (a1limit:Int):Option Int :=
 loopN (fun recl1 (l1_1,l1_2)=>g_p_count_l1 a0n a1limit rf_parser_count recl1 l1_1 l1_2) n (1,0)
def g_p_count:Nat→GNode→Int→Option Int
 | 0,_,_=>none
 | n+1,a0n,a1limit=>g_p_count_body n (g_p_count n) a0n a1limit
theorem g_p_count_ok (n:Nat) (a0n:GNode) (a1limit:Int):∀ r,g_p_count n a0n a1limit=some r→PCall Try.prog 25 [ag (GNode.cs a0n),I a1limit] (.ret (I r)):=by
 induction n generalizing a0n a1limit with
 | zero=>intro r hr; cases (show (none:Option Int)=some r from hr)
 | succ n ih =>
 show ∀ r,g_p_count_body n (g_p_count n) a0n a1limit=some r→_
 generalize g_p_count n=rf_parser_count at ih ⊢
 refine pcall_sim (X:=fun r:Int=>AEnd.ret (I r)) Try.func25 rfl Try.ntmps25 rfl ?_
 unfold g_p_count_body
 refine sR tfm ⟨[1,2],[2],[],[]⟩ ⟨[(1,I a1limit),(2, .ptr 2 0)],[(2, .box 24 (bxc (GNode.cs a0n)))]⟩ krf (sR tfm ⟨[1,2,5],[2],[],[]⟩ ⟨[(1,I a1limit),(2, .ptr 2 0),(5,I 1)],[(2, .box 24 (bxc (GNode.cs a0n)))]⟩ krf (sS (sR tfm ⟨[1,5,9,10,11],[],[],[]⟩ ⟨[(1,I a1limit),(5,I 1),(9, .p (.sl 5 (mI a0n.Kids))),(10,I (lenI (mI a0n.Kids))),(11,I 0)],[]⟩ krf (sB (sim_loop (fun (l1_1,l1_2)=>⟨[(1,I a1limit),(5,I l1_1),(9, .p (.sl 5 (mI a0n.Kids))),(10,I (lenI (mI a0n.Kids))),(11,I l1_2)],[]⟩:(Int × Int)→St) (weak_shr (K:=⟨[1,5,9,10,11],[],[],[]⟩) krf) ?_)))))
 rintro recl1 ⟨l1_1,l1_2⟩
 show SimE (g_p_count_l1 a0n a1limit rf_parser_count recl1 l1_1 l1_2) _ _ _ _ _ _
 unfold g_p_count_l1
 refine sR tfm ⟨[1,5,9,10,11,12],[],[],[]⟩ ⟨[(1,I a1limit),(5,I l1_1),(9, .p (.sl 5 (mI a0n.Kids))),(10,I (lenI (mI a0n.Kids))),(11,I l1_2),(12,B (ltI l1_2 (lenI (mI a0n.Kids))))],[]⟩ krf (sS (sC (ltI l1_2 (lenI (mI a0n.Kids))) krf ?_ ?_))
 ·refine sK (sN ⟨[1,5,9,10,11],[],[],[]⟩ ⟨[(1,I a1limit),(5,I l1_1),(9, .p (.sl 5 (mI a0n.Kids))),(10,I (lenI (mI a0n.Kids))),(11,I l1_2)],[]⟩ krf (sS (sB (sS (sG ?_)))))
  refine xG krf krf (aop_idxR (e:=24) (S:=5) (enc:=GNode.cs) (dec:=GNode.of) (l:=a0n.Kids) (k:=.i64) (n:=l1_2) (sv:=.p (.sl 5 (mI a0n.Kids))) GNode.of_cs rfl krf krf krf krf krf) (fun x2=>?_)
  refine xR 3 krf (xE (sN ⟨[1,5,7,9,10,11],[7],[],[]⟩ ⟨[(1,I a1limit),(5,I l1_1),(7, .ptr 7 0),(9, .p (.sl 5 (mI a0n.Kids))),(10,I (lenI (mI a0n.Kids))),(11,I l1_2)],[(7, .box 24 (bxc (GNode.cs x2)))]⟩ krf (sS (sR tfm ⟨[1,5,7,9,10,11,17],[7],[],[]⟩ ⟨[(1,I a1limit),(5,I l1_1),(7, .ptr 7 0),(9, .p (.sl 5 (mI a0n.Kids))),(10,I (lenI (mI a0n.Kids))),(11,I l1_2),(17,B (ltI a1limit l1_1))],[(7, .box 24 (bxc (GNode.cs x2)))]⟩ krf (sC (ltI a1limit l1_1) krf ?_ ?_)))))
  ·refine sR tfm ⟨[4],[],[],[]⟩ ⟨[(4,I l1_1)],[]⟩ krf (sT (sq_r (bq_r (sq_r (kq_r (bq_r (sq_r ?_)))))))
   exact qR (.id) krf krf krf
  ·refine sK (sN ⟨[1,5,7,9,10,11],[7],[],[]⟩ ⟨[(1,I a1limit),(5,I l1_1),(7, .ptr 7 0),(9, .p (.sl 5 (mI a0n.Kids))),(10,I (lenI (mI a0n.Kids))),(11,I l1_2)],[(7, .box 24 (bxc (GNode.cs x2)))]⟩ krf (sG (xR 5 krf ?_)))
   refine xC [] krf (ih x2 (wi (a1limit - l1_1))) krf krf (fun _=>by kernel_rfl) (fun r3=>?_)
   refine xR 2 krf (xE (bq_n (sN ⟨[1,5,9,10,11],[],[],[]⟩ ⟨[(1,I a1limit),(5,I (wi (l1_1+r3))),(9, .p (.sl 5 (mI a0n.Kids))),(10,I (lenI (mI a0n.Kids))),(11,I l1_2)],[]⟩ krf (sL tfm krf ?_))))
   exact kq_n (wi (l1_1+r3),wi (l1_2+1)) ⟨[1,5,9,10,11],[],[],[]⟩ krf
 ·refine sim_exit (sq_x (kq_x (bq_hit (sN ⟨[5],[],[],[]⟩ ⟨[(5,I l1_1)],[]⟩ krf (sR tfm ⟨[4],[],[],[]⟩ ⟨[(4,I l1_1)],[]⟩ krf (sT ?_))))))
  exact qR (.id) krf krf krf
def g_p_Parse_l4 (n:Nat) (recl4:((List (List PV)) × (List GTk) × Int × Int × (List GDg))→Option ((List (List PV)) × (List GTk) × Int × Int × (List GDg))) (l4_1:List (List PV)) (l4_2:List GTk) (l4_3:Int) (l4_4:Int) (l4_5:List GDg):Option ((List (List PV)) × (List GTk) × Int × Int × (List GDg)) :=
 (cond (ltI l4_3 (lenI (List.map GTk.cs l4_2)))
  ((g_p_reader_full n (⟨l4_2,l4_3,l4_4,l4_5⟩:GPr)).bind fun r7 =>
  some (!r7))
  (some false)).bind fun j5 =>
 cond j5
  (((g_p_reader_item n (⟨l4_2,l4_3,l4_4,l4_5⟩:GPr)).bind (exc (fun r9 =>
   some (true,r9.2.tokens,r9.2.pos,r9.2.length,r9.2.diags,r9.1.Kind,r9.1.Name,r9.1.N,r9.1.At,r9.1.Kids)) fun e10=>cond (roomB (List.length (e10.2.diags++[(⟨7,e10.1⟩:GDg)])) 16) (
   (g_p_reader_skip n (⟨e10.2.tokens,e10.2.pos,e10.2.length,[]⟩:GPr)).bind fun r11 =>
   some (false,r11.2.tokens,r11.2.pos,r11.2.length,e10.2.diags++[(⟨7,e10.1⟩:GDg)],0,[],0,0,[])) none)).bind fun (j8_1,j8_2,j8_3,j8_4,j8_5,j8_6,j8_7,j8_8,j8_9,j8_10) =>
  cond j8_1
   (cond (roomB (List.length (l4_1++[GNode.cs (⟨j8_6,j8_7,j8_8,j8_9,j8_10⟩:GNode)])) 64) (
    recl4 (l4_1++[GNode.cs (⟨j8_6,j8_7,j8_8,j8_9,j8_10⟩:GNode)],j8_2,j8_3,j8_4,j8_5)) none)
   (recl4 (l4_1,j8_2,j8_3,j8_4,j8_5)))
  (some (l4_1,l4_2,l4_3,l4_4,l4_5))
def g_p_Parse (n:Nat) (a0z:List UInt8):Option (GNode × (List GDg)) :=
 (g_x_Lex n a0z).bind fun r1 =>
 cond (!eqI r1.2.1 0)
  (some ((⟨0,[],0,0,[]⟩:GNode),[(⟨r1.2.1,r1.2.2⟩:GDg)]))
  (((loopN (fun recl4 (l4_1,l4_2,l4_3,l4_4,l4_5)=>g_p_Parse_l4 n recl4 l4_1 l4_2 l4_3 l4_4 l4_5) n ([],r1.1,0,lenI a0z,[])).bind fun (j3_1,j3_2,j3_3,j3_4,j3_5) =>
  cond (roomB (List.length ([]++j3_1)) 64) (
   some ([]++j3_1,j3_2,j3_3,j3_4,j3_5)) none).bind fun (j2_1,j2_2,j2_3,j2_4,j2_5) =>
  cond (ltI 0 (lenI (List.map GDg.cs j2_5)))
   (some ((⟨0,[],0,0,[]⟩:GNode),j2_5))
   ((g_p_count n (⟨1,[],0,0,j2_1⟩:GNode) 1500).bind fun r12 =>
   cond (ltI 1500 r12)
    (some ((⟨0,[],0,0,[]⟩:GNode),[(⟨2,0⟩:GDg)]))
    (some ((⟨1,[],0,0,j2_1⟩:GNode),[]))))
theorem g_p_Parse_ok (n:Nat) (a0z:List UInt8):∀ r,g_p_Parse n a0z=some r→PCall Try.prog 9 [S a0z] (.ret (.tup [ag (GNode.cs r.1), .p (.sl 2 (mDg r.2))])):=by
 refine pcall_sim (X:=fun r:GNode × (List GDg)=>AEnd.ret (.tup [ag (GNode.cs r.1), .p (.sl 2 (mDg r.2))])) Try.func9 rfl Try.ntmps9 rfl ?_
 unfold g_p_Parse
 refine sR tfm ⟨[0,2],[2],[],[]⟩ ⟨[(0,S a0z),(2, .ptr 2 0)],[(2, .box 24 [I 0,S [],I 0,I 0,zS])]⟩ krf (sS (sG (xR 1 krf ?_)))
 refine xC [] krf (g_x_Lex_ok n a0z) krf krf (fun _=>by kernel_rfl) (fun r1=>?_)
 refine xR 7 krf (xE (sN ⟨[0,2,4,5,6],[2],[],[]⟩ ⟨[(0,S a0z),(2, .ptr 2 0),(4, .p (.sl 4 (mTk r1.1))),(5,I r1.2.1),(6,I r1.2.2)],[(2, .box 24 [I 0,S [],I 0,I 0,zS])]⟩ krf (sS (sR tfm ⟨[0,2,4,5,6,16],[2],[],[]⟩ ⟨[(0,S a0z),(2, .ptr 2 0),(4, .p (.sl 4 (mTk r1.1))),(5,I r1.2.1),(6,I r1.2.2),(16,B (!eqI r1.2.1 0))],[(2, .box 24 [I 0,S [],I 0,I 0,zS])]⟩ krf (sC (!eqI r1.2.1 0) krf ?_ ?_)))))
 ·refine sR tfm ⟨[2,3],[2,21],[],[]⟩ ⟨[(2, .ptr 2 0),(3, .tsl 2 (mDg [(⟨r1.2.1,r1.2.2⟩:GDg)]) 21)],[(2, .box 24 [I 0,S [],I 0,I 0,zS]),(21, .arr 41 2 (mDg [(⟨r1.2.1,r1.2.2⟩:GDg)]).length)]⟩ krf (sT (sq_r ?_))
  exact qR (.agg [.agg [.id, .id, .id, .id, .sl 5], .sl 2]) krf krf krf
 ·refine sK (sN ⟨[0,2,4],[2],[],[]⟩ ⟨[(0,S a0z),(2, .ptr 2 0),(4, .p (.sl 4 (mTk r1.1)))],[(2, .box 24 [I 0,S [],I 0,I 0,zS])]⟩ krf (sR tfm ⟨[2,7],[2,26],[],[]⟩ ⟨[(2, .ptr 2 0),(7, .ptr 26 0)],[(2, .box 24 [I 0,S [],I 0,I 0,zS]),(26, .box 53 [.p (.sl 4 (mTk r1.1)),I 0,I (lenI a0z),zS])]⟩ krf (sS (sG (xR 4 krf (xs_inline [(1000, .box 53 [.p (.sl 4 (mTk r1.1)),I 0,I (lenI a0z),zS]),(1001, .box 57 [.fn (.func 24) [.ptr 1000 0] []])] [.agg [I 0,S [],I 0,I 0],I 1,S [],I 0, .bsl 1001 1] [(1000,26),(1001,30),(637,637)] [] [] krf Try.func23 rfl Try.ntmps23 rfl krf krf krf (sR tfm ⟨[1,2,3,4,5,10],[5,10,1000,1001],[],[]⟩ ⟨[(1,I 1),(2,S []),(3,I 0),(4, .bsl 1001 1),(5, .ptr 5 0),(10, .ptr 10 0)],[(5, .box 56 [I 0,S [],I 0,I 0]),(10, .box 24 [I 0,S [],I 0,I 0,zS]),(1000, .box 53 [.p (.sl 4 (mTk r1.1)),I 0,I (lenI a0z),zS]),(1001, .box 57 [.fn (.func 24) [.ptr 1000 0] []])]⟩ krf ?_)))))))
  refine sR tfm ⟨[4,10,11],[10,11,1000,1001],[],[]⟩ ⟨[(4, .bsl 1001 1),(10, .ptr 10 0),(11, .ptr 11 0)],[(10, .box 24 [I 0,S [],I 0,I 0,zS]),(11, .box 24 [I 1,S [],I 0,I 0,zS]),(1000, .box 53 [.p (.sl 4 (mTk r1.1)),I 0,I (lenI a0z),zS]),(1001, .box 57 [.fn (.func 24) [.ptr 1000 0] []])]⟩ krf (sim_bind (fun (j2_1,j2_2,j2_3,j2_4,j2_5)=>⟨[(10, .ptr 10 0),(11, .ptr 11 0)],[(10, .box 24 [I 0,S [],I 0,I 0,zS]),(11, .box 24 [I 1,S [],I 0,I 0, .tsl 5 (mI j2_1) 600]),(600, .arr 24 5 (mI j2_1).length),(637, .arr 41 2 (mDg j2_5).length),(1000, .box 53 [.p (.sl 4 (mTk j2_2)),I j2_3,I j2_4, .tsl 2 (mDg j2_5) 637]),(1001, .box 57 [.fn (.func 24) [.ptr 1000 0] []])]⟩:((List (List PV)) × (List GTk) × Int × Int × (List GDg))→St) ?_ ?_)
  ·refine sR tfm ⟨[10,11,20,21,22],[10,11,1000,1001],[],[]⟩ ⟨[(10, .ptr 10 0),(11, .ptr 11 0),(20, .bsl 1001 1),(21,I 1),(22,I 0)],[(10, .box 24 [I 0,S [],I 0,I 0,zS]),(11, .box 24 [I 1,S [],I 0,I 0,zS]),(1000, .box 53 [.p (.sl 4 (mTk r1.1)),I 0,I (lenI a0z),zS]),(1001, .box 57 [.fn (.func 24) [.ptr 1000 0] []])]⟩ krf (sB (sim_unroll 1 (sR tfm ⟨[10,11,20,21,22,23],[10,11,1000,1001],[],[]⟩ ⟨[(10, .ptr 10 0),(11, .ptr 11 0),(20, .bsl 1001 1),(21,I 1),(22,I 0),(23,B true)],[(10, .box 24 [I 0,S [],I 0,I 0,zS]),(11, .box 24 [I 1,S [],I 0,I 0,zS]),(1000, .box 53 [.p (.sl 4 (mTk r1.1)),I 0,I (lenI a0z),zS]),(1001, .box 57 [.fn (.func 24) [.ptr 1000 0] []])]⟩ krf (sS (sim_condT krf (sK (sN ⟨[10,11,20,21,22],[10,11,1000,1001],[],[]⟩ ⟨[(10, .ptr 10 0),(11, .ptr 11 0),(20, .bsl 1001 1),(21,I 1),(22,I 0)],[(10, .box 24 [I 0,S [],I 0,I 0,zS]),(11, .box 24 [I 1,S [],I 0,I 0,zS]),(1000, .box 53 [.p (.sl 4 (mTk r1.1)),I 0,I (lenI a0z),zS]),(1001, .box 57 [.fn (.func 24) [.ptr 1000 0] []])]⟩ krf ?_)))))))
   refine sS (sB (sR tfm ⟨[10,11,13,20,21,22],[10,11,1000,1001],[],[]⟩ ⟨[(10, .ptr 10 0),(11, .ptr 11 0),(13, .fn (.func 24) [.ptr 1000 0] []),(20, .bsl 1001 1),(21,I 1),(22,I 0)],[(10, .box 24 [I 0,S [],I 0,I 0,zS]),(11, .box 24 [I 1,S [],I 0,I 0,zS]),(1000, .box 53 [.p (.sl 4 (mTk r1.1)),I 0,I (lenI a0z),zS]),(1001, .box 57 [.fn (.func 24) [.ptr 1000 0] []])]⟩ krf (sP ⟨[10,11,13,20,21,22],[10,11,1000,1001],[],[]⟩ ⟨[(10, .ptr 10 0),(11, .ptr 11 0),(13, .fn (.func 24) [.ptr 1000 0] []),(20, .bsl 1001 1),(21,I 1),(22,I 0)],[(10, .box 24 [I 0,S [],I 0,I 0,zS]),(11, .box 24 [I 1,S [],I 0,I 0,zS]),(1000, .box 53 [.p (.sl 4 (mTk r1.1)),I 0,I (lenI a0z),zS]),(1001, .box 57 [.fn (.func 24) [.ptr 1000 0] []])]⟩ krf (sim_weak (weak_pn 24 5 600 [] [(11,4)] krf) (sim_hst [0,1,2] [0,1] [(3,[]),(4,[]),(5,[]),(6,[])] tfm rfl krf krf (h_enter (f:=24) (args:=[.ptr 1000 0]) (dst:=some 29) krf krf (sc_inline (hc:=[(1000, .box 53 [.p (.sl 4 (mTk r1.1)),I 0,I (lenI a0z),zS])]) (args':=[.ptr 1000 0]) [(1000,1000),(600,637)] [] [] Try.func24 rfl Try.ntmps24 rfl krf krf krf ?_)))))))
   refine sR tfm ⟨[1],[1,1000],[],[]⟩ ⟨[(1, .ptr 1 0)],[(1, .box 51 [.ptr 1000 0]),(1000, .box 53 [.p (.sl 4 (mTk r1.1)),I 0,I (lenI a0z),zS])]⟩ krf (sR tfm ⟨[1,3],[1,1000],[],[]⟩ ⟨[(1, .ptr 1 0),(3,zS)],[(1, .box 51 [.ptr 1000 0]),(1000, .box 53 [.p (.sl 4 (mTk r1.1)),I 0,I (lenI a0z),zS])]⟩ krf (sim_bind (fun (j3_1,j3_2,j3_3,j3_4,j3_5)=>⟨[(3, .tsl 5 (mI j3_1) 32)],[(32, .arr 24 5 (mI j3_1).length),(600, .arr 41 2 (mDg j3_5).length),(1000, .box 53 [.p (.sl 4 (mTk j3_2)),I j3_3,I j3_4, .tsl 2 (mDg j3_5) 600])]⟩:((List (List PV)) × (List GTk) × Int × Int × (List GDg))→St) ?_ ?_))
   ·refine sB (sP ⟨[1,3],[1,1000],[],[]⟩ ⟨[(1, .ptr 1 0),(3,zS)],[(1, .box 51 [.ptr 1000 0]),(1000, .box 53 [.p (.sl 4 (mTk r1.1)),I 0,I (lenI a0z),zS])]⟩ krf (sim_weak (Weak.trans (weak_pn 24 5 32 [3] [] krf) (weak_pn 41 2 600 [] [(1000,3)] krf)) (sim_loop (fun (l4_1,l4_2,l4_3,l4_4,l4_5)=>⟨[(1, .ptr 1 0),(3, .tsl 5 (mI l4_1) 32)],[(1, .box 51 [.ptr 1000 0]),(32, .arr 24 5 (mI l4_1).length),(600, .arr 41 2 (mDg l4_5).length),(1000, .box 53 [.p (.sl 4 (mTk l4_2)),I l4_3,I l4_4, .tsl 2 (mDg l4_5) 600])]⟩:((List (List PV)) × (List GTk) × Int × Int × (List GDg))→St) (weak_shr (K:=⟨[1,3],[1,32,600,1000],[],[]⟩) krf) ?_)))
    rintro recl4 ⟨l4_1,l4_2,l4_3,l4_4,l4_5⟩
    show SimE (g_p_Parse_l4 n recl4 l4_1 l4_2 l4_3 l4_4 l4_5) _ _ _ _ _ _
    unfold g_p_Parse_l4
    refine sS (sim_bind (fun j5=>⟨[(1, .ptr 1 0),(3, .tsl 5 (mI l4_1) 32),(21,B j5)],[(1, .box 51 [.ptr 1000 0]),(32, .arr 24 5 (mI l4_1).length),(600, .arr 41 2 (mDg l4_5).length),(1000, .box 53 [.p (.sl 4 (mTk l4_2)),I l4_3,I l4_4, .tsl 2 (mDg l4_5) 600])]⟩:Bool→St) ?_ ?_)
    ·refine sim_drw tfm rfl (xR 11 krf ?_)
     refine xS (ltI l4_3 (lenI (mTk l4_2))) (fun h6=>?_) (fun h6=>?_)
     ·refine xO (want_tt krf h6) krf (xs_seqL rfl krf krf ?_)
      refine xs_ro [.ro [.id, .id, .id, .sl 2]] krf (g_p_reader_full_ok n (⟨l4_2,l4_3,l4_4,l4_5⟩:GPr)) krf krf (fun _=>by kernel_rfl) (fun r7=>?_)
      refine xR 2 krf (xE ?_)
      exact nq_n (!r7) ⟨[1,3,21],[1,32,600,1000],[],[]⟩ krf
     ·refine xN (want_tf krf h6) krf (xR 3 krf (xs_endD krf ?_))
      exact nq_n false ⟨[1,3,21],[1,32,600,1000],[],[]⟩ krf
    ·rintro j5
     refine sC j5 krf ?_ ?_
     ·refine sK (sN ⟨[1,3],[1,32,600,1000],[],[]⟩ ⟨[(1, .ptr 1 0),(3, .tsl 5 (mI l4_1) 32)],[(1, .box 51 [.ptr 1000 0]),(32, .arr 24 5 (mI l4_1).length),(600, .arr 41 2 (mDg l4_5).length),(1000, .box 53 [.p (.sl 4 (mTk l4_2)),I l4_3,I l4_4, .tsl 2 (mDg l4_5) 600])]⟩ krf (sB (sR tfm ⟨[1,3,4],[1,4,32,600,1000],[],[]⟩ ⟨[(1, .ptr 1 0),(3, .tsl 5 (mI l4_1) 32),(4, .ptr 4 0)],[(1, .box 51 [.ptr 1000 0]),(4, .box 24 [I 0,S [],I 0,I 0,zS]),(32, .arr 24 5 (mI l4_1).length),(600, .arr 41 2 (mDg l4_5).length),(1000, .box 53 [.p (.sl 4 (mTk l4_2)),I l4_3,I l4_4, .tsl 2 (mDg l4_5) 600])]⟩ krf (sim_bind (fun (j8_1,j8_2,j8_3,j8_4,j8_5,j8_6,j8_7,j8_8,j8_9,j8_10)=>⟨[(1, .ptr 1 0),(3, .tsl 5 (mI l4_1) 32),(4, .ptr 4 0),(5,B j8_1)],[(1, .box 51 [.ptr 1000 0]),(4, .box 24 (bxc (GNode.cs ⟨j8_6,j8_7,j8_8,j8_9,j8_10⟩))),(32, .arr 24 5 (mI l4_1).length),(600, .arr 41 2 (mDg j8_5).length),(1000, .box 53 [.p (.sl 4 (mTk j8_2)),I j8_3,I j8_4, .tsl 2 (mDg j8_5) 600])]⟩:(Bool × (List GTk) × Int × Int × (List GDg) × Int × (List UInt8) × Int × Int × (List (List PV)))→St) ?_ ?_))))
      ·refine sG (xR 2 krf (xs_enter (f:=44) (args:=[.ptr 1000 0, .fn (.func 45) [] [.ptr 1 0, .ptr 4 0]]) krf krf krf ?_))
       refine sc_inlineD (hc:=[(1000, .box 51 [.ptr 1003 0]),(1001, .box 24 [I 0,S [],I 0,I 0,zS]),(1002, .arr 41 2 (mDg l4_5).length),(1003, .box 53 [.p (.sl 4 (mTk l4_2)),I l4_3,I l4_4, .tsl 2 (mDg l4_5) 1002])]) (args':=[.ptr 1003 0, .fn (.func 45) [] [.ptr 1000 0, .ptr 1001 0]]) [(1000,1),(1001,4),(1002,600),(1003,1000)] [] [] (⟨_,_,_,_,_,_,[2,4,5],6,_,rfl,rfl,rfl,rfl,rfl,rfl,rfl,rfl,by decide⟩:Deferrer2 Try.f44 65) [(2,1900),(4,1901),(5,1902)] Try.func44 Try.ntmps44 krf krf krf krf krf tfm rfl krf krf ?_
       refine sP ⟨[1,4,5],[1000,1001,1002,1003,1900,1901,1902],[],[]⟩ ⟨[(1, .fn (.func 45) [] [.ptr 1000 0, .ptr 1001 0]),(4, .ptr 1901 0),(5, .ptr 1902 0)],[(1000, .box 51 [.ptr 1003 0]),(1001, .box 24 [I 0,S [],I 0,I 0,zS]),(1002, .arr 41 2 (mDg l4_5).length),(1003, .box 53 [.p (.sl 4 (mTk l4_2)),I l4_3,I l4_4, .tsl 2 (mDg l4_5) 1002]),(1900, .box 51 [.ptr 1003 0]),(1901, .box 4 [B false]),(1902, .box 9 [S []])]⟩ krf (sS (sG (xR 1 krf (xs_inline [(1000, .box 51 [.ptr 1003 0]),(1001, .box 24 [I 0,S [],I 0,I 0,zS]),(1002, .arr 41 2 (mDg l4_5).length),(1003, .box 53 [.p (.sl 4 (mTk l4_2)),I l4_3,I l4_4, .tsl 2 (mDg l4_5) 1002])] [.ptr 1000 0, .ptr 1001 0] [(1000,1000),(1001,1001),(1002,1002),(1003,1003)] [] [] krf Try.func45 rfl Try.ntmps45 rfl krf krf krf (sG (xR 1 krf ?_))))))
       refine xs_heapE [(1000,1003),(1103,1002)] [] [] krf (g_p_reader_item_ok n (⟨l4_2,l4_3,l4_4,l4_5⟩:GPr)) krf krf krf (fun _=>by kernel_rfl) (fun _=>by kernel_rfl) (fun _=>by kernel_rfl) (fun _=>by kernel_rfl) (fun r9=>?_) (fun e10=>?_)
       ·refine xR 1 krf (xE (iq_n (.id) [1000,1001,1002,1003] [] (.tup []) krf krf (kr0 (xE (sN ⟨[4,5],[1000,1001,1002,1003,1900,1901,1902],[],[]⟩ ⟨[(4, .ptr 1901 0),(5, .ptr 1902 0)],[(1000, .box 51 [.ptr 1003 0]),(1001, .box 24 (bxc (GNode.cs r9.1))),(1002, .arr 41 2 (mDg r9.2.diags).length),(1003, .box 53 [.p (.sl 4 (mTk r9.2.tokens)),I r9.2.pos,I r9.2.length, .tsl 2 (mDg r9.2.diags) 1002]),(1900, .box 51 [.ptr 1003 0]),(1901, .box 4 [B false]),(1902, .box 9 [S []])]⟩ krf (sR tfm ⟨[4,5],[1000,1001,1002,1003,1900,1901,1902],[],[]⟩ ⟨[(4, .ptr 1901 0),(5, .ptr 1902 0)],[(1000, .box 51 [.ptr 1003 0]),(1001, .box 24 (bxc (GNode.cs r9.1))),(1002, .arr 41 2 (mDg r9.2.diags).length),(1003, .box 53 [.p (.sl 4 (mTk r9.2.tokens)),I r9.2.pos,I r9.2.length, .tsl 2 (mDg r9.2.diags) 1002]),(1900, .box 51 [.ptr 1003 0]),(1901, .box 4 [B true]),(1902, .box 9 [S []])]⟩ krf (sT ?_)))))))
        refine dI_end (⟨Try.f65,_,_,_,6,3,_,_,Try.func65,rfl,rfl,rfl,rfl,rfl,rfl,rfl,by decide,by decide⟩:Recoverer Try.prog 65) [(1000,1002),(1001,1003),(1002,1900),(1003,1901),(1004,1902)] [(1000, .arr 41 2 (mDg r9.2.diags).length),(1001, .box 53 [.p (.sl 4 (mTk r9.2.tokens)),I r9.2.pos,I r9.2.length, .tsl 2 (mDg r9.2.diags) 1000]),(1002, .box 51 [.ptr 1001 0]),(1003, .box 4 [B true]),(1004, .box 9 [S []])] (.p (.val (.nilIface))) [.ptr 1002 0, .ptr 1003 0, .ptr 1004 0] [] rfl krf krf krf krf ?_
        refine sS (sR tfm ⟨[0,1,2,3,8],[1000,1001,1002,1003,1004],[],[]⟩ ⟨[(0, .ptr 1002 0),(1, .ptr 1003 0),(2, .ptr 1004 0),(3, .p (.val (.nilIface))),(8,B true)],[(1000, .arr 41 2 (mDg r9.2.diags).length),(1001, .box 53 [.p (.sl 4 (mTk r9.2.tokens)),I r9.2.pos,I r9.2.length, .tsl 2 (mDg r9.2.diags) 1000]),(1002, .box 51 [.ptr 1001 0]),(1003, .box 4 [B true]),(1004, .box 9 [S []])]⟩ krf (sim_condT krf (sT (sq_r (cl_ret [1000,1001,1002,1003,1004] [] krf krf (iq_ret (.id) [1000,1001,1002,1003] [] (.tup [B true,S []]) krf krf (kr0 ?_)))))))
        refine xR 5 krf (xE ?_)
        exact nq_n (true,r9.2.tokens,r9.2.pos,r9.2.length,r9.2.diags,r9.1.Kind,r9.1.Name,r9.1.N,r9.1.At,r9.1.Kids) ⟨[1,3,4,5],[1,4,32,600,1000],[],[]⟩ krf
       ·refine iq_p [1000,1001,1002,1003] [] krf (sq_p ?_)
        refine dI_end (⟨Try.f65,_,_,_,6,3,_,_,Try.func65,rfl,rfl,rfl,rfl,rfl,rfl,rfl,by decide,by decide⟩:Recoverer Try.prog 65) [(1000,1002),(1001,1003),(1002,1900),(1003,1901),(1004,1902)] [(1000, .arr 41 2 (mDg e10.2.diags).length),(1001, .box 53 [.p (.sl 4 (mTk e10.2.tokens)),I e10.2.pos,I e10.2.length, .tsl 2 (mDg e10.2.diags) 1000]),(1002, .box 51 [.ptr 1001 0]),(1003, .box 4 [B false]),(1004, .box 9 [S []])] (.ifc 97 (.agg [I e10.1])) [.ptr 1002 0, .ptr 1003 0, .ptr 1004 0] [] rfl krf krf krf krf ?_
        refine sS (sR tfm ⟨[0,1,2,3,8],[1000,1001,1002,1003,1004],[],[]⟩ ⟨[(0, .ptr 1002 0),(1, .ptr 1003 0),(2, .ptr 1004 0),(3, .ifc 97 (.agg [I e10.1])),(8,B false)],[(1000, .arr 41 2 (mDg e10.2.diags).length),(1001, .box 53 [.p (.sl 4 (mTk e10.2.tokens)),I e10.2.pos,I e10.2.length, .tsl 2 (mDg e10.2.diags) 1000]),(1002, .box 51 [.ptr 1001 0]),(1003, .box 4 [B false]),(1004, .box 9 [S []])]⟩ krf (sim_condF krf (sK (sN ⟨[0,1,2,3],[1000,1001,1002,1003,1004],[],[]⟩ ⟨[(0, .ptr 1002 0),(1, .ptr 1003 0),(2, .ptr 1004 0),(3, .ifc 97 (.agg [I e10.1]))],[(1000, .arr 41 2 (mDg e10.2.diags).length),(1001, .box 53 [.p (.sl 4 (mTk e10.2.tokens)),I e10.2.pos,I e10.2.length, .tsl 2 (mDg e10.2.diags) 1000]),(1002, .box 51 [.ptr 1001 0]),(1003, .box 4 [B false]),(1004, .box 9 [S []])]⟩ krf (sR tfm ⟨[0,1,2,3,4,5],[4,1000,1001,1002,1003,1004],[],[]⟩ ⟨[(0, .ptr 1002 0),(1, .ptr 1003 0),(2, .ptr 1004 0),(3, .ifc 97 (.agg [I e10.1])),(4, .ptr 4 0),(5,B true)],[(4, .box 97 [I e10.1]),(1000, .arr 41 2 (mDg e10.2.diags).length),(1001, .box 53 [.p (.sl 4 (mTk e10.2.tokens)),I e10.2.pos,I e10.2.length, .tsl 2 (mDg e10.2.diags) 1000]),(1002, .box 51 [.ptr 1001 0]),(1003, .box 4 [B false]),(1004, .box 9 [S []])]⟩ krf (sS (sR tfm ⟨[0,1,2,3,4,15],[4,1000,1001,1002,1003,1004],[],[]⟩ ⟨[(0, .ptr 1002 0),(1, .ptr 1003 0),(2, .ptr 1004 0),(3, .ifc 97 (.agg [I e10.1])),(4, .ptr 4 0),(15,B false)],[(4, .box 97 [I e10.1]),(1000, .arr 41 2 (mDg e10.2.diags).length),(1001, .box 53 [.p (.sl 4 (mTk e10.2.tokens)),I e10.2.pos,I e10.2.length, .tsl 2 (mDg e10.2.diags) 1000]),(1002, .box 51 [.ptr 1001 0]),(1003, .box 4 [B false]),(1004, .box 9 [S []])]⟩ krf ?_)))))))
        refine sim_condF krf (sK (sN ⟨[0,1,2,4],[4,1000,1001,1002,1003,1004],[],[]⟩ ⟨[(0, .ptr 1002 0),(1, .ptr 1003 0),(2, .ptr 1004 0),(4, .ptr 4 0)],[(4, .box 97 [I e10.1]),(1000, .arr 41 2 (mDg e10.2.diags).length),(1001, .box 53 [.p (.sl 4 (mTk e10.2.tokens)),I e10.2.pos,I e10.2.length, .tsl 2 (mDg e10.2.diags) 1000]),(1002, .box 51 [.ptr 1001 0]),(1003, .box 4 [B false]),(1004, .box 9 [S []])]⟩ krf (sS (sim_drw tfm rfl (xR 9 krf (xF krf krf (aop_app (e:=41) (S:=2) (by_:=16) (enc:=GDg.cs) (tk:=1000) (l:=e10.2.diags) (l2:=[(⟨7,e10.1⟩:GDg)]) (xv:=.tsl 2 (mDg [(⟨7,e10.1⟩:GDg)]) 25) rfl krf krf rfl krf krf krf rfl krf) (xR 3 krf ?_)))))))
        refine xs_endD krf (sN ⟨[0,1,2],[1000,1001,1002,1003,1004],[],[]⟩ ⟨[(0, .ptr 1002 0),(1, .ptr 1003 0),(2, .ptr 1004 0)],[(1000, .arr 41 2 (mDg (e10.2.diags++[(⟨7,e10.1⟩:GDg)])).length),(1001, .box 53 [.p (.sl 4 (mTk e10.2.tokens)),I e10.2.pos,I e10.2.length, .tsl 2 (mDg (e10.2.diags++[(⟨7,e10.1⟩:GDg)])) 1000]),(1002, .box 51 [.ptr 1001 0]),(1003, .box 4 [B false]),(1004, .box 9 [S []])]⟩ krf (sG (xR 1 krf (xs_enter (f:=66) (args:=[.ptr 1001 0]) krf krf krf ?_))))
        refine sc_hold 1001 3 1000 41 2 (mDg (e10.2.diags++[(⟨7,e10.1⟩:GDg)])).length (mDg (e10.2.diags++[(⟨7,e10.1⟩:GDg)])) ⟨[0,1,2,29],[1001,1002,1003,1004],[],[]⟩ krf krf rfl (fun _ _ _=>by kernel_rfl) (fun hu11w hu11l hu11c=>?_)
        refine sc_heap [(1000,1001)] [] [] (g_p_reader_skip_ok n (⟨e10.2.tokens,e10.2.pos,e10.2.length,[]⟩:GPr) hu11w hu11l hu11c) krf krf krf (fun _=>by kernel_rfl) (fun _=>by kernel_rfl) (fun r11=>?_)
        refine k_hold _ rfl krf krf (kr0 (xR 2 krf (xE (cl_n [1000,1001,1002,1003,1004] [] krf krf (iq_ret (.id) [1000,1001,1002,1003] [] (.tup [B false,S r11.1]) krf krf (kr0 (xR 5 krf ?_)))))))
        refine xE ?_
        exact nq_n (false,r11.2.tokens,r11.2.pos,r11.2.length,e10.2.diags++[(⟨7,e10.1⟩:GDg)],0,[],0,0,[]) ⟨[1,3,4,5],[1,4,32,600,1000],[],[(4,[.id, .id, .id, .id, .sl 5])]⟩ krf
      ·rintro ⟨j8_1,j8_2,j8_3,j8_4,j8_5,j8_6,j8_7,j8_8,j8_9,j8_10⟩
       refine sR tfm ⟨[1,3,4,28],[1,4,32,600,1000],[],[]⟩ ⟨[(1, .ptr 1 0),(3, .tsl 5 (mI l4_1) 32),(4, .ptr 4 0),(28,B j8_1)],[(1, .box 51 [.ptr 1000 0]),(4, .box 24 (bxc (GNode.cs ⟨j8_6,j8_7,j8_8,j8_9,j8_10⟩))),(32, .arr 24 5 (mI l4_1).length),(600, .arr 41 2 (mDg j8_5).length),(1000, .box 53 [.p (.sl 4 (mTk j8_2)),I j8_3,I j8_4, .tsl 2 (mDg j8_5) 600])]⟩ krf (sC j8_1 krf ?_ ?_)
       ·refine sG (xR 3 krf (xF krf krf (aop_app (e:=24) (S:=5) (by_:=64) (enc:=idc) (tk:=32) (l:=l4_1) (l2:=[GNode.cs (⟨j8_6,j8_7,j8_8,j8_9,j8_10⟩:GNode)]) (xv:=.tsl 5 (mI [GNode.cs (⟨j8_6,j8_7,j8_8,j8_9,j8_10⟩:GNode)]) 31) rfl krf krf rfl krf krf krf rfl krf) (xR 1 krf (xE (bq_n ?_)))))
        exact kq_n (l4_1++[GNode.cs (⟨j8_6,j8_7,j8_8,j8_9,j8_10⟩:GNode)],j8_2,j8_3,j8_4,j8_5) ⟨[1,3],[1,32,600,1000],[],[]⟩ krf
       ·refine sK (bq_n ?_)
        exact kq_n (l4_1,j8_2,j8_3,j8_4,j8_5) ⟨[1,3],[1,32,600,1000],[],[]⟩ krf
     ·refine sim_exit (sq_x (kq_x (bq_hit ?_)))
      exact nq_n (l4_1,l4_2,l4_3,l4_4,l4_5) ⟨[3],[32,600,1000],[],[]⟩ krf
   ·rintro ⟨j3_1,j3_2,j3_3,j3_4,j3_5⟩
    refine sR tfm ⟨[2],[32,600,1000],[],[]⟩ ⟨[(2, .tsl 5 (mI j3_1) 32)],[(32, .arr 24 5 (mI j3_1).length),(600, .arr 41 2 (mDg j3_5).length),(1000, .box 53 [.p (.sl 4 (mTk j3_2)),I j3_3,I j3_4, .tsl 2 (mDg j3_5) 600])]⟩ krf (sT (iq_ret (.sl 5) [600,1000] [] (.p (.sl 5 (mI j3_1))) krf krf (kh [0,1] krf (lates_cons (late_read (.ptr 11 4) krf rfl) (lates_cons (late_tsl (S:=5) (t:=600) (ty:=24) (es:=mI []) krf krf rfl) (lates_nil))) krf (h_if [] rfl krf krf (aop_appL (e:=24) (S:=5) (by_:=64) (enc:=idc) (tk:=600) (l:=[]) (l2:=j3_1) (xv:=.p (.sl 5 (mI j3_1))) rfl krf krf rfl krf krf krf krf) (fun _=>lates_nil) (h_op [] krf krf (lates_nil) (h_op [] krf krf (lates_nil) (h_end ?_)))))))
    refine bq_n (sN ⟨[10,11,20,21,22],[10,11,600,637,1000,1001],[],[]⟩ ⟨[(10, .ptr 10 0),(11, .ptr 11 0),(20, .bsl 1001 1),(21,I 1),(22,I 0)],[(10, .box 24 [I 0,S [],I 0,I 0,zS]),(11, .box 24 [I 1,S [],I 0,I 0, .tsl 5 (mI ([]++j3_1)) 600]),(600, .arr 24 5 (mI ([]++j3_1)).length),(637, .arr 41 2 (mDg j3_5).length),(1000, .box 53 [.p (.sl 4 (mTk j3_2)),I j3_3,I j3_4, .tsl 2 (mDg j3_5) 637]),(1001, .box 57 [.fn (.func 24) [.ptr 1000 0] []])]⟩ krf (sL tfm krf (ru_n ⟨[10,11,20,21,22],[10,11,600,637,1000,1001],[],[]⟩ ⟨[(10, .ptr 10 0),(11, .ptr 11 0),(20, .bsl 1001 1),(21,I 1),(22,I 1)],[(10, .box 24 [I 0,S [],I 0,I 0,zS]),(11, .box 24 [I 1,S [],I 0,I 0, .tsl 5 (mI ([]++j3_1)) 600]),(600, .arr 24 5 (mI ([]++j3_1)).length),(637, .arr 41 2 (mDg j3_5).length),(1000, .box 53 [.p (.sl 4 (mTk j3_2)),I j3_3,I j3_4, .tsl 2 (mDg j3_5) 637]),(1001, .box 57 [.fn (.func 24) [.ptr 1000 0] []])]⟩ krf (sR tfm ⟨[10,11,20,21,22,23],[10,11,600,637,1000,1001],[],[]⟩ ⟨[(10, .ptr 10 0),(11, .ptr 11 0),(20, .bsl 1001 1),(21,I 1),(22,I 1),(23,B false)],[(10, .box 24 [I 0,S [],I 0,I 0,zS]),(11, .box 24 [I 1,S [],I 0,I 0, .tsl 5 (mI ([]++j3_1)) 600]),(600, .arr 24 5 (mI ([]++j3_1)).length),(637, .arr 41 2 (mDg j3_5).length),(1000, .box 53 [.p (.sl 4 (mTk j3_2)),I j3_3,I j3_4, .tsl 2 (mDg j3_5) 637]),(1001, .box 57 [.fn (.func 24) [.ptr 1000 0] []])]⟩ krf (sS (sim_condF krf (sim_exit ?_)))))))
    refine sq_x (ru_x (bq_hit ?_))
    exact nq_n ([]++j3_1,j3_2,j3_3,j3_4,j3_5) ⟨[10,11],[10,11,600,637,1000,1001],[],[]⟩ krf
  ·rintro ⟨j2_1,j2_2,j2_3,j2_4,j2_5⟩
   refine sR tfm ⟨[10],[10,600,637,1000,1001],[],[]⟩ ⟨[(10, .ptr 10 0)],[(10, .box 24 [I 1,S [],I 0,I 0, .tsl 5 (mI j2_1) 600]),(600, .arr 24 5 (mI j2_1).length),(637, .arr 41 2 (mDg j2_5).length),(1000, .box 53 [.p (.sl 4 (mTk j2_2)),I j2_3,I j2_4, .tsl 2 (mDg j2_5) 637]),(1001, .box 57 [.fn (.func 24) [.ptr 1000 0] []])]⟩ krf (sT (iq_ret (.agg [.id, .id, .id, .id, .sl 5]) [637,1000,1001] [] (.agg [I 1,S [],I 0,I 0, .p (.sl 5 (mI j2_1))]) krf krf (kr0 (xR 2 krf (xE (sN ⟨[2,7,8],[2,8,26,637],[],[]⟩ ⟨[(2, .ptr 2 0),(7, .ptr 26 0),(8, .ptr 8 0)],[(2, .box 24 [I 0,S [],I 0,I 0,zS]),(8, .box 24 (bxc (GNode.cs ⟨1,[],0,0,j2_1⟩))),(26, .box 53 [.p (.sl 4 (mTk j2_2)),I j2_3,I j2_4, .tsl 2 (mDg j2_5) 637]),(637, .arr 41 2 (mDg j2_5).length)]⟩ krf (sS ?_)))))))
   refine sR tfm ⟨[2,7,8,37],[2,8,26,637],[],[]⟩ ⟨[(2, .ptr 2 0),(7, .ptr 26 0),(8, .ptr 8 0),(37,B (ltI 0 (lenI (mDg j2_5))))],[(2, .box 24 [I 0,S [],I 0,I 0,zS]),(8, .box 24 (bxc (GNode.cs ⟨1,[],0,0,j2_1⟩))),(26, .box 53 [.p (.sl 4 (mTk j2_2)),I j2_3,I j2_4, .tsl 2 (mDg j2_5) 637]),(637, .arr 41 2 (mDg j2_5).length)]⟩ krf (sC (ltI 0 (lenI (mDg j2_5))) krf ?_ ?_)
   ·refine sR tfm ⟨[2,3],[2,637],[],[]⟩ ⟨[(2, .ptr 2 0),(3, .tsl 2 (mDg j2_5) 637)],[(2, .box 24 [I 0,S [],I 0,I 0,zS]),(637, .arr 41 2 (mDg j2_5).length)]⟩ krf (sT (sq_r ?_))
    exact qR (.agg [.agg [.id, .id, .id, .id, .sl 5], .sl 2]) krf krf krf
   ·refine sK (sN ⟨[2,8],[2,8],[],[]⟩ ⟨[(2, .ptr 2 0),(8, .ptr 8 0)],[(2, .box 24 [I 0,S [],I 0,I 0,zS]),(8, .box 24 (bxc (GNode.cs ⟨1,[],0,0,j2_1⟩)))]⟩ krf (sS (sS (sG (xR 1 krf ?_)))))
    refine xC [] krf (g_p_count_ok n (⟨1,[],0,0,j2_1⟩:GNode) 1500) krf krf (fun _=>by kernel_rfl) (fun r12=>?_)
    refine xR 1 krf (xE (sN ⟨[2,8,45],[2,8],[],[]⟩ ⟨[(2, .ptr 2 0),(8, .ptr 8 0),(45,B (ltI 1500 r12))],[(2, .box 24 [I 0,S [],I 0,I 0,zS]),(8, .box 24 (bxc (GNode.cs ⟨1,[],0,0,j2_1⟩)))]⟩ krf (sC (ltI 1500 r12) krf ?_ ?_)))
    ·refine sR tfm ⟨[2,3],[2,48],[],[]⟩ ⟨[(2, .ptr 2 0),(3, .tsl 2 (mDg [(⟨2,0⟩:GDg)]) 48)],[(2, .box 24 [I 0,S [],I 0,I 0,zS]),(48, .arr 41 2 (mDg [(⟨2,0⟩:GDg)]).length)]⟩ krf (sT (sq_r ?_))
     exact qR (.agg [.agg [.id, .id, .id, .id, .sl 5], .sl 2]) krf krf krf
    ·refine sK (sN ⟨[2,8],[2,8],[],[]⟩ ⟨[(2, .ptr 2 0),(8, .ptr 8 0)],[(2, .box 24 [I 0,S [],I 0,I 0,zS]),(8, .box 24 (bxc (GNode.cs ⟨1,[],0,0,j2_1⟩)))]⟩ krf (sR tfm ⟨[2,3],[2],[],[]⟩ ⟨[(2, .ptr 2 0),(3,zS)],[(2, .box 24 (bxc (GNode.cs ⟨1,[],0,0,j2_1⟩)))]⟩ krf (sT ?_)))
     exact qR (.agg [.id, .sl 2]) krf krf krf
def g_p_tooDeep_l5 (l3:Int) (recl3:Int→Option Unit) (x4:List (List PV)) (recl5:Int→Option Unit) (l5:Int):Option Unit :=
 cond (ltI l5 (lenI (List.map idc x4)))
  ((Option.bind (getI x4 l5) GNode.of).bind fun x6 =>
  cond (eqI (lenI (List.map idc x6.Kids)) 0)
   (recl5 (wi (l5+1)))
   ((Option.bind (getI x6.Kids 0) GNode.of).bind fun x8 =>
   (cond (ltI 0 (lenI (List.map idc x6.Kids)))
    (some true)
    (some false)).bind fun j9 =>
   cond j9
    none
    (recl5 (wi (l5+1)))))
  (recl3 (wi (l3+1)))
def g_p_tooDeep_l3 (n:Nat) (l1_1:List (List (List PV))) (recl3:Int→Option Unit) (l3:Int):Option Unit :=
 cond (ltI l3 (lenI (List.map eN_ l1_1)))
  ((getI l1_1 l3).bind fun x4 =>
  loopN (fun recl5 l5=>g_p_tooDeep_l5 l3 recl3 x4 recl5 l5) n 0)
  (some ())
def g_p_tooDeep_l1 (n:Nat) (recl1:((List (List (List PV))) × Int)→Option Bool) (l1_1:List (List (List PV))) (l1_2:Int):Option Bool :=
 cond (leI l1_2 1000)
  ((loopN (fun recl3 l3=>g_p_tooDeep_l3 n l1_1 recl3 l3) n 0).bind fun _ =>
  cond (eqI (lenI (List.map eN_ [])) 0)
   (some false)
   (recl1 ([],wi (l1_2+1))))
  (some true)
def g_p_tooDeep (n:Nat) (a0n:GNode):Option Bool :=
 loopN (fun recl1 (l1_1,l1_2)=>g_p_tooDeep_l1 n recl1 l1_1 l1_2) n ([a0n.Kids],0)
theorem g_p_tooDeep_ok (n:Nat) (a0n:GNode):∀ r,g_p_tooDeep n a0n=some r→PCall Try.prog 35 [ag (GNode.cs a0n)] (.ret (B r)):=by
 refine pcall_sim (X:=fun r:Bool=>AEnd.ret (B r)) Try.func35 rfl Try.ntmps35 rfl ?_
 unfold g_p_tooDeep
 refine sR tfm ⟨[1],[1],[],[]⟩ ⟨[(1, .ptr 1 0)],[(1, .box 24 (bxc (GNode.cs a0n)))]⟩ krf (sR tfm ⟨[3],[14],[],[]⟩ ⟨[(3, .tsl 1 (List.map eN_ [a0n.Kids]) 14)],[(14, .arr 22 1 (List.map eN_ [a0n.Kids]).length)]⟩ krf (sS (sR tfm ⟨[3,4],[14],[],[]⟩ ⟨[(3, .tsl 1 (List.map eN_ [a0n.Kids]) 14),(4,I 0)],[(14, .arr 22 1 (List.map eN_ [a0n.Kids]).length)]⟩ krf (sB (sim_loop (fun (l1_1,l1_2)=>⟨[(3, .tsl 1 (List.map eN_ l1_1) 14),(4,I l1_2)],[(14, .arr 22 1 (List.map eN_ l1_1).length)]⟩:((List (List (List PV))) × Int)→St) (weak_shr (K:=⟨[3,4],[14],[],[]⟩) krf) ?_)))))
 rintro recl1 ⟨l1_1,l1_2⟩
 show SimE (g_p_tooDeep_l1 n recl1 l1_1 l1_2) _ _ _ _ _ _
 unfold g_p_tooDeep_l1
 refine sS (sR tfm ⟨[3,4,16],[14],[],[]⟩ ⟨[(3, .tsl 1 (List.map eN_ l1_1) 14),(4,I l1_2),(16,B (leI l1_2 1000))],[(14, .arr 22 1 (List.map eN_ l1_1).length)]⟩ krf (sC (leI l1_2 1000) krf ?_ ?_))
 ·refine sK (sN ⟨[3,4],[14],[],[]⟩ ⟨[(3, .tsl 1 (List.map eN_ l1_1) 14),(4,I l1_2)],[(14, .arr 22 1 (List.map eN_ l1_1).length)]⟩ krf (sS (sB (sS (sG (xs_u krf krf (aop_mk (d:=19) (rsv:=none) rfl rfl krf) (xR 1 krf ?_)))))))
  refine xE (sN ⟨[3,4,5],[14,19],[],[]⟩ ⟨[(3, .tsl 1 (List.map eN_ l1_1) 14),(4,I l1_2),(5, .mv 19)],[(14, .arr 22 1 (List.map eN_ l1_1).length),(19, .mp [])]⟩ krf (sR tfm ⟨[3,4,5,6],[14,19],[],[]⟩ ⟨[(3, .tsl 1 (List.map eN_ l1_1) 14),(4,I l1_2),(5, .mv 19),(6,zS)],[(14, .arr 22 1 (List.map eN_ l1_1).length),(19, .mp [])]⟩ krf (sim_bind (fun _=>⟨[(4,I l1_2),(6,zS)],[]⟩:Unit→St) ?_ ?_)))
  ·refine sR tfm ⟨[4,5,6,20,21,22],[14,19],[],[]⟩ ⟨[(4,I l1_2),(5, .mv 19),(6,zS),(20, .tsl 1 (List.map eN_ l1_1) 14),(21,I (lenI (List.map eN_ l1_1))),(22,I 0)],[(14, .arr 22 1 (List.map eN_ l1_1).length),(19, .mp [])]⟩ krf (sB (sim_loop (fun l3=>⟨[(4,I l1_2),(5, .mv 19),(6,zS),(20, .tsl 1 (List.map eN_ l1_1) 14),(21,I (lenI (List.map eN_ l1_1))),(22,I l3)],[(14, .arr 22 1 (List.map eN_ l1_1).length),(19, .mp [])]⟩:Int→St) (weak_shr (K:=⟨[4,5,6,20,21,22],[14,19],[],[]⟩) krf) ?_))
   rintro recl3 l3
   show SimE (g_p_tooDeep_l3 n l1_1 recl3 l3) _ _ _ _ _ _
   unfold g_p_tooDeep_l3
   refine sR tfm ⟨[4,5,6,20,21,22,23],[14,19],[],[]⟩ ⟨[(4,I l1_2),(5, .mv 19),(6,zS),(20, .tsl 1 (List.map eN_ l1_1) 14),(21,I (lenI (List.map eN_ l1_1))),(22,I l3),(23,B (ltI l3 (lenI (List.map eN_ l1_1))))],[(14, .arr 22 1 (List.map eN_ l1_1).length),(19, .mp [])]⟩ krf (sS (sC (ltI l3 (lenI (List.map eN_ l1_1))) krf ?_ ?_))
   ·refine sK (sN ⟨[4,5,6,20,21,22],[14,19],[],[]⟩ ⟨[(4,I l1_2),(5, .mv 19),(6,zS),(20, .tsl 1 (List.map eN_ l1_1) 14),(21,I (lenI (List.map eN_ l1_1))),(22,I l3)],[(14, .arr 22 1 (List.map eN_ l1_1).length),(19, .mp [])]⟩ krf (sS (sB (sS (sG ?_)))))
    refine xG krf krf (aop_idx (e:=22) (S:=1) (enc:=eN_) (l:=l1_1) (k:=.i64) (n:=l3) (sv:=.tsl 1 (List.map eN_ l1_1) 14) rfl krf krf krf krf krf) (fun x4=>?_)
    refine xR 2 krf (xE (sN ⟨[4,5,6,8,20,21,22],[14,19],[],[]⟩ ⟨[(4,I l1_2),(5, .mv 19),(6,zS),(8, .p (.sl 5 (mI x4))),(20, .tsl 1 (List.map eN_ l1_1) 14),(21,I (lenI (List.map eN_ l1_1))),(22,I l3)],[(14, .arr 22 1 (List.map eN_ l1_1).length),(19, .mp [])]⟩ krf (sR tfm ⟨[4,5,6,20,21,22,26,27,28],[14,19],[],[]⟩ ⟨[(4,I l1_2),(5, .mv 19),(6,zS),(20, .tsl 1 (List.map eN_ l1_1) 14),(21,I (lenI (List.map eN_ l1_1))),(22,I l3),(26, .p (.sl 5 (mI x4))),(27,I (lenI (mI x4))),(28,I 0)],[(14, .arr 22 1 (List.map eN_ l1_1).length),(19, .mp [])]⟩ krf (sB (sim_loop (fun l5=>⟨[(4,I l1_2),(5, .mv 19),(6,zS),(20, .tsl 1 (List.map eN_ l1_1) 14),(21,I (lenI (List.map eN_ l1_1))),(22,I l3),(26, .p (.sl 5 (mI x4))),(27,I (lenI (mI x4))),(28,I l5)],[(14, .arr 22 1 (List.map eN_ l1_1).length),(19, .mp [])]⟩:Int→St) (weak_shr (K:=⟨[4,5,6,20,21,22,26,27,28],[14,19],[],[]⟩) krf) ?_)))))
    rintro recl5 l5
    show SimE (g_p_tooDeep_l5 l3 recl3 x4 recl5 l5) _ _ _ _ _ _
    unfold g_p_tooDeep_l5
    refine sR tfm ⟨[4,5,6,20,21,22,26,27,28,29],[14,19],[],[]⟩ ⟨[(4,I l1_2),(5, .mv 19),(6,zS),(20, .tsl 1 (List.map eN_ l1_1) 14),(21,I (lenI (List.map eN_ l1_1))),(22,I l3),(26, .p (.sl 5 (mI x4))),(27,I (lenI (mI x4))),(28,I l5),(29,B (ltI l5 (lenI (mI x4))))],[(14, .arr 22 1 (List.map eN_ l1_1).length),(19, .mp [])]⟩ krf (sS (sC (ltI l5 (lenI (mI x4))) krf ?_ ?_))
    ·refine sK (sN ⟨[4,5,6,20,21,22,26,27,28],[14,19],[],[]⟩ ⟨[(4,I l1_2),(5, .mv 19),(6,zS),(20, .tsl 1 (List.map eN_ l1_1) 14),(21,I (lenI (List.map eN_ l1_1))),(22,I l3),(26, .p (.sl 5 (mI x4))),(27,I (lenI (mI x4))),(28,I l5)],[(14, .arr 22 1 (List.map eN_ l1_1).length),(19, .mp [])]⟩ krf (sS (sB (sS (sG ?_)))))
     refine xG krf krf (aop_idxR (e:=24) (S:=5) (enc:=GNode.cs) (dec:=GNode.of) (l:=x4) (k:=.i64) (n:=l5) (sv:=.p (.sl 5 (mI x4))) GNode.of_cs rfl krf krf krf krf krf) (fun x6=>?_)
     refine xR 3 krf (xE (sN ⟨[4,5,6,10,20,21,22,26,27,28],[10,14,19],[],[]⟩ ⟨[(4,I l1_2),(5, .mv 19),(6,zS),(10, .ptr 10 0),(20, .tsl 1 (List.map eN_ l1_1) 14),(21,I (lenI (List.map eN_ l1_1))),(22,I l3),(26, .p (.sl 5 (mI x4))),(27,I (lenI (mI x4))),(28,I l5)],[(10, .box 24 (bxc (GNode.cs x6))),(14, .arr 22 1 (List.map eN_ l1_1).length),(19, .mp [])]⟩ krf (sS (sG (xR 2 krf (xs_inline [] [.p (.sl 5 (mI x6.Kids))] [] [] [] krf Try.func37 rfl Try.ntmps37 rfl krf krf krf (sR tfm ⟨[0,2],[2],[],[]⟩ ⟨[(0, .p (.sl 5 (mI x6.Kids))),(2, .ptr 2 0)],[(2, .box 72 [.p (.val (.pointer none)),I 0])]⟩ krf ?_)))))))
     refine sS (sR tfm ⟨[0,2,5],[2],[],[]⟩ ⟨[(0, .p (.sl 5 (mI x6.Kids))),(2, .ptr 2 0),(5,B (eqI (lenI (mI x6.Kids)) 0))],[(2, .box 72 [.p (.val (.pointer none)),I 0])]⟩ krf (sC (eqI (lenI (mI x6.Kids)) 0) krf ?_ ?_))
     ·refine sR tfm ⟨[2],[2],[],[]⟩ ⟨[(2, .ptr 2 0)],[(2, .box 72 [.p (.val (.pointer none)),I 0])]⟩ krf (sT (sq_r (iq_ret (.id) [] [] (.agg [.p (.val (.pointer none)),I 0]) krf krf (kr0 (xR 2 krf (xE (sN ⟨[4,5,6,10,11,20,21,22,26,27,28],[10,11,14,19],[],[]⟩ ⟨[(4,I l1_2),(5, .mv 19),(6,zS),(10, .ptr 10 0),(11, .ptr 11 0),(20, .tsl 1 (List.map eN_ l1_1) 14),(21,I (lenI (List.map eN_ l1_1))),(22,I l3),(26, .p (.sl 5 (mI x4))),(27,I (lenI (mI x4))),(28,I l5)],[(10, .box 24 (bxc (GNode.cs x6))),(11, .box 72 [.p (.val (.pointer none)),I 0]),(14, .arr 22 1 (List.map eN_ l1_1).length),(19, .mp [])]⟩ krf ?_)))))))
      refine sR tfm ⟨[4,5,6,10,11,20,21,22,26,27,28,43],[10,11,14,19],[],[]⟩ ⟨[(4,I l1_2),(5, .mv 19),(6,zS),(10, .ptr 10 0),(11, .ptr 11 0),(20, .tsl 1 (List.map eN_ l1_1) 14),(21,I (lenI (List.map eN_ l1_1))),(22,I l3),(26, .p (.sl 5 (mI x4))),(27,I (lenI (mI x4))),(28,I l5),(43,B false)],[(10, .box 24 (bxc (GNode.cs x6))),(11, .box 72 [.p (.val (.pointer none)),I 0]),(14, .arr 22 1 (List.map eN_ l1_1).length),(19, .mp [])]⟩ krf (sim_condF krf (sK (bq_n (sN ⟨[4,5,6,20,21,22,26,27,28],[14,19],[],[]⟩ ⟨[(4,I l1_2),(5, .mv 19),(6,zS),(20, .tsl 1 (List.map eN_ l1_1) 14),(21,I (lenI (List.map eN_ l1_1))),(22,I l3),(26, .p (.sl 5 (mI x4))),(27,I (lenI (mI x4))),(28,I l5)],[(14, .arr 22 1 (List.map eN_ l1_1).length),(19, .mp [])]⟩ krf (sL tfm krf ?_)))))
      exact kq_n (wi (l5+1)) ⟨[4,5,6,20,21,22,26,27,28],[14,19],[],[]⟩ krf
     ·refine sK (sN ⟨[0,2],[2],[],[]⟩ ⟨[(0, .p (.sl 5 (mI x6.Kids))),(2, .ptr 2 0)],[(2, .box 72 [.p (.val (.pointer none)),I 0])]⟩ krf (sS (sG (xR 1 krf ?_))))
      refine xG krf krf (aop_idxR (e:=24) (S:=5) (enc:=GNode.cs) (dec:=GNode.of) (l:=x6.Kids) (k:=.i64) (n:=0) (sv:=.p (.sl 5 (mI x6.Kids))) GNode.of_cs rfl krf krf krf krf krf) (fun x8=>?_)
      refine xR 4 krf (xE (sN ⟨[2],[2],[],[]⟩ ⟨[(2, .ptr 2 0)],[(2, .box 72 [.eptr (GNode.cs x8),I (lenI (mI x6.Kids))])]⟩ krf (sT (iq_ret (.id) [] [] (.agg [.eptr (GNode.cs x8),I (lenI (mI x6.Kids))]) krf krf (kr0 (xR 2 krf (xE ?_)))))))
      refine sN ⟨[4,5,6,10,11,20,21,22,26,27,28],[10,11,14,19],[],[]⟩ ⟨[(4,I l1_2),(5, .mv 19),(6,zS),(10, .ptr 10 0),(11, .ptr 11 0),(20, .tsl 1 (List.map eN_ l1_1) 14),(21,I (lenI (List.map eN_ l1_1))),(22,I l3),(26, .p (.sl 5 (mI x4))),(27,I (lenI (mI x4))),(28,I l5)],[(10, .box 24 (bxc (GNode.cs x6))),(11, .box 72 [.eptr (GNode.cs x8),I (lenI (mI x6.Kids))]),(14, .arr 22 1 (List.map eN_ l1_1).length),(19, .mp [])]⟩ krf (sim_bind (fun j9=>⟨[(4,I l1_2),(5, .mv 19),(6,zS),(10, .ptr 10 0),(11, .ptr 11 0),(20, .tsl 1 (List.map eN_ l1_1) 14),(21,I (lenI (List.map eN_ l1_1))),(22,I l3),(26, .p (.sl 5 (mI x4))),(27,I (lenI (mI x4))),(28,I l5),(43,B j9)],[(10, .box 24 (bxc (GNode.cs x6))),(11, .box 72 [.eptr (GNode.cs x8),I (lenI (mI x6.Kids))]),(14, .arr 22 1 (List.map eN_ l1_1).length),(19, .mp [])]⟩:Bool→St) ?_ ?_)
      ·refine sG (xR 4 krf ?_)
       refine xS (ltI 0 (lenI (mI x6.Kids))) (fun h10=>?_) (fun h10=>?_)
       ·refine xO (want_tt krf h10) krf (xR 1 krf (xs_lookE (t:=93) (kt:=72) (e:=4) (b:=19) (cs:=[.eptr (GNode.cs x8),I (lenI (mI x6.Kids))]) krf rfl krf Try.underlying93 krf krf krf krf rfl (xR 2 krf (xE ?_))))
        exact nq_n true ⟨[4,5,6,10,11,20,21,22,26,27,28,43],[10,11,14,19],[],[]⟩ krf
       ·refine xN (want_tf krf h10) krf (xR 4 krf (xE ?_))
        exact nq_n false ⟨[4,5,6,10,11,20,21,22,26,27,28,43],[10,11,14,19],[],[]⟩ krf
      ·rintro j9
       refine sC j9 krf ?_ ?_
       ·refine sS (sG (xR 2 krf ?_))
        exact xs_none
       ·refine sK (bq_n (sN ⟨[4,5,6,20,21,22,26,27,28],[14,19],[],[]⟩ ⟨[(4,I l1_2),(5, .mv 19),(6,zS),(20, .tsl 1 (List.map eN_ l1_1) 14),(21,I (lenI (List.map eN_ l1_1))),(22,I l3),(26, .p (.sl 5 (mI x4))),(27,I (lenI (mI x4))),(28,I l5)],[(14, .arr 22 1 (List.map eN_ l1_1).length),(19, .mp [])]⟩ krf (sL tfm krf ?_)))
        exact kq_n (wi (l5+1)) ⟨[4,5,6,20,21,22,26,27,28],[14,19],[],[]⟩ krf
    ·refine sim_exit (sq_x (kq_x (bq_hit (bq_n (sN ⟨[4,5,6,20,21,22],[14,19],[],[]⟩ ⟨[(4,I l1_2),(5, .mv 19),(6,zS),(20, .tsl 1 (List.map eN_ l1_1) 14),(21,I (lenI (List.map eN_ l1_1))),(22,I l3)],[(14, .arr 22 1 (List.map eN_ l1_1).length),(19, .mp [])]⟩ krf (sL tfm krf ?_))))))
     exact kq_n (wi (l3+1)) ⟨[4,5,6,20,21,22],[14,19],[],[]⟩ krf
   ·refine sim_exit (sq_x (kq_x (bq_hit ?_)))
    exact nq_n () ⟨[4,6],[],[],[]⟩ krf
  ·rintro _
   refine sS (sR tfm ⟨[4,6,55],[],[],[]⟩ ⟨[(4,I l1_2),(6,zS),(55,B (eqI (lenI (List.map eN_ [])) 0))],[]⟩ krf (sC (eqI (lenI (List.map eN_ [])) 0) krf ?_ ?_))
   ·refine sR tfm ⟨[2],[],[],[]⟩ ⟨[(2,B false)],[]⟩ krf (sT (sq_r (bq_r (sq_r (kq_r (bq_r (sq_r ?_)))))))
    exact qR (.id) krf krf krf
   ·refine sK (sN ⟨[4,6],[],[],[]⟩ ⟨[(4,I l1_2),(6,zS)],[]⟩ krf (sL tfm krf (bq_n (sN ⟨[3,4],[],[],[]⟩ ⟨[(3,zS),(4,I l1_2)],[]⟩ krf (sL tfm krf ?_)))))
    exact kq_f  ([],wi (l1_2+1)) ⟨[3,4],[],[],[]⟩ ⟨[(3,zS),(4,I (wi (l1_2+1)))],[]⟩ krf (weak_pn 22 1 14 [3] [] krf) ⟨[3,4],[14],[],[]⟩ krf
 ·refine sim_exit (sq_x (kq_x (bq_hit (sN ⟨[],[],[],[]⟩ ⟨[],[]⟩ krf (sR tfm ⟨[2],[],[],[]⟩ ⟨[(2,B true)],[]⟩ krf (sT ?_))))))
  exact qR (.id) krf krf krf
def g_p_Strip_l5 (a0n:GNode) (recl5:((List (List PV)) × Int)→Option (List (List PV))) (l5_1:List (List PV)) (l5_2:Int):Option (List (List PV)) :=
 cond (ltI l5_2 (lenI (List.map idc a0n.Kids)))
  ((Option.bind (getI a0n.Kids l5_2) GNode.of).bind fun x6 =>
  cond (eqI (lenI (List.map idc x6.Kids)) 0)
   (cond (roomB (List.length (l5_1++[GNode.cs (⟨x6.Kind,x6.Name,x6.N,0,[]⟩:GNode)])) 64) (
    recl5 (l5_1++[GNode.cs (⟨x6.Kind,x6.Name,x6.N,0,[]⟩:GNode)],wi (l5_2+1))) none)
   ((Option.bind (getI x6.Kids 0) GNode.of).bind fun x8 =>
   cond (eqI (lenI (List.map idc x6.Kids)) 0)
    (cond (roomB (List.length (l5_1++[GNode.cs (⟨x6.Kind,x6.Name,x6.N,0,[]⟩:GNode)])) 64) (
     recl5 (l5_1++[GNode.cs (⟨x6.Kind,x6.Name,x6.N,0,[]⟩:GNode)],wi (l5_2+1))) none)
    none))
  (some l5_1)
def g_p_Strip (n:Nat) (a0n:GNode):Option GNode :=
 (g_p_tooDeep n a0n).bind fun r1 =>
 cond r1
  (some (⟨0,[],0,0,[]⟩:GNode))
  (cond (eqI (lenI (List.map idc a0n.Kids)) 0)
   (some (⟨a0n.Kind,a0n.Name,a0n.N,0,[]⟩:GNode))
   ((Option.bind (getI a0n.Kids 0) GNode.of).bind fun x3 =>
   cond (eqI (lenI (List.map idc a0n.Kids)) 0)
    (some (⟨a0n.Kind,a0n.Name,a0n.N,0,[]⟩:GNode))
    (cond (makeB 0 (lenI (List.map idc a0n.Kids)) 64) (
     (loopN (fun recl5 (l5_1,l5_2)=>g_p_Strip_l5 a0n recl5 l5_1 l5_2) n ([],0)).bind fun j4 =>
     some (⟨a0n.Kind,a0n.Name,a0n.N,0,j4⟩:GNode)) none)))
theorem g_p_Strip_ok (n:Nat) (a0n:GNode):∀ r,g_p_Strip n a0n=some r→PCall Try.prog 15 [ag (GNode.cs a0n)] (.ret (ag (GNode.cs r))):=by
 refine pcall_sim (X:=fun r:GNode=>AEnd.ret (ag (GNode.cs r))) Try.func15 rfl Try.ntmps15 rfl ?_
 unfold g_p_Strip
 refine sR tfm ⟨[1,2],[1,2],[],[]⟩ ⟨[(1, .ptr 1 0),(2, .ptr 2 0)],[(1, .box 24 (bxc (GNode.cs a0n))),(2, .box 24 [I 0,S [],I 0,I 0,zS])]⟩ krf (sS (sS (sG (xR 1 krf ?_))))
 refine xC [] krf (g_p_tooDeep_ok n a0n) krf krf (fun _=>by kernel_rfl) (fun r1=>?_)
 refine xE (sN ⟨[1,2,6],[1,2],[],[]⟩ ⟨[(1, .ptr 1 0),(2, .ptr 2 0),(6,B r1)],[(1, .box 24 (bxc (GNode.cs a0n))),(2, .box 24 [I 0,S [],I 0,I 0,zS])]⟩ krf (sC r1 krf ?_ ?_))
 ·refine sR tfm ⟨[2],[2],[],[]⟩ ⟨[(2, .ptr 2 0)],[(2, .box 24 [I 0,S [],I 0,I 0,zS])]⟩ krf (sT (sq_r ?_))
  exact qR (.agg [.id, .id, .id, .id, .sl 5]) krf krf krf
 ·refine sK (sN ⟨[1,2],[1,2],[],[]⟩ ⟨[(1, .ptr 1 0),(2, .ptr 2 0)],[(1, .box 24 (bxc (GNode.cs a0n))),(2, .box 24 [I 0,S [],I 0,I 0,zS])]⟩ krf (sS (sG (xs_u krf krf (aop_mk (d:=8) (rsv:=none) rfl rfl krf) (xR 2 krf (xE (sN ⟨[1,2,3],[1,2,3,8],[],[]⟩ ⟨[(1, .ptr 1 0),(2, .ptr 2 0),(3, .ptr 3 0)],[(1, .box 24 (bxc (GNode.cs a0n))),(2, .box 24 [I 0,S [],I 0,I 0,zS]),(3, .box 69 [.mv 8]),(8, .mp [])]⟩ krf ?_)))))))
  refine sR tfm ⟨[1,2,3,4],[1,2,3,4,8],[],[]⟩ ⟨[(1, .ptr 1 0),(2, .ptr 2 0),(3, .ptr 3 0),(4, .ptr 4 0)],[(1, .box 24 (bxc (GNode.cs a0n))),(2, .box 24 [I 0,S [],I 0,I 0,zS]),(3, .box 69 [.mv 8]),(4, .box 33 [.p (.val (.nilFunc))]),(8, .mp [])]⟩ krf (sR tfm ⟨[1,2,4],[1,2,3,4,8],[],[]⟩ ⟨[(1, .ptr 1 0),(2, .ptr 2 0),(4, .ptr 4 0)],[(1, .box 24 (bxc (GNode.cs a0n))),(2, .box 24 [I 0,S [],I 0,I 0,zS]),(3, .box 69 [.mv 8]),(4, .box 33 [.fn (.func 36) [] [.ptr 3 0, .ptr 4 0]]),(8, .mp [])]⟩ krf (sS (sG (xR 2 krf (xs_inline [(1000, .box 69 [.mv 1002]),(1001, .box 33 [.fn (.func 36) [] [.ptr 1000 0, .ptr 1001 0]]),(1002, .mp [])] [.agg [I a0n.Kind,S a0n.Name,I a0n.N,I a0n.At, .p (.sl 5 (mI a0n.Kids))], .ptr 1000 0, .ptr 1001 0] [(1000,3),(1001,4),(1002,8)] [] [] krf Try.func36 rfl Try.ntmps36 rfl krf krf krf (sR tfm ⟨[1,2,3,4],[3,4,1000,1001,1002],[],[]⟩ ⟨[(1, .ptr 1000 0),(2, .ptr 1001 0),(3, .ptr 3 0),(4, .ptr 4 0)],[(3, .box 24 (bxc (GNode.cs a0n))),(4, .box 24 [I 0,S [],I 0,I 0,zS]),(1000, .box 69 [.mv 1002]),(1001, .box 33 [.fn (.func 36) [] [.ptr 1000 0, .ptr 1001 0]]),(1002, .mp [])]⟩ krf (sR tfm ⟨[1,2,3,4],[3,4,1000,1001,1002],[],[]⟩ ⟨[(1, .ptr 1000 0),(2, .ptr 1001 0),(3, .ptr 3 0),(4, .ptr 4 0)],[(3, .box 24 (bxc (GNode.cs ⟨a0n.Kind,a0n.Name,a0n.N,0,a0n.Kids⟩))),(4, .box 24 [I 0,S [],I 0,I 0,zS]),(1000, .box 69 [.mv 1002]),(1001, .box 33 [.fn (.func 36) [] [.ptr 1000 0, .ptr 1001 0]]),(1002, .mp [])]⟩ krf ?_)))))))
  refine sS (sG (xR 2 krf (xs_inline [] [.p (.sl 5 (mI a0n.Kids))] [] [] [] krf Try.func37 rfl Try.ntmps37 rfl krf krf krf (sR tfm ⟨[0,2],[2],[],[]⟩ ⟨[(0, .p (.sl 5 (mI a0n.Kids))),(2, .ptr 2 0)],[(2, .box 72 [.p (.val (.pointer none)),I 0])]⟩ krf (sS (sR tfm ⟨[0,2,5],[2],[],[]⟩ ⟨[(0, .p (.sl 5 (mI a0n.Kids))),(2, .ptr 2 0),(5,B (eqI (lenI (mI a0n.Kids)) 0))],[(2, .box 72 [.p (.val (.pointer none)),I 0])]⟩ krf (sC (eqI (lenI (mI a0n.Kids)) 0) krf ?_ ?_)))))))
  ·refine sR tfm ⟨[2],[2],[],[]⟩ ⟨[(2, .ptr 2 0)],[(2, .box 72 [.p (.val (.pointer none)),I 0])]⟩ krf (sT (sq_r (iq_ret (.id) [] [] (.agg [.p (.val (.pointer none)),I 0]) krf krf (kr0 (xR 2 krf (xE (sN ⟨[1,2,3,4,5],[3,4,5,1000,1001,1002],[],[]⟩ ⟨[(1, .ptr 1000 0),(2, .ptr 1001 0),(3, .ptr 3 0),(4, .ptr 4 0),(5, .ptr 5 0)],[(3, .box 24 (bxc (GNode.cs ⟨a0n.Kind,a0n.Name,a0n.N,0,a0n.Kids⟩))),(4, .box 24 [I 0,S [],I 0,I 0,zS]),(5, .box 72 [.p (.val (.pointer none)),I 0]),(1000, .box 69 [.mv 1002]),(1001, .box 33 [.fn (.func 36) [] [.ptr 1000 0, .ptr 1001 0]]),(1002, .mp [])]⟩ krf ?_)))))))
   refine sS (sR tfm ⟨[1,2,3,4,5,16],[3,4,5,1000,1001,1002],[],[]⟩ ⟨[(1, .ptr 1000 0),(2, .ptr 1001 0),(3, .ptr 3 0),(4, .ptr 4 0),(5, .ptr 5 0),(16,B true)],[(3, .box 24 (bxc (GNode.cs ⟨a0n.Kind,a0n.Name,a0n.N,0,a0n.Kids⟩))),(4, .box 24 [I 0,S [],I 0,I 0,zS]),(5, .box 72 [.p (.val (.pointer none)),I 0]),(1000, .box 69 [.mv 1002]),(1001, .box 33 [.fn (.func 36) [] [.ptr 1000 0, .ptr 1001 0]]),(1002, .mp [])]⟩ krf (sim_condT krf (sR tfm ⟨[3,4],[3,4,1000,1001,1002],[],[]⟩ ⟨[(3, .ptr 3 0),(4, .ptr 4 0)],[(3, .box 24 [I a0n.Kind,S a0n.Name,I a0n.N,I 0,zS]),(4, .box 24 [I 0,S [],I 0,I 0,zS]),(1000, .box 69 [.mv 1002]),(1001, .box 33 [.fn (.func 36) [] [.ptr 1000 0, .ptr 1001 0]]),(1002, .mp [])]⟩ krf (sR tfm ⟨[4],[4,1000,1001,1002],[],[]⟩ ⟨[(4, .ptr 4 0)],[(4, .box 24 [I a0n.Kind,S a0n.Name,I a0n.N,I 0,zS]),(1000, .box 69 [.mv 1002]),(1001, .box 33 [.fn (.func 36) [] [.ptr 1000 0, .ptr 1001 0]]),(1002, .mp [])]⟩ krf (sT (sq_r (iq_ret (.agg [.id, .id, .id, .id, .sl 5]) [1000,1001,1002] [] (.agg [I a0n.Kind,S a0n.Name,I a0n.N,I 0, .p (.sl 5 (mI []))]) krf krf ?_)))))))
   refine kr0 (xR 1 krf (xE (sN ⟨[2],[2],[],[]⟩ ⟨[(2, .ptr 2 0)],[(2, .box 24 (bxc (GNode.cs ⟨a0n.Kind,a0n.Name,a0n.N,0,[]⟩)))]⟩ krf (sT ?_))))
   exact qR (.id) krf krf krf
  ·refine sK (sN ⟨[0,2],[2],[],[]⟩ ⟨[(0, .p (.sl 5 (mI a0n.Kids))),(2, .ptr 2 0)],[(2, .box 72 [.p (.val (.pointer none)),I 0])]⟩ krf (sS (sG (xR 1 krf ?_))))
   refine xG krf krf (aop_idxR (e:=24) (S:=5) (enc:=GNode.cs) (dec:=GNode.of) (l:=a0n.Kids) (k:=.i64) (n:=0) (sv:=.p (.sl 5 (mI a0n.Kids))) GNode.of_cs rfl krf krf krf krf krf) (fun x3=>?_)
   refine xR 4 krf (xE (sN ⟨[2],[2],[],[]⟩ ⟨[(2, .ptr 2 0)],[(2, .box 72 [.eptr (GNode.cs x3),I (lenI (mI a0n.Kids))])]⟩ krf (sT (iq_ret (.id) [] [] (.agg [.eptr (GNode.cs x3),I (lenI (mI a0n.Kids))]) krf krf (kr0 (xR 2 krf (xE ?_)))))))
   refine sN ⟨[1,2,3,4,5],[3,4,5,1000,1001,1002],[],[]⟩ ⟨[(1, .ptr 1000 0),(2, .ptr 1001 0),(3, .ptr 3 0),(4, .ptr 4 0),(5, .ptr 5 0)],[(3, .box 24 (bxc (GNode.cs ⟨a0n.Kind,a0n.Name,a0n.N,0,a0n.Kids⟩))),(4, .box 24 [I 0,S [],I 0,I 0,zS]),(5, .box 72 [.eptr (GNode.cs x3),I (lenI (mI a0n.Kids))]),(1000, .box 69 [.mv 1002]),(1001, .box 33 [.fn (.func 36) [] [.ptr 1000 0, .ptr 1001 0]]),(1002, .mp [])]⟩ krf (sS (sR tfm ⟨[1,2,3,4,5,16],[3,4,5,1000,1001,1002],[],[]⟩ ⟨[(1, .ptr 1000 0),(2, .ptr 1001 0),(3, .ptr 3 0),(4, .ptr 4 0),(5, .ptr 5 0),(16,B (eqI (lenI (mI a0n.Kids)) 0))],[(3, .box 24 (bxc (GNode.cs ⟨a0n.Kind,a0n.Name,a0n.N,0,a0n.Kids⟩))),(4, .box 24 [I 0,S [],I 0,I 0,zS]),(5, .box 72 [.eptr (GNode.cs x3),I (lenI (mI a0n.Kids))]),(1000, .box 69 [.mv 1002]),(1001, .box 33 [.fn (.func 36) [] [.ptr 1000 0, .ptr 1001 0]]),(1002, .mp [])]⟩ krf (sC (eqI (lenI (mI a0n.Kids)) 0) krf ?_ ?_)))
   ·refine sR tfm ⟨[3,4],[3,4,1000,1001,1002],[],[]⟩ ⟨[(3, .ptr 3 0),(4, .ptr 4 0)],[(3, .box 24 [I a0n.Kind,S a0n.Name,I a0n.N,I 0,zS]),(4, .box 24 [I 0,S [],I 0,I 0,zS]),(1000, .box 69 [.mv 1002]),(1001, .box 33 [.fn (.func 36) [] [.ptr 1000 0, .ptr 1001 0]]),(1002, .mp [])]⟩ krf (sR tfm ⟨[4],[4,1000,1001,1002],[],[]⟩ ⟨[(4, .ptr 4 0)],[(4, .box 24 [I a0n.Kind,S a0n.Name,I a0n.N,I 0,zS]),(1000, .box 69 [.mv 1002]),(1001, .box 33 [.fn (.func 36) [] [.ptr 1000 0, .ptr 1001 0]]),(1002, .mp [])]⟩ krf (sT (sq_r (iq_ret (.agg [.id, .id, .id, .id, .sl 5]) [1000,1001,1002] [] (.agg [I a0n.Kind,S a0n.Name,I a0n.N,I 0, .p (.sl 5 (mI []))]) krf krf (kr0 (xR 1 krf (xE ?_)))))))
    refine sN ⟨[2],[2],[],[]⟩ ⟨[(2, .ptr 2 0)],[(2, .box 24 (bxc (GNode.cs ⟨a0n.Kind,a0n.Name,a0n.N,0,[]⟩)))]⟩ krf (sT ?_)
    exact qR (.id) krf krf krf
   ·refine sK (sN ⟨[1,2,3,4,5],[3,4,5,1000,1001,1002],[],[]⟩ ⟨[(1, .ptr 1000 0),(2, .ptr 1001 0),(3, .ptr 3 0),(4, .ptr 4 0),(5, .ptr 5 0)],[(3, .box 24 (bxc (GNode.cs ⟨a0n.Kind,a0n.Name,a0n.N,0,a0n.Kids⟩))),(4, .box 24 [I 0,S [],I 0,I 0,zS]),(5, .box 72 [.eptr (GNode.cs x3),I (lenI (mI a0n.Kids))]),(1000, .box 69 [.mv 1002]),(1001, .box 33 [.fn (.func 36) [] [.ptr 1000 0, .ptr 1001 0]]),(1002, .mp [])]⟩ krf (sS (sG (xR 2 krf (xs_lookE (t:=69) (kt:=72) (e:=22) (b:=1002) (cs:=[.eptr (GNode.cs x3),I (lenI (mI a0n.Kids))]) krf rfl krf Try.underlying69 krf krf krf krf rfl (xR 5 krf (xE ?_)))))))
    refine sN ⟨[1,2,3,4,5,6,7],[3,4,5,1000,1001,1002],[],[]⟩ ⟨[(1, .ptr 1000 0),(2, .ptr 1001 0),(3, .ptr 3 0),(4, .ptr 4 0),(5, .ptr 5 0),(6,zS),(7,B false)],[(3, .box 24 (bxc (GNode.cs ⟨a0n.Kind,a0n.Name,a0n.N,0,a0n.Kids⟩))),(4, .box 24 [I 0,S [],I 0,I 0,zS]),(5, .box 72 [.eptr (GNode.cs x3),I (lenI (mI a0n.Kids))]),(1000, .box 69 [.mv 1002]),(1001, .box 33 [.fn (.func 36) [] [.ptr 1000 0, .ptr 1001 0]]),(1002, .mp [])]⟩ krf (sS (sR tfm ⟨[1,2,3,4,5,6,26],[3,4,5,1000,1001,1002],[],[]⟩ ⟨[(1, .ptr 1000 0),(2, .ptr 1001 0),(3, .ptr 3 0),(4, .ptr 4 0),(5, .ptr 5 0),(6,zS),(26,B true)],[(3, .box 24 (bxc (GNode.cs ⟨a0n.Kind,a0n.Name,a0n.N,0,a0n.Kids⟩))),(4, .box 24 [I 0,S [],I 0,I 0,zS]),(5, .box 72 [.eptr (GNode.cs x3),I (lenI (mI a0n.Kids))]),(1000, .box 69 [.mv 1002]),(1001, .box 33 [.fn (.func 36) [] [.ptr 1000 0, .ptr 1001 0]]),(1002, .mp [])]⟩ krf (sim_condT krf (sS (sG (xR 3 krf (xF krf krf (aop_make (e:=24) (S:=5) (by_:=64) (d:=30) (enc:=idc) (z0:=[VI 0,VS [],VI 0,VI 0, .val (.slice none 0 0)]) (k:=.i64) (k':=.i64) (l:=0) (c:=lenI (mI a0n.Kids)) rfl rfl krf krf rfl krf krf krf krf) ?_)))))))
    refine xR 1 krf (xE (sN ⟨[1,2,3,4,5,6],[3,4,5,30,1000,1001,1002],[],[]⟩ ⟨[(1, .ptr 1000 0),(2, .ptr 1001 0),(3, .ptr 3 0),(4, .ptr 4 0),(5, .ptr 5 0),(6, .vsl 5 30 (mI []).length)],[(3, .box 24 (bxc (GNode.cs ⟨a0n.Kind,a0n.Name,a0n.N,0,a0n.Kids⟩))),(4, .box 24 [I 0,S [],I 0,I 0,zS]),(5, .box 72 [.eptr (GNode.cs x3),I (lenI (mI a0n.Kids))]),(30, .vec 24 5 (mI [])),(1000, .box 69 [.mv 1002]),(1001, .box 33 [.fn (.func 36) [] [.ptr 1000 0, .ptr 1001 0]]),(1002, .mp [])]⟩ krf (sim_bind (fun j4=>⟨[(1, .ptr 1000 0),(3, .ptr 3 0),(4, .ptr 4 0),(5, .ptr 5 0),(6, .p (.sl 5 (mI j4)))],[(3, .box 24 (bxc (GNode.cs ⟨a0n.Kind,a0n.Name,a0n.N,0,a0n.Kids⟩))),(4, .box 24 [I 0,S [],I 0,I 0,zS]),(5, .box 72 [.eptr (GNode.cs x3),I (lenI (mI a0n.Kids))]),(1000, .box 69 [.mv 1002]),(1001, .box 33 [.fn (.func 36) [] [.ptr 1000 0, .ptr 1001 0]]),(1002, .mp [])]⟩:(List (List PV))→St) ?_ ?_)))
    ·refine sR tfm ⟨[1,2,3,4,5,6,32,33,34],[3,4,5,30,1000,1001,1002],[],[]⟩ ⟨[(1, .ptr 1000 0),(2, .ptr 1001 0),(3, .ptr 3 0),(4, .ptr 4 0),(5, .ptr 5 0),(6, .vsl 5 30 (mI []).length),(32, .p (.sl 5 (mI a0n.Kids))),(33,I (lenI (mI a0n.Kids))),(34,I 0)],[(3, .box 24 (bxc (GNode.cs ⟨a0n.Kind,a0n.Name,a0n.N,0,a0n.Kids⟩))),(4, .box 24 [I 0,S [],I 0,I 0,zS]),(5, .box 72 [.eptr (GNode.cs x3),I (lenI (mI a0n.Kids))]),(30, .vec 24 5 (mI [])),(1000, .box 69 [.mv 1002]),(1001, .box 33 [.fn (.func 36) [] [.ptr 1000 0, .ptr 1001 0]]),(1002, .mp [])]⟩ krf (sB (sim_loop (fun (l5_1,l5_2)=>⟨[(1, .ptr 1000 0),(2, .ptr 1001 0),(3, .ptr 3 0),(4, .ptr 4 0),(5, .ptr 5 0),(6, .vsl 5 30 (mI l5_1).length),(32, .p (.sl 5 (mI a0n.Kids))),(33,I (lenI (mI a0n.Kids))),(34,I l5_2)],[(3, .box 24 (bxc (GNode.cs ⟨a0n.Kind,a0n.Name,a0n.N,0,a0n.Kids⟩))),(4, .box 24 [I 0,S [],I 0,I 0,zS]),(5, .box 72 [.eptr (GNode.cs x3),I (lenI (mI a0n.Kids))]),(30, .vec 24 5 (mI l5_1)),(1000, .box 69 [.mv 1002]),(1001, .box 33 [.fn (.func 36) [] [.ptr 1000 0, .ptr 1001 0]]),(1002, .mp [])]⟩:((List (List PV)) × Int)→St) (weak_shr (K:=⟨[1,2,3,4,5,6,32,33,34],[3,4,5,30,1000,1001,1002],[],[]⟩) krf) ?_))
     rintro recl5 ⟨l5_1,l5_2⟩
     show SimE (g_p_Strip_l5 a0n recl5 l5_1 l5_2) _ _ _ _ _ _
     unfold g_p_Strip_l5
     refine sR tfm ⟨[1,2,3,4,5,6,32,33,34,35],[3,4,5,30,1000,1001,1002],[],[]⟩ ⟨[(1, .ptr 1000 0),(2, .ptr 1001 0),(3, .ptr 3 0),(4, .ptr 4 0),(5, .ptr 5 0),(6, .vsl 5 30 (mI l5_1).length),(32, .p (.sl 5 (mI a0n.Kids))),(33,I (lenI (mI a0n.Kids))),(34,I l5_2),(35,B (ltI l5_2 (lenI (mI a0n.Kids))))],[(3, .box 24 (bxc (GNode.cs ⟨a0n.Kind,a0n.Name,a0n.N,0,a0n.Kids⟩))),(4, .box 24 [I 0,S [],I 0,I 0,zS]),(5, .box 72 [.eptr (GNode.cs x3),I (lenI (mI a0n.Kids))]),(30, .vec 24 5 (mI l5_1)),(1000, .box 69 [.mv 1002]),(1001, .box 33 [.fn (.func 36) [] [.ptr 1000 0, .ptr 1001 0]]),(1002, .mp [])]⟩ krf (sS (sC (ltI l5_2 (lenI (mI a0n.Kids))) krf ?_ ?_))
     ·refine sK (sN ⟨[1,2,3,4,5,6,32,33,34],[3,4,5,30,1000,1001,1002],[],[]⟩ ⟨[(1, .ptr 1000 0),(2, .ptr 1001 0),(3, .ptr 3 0),(4, .ptr 4 0),(5, .ptr 5 0),(6, .vsl 5 30 (mI l5_1).length),(32, .p (.sl 5 (mI a0n.Kids))),(33,I (lenI (mI a0n.Kids))),(34,I l5_2)],[(3, .box 24 (bxc (GNode.cs ⟨a0n.Kind,a0n.Name,a0n.N,0,a0n.Kids⟩))),(4, .box 24 [I 0,S [],I 0,I 0,zS]),(5, .box 72 [.eptr (GNode.cs x3),I (lenI (mI a0n.Kids))]),(30, .vec 24 5 (mI l5_1)),(1000, .box 69 [.mv 1002]),(1001, .box 33 [.fn (.func 36) [] [.ptr 1000 0, .ptr 1001 0]]),(1002, .mp [])]⟩ krf (sS (sB (sS (sG ?_)))))
      refine xG krf krf (aop_idxR (e:=24) (S:=5) (enc:=GNode.cs) (dec:=GNode.of) (l:=a0n.Kids) (k:=.i64) (n:=l5_2) (sv:=.p (.sl 5 (mI a0n.Kids))) GNode.of_cs rfl krf krf krf krf krf) (fun x6=>?_)
      refine xR 3 krf (xE (sN ⟨[1,2,3,4,5,6,9,32,33,34],[3,4,5,9,30,1000,1001,1002],[],[]⟩ ⟨[(1, .ptr 1000 0),(2, .ptr 1001 0),(3, .ptr 3 0),(4, .ptr 4 0),(5, .ptr 5 0),(6, .vsl 5 30 (mI l5_1).length),(9, .ptr 9 0),(32, .p (.sl 5 (mI a0n.Kids))),(33,I (lenI (mI a0n.Kids))),(34,I l5_2)],[(3, .box 24 (bxc (GNode.cs ⟨a0n.Kind,a0n.Name,a0n.N,0,a0n.Kids⟩))),(4, .box 24 [I 0,S [],I 0,I 0,zS]),(5, .box 72 [.eptr (GNode.cs x3),I (lenI (mI a0n.Kids))]),(9, .box 24 (bxc (GNode.cs x6))),(30, .vec 24 5 (mI l5_1)),(1000, .box 69 [.mv 1002]),(1001, .box 33 [.fn (.func 36) [] [.ptr 1000 0, .ptr 1001 0]]),(1002, .mp [])]⟩ krf (sG (xR 3 krf (xs_inline [(1000, .box 69 [.mv 1002]),(1001, .box 33 [.fn (.func 36) [] [.ptr 1000 0, .ptr 1001 0]]),(1002, .mp [])] [.agg [I x6.Kind,S x6.Name,I x6.N,I x6.At, .p (.sl 5 (mI x6.Kids))], .ptr 1000 0, .ptr 1001 0] [(1000,1000),(1001,1001),(1002,1002)] [] [] krf Try.func36 rfl Try.ntmps36 rfl krf krf krf (sR tfm ⟨[1,2,3,4],[3,4,1000,1001,1002],[],[]⟩ ⟨[(1, .ptr 1000 0),(2, .ptr 1001 0),(3, .ptr 3 0),(4, .ptr 4 0)],[(3, .box 24 (bxc (GNode.cs x6))),(4, .box 24 [I 0,S [],I 0,I 0,zS]),(1000, .box 69 [.mv 1002]),(1001, .box 33 [.fn (.func 36) [] [.ptr 1000 0, .ptr 1001 0]]),(1002, .mp [])]⟩ krf (sR tfm ⟨[1,2,3,4],[3,4,1000,1001,1002],[],[]⟩ ⟨[(1, .ptr 1000 0),(2, .ptr 1001 0),(3, .ptr 3 0),(4, .ptr 4 0)],[(3, .box 24 (bxc (GNode.cs ⟨x6.Kind,x6.Name,x6.N,0,x6.Kids⟩))),(4, .box 24 [I 0,S [],I 0,I 0,zS]),(1000, .box 69 [.mv 1002]),(1001, .box 33 [.fn (.func 36) [] [.ptr 1000 0, .ptr 1001 0]]),(1002, .mp [])]⟩ krf ?_)))))))
      refine sS (sG (xR 2 krf (xs_inline [] [.p (.sl 5 (mI x6.Kids))] [] [] [] krf Try.func37 rfl Try.ntmps37 rfl krf krf krf (sR tfm ⟨[0,2],[2],[],[]⟩ ⟨[(0, .p (.sl 5 (mI x6.Kids))),(2, .ptr 2 0)],[(2, .box 72 [.p (.val (.pointer none)),I 0])]⟩ krf (sS (sR tfm ⟨[0,2,5],[2],[],[]⟩ ⟨[(0, .p (.sl 5 (mI x6.Kids))),(2, .ptr 2 0),(5,B (eqI (lenI (mI x6.Kids)) 0))],[(2, .box 72 [.p (.val (.pointer none)),I 0])]⟩ krf (sC (eqI (lenI (mI x6.Kids)) 0) krf ?_ ?_)))))))
      ·refine sR tfm ⟨[2],[2],[],[]⟩ ⟨[(2, .ptr 2 0)],[(2, .box 72 [.p (.val (.pointer none)),I 0])]⟩ krf (sT (sq_r (iq_ret (.id) [] [] (.agg [.p (.val (.pointer none)),I 0]) krf krf (kr0 (xR 2 krf (xE (sN ⟨[1,2,3,4,5],[3,4,5,1000,1001,1002],[],[]⟩ ⟨[(1, .ptr 1000 0),(2, .ptr 1001 0),(3, .ptr 3 0),(4, .ptr 4 0),(5, .ptr 5 0)],[(3, .box 24 (bxc (GNode.cs ⟨x6.Kind,x6.Name,x6.N,0,x6.Kids⟩))),(4, .box 24 [I 0,S [],I 0,I 0,zS]),(5, .box 72 [.p (.val (.pointer none)),I 0]),(1000, .box 69 [.mv 1002]),(1001, .box 33 [.fn (.func 36) [] [.ptr 1000 0, .ptr 1001 0]]),(1002, .mp [])]⟩ krf ?_)))))))
       refine sS (sR tfm ⟨[1,2,3,4,5,16],[3,4,5,1000,1001,1002],[],[]⟩ ⟨[(1, .ptr 1000 0),(2, .ptr 1001 0),(3, .ptr 3 0),(4, .ptr 4 0),(5, .ptr 5 0),(16,B true)],[(3, .box 24 (bxc (GNode.cs ⟨x6.Kind,x6.Name,x6.N,0,x6.Kids⟩))),(4, .box 24 [I 0,S [],I 0,I 0,zS]),(5, .box 72 [.p (.val (.pointer none)),I 0]),(1000, .box 69 [.mv 1002]),(1001, .box 33 [.fn (.func 36) [] [.ptr 1000 0, .ptr 1001 0]]),(1002, .mp [])]⟩ krf (sim_condT krf (sR tfm ⟨[3,4],[3,4,1000,1001,1002],[],[]⟩ ⟨[(3, .ptr 3 0),(4, .ptr 4 0)],[(3, .box 24 [I x6.Kind,S x6.Name,I x6.N,I 0,zS]),(4, .box 24 [I 0,S [],I 0,I 0,zS]),(1000, .box 69 [.mv 1002]),(1001, .box 33 [.fn (.func 36) [] [.ptr 1000 0, .ptr 1001 0]]),(1002, .mp [])]⟩ krf (sR tfm ⟨[4],[4,1000,1001,1002],[],[]⟩ ⟨[(4, .ptr 4 0)],[(4, .box 24 [I x6.Kind,S x6.Name,I x6.N,I 0,zS]),(1000, .box 69 [.mv 1002]),(1001, .box 33 [.fn (.func 36) [] [.ptr 1000 0, .ptr 1001 0]]),(1002, .mp [])]⟩ krf (sT (sq_r (iq_ret (.agg [.id, .id, .id, .id, .sl 5]) [1000,1001,1002] [] (.agg [I x6.Kind,S x6.Name,I x6.N,I 0, .p (.sl 5 (mI []))]) krf krf ?_)))))))
       refine kr0 (xR 1 krf ?_)
       refine xF krf krf (aop_vapp (e:=24) (S:=5) (by_:=64) (enc:=idc) (tk:=30) (l:=l5_1) (l2:=[GNode.cs (⟨x6.Kind,x6.Name,x6.N,0,[]⟩:GNode)]) (xv:=.tsl 5 (mI [GNode.cs (⟨x6.Kind,x6.Name,x6.N,0,[]⟩:GNode)]) 42) (n:=(mI l5_1).length) rfl krf krf rfl krf krf krf krf (by simp)) ?_
       refine xR 1 krf (xE (bq_n (sN ⟨[1,2,3,4,5,6,32,33,34],[3,4,5,30,1000,1001,1002],[],[]⟩ ⟨[(1, .ptr 1000 0),(2, .ptr 1001 0),(3, .ptr 3 0),(4, .ptr 4 0),(5, .ptr 5 0),(6, .vsl 5 30 (mI (l5_1++[GNode.cs (⟨x6.Kind,x6.Name,x6.N,0,[]⟩:GNode)])).length),(32, .p (.sl 5 (mI a0n.Kids))),(33,I (lenI (mI a0n.Kids))),(34,I l5_2)],[(3, .box 24 (bxc (GNode.cs ⟨a0n.Kind,a0n.Name,a0n.N,0,a0n.Kids⟩))),(4, .box 24 [I 0,S [],I 0,I 0,zS]),(5, .box 72 [.eptr (GNode.cs x3),I (lenI (mI a0n.Kids))]),(30, .vec 24 5 (mI (l5_1++[GNode.cs (⟨x6.Kind,x6.Name,x6.N,0,[]⟩:GNode)]))),(1000, .box 69 [.mv 1002]),(1001, .box 33 [.fn (.func 36) [] [.ptr 1000 0, .ptr 1001 0]]),(1002, .mp [])]⟩ krf (sL tfm krf ?_))))
       exact kq_n (l5_1++[GNode.cs (⟨x6.Kind,x6.Name,x6.N,0,[]⟩:GNode)],wi (l5_2+1)) ⟨[1,2,3,4,5,6,32,33,34],[3,4,5,30,1000,1001,1002],[],[]⟩ krf
      ·refine sK (sN ⟨[0,2],[2],[],[]⟩ ⟨[(0, .p (.sl 5 (mI x6.Kids))),(2, .ptr 2 0)],[(2, .box 72 [.p (.val (.pointer none)),I 0])]⟩ krf (sS (sG (xR 1 krf ?_))))
       refine xG krf krf (aop_idxR (e:=24) (S:=5) (enc:=GNode.cs) (dec:=GNode.of) (l:=x6.Kids) (k:=.i64) (n:=0) (sv:=.p (.sl 5 (mI x6.Kids))) GNode.of_cs rfl krf krf krf krf krf) (fun x8=>?_)
       refine xR 4 krf (xE (sN ⟨[2],[2],[],[]⟩ ⟨[(2, .ptr 2 0)],[(2, .box 72 [.eptr (GNode.cs x8),I (lenI (mI x6.Kids))])]⟩ krf (sT (iq_ret (.id) [] [] (.agg [.eptr (GNode.cs x8),I (lenI (mI x6.Kids))]) krf krf (kr0 (xR 2 krf (xE ?_)))))))
       refine sN ⟨[1,2,3,4,5],[3,4,5,1000,1001,1002],[],[]⟩ ⟨[(1, .ptr 1000 0),(2, .ptr 1001 0),(3, .ptr 3 0),(4, .ptr 4 0),(5, .ptr 5 0)],[(3, .box 24 (bxc (GNode.cs ⟨x6.Kind,x6.Name,x6.N,0,x6.Kids⟩))),(4, .box 24 [I 0,S [],I 0,I 0,zS]),(5, .box 72 [.eptr (GNode.cs x8),I (lenI (mI x6.Kids))]),(1000, .box 69 [.mv 1002]),(1001, .box 33 [.fn (.func 36) [] [.ptr 1000 0, .ptr 1001 0]]),(1002, .mp [])]⟩ krf (sS (sR tfm ⟨[1,2,3,4,5,16],[3,4,5,1000,1001,1002],[],[]⟩ ⟨[(1, .ptr 1000 0),(2, .ptr 1001 0),(3, .ptr 3 0),(4, .ptr 4 0),(5, .ptr 5 0),(16,B (eqI (lenI (mI x6.Kids)) 0))],[(3, .box 24 (bxc (GNode.cs ⟨x6.Kind,x6.Name,x6.N,0,x6.Kids⟩))),(4, .box 24 [I 0,S [],I 0,I 0,zS]),(5, .box 72 [.eptr (GNode.cs x8),I (lenI (mI x6.Kids))]),(1000, .box 69 [.mv 1002]),(1001, .box 33 [.fn (.func 36) [] [.ptr 1000 0, .ptr 1001 0]]),(1002, .mp [])]⟩ krf (sC (eqI (lenI (mI x6.Kids)) 0) krf ?_ ?_)))
       ·refine sR tfm ⟨[3,4],[3,4,1000,1001,1002],[],[]⟩ ⟨[(3, .ptr 3 0),(4, .ptr 4 0)],[(3, .box 24 [I x6.Kind,S x6.Name,I x6.N,I 0,zS]),(4, .box 24 [I 0,S [],I 0,I 0,zS]),(1000, .box 69 [.mv 1002]),(1001, .box 33 [.fn (.func 36) [] [.ptr 1000 0, .ptr 1001 0]]),(1002, .mp [])]⟩ krf (sR tfm ⟨[4],[4,1000,1001,1002],[],[]⟩ ⟨[(4, .ptr 4 0)],[(4, .box 24 [I x6.Kind,S x6.Name,I x6.N,I 0,zS]),(1000, .box 69 [.mv 1002]),(1001, .box 33 [.fn (.func 36) [] [.ptr 1000 0, .ptr 1001 0]]),(1002, .mp [])]⟩ krf (sT (sq_r (iq_ret (.agg [.id, .id, .id, .id, .sl 5]) [1000,1001,1002] [] (.agg [I x6.Kind,S x6.Name,I x6.N,I 0, .p (.sl 5 (mI []))]) krf krf (kr0 (xR 1 krf ?_))))))
        refine xF krf krf (aop_vapp (e:=24) (S:=5) (by_:=64) (enc:=idc) (tk:=30) (l:=l5_1) (l2:=[GNode.cs (⟨x6.Kind,x6.Name,x6.N,0,[]⟩:GNode)]) (xv:=.tsl 5 (mI [GNode.cs (⟨x6.Kind,x6.Name,x6.N,0,[]⟩:GNode)]) 42) (n:=(mI l5_1).length) rfl krf krf rfl krf krf krf krf (by simp)) ?_
        refine xR 1 krf (xE (bq_n (sN ⟨[1,2,3,4,5,6,32,33,34],[3,4,5,30,1000,1001,1002],[],[]⟩ ⟨[(1, .ptr 1000 0),(2, .ptr 1001 0),(3, .ptr 3 0),(4, .ptr 4 0),(5, .ptr 5 0),(6, .vsl 5 30 (mI (l5_1++[GNode.cs (⟨x6.Kind,x6.Name,x6.N,0,[]⟩:GNode)])).length),(32, .p (.sl 5 (mI a0n.Kids))),(33,I (lenI (mI a0n.Kids))),(34,I l5_2)],[(3, .box 24 (bxc (GNode.cs ⟨a0n.Kind,a0n.Name,a0n.N,0,a0n.Kids⟩))),(4, .box 24 [I 0,S [],I 0,I 0,zS]),(5, .box 72 [.eptr (GNode.cs x3),I (lenI (mI a0n.Kids))]),(30, .vec 24 5 (mI (l5_1++[GNode.cs (⟨x6.Kind,x6.Name,x6.N,0,[]⟩:GNode)]))),(1000, .box 69 [.mv 1002]),(1001, .box 33 [.fn (.func 36) [] [.ptr 1000 0, .ptr 1001 0]]),(1002, .mp [])]⟩ krf (sL tfm krf ?_))))
        exact kq_n (l5_1++[GNode.cs (⟨x6.Kind,x6.Name,x6.N,0,[]⟩:GNode)],wi (l5_2+1)) ⟨[1,2,3,4,5,6,32,33,34],[3,4,5,30,1000,1001,1002],[],[]⟩ krf
       ·refine sK (sN ⟨[1,2,3,4,5],[3,4,5,1000,1001,1002],[],[]⟩ ⟨[(1, .ptr 1000 0),(2, .ptr 1001 0),(3, .ptr 3 0),(4, .ptr 4 0),(5, .ptr 5 0)],[(3, .box 24 (bxc (GNode.cs ⟨x6.Kind,x6.Name,x6.N,0,x6.Kids⟩))),(4, .box 24 [I 0,S [],I 0,I 0,zS]),(5, .box 72 [.eptr (GNode.cs x8),I (lenI (mI x6.Kids))]),(1000, .box 69 [.mv 1002]),(1001, .box 33 [.fn (.func 36) [] [.ptr 1000 0, .ptr 1001 0]]),(1002, .mp [])]⟩ krf (sS (sG (xR 2 krf ?_))))
        exact xs_none
     ·refine sim_exit (sq_x (kq_x (bq_hit ?_)))
      exact nq_f l5_1 ⟨[1,3,4,5,6],[3,4,5,30,1000,1001,1002],[],[]⟩ ⟨[(1, .ptr 1000 0),(3, .ptr 3 0),(4, .ptr 4 0),(5, .ptr 5 0),(6, .vsl 5 30 (mI l5_1).length)],[(3, .box 24 (bxc (GNode.cs ⟨a0n.Kind,a0n.Name,a0n.N,0,a0n.Kids⟩))),(4, .box 24 [I 0,S [],I 0,I 0,zS]),(5, .box 72 [.eptr (GNode.cs x3),I (lenI (mI a0n.Kids))]),(30, .vec 24 5 (mI l5_1)),(1000, .box 69 [.mv 1002]),(1001, .box 33 [.fn (.func 36) [] [.ptr 1000 0, .ptr 1001 0]]),(1002, .mp [])]⟩ krf (weak_vfz 30 24 5 (mI l5_1) [(mI l5_1).length] krf krf (by simp) krf krf) ⟨[1,3,4,5,6],[3,4,5,1000,1001,1002],[],[]⟩ krf
    ·rintro j4
     refine sG (xR 3 krf ?_)
     refine xs_setE (t:=69) (kt:=72) (e:=22) (b:=1002) (cs:=[.eptr (GNode.cs x3),I (lenI (mI a0n.Kids))]) (v:=.sl 5 (mI j4)) krf rfl krf Try.underlying69 krf krf krf krf krf (fun kvb1002=>?_)
     refine xE (sN ⟨[3,4,6],[3,4,1000,1001,1002],[],[]⟩ ⟨[(3, .ptr 3 0),(4, .ptr 4 0),(6, .p (.sl 5 (mI j4)))],[(3, .box 24 (bxc (GNode.cs ⟨a0n.Kind,a0n.Name,a0n.N,0,a0n.Kids⟩))),(4, .box 24 [I 0,S [],I 0,I 0,zS]),(1000, .box 69 [.mv 1002]),(1001, .box 33 [.fn (.func 36) [] [.ptr 1000 0, .ptr 1001 0]]),(1002, .mp [(kvb1002, .sl 5 (mI j4))])]⟩ krf (sR tfm ⟨[3,4],[3,4,1000,1001,1002],[],[]⟩ ⟨[(3, .ptr 3 0),(4, .ptr 4 0)],[(3, .box 24 (bxc (GNode.cs ⟨a0n.Kind,a0n.Name,a0n.N,0,j4⟩))),(4, .box 24 [I 0,S [],I 0,I 0,zS]),(1000, .box 69 [.mv 1002]),(1001, .box 33 [.fn (.func 36) [] [.ptr 1000 0, .ptr 1001 0]]),(1002, .mp [(kvb1002, .sl 5 (mI j4))])]⟩ krf (sR tfm ⟨[4],[4,1000,1001,1002],[],[]⟩ ⟨[(4, .ptr 4 0)],[(4, .box 24 (bxc (GNode.cs ⟨a0n.Kind,a0n.Name,a0n.N,0,j4⟩))),(1000, .box 69 [.mv 1002]),(1001, .box 33 [.fn (.func 36) [] [.ptr 1000 0, .ptr 1001 0]]),(1002, .mp [(kvb1002, .sl 5 (mI j4))])]⟩ krf (sT (iq_ret (.id) [1000,1001,1002] [] (.agg [I a0n.Kind,S a0n.Name,I a0n.N,I 0, .p (.sl 5 (mI j4))]) krf krf (kr0 (xR 1 krf ?_)))))))
     refine xE (sN ⟨[2],[2],[],[]⟩ ⟨[(2, .ptr 2 0)],[(2, .box 24 (bxc (GNode.cs ⟨a0n.Kind,a0n.Name,a0n.N,0,j4⟩)))]⟩ krf (sT ?_))
     exact qR (.id) krf krf krf
def g_ref02_Same_l6 (a0a:GNode) (a1b:GNode) (rf_ref02_Same:GNode→GNode→Option Bool) (recl6:Int→Option Bool) (l6:Int):Option Bool :=
 cond (ltI l6 (lenI (List.map idc a0a.Kids)))
  ((Option.bind (getI a0a.Kids l6) GNode.of).bind fun x7 =>
  (Option.bind (getI a1b.Kids l6) GNode.of).bind fun x8 =>
  (rf_ref02_Same x7 x8).bind fun r9 =>
  cond (!r9)
   (some false)
   (recl6 (wi (l6+1))))
  (some true)
def g_ref02_Same_body (n:Nat) (rf_ref02_Same:GNode→GNode→Option Bool) (a0a:GNode) (a1b:GNode):Option Bool :=
 (cond (!eqI a0a.Kind a1b.Kind)
  (some true)
  (cond (!eqS a0a.Name a1b.Name)
   (some true)
   (cond (!eqI a0a.N a1b.N)
    (some true)
    (cond (!eqI a0a.At a1b.At)
     (some true)
     (some (!eqI (lenI (List.map idc a0a.Kids)) (lenI (List.map idc a1b.Kids)))))))).bind fun j1 =>
 cond j1
  (some false)
  (loopN (fun recl6 l6=>g_ref02_Same_l6 a0a a1b rf_ref02_Same recl6 l6) n 0)
def g_ref02_Same:Nat→GNode→GNode→Option Bool
 | 0,_,_=>none
 | n+1,a0a,a1b=>g_ref02_Same_body n (g_ref02_Same n) a0a a1b
theorem g_ref02_Same_ok (n:Nat) (a0a:GNode) (a1b:GNode):∀ r,g_ref02_Same n a0a a1b=some r→PCall Try.prog 11 [ag (GNode.cs a0a),ag (GNode.cs a1b)] (.ret (B r)):=by
 induction n generalizing a0a a1b with
 | zero=>intro r hr; cases (show (none:Option Bool)=some r from hr)
 | succ n ih =>
 show ∀ r,g_ref02_Same_body n (g_ref02_Same n) a0a a1b=some r→_
 generalize g_ref02_Same n=rf_ref02_Same at ih ⊢
 refine pcall_sim (X:=fun r:Bool=>AEnd.ret (B r)) Try.func11 rfl Try.ntmps11 rfl ?_
 unfold g_ref02_Same_body
 refine sR tfm ⟨[2,3],[2,3],[],[]⟩ ⟨[(2, .ptr 2 0),(3, .ptr 3 0)],[(2, .box 24 (bxc (GNode.cs a0a))),(3, .box 24 (bxc (GNode.cs a1b)))]⟩ krf (sS (sim_bind (fun j1=>⟨[(2, .ptr 2 0),(3, .ptr 3 0),(40,B j1)],[(2, .box 24 (bxc (GNode.cs a0a))),(3, .box 24 (bxc (GNode.cs a1b)))]⟩:Bool→St) ?_ ?_))
 ·refine sG (xR 6 krf ?_)
  refine xS (!eqI a0a.Kind a1b.Kind) (fun h2=>?_) (fun h2=>?_)
  ·refine xN (want_ft krf h2) krf (xR 28 krf (xE ?_))
   exact nq_n true ⟨[2,3,40],[2,3],[],[]⟩ krf
  ·refine xO (want_ff krf h2) krf (xR 6 krf ?_)
   refine xS (!eqS a0a.Name a1b.Name) (fun h3=>?_) (fun h3=>?_)
   ·refine xN (want_ft krf h3) krf (xR 21 krf (xE ?_))
    exact nq_n true ⟨[2,3,40],[2,3],[],[]⟩ krf
   ·refine xO (want_ff krf h3) krf (xR 6 krf ?_)
    refine xS (!eqI a0a.N a1b.N) (fun h4=>?_) (fun h4=>?_)
    ·refine xN (want_ft krf h4) krf (xR 14 krf (xE ?_))
     exact nq_n true ⟨[2,3,40],[2,3],[],[]⟩ krf
    ·refine xO (want_ff krf h4) krf (xR 6 krf ?_)
     refine xS (!eqI a0a.At a1b.At) (fun h5=>?_) (fun h5=>?_)
     ·refine xN (want_ft krf h5) krf (xR 7 krf (xE ?_))
      exact nq_n true ⟨[2,3,40],[2,3],[],[]⟩ krf
     ·refine xO (want_ff krf h5) krf (xR 7 krf (xE ?_))
      exact nq_n (!eqI (lenI (mI a0a.Kids)) (lenI (mI a1b.Kids))) ⟨[2,3,40],[2,3],[],[]⟩ krf
 ·rintro j1
  refine sC j1 krf ?_ ?_
  ·refine sR tfm ⟨[4],[],[],[]⟩ ⟨[(4,B false)],[]⟩ krf (sT (sq_r ?_))
   exact qR (.id) krf krf krf
  ·refine sK (sN ⟨[2,3],[2,3],[],[]⟩ ⟨[(2, .ptr 2 0),(3, .ptr 3 0)],[(2, .box 24 (bxc (GNode.cs a0a))),(3, .box 24 (bxc (GNode.cs a1b)))]⟩ krf (sS (sR tfm ⟨[2,3,5],[2,3],[],[]⟩ ⟨[(2, .ptr 2 0),(3, .ptr 3 0),(5,I 0)],[(2, .box 24 (bxc (GNode.cs a0a))),(3, .box 24 (bxc (GNode.cs a1b)))]⟩ krf (sB (sim_loop (fun l6=>⟨[(2, .ptr 2 0),(3, .ptr 3 0),(5,I l6)],[(2, .box 24 (bxc (GNode.cs a0a))),(3, .box 24 (bxc (GNode.cs a1b)))]⟩:Int→St) (weak_shr (K:=⟨[2,3,5],[2,3],[],[]⟩) krf) ?_)))))
   rintro recl6 l6
   show SimE (g_ref02_Same_l6 a0a a1b rf_ref02_Same recl6 l6) _ _ _ _ _ _
   unfold g_ref02_Same_l6
   refine sS (sR tfm ⟨[2,3,5,45],[2,3],[],[]⟩ ⟨[(2, .ptr 2 0),(3, .ptr 3 0),(5,I l6),(45,B (ltI l6 (lenI (mI a0a.Kids))))],[(2, .box 24 (bxc (GNode.cs a0a))),(3, .box 24 (bxc (GNode.cs a1b)))]⟩ krf (sC (ltI l6 (lenI (mI a0a.Kids))) krf ?_ ?_))
   ·refine sK (sN ⟨[2,3,5],[2,3],[],[]⟩ ⟨[(2, .ptr 2 0),(3, .ptr 3 0),(5,I l6)],[(2, .box 24 (bxc (GNode.cs a0a))),(3, .box 24 (bxc (GNode.cs a1b)))]⟩ krf (sS (sB (sS (sim_drw tfm rfl (xR 3 krf ?_))))))
    refine xG krf krf (aop_idxR (e:=24) (S:=5) (enc:=GNode.cs) (dec:=GNode.of) (l:=a0a.Kids) (k:=.i64) (n:=l6) (sv:=.p (.sl 5 (mI a0a.Kids))) GNode.of_cs rfl krf krf krf krf krf) (fun x7=>?_)
    refine xR 4 krf ?_
    refine xG krf krf (aop_idxR (e:=24) (S:=5) (enc:=GNode.cs) (dec:=GNode.of) (l:=a1b.Kids) (k:=.i64) (n:=l6) (sv:=.p (.sl 5 (mI a1b.Kids))) GNode.of_cs rfl krf krf krf krf krf) (fun x8=>?_)
    refine xR 1 krf ?_
    refine xC [] krf (ih x7 x8) krf krf (fun _=>by kernel_rfl) (fun r9=>?_)
    refine xR 1 krf (xs_endD krf (sN ⟨[2,3,5,59],[2,3],[],[]⟩ ⟨[(2, .ptr 2 0),(3, .ptr 3 0),(5,I l6),(59,B (!r9))],[(2, .box 24 (bxc (GNode.cs a0a))),(3, .box 24 (bxc (GNode.cs a1b)))]⟩ krf (sC (!r9) krf ?_ ?_)))
    ·refine sR tfm ⟨[4],[],[],[]⟩ ⟨[(4,B false)],[]⟩ krf (sT (bq_r (sq_r (kq_r (bq_r (sq_r ?_))))))
     exact qR (.id) krf krf krf
    ·refine sK (bq_n (sN ⟨[2,3,5],[2,3],[],[]⟩ ⟨[(2, .ptr 2 0),(3, .ptr 3 0),(5,I l6)],[(2, .box 24 (bxc (GNode.cs a0a))),(3, .box 24 (bxc (GNode.cs a1b)))]⟩ krf (sL tfm krf ?_)))
     exact kq_n (wi (l6+1)) ⟨[2,3,5],[2,3],[],[]⟩ krf
   ·refine sim_exit (sq_x (kq_x (bq_hit (sN ⟨[],[],[],[]⟩ ⟨[],[]⟩ krf (sR tfm ⟨[4],[],[],[]⟩ ⟨[(4,B true)],[]⟩ krf (sT ?_))))))
    exact qR (.id) krf krf krf
def g_ref02_SameDiags_l1 (a0a:List GDg) (a1b:List GDg) (recl1:Int→Option Bool) (l1:Int):Option Bool :=
 cond (ltI l1 (lenI (List.map GDg.cs a0a)))
  ((getI a0a l1).bind fun x2 =>
  (getI a1b l1).bind fun x3 =>
  cond (!opq ((eqI x2.Err x3.Err)&&((eqI x2.At x3.At)&&true)))
   (some false)
   (recl1 (wi (l1+1))))
  (some true)
def g_ref02_SameDiags (n:Nat) (a0a:List GDg) (a1b:List GDg):Option Bool :=
 cond (!eqI (lenI (List.map GDg.cs a0a)) (lenI (List.map GDg.cs a1b)))
  (some false)
  (loopN (fun recl1 l1=>g_ref02_SameDiags_l1 a0a a1b recl1 l1) n 0)
theorem g_ref02_SameDiags_ok (n:Nat) (a0a:List GDg) (a1b:List GDg):∀ r,g_ref02_SameDiags n a0a a1b=some r→PCall Try.prog 12 [.p (.sl 2 (mDg a0a)), .p (.sl 2 (mDg a1b))] (.ret (B r)):=by
 refine pcall_sim (X:=fun r:Bool=>AEnd.ret (B r)) Try.func12 rfl Try.ntmps12 rfl ?_
 unfold g_ref02_SameDiags
 refine sR tfm ⟨[0,1],[],[],[]⟩ ⟨[(0, .p (.sl 2 (mDg a0a))),(1, .p (.sl 2 (mDg a1b)))],[]⟩ krf (sS (sR tfm ⟨[0,1,10],[],[],[]⟩ ⟨[(0, .p (.sl 2 (mDg a0a))),(1, .p (.sl 2 (mDg a1b))),(10,B (!eqI (lenI (mDg a0a)) (lenI (mDg a1b))))],[]⟩ krf (sC (!eqI (lenI (mDg a0a)) (lenI (mDg a1b))) krf ?_ ?_)))
 ·refine sR tfm ⟨[4],[],[],[]⟩ ⟨[(4,B false)],[]⟩ krf (sT (sq_r ?_))
  exact qR (.id) krf krf krf
 ·refine sK (sN ⟨[0,1],[],[],[]⟩ ⟨[(0, .p (.sl 2 (mDg a0a))),(1, .p (.sl 2 (mDg a1b)))],[]⟩ krf (sS (sR tfm ⟨[0,1,5],[],[],[]⟩ ⟨[(0, .p (.sl 2 (mDg a0a))),(1, .p (.sl 2 (mDg a1b))),(5,I 0)],[]⟩ krf (sB (sim_loop (fun l1=>⟨[(0, .p (.sl 2 (mDg a0a))),(1, .p (.sl 2 (mDg a1b))),(5,I l1)],[]⟩:Int→St) (weak_shr (K:=⟨[0,1,5],[],[],[]⟩) krf) ?_)))))
  rintro recl1 l1
  show SimE (g_ref02_SameDiags_l1 a0a a1b recl1 l1) _ _ _ _ _ _
  unfold g_ref02_SameDiags_l1
  refine sS (sR tfm ⟨[0,1,5,14],[],[],[]⟩ ⟨[(0, .p (.sl 2 (mDg a0a))),(1, .p (.sl 2 (mDg a1b))),(5,I l1),(14,B (ltI l1 (lenI (mDg a0a))))],[]⟩ krf (sC (ltI l1 (lenI (mDg a0a))) krf ?_ ?_))
  ·refine sK (sN ⟨[0,1,5],[],[],[]⟩ ⟨[(0, .p (.sl 2 (mDg a0a))),(1, .p (.sl 2 (mDg a1b))),(5,I l1)],[]⟩ krf (sS (sB (sS (sim_drw tfm rfl (xR 2 krf ?_))))))
   refine xG krf krf (aop_idx (e:=41) (S:=2) (enc:=GDg.cs) (l:=a0a) (k:=.i64) (n:=l1) (sv:=.p (.sl 2 (mDg a0a))) rfl krf krf krf krf krf) (fun x2=>?_)
   refine xR 3 krf ?_
   refine xG krf krf (aop_idx (e:=41) (S:=2) (enc:=GDg.cs) (l:=a1b) (k:=.i64) (n:=l1) (sv:=.p (.sl 2 (mDg a1b))) rfl krf krf krf krf krf) (fun x3=>?_)
   refine xR 1 krf (xs_u krf krf (aop_neq (xs:=[I x2.Err,I x2.At]) (ys:=[I x3.Err,I x3.At]) (vx:=[.int .i64 x2.Err, .int .i64 x2.At]) (vy:=[.int .i64 x3.Err, .int .i64 x3.At]) (b:=(eqI x2.Err x3.Err)&&((eqI x2.At x3.At)&&true)) rfl krf krf krf krf krf krf) (xs_endD krf (sN ⟨[0,1,5,25],[],[],[]⟩ ⟨[(0, .p (.sl 2 (mDg a0a))),(1, .p (.sl 2 (mDg a1b))),(5,I l1),(25,B (!opq ((eqI x2.Err x3.Err)&&((eqI x2.At x3.At)&&true))))],[]⟩ krf (sC (!opq ((eqI x2.Err x3.Err)&&((eqI x2.At x3.At)&&true))) krf ?_ ?_))))
   ·refine sR tfm ⟨[4],[],[],[]⟩ ⟨[(4,B false)],[]⟩ krf (sT (bq_r (sq_r (kq_r (bq_r (sq_r ?_))))))
    exact qR (.id) krf krf krf
   ·refine sK (bq_n (sN ⟨[0,1,5],[],[],[]⟩ ⟨[(0, .p (.sl 2 (mDg a0a))),(1, .p (.sl 2 (mDg a1b))),(5,I l1)],[]⟩ krf (sL tfm krf ?_)))
    exact kq_n (wi (l1+1)) ⟨[0,1,5],[],[],[]⟩ krf
  ·refine sim_exit (sq_x (kq_x (bq_hit (sN ⟨[],[],[],[]⟩ ⟨[],[]⟩ krf (sR tfm ⟨[4],[],[],[]⟩ ⟨[(4,B true)],[]⟩ krf (sT ?_))))))
   exact qR (.id) krf krf krf
def g_law02_gives_l2 (a1at:List Int) (recl2:((List GDg) × Int)→Option (List GDg)) (l2_1:List GDg) (l2_2:Int):Option (List GDg) :=
 cond (ltI l2_2 (lenI (List.map ci a1at)))
  ((getI a1at l2_2).bind fun x3 =>
  cond (roomB (List.length (l2_1++[(⟨7,x3⟩:GDg)])) 16) (
   recl2 (l2_1++[(⟨7,x3⟩:GDg)],wi (l2_2+1))) none)
  (some l2_1)
def g_law02_gives (n:Nat) (a0z:List UInt8) (a1at:List Int):Option Bool :=
 (loopN (fun recl2 (l2_1,l2_2)=>g_law02_gives_l2 a1at recl2 l2_1 l2_2) n ([],0)).bind fun j1 =>
 (g_p_Parse n a0z).bind fun r4 =>
 (g_ref02_SameDiags n r4.2 j1).bind fun r5 =>
 cond r5
  (cond (eqI (lenI (List.map ci a1at)) 0)
   (some true)
   ((g_ref02_Same n r4.1 (⟨0,[],0,0,[]⟩:GNode)).bind fun r8 =>
   some r8))
  (some false)
theorem g_law02_gives_ok (n:Nat) (a0z:List UInt8) (a1at:List Int):∀ r,g_law02_gives n a0z a1at=some r→PCall Try.prog 20 [S a0z, .p (.sl 1 (List.map ci a1at))] (.ret (B r)):=by
 refine pcall_sim (X:=fun r:Bool=>AEnd.ret (B r)) Try.func20 rfl Try.ntmps20 rfl ?_
 unfold g_law02_gives
 refine sR tfm ⟨[0,1],[],[],[]⟩ ⟨[(0,S a0z),(1, .p (.sl 1 (List.map ci a1at)))],[]⟩ krf (sR tfm ⟨[0,1,5],[],[],[]⟩ ⟨[(0,S a0z),(1, .p (.sl 1 (List.map ci a1at))),(5,zS)],[]⟩ krf (sim_bind (fun j1=>⟨[(0,S a0z),(1, .p (.sl 1 (List.map ci a1at))),(5, .tsl 2 (mDg j1) 20)],[(20, .arr 41 2 (mDg j1).length)]⟩:(List GDg)→St) ?_ ?_))
 ·refine sR tfm ⟨[0,1,5,10,11,12],[],[],[]⟩ ⟨[(0,S a0z),(1, .p (.sl 1 (List.map ci a1at))),(5,zS),(10, .p (.sl 1 (List.map ci a1at))),(11,I (lenI (List.map ci a1at))),(12,I 0)],[]⟩ krf (sB (sP ⟨[0,1,5,10,11,12],[],[],[]⟩ ⟨[(0,S a0z),(1, .p (.sl 1 (List.map ci a1at))),(5,zS),(10, .p (.sl 1 (List.map ci a1at))),(11,I (lenI (List.map ci a1at))),(12,I 0)],[]⟩ krf (sim_weak (weak_pn 41 2 20 [5] [] krf) (sim_loop (fun (l2_1,l2_2)=>⟨[(0,S a0z),(1, .p (.sl 1 (List.map ci a1at))),(5, .tsl 2 (mDg l2_1) 20),(10, .p (.sl 1 (List.map ci a1at))),(11,I (lenI (List.map ci a1at))),(12,I l2_2)],[(20, .arr 41 2 (mDg l2_1).length)]⟩:((List GDg) × Int)→St) (weak_shr (K:=⟨[0,1,5,10,11,12],[20],[],[]⟩) krf) ?_))))
  rintro recl2 ⟨l2_1,l2_2⟩
  show SimE (g_law02_gives_l2 a1at recl2 l2_1 l2_2) _ _ _ _ _ _
  unfold g_law02_gives_l2
  refine sR tfm ⟨[0,1,5,10,11,12,13],[20],[],[]⟩ ⟨[(0,S a0z),(1, .p (.sl 1 (List.map ci a1at))),(5, .tsl 2 (mDg l2_1) 20),(10, .p (.sl 1 (List.map ci a1at))),(11,I (lenI (List.map ci a1at))),(12,I l2_2),(13,B (ltI l2_2 (lenI (List.map ci a1at))))],[(20, .arr 41 2 (mDg l2_1).length)]⟩ krf (sS (sC (ltI l2_2 (lenI (List.map ci a1at))) krf ?_ ?_))
  ·refine sK (sN ⟨[0,1,5,10,11,12],[20],[],[]⟩ ⟨[(0,S a0z),(1, .p (.sl 1 (List.map ci a1at))),(5, .tsl 2 (mDg l2_1) 20),(10, .p (.sl 1 (List.map ci a1at))),(11,I (lenI (List.map ci a1at))),(12,I l2_2)],[(20, .arr 41 2 (mDg l2_1).length)]⟩ krf (sS (sB (sS (sG ?_)))))
   refine xG krf krf (aop_idx (e:=3) (S:=1) (enc:=ci) (l:=a1at) (k:=.i64) (n:=l2_2) (sv:=.p (.sl 1 (List.map ci a1at))) rfl krf krf krf krf krf) (fun x3=>?_)
   refine xR 2 krf (xE (sN ⟨[0,1,5,7,10,11,12],[20],[],[]⟩ ⟨[(0,S a0z),(1, .p (.sl 1 (List.map ci a1at))),(5, .tsl 2 (mDg l2_1) 20),(7,I x3),(10, .p (.sl 1 (List.map ci a1at))),(11,I (lenI (List.map ci a1at))),(12,I l2_2)],[(20, .arr 41 2 (mDg l2_1).length)]⟩ krf (sG (xR 4 krf (xF krf krf (aop_app (e:=41) (S:=2) (by_:=16) (enc:=GDg.cs) (tk:=20) (l:=l2_1) (l2:=[(⟨7,x3⟩:GDg)]) (xv:=.tsl 2 (mDg [(⟨7,x3⟩:GDg)]) 19) rfl krf krf rfl krf krf krf rfl krf) (xR 1 krf (xE ?_)))))))
   refine bq_n (sN ⟨[0,1,5,10,11,12],[20],[],[]⟩ ⟨[(0,S a0z),(1, .p (.sl 1 (List.map ci a1at))),(5, .tsl 2 (mDg (l2_1++[(⟨7,x3⟩:GDg)])) 20),(10, .p (.sl 1 (List.map ci a1at))),(11,I (lenI (List.map ci a1at))),(12,I l2_2)],[(20, .arr 41 2 (mDg (l2_1++[(⟨7,x3⟩:GDg)])).length)]⟩ krf (sL tfm krf ?_))
   exact kq_n (l2_1++[(⟨7,x3⟩:GDg)],wi (l2_2+1)) ⟨[0,1,5,10,11,12],[20],[],[]⟩ krf
  ·refine sim_exit (sq_x (kq_x (bq_hit ?_)))
   exact nq_n l2_1 ⟨[0,1,5],[20],[],[]⟩ krf
 ·rintro j1
  refine sS (sG (xR 1 krf ?_))
  refine xC [] krf (g_p_Parse_ok n a0z) krf krf (fun _=>by kernel_rfl) (fun r4=>?_)
  refine xR 6 krf (xE (sN ⟨[1,5,8,9],[8,20],[],[]⟩ ⟨[(1, .p (.sl 1 (List.map ci a1at))),(5, .tsl 2 (mDg j1) 20),(8, .ptr 8 0),(9, .p (.sl 2 (mDg r4.2)))],[(8, .box 24 (bxc (GNode.cs r4.1))),(20, .arr 41 2 (mDg j1).length)]⟩ krf (sS (sG (xR 2 krf ?_)))))
  refine xC [.id, .sl 2] krf (g_ref02_SameDiags_ok n r4.2 j1) krf krf (fun _=>by kernel_rfl) (fun r5=>?_)
  refine xR 1 krf ?_
  refine xS r5 (fun h6=>?_) (fun h6=>?_)
  ·refine xO (want_tt krf h6) krf (xR 3 krf ?_)
   refine xS (eqI (lenI (List.map ci a1at)) 0) (fun h7=>?_) (fun h7=>?_)
   ·refine xN (want_ft krf h7) krf (xR 5 krf (xE (sN ⟨[4],[],[],[]⟩ ⟨[(4,B true)],[]⟩ krf (sT ?_))))
    exact qR (.id) krf krf krf
   ·refine xO (want_ff krf h7) krf (xR 1 krf ?_)
    refine xC [.id, .agg [.id, .id, .id, .id, .sl 5]] krf (g_ref02_Same_ok n r4.1 (⟨0,[],0,0,[]⟩:GNode)) krf krf (fun _=>by kernel_rfl) (fun r8=>?_)
    refine xR 3 krf (xE (sN ⟨[4],[],[],[]⟩ ⟨[(4,B r8)],[]⟩ krf (sT ?_)))
    exact qR (.id) krf krf krf
  ·refine xN (want_tf krf h6) krf (xR 9 krf (xE (sN ⟨[4],[],[],[]⟩ ⟨[(4,B false)],[]⟩ krf (sT ?_))))
   exact qR (.id) krf krf krf
def g_p_goodWord_l7 (a0text:List UInt8) (recl7:Int→Option Bool) (l7:Int):Option Bool :=
 cond (ltI l7 (lenI a0text))
  ((getI a0text l7).bind fun x8 =>
  (cond (leI 97 (b2i x8))
   (cond (leI (b2i x8) 122)
    (some false)
    (cond (leI 48 (b2i x8))
     (cond (leI (b2i x8) 57)
      (some false)
      (some (!(eqI (b2i x8) 95))))
     (some (!(eqI (b2i x8) 95)))))
   (cond (leI 48 (b2i x8))
    (cond (leI (b2i x8) 57)
     (some false)
     (some (!(eqI (b2i x8) 95))))
    (some (!(eqI (b2i x8) 95))))).bind fun j9 =>
  cond j9
   (some false)
   (recl7 (wi (l7+1))))
  (some true)
def g_p_goodWord (n:Nat) (a0text:List UInt8):Option Bool :=
 (cond (ltI (lenI a0text) 1)
  (some true)
  (cond (ltI 12 (lenI a0text))
   (some true)
   ((getI a0text 0).bind fun x4 =>
   cond (ltI (b2i x4) 97)
    (some true)
    ((getI a0text 0).bind fun x6 =>
    some (ltI 122 (b2i x6)))))).bind fun j1 =>
 cond j1
  (some false)
  (loopN (fun recl7 l7=>g_p_goodWord_l7 a0text recl7 l7) n 1)
theorem g_p_goodWord_ok (n:Nat) (a0text:List UInt8):∀ r,g_p_goodWord n a0text=some r→PCall Try.prog 80 [S a0text] (.ret (B r)):=by
 refine pcall_sim (X:=fun r:Bool=>AEnd.ret (B r)) Try.func80 rfl Try.ntmps80 rfl ?_
 unfold g_p_goodWord
 refine sR tfm ⟨[0],[],[],[]⟩ ⟨[(0,S a0text)],[]⟩ krf (sS (sim_bind (fun j1=>⟨[(0,S a0text),(22,B j1)],[]⟩:Bool→St) ?_ ?_))
 ·refine sG (xR 4 krf ?_)
  refine xS (ltI (lenI a0text) 1) (fun h2=>?_) (fun h2=>?_)
  ·refine xN (want_ft krf h2) krf (xR 13 krf (xE ?_))
   exact nq_n true ⟨[0,22],[],[],[]⟩ krf
  ·refine xO (want_ff krf h2) krf (xR 4 krf ?_)
   refine xS (ltI 12 (lenI a0text)) (fun h3=>?_) (fun h3=>?_)
   ·refine xN (want_ft krf h3) krf (xR 8 krf (xE ?_))
    exact nq_n true ⟨[0,22],[],[],[]⟩ krf
   ·refine xO (want_ff krf h3) krf ?_
    refine xG krf krf (aop_sidx (l:=a0text) (k:=.i64) (n:=0) rfl krf krf krf) (fun x4=>?_)
    refine xR 3 krf ?_
    refine xS (ltI (b2i x4) 97) (fun h5=>?_) (fun h5=>?_)
    ·refine xN (want_ft krf h5) krf (xR 3 krf (xE ?_))
     exact nq_n true ⟨[0,22],[],[],[]⟩ krf
    ·refine xO (want_ff krf h5) krf ?_
     refine xG krf krf (aop_sidx (l:=a0text) (k:=.i64) (n:=0) rfl krf krf krf) (fun x6=>?_)
     refine xR 2 krf (xE ?_)
     exact nq_n (ltI 122 (b2i x6)) ⟨[0,22],[],[],[]⟩ krf
 ·rintro j1
  refine sC j1 krf ?_ ?_
  ·refine sR tfm ⟨[2],[],[],[]⟩ ⟨[(2,B false)],[]⟩ krf (sT (sq_r ?_))
   exact qR (.id) krf krf krf
  ·refine sK (sN ⟨[0],[],[],[]⟩ ⟨[(0,S a0text)],[]⟩ krf (sS (sR tfm ⟨[0,3],[],[],[]⟩ ⟨[(0,S a0text),(3,I 1)],[]⟩ krf (sB (sim_loop (fun l7=>⟨[(0,S a0text),(3,I l7)],[]⟩:Int→St) (weak_shr (K:=⟨[0,3],[],[],[]⟩) krf) ?_)))))
   rintro recl7 l7
   show SimE (g_p_goodWord_l7 a0text recl7 l7) _ _ _ _ _ _
   unfold g_p_goodWord_l7
   refine sS (sR tfm ⟨[0,3,26],[],[],[]⟩ ⟨[(0,S a0text),(3,I l7),(26,B (ltI l7 (lenI a0text)))],[]⟩ krf (sC (ltI l7 (lenI a0text)) krf ?_ ?_))
   ·refine sK (sN ⟨[0,3],[],[],[]⟩ ⟨[(0,S a0text),(3,I l7)],[]⟩ krf (sS (sB (sS (sG (xR 2 krf ?_))))))
    refine xG krf krf (aop_sidx (l:=a0text) (k:=.i64) (n:=l7) rfl krf krf krf) (fun x8=>?_)
    refine xR 1 krf (xE (sN ⟨[0,3,4],[],[],[]⟩ ⟨[(0,S a0text),(3,I l7),(4,B8 (b2i x8))],[]⟩ krf (sim_bind (fun j9=>⟨[(0,S a0text),(3,I l7),(50,B j9)],[]⟩:Bool→St) ?_ ?_)))
    ·refine sG (xR 3 krf ?_)
     refine xS (leI 97 (b2i x8)) (fun h10=>?_) (fun h10=>?_)
     ·refine xO (want_tt krf h10) krf (xR 3 krf ?_)
      refine xS (leI (b2i x8) 122) (fun h11=>?_) (fun h11=>?_)
      ·refine xN (want_ft krf h11) krf (xR 11 krf (xE ?_))
       exact nq_n false ⟨[0,3,50],[],[],[]⟩ krf
      ·refine xO (want_ff krf h11) krf (xR 2 krf ?_)
       refine xS (leI 48 (b2i x8)) (fun h12=>?_) (fun h12=>?_)
       ·refine xO (want_tt krf h12) krf (xR 4 krf ?_)
        refine xS (leI (b2i x8) 57) (fun h13=>?_) (fun h13=>?_)
        ·refine xN (want_ft krf h13) krf (xR 3 krf (xE ?_))
         exact nq_n false ⟨[0,3,50],[],[],[]⟩ krf
        ·refine xO (want_ff krf h13) krf (xR 3 krf (xE ?_))
         exact nq_n (!(eqI (b2i x8) 95)) ⟨[0,3,50],[],[],[]⟩ krf
       ·refine xN (want_tf krf h12) krf (xR 8 krf (xE ?_))
        exact nq_n (!(eqI (b2i x8) 95)) ⟨[0,3,50],[],[],[]⟩ krf
     ·refine xN (want_tf krf h10) krf (xR 6 krf ?_)
      refine xS (leI 48 (b2i x8)) (fun h14=>?_) (fun h14=>?_)
      ·refine xO (want_tt krf h14) krf (xR 4 krf ?_)
       refine xS (leI (b2i x8) 57) (fun h15=>?_) (fun h15=>?_)
       ·refine xN (want_ft krf h15) krf (xR 3 krf (xE ?_))
        exact nq_n false ⟨[0,3,50],[],[],[]⟩ krf
       ·refine xO (want_ff krf h15) krf (xR 3 krf (xE ?_))
        exact nq_n (!(eqI (b2i x8) 95)) ⟨[0,3,50],[],[],[]⟩ krf
      ·refine xN (want_tf krf h14) krf (xR 8 krf (xE ?_))
       exact nq_n (!(eqI (b2i x8) 95)) ⟨[0,3,50],[],[],[]⟩ krf
    ·rintro j9
     refine sC j9 krf ?_ ?_
     ·refine sR tfm ⟨[2],[],[],[]⟩ ⟨[(2,B false)],[]⟩ krf (sT (bq_r (sq_r (kq_r (bq_r (sq_r ?_))))))
      exact qR (.id) krf krf krf
     ·refine sK (bq_n (sN ⟨[0,3],[],[],[]⟩ ⟨[(0,S a0text),(3,I l7)],[]⟩ krf (sL tfm krf ?_)))
      exact kq_n (wi (l7+1)) ⟨[0,3],[],[],[]⟩ krf
   ·refine sim_exit (sq_x (kq_x (bq_hit (sN ⟨[],[],[],[]⟩ ⟨[],[]⟩ krf (sR tfm ⟨[2],[],[],[]⟩ ⟨[(2,B true)],[]⟩ krf (sT ?_))))))
    exact qR (.id) krf krf krf
def g_p_goodName (n:Nat) (a0text:List UInt8):Option Bool :=
 (g_p_goodWord n a0text).bind fun r1 =>
 cond r1
  ((g_p_isKey n a0text).bind fun r3 =>
  some (!r3))
  (some false)
theorem g_p_goodName_ok (n:Nat) (a0text:List UInt8):∀ r,g_p_goodName n a0text=some r→PCall Try.prog 57 [S a0text] (.ret (B r)):=by
 refine pcall_sim (X:=fun r:Bool=>AEnd.ret (B r)) Try.func57 rfl Try.ntmps57 rfl ?_
 unfold g_p_goodName
 refine sR tfm ⟨[0],[],[],[]⟩ ⟨[(0,S a0text)],[]⟩ krf (sS (sG (xR 1 krf ?_)))
 refine xC [] krf (g_p_goodWord_ok n a0text) krf krf (fun _=>by kernel_rfl) (fun r1=>?_)
 refine xR 1 krf ?_
 refine xS r1 (fun h2=>?_) (fun h2=>?_)
 ·refine xO (want_tt krf h2) krf ?_
  refine xC [] krf (g_p_isKey_ok n a0text) krf krf (fun _=>by kernel_rfl) (fun r3=>?_)
  refine xR 3 krf (xE (sN ⟨[2],[],[],[]⟩ ⟨[(2,B (!r3))],[]⟩ krf (sT ?_)))
  exact qR (.id) krf krf krf
 ·refine xN (want_tf krf h2) krf (xR 4 krf (xE (sN ⟨[2],[],[],[]⟩ ⟨[(2,B false)],[]⟩ krf (sT ?_))))
  exact qR (.id) krf krf krf
def g_p_validValue (n:Nat) (a0n:GNode) (a1words:Bool):Option Bool :=
 cond (!eqI (lenI (List.map idc a0n.Kids)) 0)
  (some false)
  (cond (eqI a0n.Kind 5)
   (cond (eqI a0n.N 0)
    ((g_p_goodName n a0n.Name).bind fun r2 =>
    cond r2
     (some true)
     (cond a1words
      ((g_p_isWord n a0n.Name).bind fun r5 =>
      some r5)
      (some false)))
    (some false))
   (cond (eqI a0n.Kind 6)
    (cond (eqS a0n.Name [])
     (cond (leI 0 a0n.N)
      (some (leI a0n.N 1000000))
      (some false))
     (some false))
    (some false)))
theorem g_p_validValue_ok (n:Nat) (a0n:GNode) (a1words:Bool):∀ r,g_p_validValue n a0n a1words=some r→PCall Try.prog 84 [ag (GNode.cs a0n),B a1words] (.ret (B r)):=by
 refine pcall_sim (X:=fun r:Bool=>AEnd.ret (B r)) Try.func84 rfl Try.ntmps84 rfl ?_
 unfold g_p_validValue
 refine sR tfm ⟨[1,2],[2],[],[]⟩ ⟨[(1,B a1words),(2, .ptr 2 0)],[(2, .box 24 (bxc (GNode.cs a0n)))]⟩ krf (sS (sR tfm ⟨[1,2,8],[2],[],[]⟩ ⟨[(1,B a1words),(2, .ptr 2 0),(8,B (!eqI (lenI (mI a0n.Kids)) 0))],[(2, .box 24 (bxc (GNode.cs a0n)))]⟩ krf (sC (!eqI (lenI (mI a0n.Kids)) 0) krf ?_ ?_)))
 ·refine sR tfm ⟨[4],[],[],[]⟩ ⟨[(4,B false)],[]⟩ krf (sT (sq_r ?_))
  exact qR (.id) krf krf krf
 ·refine sK (sN ⟨[1,2],[2],[],[]⟩ ⟨[(1,B a1words),(2, .ptr 2 0)],[(2, .box 24 (bxc (GNode.cs a0n)))]⟩ krf (sS (sR tfm ⟨[1,2,10],[2],[],[]⟩ ⟨[(1,B a1words),(2, .ptr 2 0),(10,I a0n.Kind)],[(2, .box 24 (bxc (GNode.cs a0n)))]⟩ krf (sB (sR tfm ⟨[1,2,10,11],[2],[],[]⟩ ⟨[(1,B a1words),(2, .ptr 2 0),(10,I a0n.Kind),(11,B (eqI a0n.Kind 5))],[(2, .box 24 (bxc (GNode.cs a0n)))]⟩ krf (sC (eqI a0n.Kind 5) krf ?_ ?_))))))
  ·refine sS (sG (xR 4 krf ?_))
   refine xS (eqI a0n.N 0) (fun h1=>?_) (fun h1=>?_)
   ·refine xO (want_tt krf h1) krf (xR 1 krf ?_)
    refine xC [] krf (g_p_goodName_ok n a0n.Name) krf krf (fun _=>by kernel_rfl) (fun r2=>?_)
    refine xR 1 krf ?_
    refine xS r2 (fun h3=>?_) (fun h3=>?_)
    ·refine xN (want_ft krf h3) krf (xR 8 krf (xE (sN ⟨[4],[],[],[]⟩ ⟨[(4,B true)],[]⟩ krf (sT (bq_r (sq_r ?_))))))
     exact qR (.id) krf krf krf
    ·refine xO (want_ff krf h3) krf (xR 1 krf ?_)
     refine xS a1words (fun h4=>?_) (fun h4=>?_)
     ·refine xO (want_tt krf h4) krf (xR 1 krf ?_)
      refine xC [] krf (g_p_isWord_ok n a0n.Name) krf krf (fun _=>by kernel_rfl) (fun r5=>?_)
      refine xR 4 krf (xE (sN ⟨[4],[],[],[]⟩ ⟨[(4,B r5)],[]⟩ krf (sT (bq_r (sq_r ?_)))))
      exact qR (.id) krf krf krf
     ·refine xN (want_tf krf h4) krf (xR 6 krf (xE (sN ⟨[4],[],[],[]⟩ ⟨[(4,B false)],[]⟩ krf (sT (bq_r (sq_r ?_))))))
      exact qR (.id) krf krf krf
   ·refine xN (want_tf krf h1) krf (xR 12 krf (xE (sN ⟨[4],[],[],[]⟩ ⟨[(4,B false)],[]⟩ krf (sT (bq_r (sq_r ?_))))))
    exact qR (.id) krf krf krf
  ·refine sR tfm ⟨[2,29],[2],[],[]⟩ ⟨[(2, .ptr 2 0),(29,B (eqI a0n.Kind 6))],[(2, .box 24 (bxc (GNode.cs a0n)))]⟩ krf (sC (eqI a0n.Kind 6) krf ?_ ?_)
   ·refine sS (sG (xR 4 krf ?_))
    refine xS (eqS a0n.Name []) (fun h6=>?_) (fun h6=>?_)
    ·refine xO (want_tt krf h6) krf (xR 4 krf ?_)
     refine xS (leI 0 a0n.N) (fun h7=>?_) (fun h7=>?_)
     ·refine xO (want_tt krf h7) krf (xR 4 krf (xE (sN ⟨[4],[],[],[]⟩ ⟨[(4,B (leI a0n.N 1000000))],[]⟩ krf (sT (bq_r (sq_r ?_))))))
      exact qR (.id) krf krf krf
     ·refine xN (want_tf krf h7) krf (xR 4 krf (xE (sN ⟨[4],[],[],[]⟩ ⟨[(4,B false)],[]⟩ krf (sT (bq_r (sq_r ?_))))))
      exact qR (.id) krf krf krf
    ·refine xN (want_tf krf h6) krf (xR 9 krf (xE (sN ⟨[4],[],[],[]⟩ ⟨[(4,B false)],[]⟩ krf (sT (bq_r (sq_r ?_))))))
     exact qR (.id) krf krf krf
   ·refine sK (bq_n (sN ⟨[],[],[],[]⟩ ⟨[],[]⟩ krf (sR tfm ⟨[4],[],[],[]⟩ ⟨[(4,B false)],[]⟩ krf (sT ?_))))
    exact qR (.id) krf krf krf
def g_p_validPart_l9 (n:Nat) (a0n:GNode) (a1left:Int) (recl9:Int→Option (Bool × Int)) (l9:Int):Option (Bool × Int) :=
 cond (ltI l9 (lenI (List.map idc a0n.Kids)))
  ((Option.bind (getI a0n.Kids l9) GNode.of).bind fun x10 =>
  (g_p_validValue n x10 (eqI a0n.Kind 4)).bind fun r11 =>
  cond (!r11)
   (some (false,wi (a1left - (lenI (List.map idc a0n.Kids)))))
   (recl9 (wi (l9+1))))
  (some (true,wi (a1left - (lenI (List.map idc a0n.Kids)))))
def g_p_validPart (n:Nat) (a0n:GNode) (a1left:Int):Option (Bool × Int) :=
 cond (!eqI a0n.N 0)
  (some (false,a1left))
  ((cond (eqI a0n.Kind 3)
   ((g_p_isAttr n a0n.Name).bind fun r3 =>
   some (!r3))
   (some false)).bind fun j1 =>
  cond j1
   (some (false,a1left))
   ((cond (eqI a0n.Kind 4)
    ((g_p_isArticle n a0n.Name).bind fun r6 =>
    some (!r6))
    (some false)).bind fun j4 =>
   cond j4
    (some (false,a1left))
    ((cond (!eqI a0n.Kind 3)
     (some (!eqI a0n.Kind 4))
     (some false)).bind fun j7 =>
    cond j7
     (some (false,a1left))
     (cond (ltI (wi (a1left - (lenI (List.map idc a0n.Kids)))) 0)
      (some (false,wi (a1left - (lenI (List.map idc a0n.Kids)))))
      (loopN (fun recl9 l9=>g_p_validPart_l9 n a0n a1left recl9 l9) n 0)))))
theorem g_p_validPart_ok (n:Nat) (a0n:GNode) (a1left:Int):∀ r,g_p_validPart n a0n a1left=some r→ACall Try.prog 58 [ag (GNode.cs a0n), .ptr 1001 0] (Go.Abs.look [(1001, .box 3 [I a1left])]) (heapR (fun r:Bool × Int=>((.ret (B r.1),[(1001, .box 3 [I r.2])]):AEnd × List (Nat × Blk))) r):=by
 refine acall_sim (X:=fun r:Bool × Int=>((.ret (B r.1),[(1001, .box 3 [I r.2])]):AEnd × List (Nat × Blk))) [(1001, .box 3 [I a1left])] Try.func58 rfl Try.ntmps58 rfl ?_
 unfold g_p_validPart
 refine sR tfm ⟨[1,2],[2,1001],[],[]⟩ ⟨[(1, .ptr 1001 0),(2, .ptr 2 0)],[(2, .box 24 (bxc (GNode.cs a0n))),(1001, .box 3 [I a1left])]⟩ krf (sR tfm ⟨[1,2,5],[2,1001],[],[]⟩ ⟨[(1, .ptr 1001 0),(2, .ptr 2 0),(5,B (eqI a0n.Kind 4))],[(2, .box 24 (bxc (GNode.cs a0n))),(1001, .box 3 [I a1left])]⟩ krf (sS (sB (sR tfm ⟨[1,2,5,11],[2,1001],[],[]⟩ ⟨[(1, .ptr 1001 0),(2, .ptr 2 0),(5,B (eqI a0n.Kind 4)),(11,B (!eqI a0n.N 0))],[(2, .box 24 (bxc (GNode.cs a0n))),(1001, .box 3 [I a1left])]⟩ krf (sC (!eqI a0n.N 0) krf ?_ ?_)))))
 ·refine sR tfm ⟨[4],[1001],[],[]⟩ ⟨[(4,B false)],[(1001, .box 3 [I a1left])]⟩ krf (sT (bq_r (sq_r ?_)))
  exact hq_ret (.id) [1001] [] krf krf krf krf
 ·refine sim_bind (fun j1=>⟨[(1, .ptr 1001 0),(2, .ptr 2 0),(5,B (eqI a0n.Kind 4)),(15,B j1)],[(2, .box 24 (bxc (GNode.cs a0n))),(1001, .box 3 [I a1left])]⟩:Bool→St) ?_ ?_
  ·refine sG (xR 4 krf ?_)
   refine xS (eqI a0n.Kind 3) (fun h2=>?_) (fun h2=>?_)
   ·refine xO (want_tt krf h2) krf (xR 1 krf ?_)
    refine xC [] krf (g_p_isAttr_ok n a0n.Name) krf krf (fun _=>by kernel_rfl) (fun r3=>?_)
    refine xR 3 krf (xE ?_)
    exact nq_n (!r3) ⟨[1,2,5,15],[2,1001],[],[]⟩ krf
   ·refine xN (want_tf krf h2) krf (xR 5 krf (xE ?_))
    exact nq_n false ⟨[1,2,5,15],[2,1001],[],[]⟩ krf
  ·rintro j1
   refine sC j1 krf ?_ ?_
   ·refine sR tfm ⟨[4],[1001],[],[]⟩ ⟨[(4,B false)],[(1001, .box 3 [I a1left])]⟩ krf (sT (bq_r (sq_r ?_)))
    exact hq_ret (.id) [1001] [] krf krf krf krf
   ·refine sim_bind (fun j4=>⟨[(1, .ptr 1001 0),(2, .ptr 2 0),(5,B (eqI a0n.Kind 4)),(25,B j4)],[(2, .box 24 (bxc (GNode.cs a0n))),(1001, .box 3 [I a1left])]⟩:Bool→St) ?_ ?_
    ·refine sG (xR 4 krf ?_)
     refine xS (eqI a0n.Kind 4) (fun h5=>?_) (fun h5=>?_)
     ·refine xO (want_tt krf h5) krf (xR 1 krf ?_)
      refine xC [] krf (g_p_isArticle_ok n a0n.Name) krf krf (fun _=>by kernel_rfl) (fun r6=>?_)
      refine xR 3 krf (xE ?_)
      exact nq_n (!r6) ⟨[1,2,5,25],[2,1001],[],[]⟩ krf
     ·refine xN (want_tf krf h5) krf (xR 5 krf (xE ?_))
      exact nq_n false ⟨[1,2,5,25],[2,1001],[],[]⟩ krf
    ·rintro j4
     refine sC j4 krf ?_ ?_
     ·refine sR tfm ⟨[4],[1001],[],[]⟩ ⟨[(4,B false)],[(1001, .box 3 [I a1left])]⟩ krf (sT (bq_r (sq_r ?_)))
      exact hq_ret (.id) [1001] [] krf krf krf krf
     ·refine sim_bind (fun j7=>⟨[(1, .ptr 1001 0),(2, .ptr 2 0),(5,B (eqI a0n.Kind 4)),(35,B j7)],[(2, .box 24 (bxc (GNode.cs a0n))),(1001, .box 3 [I a1left])]⟩:Bool→St) ?_ ?_
      ·refine sG (xR 4 krf ?_)
       refine xS (!eqI a0n.Kind 3) (fun h8=>?_) (fun h8=>?_)
       ·refine xO (want_tt krf h8) krf (xR 4 krf (xE ?_))
        exact nq_n (!eqI a0n.Kind 4) ⟨[1,2,5,35],[2,1001],[],[]⟩ krf
       ·refine xN (want_tf krf h8) krf (xR 4 krf (xE ?_))
        exact nq_n false ⟨[1,2,5,35],[2,1001],[],[]⟩ krf
      ·rintro j7
       refine sC j7 krf ?_ ?_
       ·refine sR tfm ⟨[4],[1001],[],[]⟩ ⟨[(4,B false)],[(1001, .box 3 [I a1left])]⟩ krf (sT (bq_r (sq_r ?_)))
        exact hq_ret (.id) [1001] [] krf krf krf krf
       ·refine sK (bq_n (sN ⟨[1,2,5],[2,1001],[],[]⟩ ⟨[(1, .ptr 1001 0),(2, .ptr 2 0),(5,B (eqI a0n.Kind 4))],[(2, .box 24 (bxc (GNode.cs a0n))),(1001, .box 3 [I a1left])]⟩ krf (sR tfm ⟨[1,2,5],[2,1001],[],[]⟩ ⟨[(1, .ptr 1001 0),(2, .ptr 2 0),(5,B (eqI a0n.Kind 4))],[(2, .box 24 (bxc (GNode.cs a0n))),(1001, .box 3 [I (wi (a1left - (lenI (mI a0n.Kids))))])]⟩ krf (sS (sR tfm ⟨[2,5,55],[2,1001],[],[]⟩ ⟨[(2, .ptr 2 0),(5,B (eqI a0n.Kind 4)),(55,B (ltI (wi (a1left - (lenI (mI a0n.Kids)))) 0))],[(2, .box 24 (bxc (GNode.cs a0n))),(1001, .box 3 [I (wi (a1left - (lenI (mI a0n.Kids))))])]⟩ krf (sC (ltI (wi (a1left - (lenI (mI a0n.Kids)))) 0) krf ?_ ?_))))))
        ·refine sR tfm ⟨[4],[1001],[],[]⟩ ⟨[(4,B false)],[(1001, .box 3 [I (wi (a1left - (lenI (mI a0n.Kids))))])]⟩ krf (sT (sq_r ?_))
         exact hq_ret (.id) [1001] [] krf krf krf krf
        ·refine sK (sN ⟨[2,5],[2,1001],[],[]⟩ ⟨[(2, .ptr 2 0),(5,B (eqI a0n.Kind 4))],[(2, .box 24 (bxc (GNode.cs a0n))),(1001, .box 3 [I (wi (a1left - (lenI (mI a0n.Kids))))])]⟩ krf (sS (sR tfm ⟨[5,57,58,59],[1001],[],[]⟩ ⟨[(5,B (eqI a0n.Kind 4)),(57, .p (.sl 5 (mI a0n.Kids))),(58,I (lenI (mI a0n.Kids))),(59,I 0)],[(1001, .box 3 [I (wi (a1left - (lenI (mI a0n.Kids))))])]⟩ krf (sB (sim_loop (fun l9=>⟨[(5,B (eqI a0n.Kind 4)),(57, .p (.sl 5 (mI a0n.Kids))),(58,I (lenI (mI a0n.Kids))),(59,I l9)],[(1001, .box 3 [I (wi (a1left - (lenI (mI a0n.Kids))))])]⟩:Int→St) (weak_shr (K:=⟨[5,57,58,59],[1001],[],[]⟩) krf) ?_)))))
         rintro recl9 l9
         show SimE (g_p_validPart_l9 n a0n a1left recl9 l9) _ _ _ _ _ _
         unfold g_p_validPart_l9
         refine sR tfm ⟨[5,57,58,59,60],[1001],[],[]⟩ ⟨[(5,B (eqI a0n.Kind 4)),(57, .p (.sl 5 (mI a0n.Kids))),(58,I (lenI (mI a0n.Kids))),(59,I l9),(60,B (ltI l9 (lenI (mI a0n.Kids))))],[(1001, .box 3 [I (wi (a1left - (lenI (mI a0n.Kids))))])]⟩ krf (sS (sC (ltI l9 (lenI (mI a0n.Kids))) krf ?_ ?_))
         ·refine sK (sN ⟨[5,57,58,59],[1001],[],[]⟩ ⟨[(5,B (eqI a0n.Kind 4)),(57, .p (.sl 5 (mI a0n.Kids))),(58,I (lenI (mI a0n.Kids))),(59,I l9)],[(1001, .box 3 [I (wi (a1left - (lenI (mI a0n.Kids))))])]⟩ krf (sS (sB (sS (sG ?_)))))
          refine xG krf krf (aop_idxR (e:=24) (S:=5) (enc:=GNode.cs) (dec:=GNode.of) (l:=a0n.Kids) (k:=.i64) (n:=l9) (sv:=.p (.sl 5 (mI a0n.Kids))) GNode.of_cs rfl krf krf krf krf krf) (fun x10=>?_)
          refine xR 3 krf (xE (sN ⟨[5,7,57,58,59],[7,1001],[],[]⟩ ⟨[(5,B (eqI a0n.Kind 4)),(7, .ptr 7 0),(57, .p (.sl 5 (mI a0n.Kids))),(58,I (lenI (mI a0n.Kids))),(59,I l9)],[(7, .box 24 (bxc (GNode.cs x10))),(1001, .box 3 [I (wi (a1left - (lenI (mI a0n.Kids))))])]⟩ krf (sS (sG (xR 2 krf ?_)))))
          refine xC [] krf (g_p_validValue_ok n x10 (eqI a0n.Kind 4)) krf krf (fun _=>by kernel_rfl) (fun r11=>?_)
          refine xR 1 krf (xE (sN ⟨[5,57,58,59,66],[1001],[],[]⟩ ⟨[(5,B (eqI a0n.Kind 4)),(57, .p (.sl 5 (mI a0n.Kids))),(58,I (lenI (mI a0n.Kids))),(59,I l9),(66,B (!r11))],[(1001, .box 3 [I (wi (a1left - (lenI (mI a0n.Kids))))])]⟩ krf (sC (!r11) krf ?_ ?_)))
          ·refine sR tfm ⟨[4],[1001],[],[]⟩ ⟨[(4,B false)],[(1001, .box 3 [I (wi (a1left - (lenI (mI a0n.Kids))))])]⟩ krf (sT (bq_r (sq_r (kq_r (bq_r (sq_r ?_))))))
           exact hq_ret (.id) [1001] [] krf krf krf krf
          ·refine sK (bq_n (sN ⟨[5,57,58,59],[1001],[],[]⟩ ⟨[(5,B (eqI a0n.Kind 4)),(57, .p (.sl 5 (mI a0n.Kids))),(58,I (lenI (mI a0n.Kids))),(59,I l9)],[(1001, .box 3 [I (wi (a1left - (lenI (mI a0n.Kids))))])]⟩ krf (sL tfm krf ?_)))
           exact kq_n (wi (l9+1)) ⟨[5,57,58,59],[1001],[],[]⟩ krf
         ·refine sim_exit (sq_x (kq_x (bq_hit (sN ⟨[],[1001],[],[]⟩ ⟨[],[(1001, .box 3 [I (wi (a1left - (lenI (mI a0n.Kids))))])]⟩ krf (sR tfm ⟨[4],[1001],[],[]⟩ ⟨[(4,B true)],[(1001, .box 3 [I (wi (a1left - (lenI (mI a0n.Kids))))])]⟩ krf (sT ?_))))))
          exact hq_ret (.id) [1001] [] krf krf krf krf
def g_p_validItem_j6 (a0n:GNode) (j6_1:Bool) (j6_2:Int):Option (Bool × Int) :=
 cond (!j6_1)
  (some (true,j6_2))
  (some (eqI a0n.N 7,j6_2))
def g_p_validItem_j10 (n:Nat) (l8_2:Int) (l8_3:Int) (recl8:(Bool × Int × Int)→Option (Bool × Int)) (x9:GNode) (j10:Bool):Option (Bool × Int) :=
 (g_p_validPart n x9 l8_3).bind fun r11 =>
 cond (!r11.1)
  (some (false,r11.2))
  (recl8 (j10,wi (l8_2+1),r11.2))
def g_p_validItem_l8 (n:Nat) (a0n:GNode) (recl8:(Bool × Int × Int)→Option (Bool × Int)) (l8_1:Bool) (l8_2:Int) (l8_3:Int):Option (Bool × Int) :=
 cond (ltI l8_2 (lenI (List.map idc a0n.Kids)))
  ((Option.bind (getI a0n.Kids l8_2) GNode.of).bind fun x9 =>
  cond (eqI x9.Kind 4)
   (g_p_validItem_j10 n l8_2 l8_3 recl8 x9 true)
   (cond l8_1
    (some (false,l8_3))
    (g_p_validItem_j10 n l8_2 l8_3 recl8 x9 l8_1)))
  (g_p_validItem_j6 a0n l8_1 l8_3)
def g_p_validItem (n:Nat) (a0n:GNode) (a1left:Int):Option (Bool × Int) :=
 (cond (!eqI a0n.Kind 2)
  (some true)
  (cond (ltI a0n.N 1)
   (some true)
   (cond (ltI 7 a0n.N)
    (some true)
    ((g_p_goodName n a0n.Name).bind fun r5 =>
    some (!r5))))).bind fun j1 =>
 cond j1
  (some (false,a1left))
  (cond (ltI (wi (a1left - (lenI (List.map idc a0n.Kids)))) 0)
   (some (false,wi (a1left - (lenI (List.map idc a0n.Kids)))))
   (loopN (fun recl8 (l8_1,l8_2,l8_3)=>g_p_validItem_l8 n a0n recl8 l8_1 l8_2 l8_3) n (false,0,wi (a1left - (lenI (List.map idc a0n.Kids))))))
theorem g_p_validItem_ok (n:Nat) (a0n:GNode) (a1left:Int):∀ r,g_p_validItem n a0n a1left=some r→ACall Try.prog 33 [ag (GNode.cs a0n), .ptr 1001 0] (Go.Abs.look [(1001, .box 3 [I a1left])]) (heapR (fun r:Bool × Int=>((.ret (B r.1),[(1001, .box 3 [I r.2])]):AEnd × List (Nat × Blk))) r):=by
 refine acall_sim (X:=fun r:Bool × Int=>((.ret (B r.1),[(1001, .box 3 [I r.2])]):AEnd × List (Nat × Blk))) [(1001, .box 3 [I a1left])] Try.func33 rfl Try.ntmps33 rfl ?_
 unfold g_p_validItem
 refine sR tfm ⟨[1,2],[2,1001],[],[]⟩ ⟨[(1, .ptr 1001 0),(2, .ptr 2 0)],[(2, .box 24 (bxc (GNode.cs a0n))),(1001, .box 3 [I a1left])]⟩ krf (sS (sim_bind (fun j1=>⟨[(1, .ptr 1001 0),(2, .ptr 2 0),(26,B j1)],[(2, .box 24 (bxc (GNode.cs a0n))),(1001, .box 3 [I a1left])]⟩:Bool→St) ?_ ?_))
 ·refine sG (xR 4 krf ?_)
  refine xS (!eqI a0n.Kind 2) (fun h2=>?_) (fun h2=>?_)
  ·refine xN (want_ft krf h2) krf (xR 14 krf (xE ?_))
   exact nq_n true ⟨[1,2,26],[2,1001],[],[]⟩ krf
  ·refine xO (want_ff krf h2) krf (xR 4 krf ?_)
   refine xS (ltI a0n.N 1) (fun h3=>?_) (fun h3=>?_)
   ·refine xN (want_ft krf h3) krf (xR 9 krf (xE ?_))
    exact nq_n true ⟨[1,2,26],[2,1001],[],[]⟩ krf
   ·refine xO (want_ff krf h3) krf (xR 4 krf ?_)
    refine xS (ltI 7 a0n.N) (fun h4=>?_) (fun h4=>?_)
    ·refine xN (want_ft krf h4) krf (xR 4 krf (xE ?_))
     exact nq_n true ⟨[1,2,26],[2,1001],[],[]⟩ krf
    ·refine xO (want_ff krf h4) krf (xR 1 krf ?_)
     refine xC [] krf (g_p_goodName_ok n a0n.Name) krf krf (fun _=>by kernel_rfl) (fun r5=>?_)
     refine xR 2 krf (xE ?_)
     exact nq_n (!r5) ⟨[1,2,26],[2,1001],[],[]⟩ krf
 ·rintro j1
  refine sC j1 krf ?_ ?_
  ·refine sR tfm ⟨[4],[1001],[],[]⟩ ⟨[(4,B false)],[(1001, .box 3 [I a1left])]⟩ krf (sT (sq_r ?_))
   exact hq_ret (.id) [1001] [] krf krf krf krf
  ·refine sK (sN ⟨[1,2],[2,1001],[],[]⟩ ⟨[(1, .ptr 1001 0),(2, .ptr 2 0)],[(2, .box 24 (bxc (GNode.cs a0n))),(1001, .box 3 [I a1left])]⟩ krf (sR tfm ⟨[1,2],[2,1001],[],[]⟩ ⟨[(1, .ptr 1001 0),(2, .ptr 2 0)],[(2, .box 24 (bxc (GNode.cs a0n))),(1001, .box 3 [I (wi (a1left - (lenI (mI a0n.Kids))))])]⟩ krf (sS (sR tfm ⟨[1,2,38],[2,1001],[],[]⟩ ⟨[(1, .ptr 1001 0),(2, .ptr 2 0),(38,B (ltI (wi (a1left - (lenI (mI a0n.Kids)))) 0))],[(2, .box 24 (bxc (GNode.cs a0n))),(1001, .box 3 [I (wi (a1left - (lenI (mI a0n.Kids))))])]⟩ krf (sC (ltI (wi (a1left - (lenI (mI a0n.Kids)))) 0) krf ?_ ?_)))))
   ·refine sR tfm ⟨[4],[1001],[],[]⟩ ⟨[(4,B false)],[(1001, .box 3 [I (wi (a1left - (lenI (mI a0n.Kids))))])]⟩ krf (sT (sq_r ?_))
    exact hq_ret (.id) [1001] [] krf krf krf krf
   ·refine sK (sN ⟨[1,2],[2,1001],[],[]⟩ ⟨[(1, .ptr 1001 0),(2, .ptr 2 0)],[(2, .box 24 (bxc (GNode.cs a0n))),(1001, .box 3 [I (wi (a1left - (lenI (mI a0n.Kids))))])]⟩ krf (sR tfm ⟨[1,2,5],[2,1001],[],[]⟩ ⟨[(1, .ptr 1001 0),(2, .ptr 2 0),(5,B false)],[(2, .box 24 (bxc (GNode.cs a0n))),(1001, .box 3 [I (wi (a1left - (lenI (mI a0n.Kids))))])]⟩ krf (sim_cps (fun (j6_1,j6_2)=>⟨[(2, .ptr 2 0),(5,B j6_1)],[(2, .box 24 (bxc (GNode.cs a0n))),(1001, .box 3 [I j6_2])]⟩:(Bool × Int)→St) (fun (j6_1,j6_2)=>g_p_validItem_j6 a0n j6_1 j6_2) ?_ ?_)))
    ·rintro ⟨j6_1,j6_2⟩
     show SimE (g_p_validItem_j6 a0n j6_1 j6_2) _ _ _ _ _ _
     unfold g_p_validItem_j6
     refine sS (sG (xR 3 krf ?_))
     refine xS (!j6_1) (fun h7=>?_) (fun h7=>?_)
     ·refine xN (want_ft krf h7) krf (xR 4 krf (xE (sN ⟨[4],[1001],[],[]⟩ ⟨[(4,B true)],[(1001, .box 3 [I j6_2])]⟩ krf (sT ?_))))
      exact hq_ret (.id) [1001] [] krf krf krf krf
     ·refine xO (want_ff krf h7) krf (xR 4 krf (xE (sN ⟨[4],[1001],[],[]⟩ ⟨[(4,B (eqI a0n.N 7))],[(1001, .box 3 [I j6_2])]⟩ krf (sT ?_))))
      exact hq_ret (.id) [1001] [] krf krf krf krf
    ·refine sR tfm ⟨[1,2,5,40,41,42],[2,1001],[],[]⟩ ⟨[(1, .ptr 1001 0),(2, .ptr 2 0),(5,B false),(40, .p (.sl 5 (mI a0n.Kids))),(41,I (lenI (mI a0n.Kids))),(42,I 0)],[(2, .box 24 (bxc (GNode.cs a0n))),(1001, .box 3 [I (wi (a1left - (lenI (mI a0n.Kids))))])]⟩ krf (sB (sim_loop (fun (l8_1,l8_2,l8_3)=>⟨[(1, .ptr 1001 0),(2, .ptr 2 0),(5,B l8_1),(40, .p (.sl 5 (mI a0n.Kids))),(41,I (lenI (mI a0n.Kids))),(42,I l8_2)],[(2, .box 24 (bxc (GNode.cs a0n))),(1001, .box 3 [I l8_3])]⟩:(Bool × Int × Int)→St) (weak_shr (K:=⟨[1,2,5,40,41,42],[2,1001],[],[]⟩) krf) ?_))
     rintro recl8 ⟨l8_1,l8_2,l8_3⟩
     show SimE (g_p_validItem_l8 n a0n recl8 l8_1 l8_2 l8_3) _ _ _ _ _ _
     unfold g_p_validItem_l8
     refine sR tfm ⟨[1,2,5,40,41,42,43],[2,1001],[],[]⟩ ⟨[(1, .ptr 1001 0),(2, .ptr 2 0),(5,B l8_1),(40, .p (.sl 5 (mI a0n.Kids))),(41,I (lenI (mI a0n.Kids))),(42,I l8_2),(43,B (ltI l8_2 (lenI (mI a0n.Kids))))],[(2, .box 24 (bxc (GNode.cs a0n))),(1001, .box 3 [I l8_3])]⟩ krf (sS (sC (ltI l8_2 (lenI (mI a0n.Kids))) krf ?_ ?_))
     ·refine sK (sN ⟨[1,2,5,40,41,42],[2,1001],[],[]⟩ ⟨[(1, .ptr 1001 0),(2, .ptr 2 0),(5,B l8_1),(40, .p (.sl 5 (mI a0n.Kids))),(41,I (lenI (mI a0n.Kids))),(42,I l8_2)],[(2, .box 24 (bxc (GNode.cs a0n))),(1001, .box 3 [I l8_3])]⟩ krf (sS (sB (sS (sG ?_)))))
      refine xG krf krf (aop_idxR (e:=24) (S:=5) (enc:=GNode.cs) (dec:=GNode.of) (l:=a0n.Kids) (k:=.i64) (n:=l8_2) (sv:=.p (.sl 5 (mI a0n.Kids))) GNode.of_cs rfl krf krf krf krf krf) (fun x9=>?_)
      refine xR 3 krf (xE (sN ⟨[1,2,5,7,40,41,42],[2,7,1001],[],[]⟩ ⟨[(1, .ptr 1001 0),(2, .ptr 2 0),(5,B l8_1),(7, .ptr 7 0),(40, .p (.sl 5 (mI a0n.Kids))),(41,I (lenI (mI a0n.Kids))),(42,I l8_2)],[(2, .box 24 (bxc (GNode.cs a0n))),(7, .box 24 (bxc (GNode.cs x9))),(1001, .box 3 [I l8_3])]⟩ krf (sim_cps (fun j10=>⟨[(1, .ptr 1001 0),(2, .ptr 2 0),(5,B j10),(7, .ptr 7 0),(40, .p (.sl 5 (mI a0n.Kids))),(41,I (lenI (mI a0n.Kids))),(42,I l8_2)],[(2, .box 24 (bxc (GNode.cs a0n))),(7, .box 24 (bxc (GNode.cs x9))),(1001, .box 3 [I l8_3])]⟩:Bool→St) (fun j10=>g_p_validItem_j10 n l8_2 l8_3 recl8 x9 j10) ?_ ?_)))
      ·rintro j10
       show SimE (g_p_validItem_j10 n l8_2 l8_3 recl8 x9 j10) _ _ _ _ _ _
       unfold g_p_validItem_j10
       refine sS (sG (xR 2 krf ?_))
       refine xs_heap [(1001,1001)] [] [] krf (g_p_validPart_ok n x9 l8_3) krf krf krf (fun _=>by kernel_rfl) (fun _=>by kernel_rfl) (fun r11=>?_)
       refine xR 1 krf (xE (sN ⟨[1,2,5,40,41,42,53],[2,1001],[],[]⟩ ⟨[(1, .ptr 1001 0),(2, .ptr 2 0),(5,B j10),(40, .p (.sl 5 (mI a0n.Kids))),(41,I (lenI (mI a0n.Kids))),(42,I l8_2),(53,B (!r11.1))],[(2, .box 24 (bxc (GNode.cs a0n))),(1001, .box 3 [I r11.2])]⟩ krf (sC (!r11.1) krf ?_ ?_)))
       ·refine sR tfm ⟨[4],[1001],[],[]⟩ ⟨[(4,B false)],[(1001, .box 3 [I r11.2])]⟩ krf (sT (bq_r (sq_r (kq_r (bq_r (kq_r ?_))))))
        exact hq_ret (.id) [1001] [] krf krf krf krf
       ·refine sK (bq_n (sN ⟨[1,2,5,40,41,42],[2,1001],[],[]⟩ ⟨[(1, .ptr 1001 0),(2, .ptr 2 0),(5,B j10),(40, .p (.sl 5 (mI a0n.Kids))),(41,I (lenI (mI a0n.Kids))),(42,I l8_2)],[(2, .box 24 (bxc (GNode.cs a0n))),(1001, .box 3 [I r11.2])]⟩ krf (sL tfm krf ?_)))
        exact kq_n (j10,wi (l8_2+1),r11.2) ⟨[1,2,5,40,41,42],[2,1001],[],[]⟩ krf
      ·refine sR tfm ⟨[1,2,5,7,40,41,42,48],[2,7,1001],[],[]⟩ ⟨[(1, .ptr 1001 0),(2, .ptr 2 0),(5,B l8_1),(7, .ptr 7 0),(40, .p (.sl 5 (mI a0n.Kids))),(41,I (lenI (mI a0n.Kids))),(42,I l8_2),(48,B (eqI x9.Kind 4))],[(2, .box 24 (bxc (GNode.cs a0n))),(7, .box 24 (bxc (GNode.cs x9))),(1001, .box 3 [I l8_3])]⟩ krf (sC (eqI x9.Kind 4) krf ?_ ?_)
       ·refine sL tfm krf ?_
        exact kq_n (k:=fun j10=>g_p_validItem_j10 n l8_2 l8_3 recl8 x9 j10) true ⟨[1,2,5,7,40,41,42],[2,7,1001],[],[]⟩ krf
       ·refine sR tfm ⟨[1,2,5,7,40,41,42,49],[2,7,1001],[],[]⟩ ⟨[(1, .ptr 1001 0),(2, .ptr 2 0),(5,B l8_1),(7, .ptr 7 0),(40, .p (.sl 5 (mI a0n.Kids))),(41,I (lenI (mI a0n.Kids))),(42,I l8_2),(49,B l8_1)],[(2, .box 24 (bxc (GNode.cs a0n))),(7, .box 24 (bxc (GNode.cs x9))),(1001, .box 3 [I l8_3])]⟩ krf (sC l8_1 krf ?_ ?_)
        ·refine sR tfm ⟨[4],[1001],[],[]⟩ ⟨[(4,B false)],[(1001, .box 3 [I l8_3])]⟩ krf (sT (kq_r (bq_r (sq_r (kq_r (bq_r (kq_r ?_)))))))
         exact hq_ret (.id) [1001] [] krf krf krf krf
        ·refine sK ?_
         exact kq_n (k:=fun j10=>g_p_validItem_j10 n l8_2 l8_3 recl8 x9 j10) l8_1 ⟨[1,2,5,7,40,41,42],[2,7,1001],[],[]⟩ krf
     ·refine sim_exit (sq_x (kq_x (bq_hit ?_)))
      exact kq_n (k:=fun (j6_1,j6_2)=>g_p_validItem_j6 a0n j6_1 j6_2) (l8_1,l8_3) ⟨[2,5],[2,1001],[],[]⟩ krf
def g_p_Valid_l5 (n:Nat) (a0n:GNode) (recl5:(Int × Int)→Option Bool) (l5_1:Int) (l5_2:Int):Option Bool :=
 cond (ltI l5_1 (lenI (List.map idc a0n.Kids)))
  ((Option.bind (getI a0n.Kids l5_1) GNode.of).bind fun x6 =>
  (g_p_validItem n x6 l5_2).bind fun r7 =>
  cond (!r7.1)
   (some false)
   (recl5 (wi (l5_1+1),r7.2)))
  (some true)
def g_p_Valid (n:Nat) (a0n:GNode):Option Bool :=
 (cond (!eqI a0n.Kind 1)
  (some true)
  (cond (!eqS a0n.Name [])
   (some true)
   (cond (!eqI a0n.N 0)
    (some true)
    (some (ltI (wi (1499 - (lenI (List.map idc a0n.Kids)))) 0))))).bind fun j1 =>
 cond j1
  (some false)
  (loopN (fun recl5 (l5_1,l5_2)=>g_p_Valid_l5 n a0n recl5 l5_1 l5_2) n (0,wi (1499 - (lenI (List.map idc a0n.Kids)))))
theorem g_p_Valid_ok (n:Nat) (a0n:GNode):∀ r,g_p_Valid n a0n=some r→PCall Try.prog 13 [ag (GNode.cs a0n)] (.ret (B r)):=by
 refine pcall_sim (X:=fun r:Bool=>AEnd.ret (B r)) Try.func13 rfl Try.ntmps13 rfl ?_
 unfold g_p_Valid
 refine sR tfm ⟨[1],[1],[],[]⟩ ⟨[(1, .ptr 1 0)],[(1, .box 24 (bxc (GNode.cs a0n)))]⟩ krf (sR tfm ⟨[1,3],[1,3],[],[]⟩ ⟨[(1, .ptr 1 0),(3, .ptr 3 0)],[(1, .box 24 (bxc (GNode.cs a0n))),(3, .box 3 [I (wi (1499 - (lenI (mI a0n.Kids))))])]⟩ krf (sS (sim_bind (fun j1=>⟨[(1, .ptr 1 0),(3, .ptr 3 0),(26,B j1)],[(1, .box 24 (bxc (GNode.cs a0n))),(3, .box 3 [I (wi (1499 - (lenI (mI a0n.Kids))))])]⟩:Bool→St) ?_ ?_)))
 ·refine sG (xR 4 krf ?_)
  refine xS (!eqI a0n.Kind 1) (fun h2=>?_) (fun h2=>?_)
  ·refine xN (want_ft krf h2) krf (xR 12 krf (xE ?_))
   exact nq_n true ⟨[1,3,26],[1,3],[],[]⟩ krf
  ·refine xO (want_ff krf h2) krf (xR 4 krf ?_)
   refine xS (!eqS a0n.Name []) (fun h3=>?_) (fun h3=>?_)
   ·refine xN (want_ft krf h3) krf (xR 7 krf (xE ?_))
    exact nq_n true ⟨[1,3,26],[1,3],[],[]⟩ krf
   ·refine xO (want_ff krf h3) krf (xR 4 krf ?_)
    refine xS (!eqI a0n.N 0) (fun h4=>?_) (fun h4=>?_)
    ·refine xN (want_ft krf h4) krf (xR 2 krf (xE ?_))
     exact nq_n true ⟨[1,3,26],[1,3],[],[]⟩ krf
    ·refine xO (want_ff krf h4) krf (xR 2 krf (xE ?_))
     exact nq_n (ltI (wi (1499 - (lenI (mI a0n.Kids)))) 0) ⟨[1,3,26],[1,3],[],[]⟩ krf
 ·rintro j1
  refine sC j1 krf ?_ ?_
  ·refine sR tfm ⟨[2],[],[],[]⟩ ⟨[(2,B false)],[]⟩ krf (sT (sq_r ?_))
   exact qR (.id) krf krf krf
  ·refine sK (sN ⟨[1,3],[1,3],[],[]⟩ ⟨[(1, .ptr 1 0),(3, .ptr 3 0)],[(1, .box 24 (bxc (GNode.cs a0n))),(3, .box 3 [I (wi (1499 - (lenI (mI a0n.Kids))))])]⟩ krf (sS (sR tfm ⟨[3,28,29,30],[3],[],[]⟩ ⟨[(3, .ptr 3 0),(28, .p (.sl 5 (mI a0n.Kids))),(29,I (lenI (mI a0n.Kids))),(30,I 0)],[(3, .box 3 [I (wi (1499 - (lenI (mI a0n.Kids))))])]⟩ krf (sB (sim_loop (fun (l5_1,l5_2)=>⟨[(3, .ptr 3 0),(28, .p (.sl 5 (mI a0n.Kids))),(29,I (lenI (mI a0n.Kids))),(30,I l5_1)],[(3, .box 3 [I l5_2])]⟩:(Int × Int)→St) (weak_shr (K:=⟨[3,28,29,30],[3],[],[]⟩) krf) ?_)))))
   rintro recl5 ⟨l5_1,l5_2⟩
   show SimE (g_p_Valid_l5 n a0n recl5 l5_1 l5_2) _ _ _ _ _ _
   unfold g_p_Valid_l5
   refine sR tfm ⟨[3,28,29,30,31],[3],[],[]⟩ ⟨[(3, .ptr 3 0),(28, .p (.sl 5 (mI a0n.Kids))),(29,I (lenI (mI a0n.Kids))),(30,I l5_1),(31,B (ltI l5_1 (lenI (mI a0n.Kids))))],[(3, .box 3 [I l5_2])]⟩ krf (sS (sC (ltI l5_1 (lenI (mI a0n.Kids))) krf ?_ ?_))
   ·refine sK (sN ⟨[3,28,29,30],[3],[],[]⟩ ⟨[(3, .ptr 3 0),(28, .p (.sl 5 (mI a0n.Kids))),(29,I (lenI (mI a0n.Kids))),(30,I l5_1)],[(3, .box 3 [I l5_2])]⟩ krf (sS (sB (sS (sG ?_)))))
    refine xG krf krf (aop_idxR (e:=24) (S:=5) (enc:=GNode.cs) (dec:=GNode.of) (l:=a0n.Kids) (k:=.i64) (n:=l5_1) (sv:=.p (.sl 5 (mI a0n.Kids))) GNode.of_cs rfl krf krf krf krf krf) (fun x6=>?_)
    refine xR 3 krf (xE (sN ⟨[3,5,28,29,30],[3,5],[],[]⟩ ⟨[(3, .ptr 3 0),(5, .ptr 5 0),(28, .p (.sl 5 (mI a0n.Kids))),(29,I (lenI (mI a0n.Kids))),(30,I l5_1)],[(3, .box 3 [I l5_2]),(5, .box 24 (bxc (GNode.cs x6)))]⟩ krf (sS (sG (xR 1 krf ?_)))))
    refine xs_heap [(1001,3)] [] [] krf (g_p_validItem_ok n x6 l5_2) krf krf krf (fun _=>by kernel_rfl) (fun _=>by kernel_rfl) (fun r7=>?_)
    refine xR 1 krf (xE (sN ⟨[3,28,29,30,36],[3],[],[]⟩ ⟨[(3, .ptr 3 0),(28, .p (.sl 5 (mI a0n.Kids))),(29,I (lenI (mI a0n.Kids))),(30,I l5_1),(36,B (!r7.1))],[(3, .box 3 [I r7.2])]⟩ krf (sC (!r7.1) krf ?_ ?_)))
    ·refine sR tfm ⟨[2],[],[],[]⟩ ⟨[(2,B false)],[]⟩ krf (sT (bq_r (sq_r (kq_r (bq_r (sq_r ?_))))))
     exact qR (.id) krf krf krf
    ·refine sK (bq_n (sN ⟨[3,28,29,30],[3],[],[]⟩ ⟨[(3, .ptr 3 0),(28, .p (.sl 5 (mI a0n.Kids))),(29,I (lenI (mI a0n.Kids))),(30,I l5_1)],[(3, .box 3 [I r7.2])]⟩ krf (sL tfm krf ?_)))
     exact kq_n (wi (l5_1+1),r7.2) ⟨[3,28,29,30],[3],[],[]⟩ krf
   ·refine sim_exit (sq_x (kq_x (bq_hit (sN ⟨[],[],[],[]⟩ ⟨[],[]⟩ krf (sR tfm ⟨[2],[],[],[]⟩ ⟨[(2,B true)],[]⟩ krf (sT ?_))))))
    exact qR (.id) krf krf krf
def g_law02_head (n:Nat):Option Bool :=
 (g_p_Parse n [111,119,110,101,114,32,111,59,32,99,97,98,108,101,32,99,32,102,114,111,109,32,102,32,108,105,109,105,116,32,51,50,59]).bind fun r1 =>
 (g_p_Parse n [116,97,114,105,102,102,32,116,32,123,32,101,110,101,114,103,121,32,51,48,32,111,110,32,119,111,114,107,59,32,99,97,112,32,53,48,48,59,32,125]).bind fun r2 =>
 (cond (ltI 0 (wi ((lenI (List.map GDg.cs r1.2))+(lenI (List.map GDg.cs r2.2)))))
  (some true)
  (cond (!eqI (lenI (List.map idc r1.1.Kids)) 2)
   (some true)
   ((Option.bind (getI r1.1.Kids 1) GNode.of).bind fun x6 =>
   cond (!eqI (lenI (List.map idc x6.Kids)) 2)
    (some true)
    (cond (!eqI (lenI (List.map idc r2.1.Kids)) 1)
     (some true)
     ((Option.bind (getI r2.1.Kids 0) GNode.of).bind fun x9 =>
     cond (!eqI (lenI (List.map idc x9.Kids)) 2)
      (some true)
      ((Option.bind (getI r2.1.Kids 0) GNode.of).bind fun x11 =>
      (Option.bind (getI x11.Kids 0) GNode.of).bind fun x12 =>
      some (!eqI (lenI (List.map idc x12.Kids)) 3))))))).bind fun j3 =>
 cond j3
  (some false)
  ((Option.bind (getI r1.1.Kids 1) GNode.of).bind fun x13 =>
  (Option.bind (getI r2.1.Kids 0) GNode.of).bind fun x14 =>
  (Option.bind (getI x14.Kids 0) GNode.of).bind fun x15 =>
  (cond (eqI x13.Kind 2)
   (cond (eqS x13.Name [99])
    (cond (eqI x13.N 2)
     (cond (eqI x13.At 9)
      ((Option.bind (getI x13.Kids 0) GNode.of).bind fun x21 =>
      cond (eqI x21.At 17)
       ((Option.bind (getI x13.Kids 1) GNode.of).bind fun x23 =>
       cond (eqI x23.At 24)
        ((Option.bind (getI x13.Kids 1) GNode.of).bind fun x25 =>
        some (eqS x25.Name [108,105,109,105,116]))
        (some false))
       (some false))
      (some false))
     (some false))
    (some false))
   (some false)).bind fun j16 =>
  (cond j16
   ((Option.bind (getI x13.Kids 0) GNode.of).bind fun x28 =>
   (g_p_Strip n x28).bind fun r29 =>
   (g_ref02_Same n r29 (⟨3,[102,114,111,109],0,0,[GNode.cs (⟨5,[102],0,0,[]⟩:GNode)]⟩:GNode)).bind fun r30 =>
   cond r30
    (cond (eqI x15.Kind 4)
     ((Option.bind (getI x15.Kids 0) GNode.of).bind fun x33 =>
     cond (eqI x33.N 30)
      ((Option.bind (getI x15.Kids 2) GNode.of).bind fun x35 =>
      some (eqS x35.Name [119,111,114,107]))
      (some false))
     (some false))
    (some false))
   (some false)).bind fun j26 =>
  (cond j26
   ((g_law02_gives n [111,119,110,101,114,59,32,98,97,121,32,98,32,99,104,97,114,103,101,114] [5,20]).bind fun r38 =>
   cond r38
    ((g_law02_gives n [116,97,114,105,102,102,32,116,32,123,32,120,32,51,59,32,99,97,112,32,53,59,32,125,32,111,119,110,101,114,32,111] [11,32]).bind fun r40 =>
    cond r40
     ((g_p_Valid n r1.1).bind fun r42 =>
     cond r42
      ((g_p_Valid n r2.1).bind fun r44 =>
      cond r44
       ((g_p_Valid n x13).bind fun r46 =>
       some (!r46))
       (some false))
      (some false))
     (some false))
    (some false))
   (some false)).bind fun j36 =>
  some j36)
theorem g_law02_head_ok (n:Nat):∀ r,g_law02_head n=some r→PCall Try.prog 7 [] (.ret (B r)):=by
 refine pcall_sim (X:=fun r:Bool=>AEnd.ret (B r)) Try.func7 rfl Try.ntmps7 rfl ?_
 unfold g_law02_head
 refine sR tfm ⟨[],[],[],[]⟩ ⟨[],[]⟩ krf (sS (sG ?_))
 refine xC [] krf (g_p_Parse_ok n [111,119,110,101,114,32,111,59,32,99,97,98,108,101,32,99,32,102,114,111,109,32,102,32,108,105,109,105,116,32,51,50,59]) krf krf (fun _=>by kernel_rfl) (fun r1=>?_)
 refine xR 6 krf (xE (sN ⟨[1,2],[1],[],[]⟩ ⟨[(1, .ptr 1 0),(2, .p (.sl 2 (mDg r1.2)))],[(1, .box 24 (bxc (GNode.cs r1.1)))]⟩ krf (sS (sG ?_))))
 refine xC [] krf (g_p_Parse_ok n [116,97,114,105,102,102,32,116,32,123,32,101,110,101,114,103,121,32,51,48,32,111,110,32,119,111,114,107,59,32,99,97,112,32,53,48,48,59,32,125]) krf krf (fun _=>by kernel_rfl) (fun r2=>?_)
 refine xR 6 krf (xE (sN ⟨[1,2,3,4],[1,3],[],[]⟩ ⟨[(1, .ptr 1 0),(2, .p (.sl 2 (mDg r1.2))),(3, .ptr 3 0),(4, .p (.sl 2 (mDg r2.2)))],[(1, .box 24 (bxc (GNode.cs r1.1))),(3, .box 24 (bxc (GNode.cs r2.1)))]⟩ krf (sS (sim_bind (fun j3=>⟨[(1, .ptr 1 0),(3, .ptr 3 0),(63,B j3)],[(1, .box 24 (bxc (GNode.cs r1.1))),(3, .box 24 (bxc (GNode.cs r2.1)))]⟩:Bool→St) ?_ ?_))))
 ·refine sG (xR 7 krf ?_)
  refine xS (ltI 0 (wi ((lenI (mDg r1.2))+(lenI (mDg r2.2))))) (fun h4=>?_) (fun h4=>?_)
  ·refine xN (want_ft krf h4) krf (xR 40 krf (xE ?_))
   exact nq_n true ⟨[1,3,63],[1,3],[],[]⟩ krf
  ·refine xO (want_ff krf h4) krf (xR 5 krf ?_)
   refine xS (!eqI (lenI (mI r1.1.Kids)) 2) (fun h5=>?_) (fun h5=>?_)
   ·refine xN (want_ft krf h5) krf (xR 34 krf (xE ?_))
    exact nq_n true ⟨[1,3,63],[1,3],[],[]⟩ krf
   ·refine xO (want_ff krf h5) krf (xR 1 krf ?_)
    refine xG krf krf (aop_idxR (e:=24) (S:=5) (enc:=GNode.cs) (dec:=GNode.of) (l:=r1.1.Kids) (k:=.i64) (n:=1) (sv:=.p (.sl 5 (mI r1.1.Kids))) GNode.of_cs rfl krf krf krf krf krf) (fun x6=>?_)
    refine xR 6 krf ?_
    refine xS (!eqI (lenI (mI x6.Kids)) 2) (fun h7=>?_) (fun h7=>?_)
    ·refine xN (want_ft krf h7) krf (xR 25 krf (xE ?_))
     exact nq_n true ⟨[1,3,63],[1,3],[],[]⟩ krf
    ·refine xO (want_ff krf h7) krf (xR 5 krf ?_)
     refine xS (!eqI (lenI (mI r2.1.Kids)) 1) (fun h8=>?_) (fun h8=>?_)
     ·refine xN (want_ft krf h8) krf (xR 19 krf (xE ?_))
      exact nq_n true ⟨[1,3,63],[1,3],[],[]⟩ krf
     ·refine xO (want_ff krf h8) krf (xR 1 krf ?_)
      refine xG krf krf (aop_idxR (e:=24) (S:=5) (enc:=GNode.cs) (dec:=GNode.of) (l:=r2.1.Kids) (k:=.i64) (n:=0) (sv:=.p (.sl 5 (mI r2.1.Kids))) GNode.of_cs rfl krf krf krf krf krf) (fun x9=>?_)
      refine xR 6 krf ?_
      refine xS (!eqI (lenI (mI x9.Kids)) 2) (fun h10=>?_) (fun h10=>?_)
      ·refine xN (want_ft krf h10) krf (xR 10 krf (xE ?_))
       exact nq_n true ⟨[1,3,63],[1,3],[],[]⟩ krf
      ·refine xO (want_ff krf h10) krf (xR 1 krf ?_)
       refine xG krf krf (aop_idxR (e:=24) (S:=5) (enc:=GNode.cs) (dec:=GNode.of) (l:=r2.1.Kids) (k:=.i64) (n:=0) (sv:=.p (.sl 5 (mI r2.1.Kids))) GNode.of_cs rfl krf krf krf krf krf) (fun x11=>?_)
       refine xR 2 krf ?_
       refine xG krf krf (aop_idxR (e:=24) (S:=5) (enc:=GNode.cs) (dec:=GNode.of) (l:=x11.Kids) (k:=.i64) (n:=0) (sv:=.p (.sl 5 (mI x11.Kids))) GNode.of_cs rfl krf krf krf krf krf) (fun x12=>?_)
       refine xR 5 krf (xE ?_)
       exact nq_n (!eqI (lenI (mI x12.Kids)) 3) ⟨[1,3,63],[1,3],[],[]⟩ krf
 ·rintro j3
  refine sC j3 krf ?_ ?_
  ·refine sR tfm ⟨[0],[],[],[]⟩ ⟨[(0,B false)],[]⟩ krf (sT (sq_r ?_))
   exact qR (.id) krf krf krf
  ·refine sK (sN ⟨[1,3],[1,3],[],[]⟩ ⟨[(1, .ptr 1 0),(3, .ptr 3 0)],[(1, .box 24 (bxc (GNode.cs r1.1))),(3, .box 24 (bxc (GNode.cs r2.1)))]⟩ krf (sS (sim_drw tfm rfl (xR 2 krf ?_))))
   refine xG krf krf (aop_idxR (e:=24) (S:=5) (enc:=GNode.cs) (dec:=GNode.of) (l:=r1.1.Kids) (k:=.i64) (n:=1) (sv:=.p (.sl 5 (mI r1.1.Kids))) GNode.of_cs rfl krf krf krf krf krf) (fun x13=>?_)
   refine xR 3 krf ?_
   refine xG krf krf (aop_idxR (e:=24) (S:=5) (enc:=GNode.cs) (dec:=GNode.of) (l:=r2.1.Kids) (k:=.i64) (n:=0) (sv:=.p (.sl 5 (mI r2.1.Kids))) GNode.of_cs rfl krf krf krf krf krf) (fun x14=>?_)
   refine xR 2 krf ?_
   refine xG krf krf (aop_idxR (e:=24) (S:=5) (enc:=GNode.cs) (dec:=GNode.of) (l:=x14.Kids) (k:=.i64) (n:=0) (sv:=.p (.sl 5 (mI x14.Kids))) GNode.of_cs rfl krf krf krf krf krf) (fun x15=>?_)
   refine xR 5 krf (xs_endD krf (sN ⟨[1,3,5,6],[1,3,5,6],[],[]⟩ ⟨[(1, .ptr 1 0),(3, .ptr 3 0),(5, .ptr 5 0),(6, .ptr 6 0)],[(1, .box 24 (bxc (GNode.cs r1.1))),(3, .box 24 (bxc (GNode.cs r2.1))),(5, .box 24 (bxc (GNode.cs x13))),(6, .box 24 (bxc (GNode.cs x15)))]⟩ krf (sim_bind (fun j16=>⟨[(1, .ptr 1 0),(3, .ptr 3 0),(5, .ptr 5 0),(6, .ptr 6 0),(7,B j16)],[(1, .box 24 (bxc (GNode.cs r1.1))),(3, .box 24 (bxc (GNode.cs r2.1))),(5, .box 24 (bxc (GNode.cs x13))),(6, .box 24 (bxc (GNode.cs x15)))]⟩:Bool→St) ?_ ?_)))
   ·refine sG (xR 4 krf ?_)
    refine xS (eqI x13.Kind 2) (fun h17=>?_) (fun h17=>?_)
    ·refine xO (want_tt krf h17) krf (xR 4 krf ?_)
     refine xS (eqS x13.Name [99]) (fun h18=>?_) (fun h18=>?_)
     ·refine xO (want_tt krf h18) krf (xR 4 krf ?_)
      refine xS (eqI x13.N 2) (fun h19=>?_) (fun h19=>?_)
      ·refine xO (want_tt krf h19) krf (xR 4 krf ?_)
       refine xS (eqI x13.At 9) (fun h20=>?_) (fun h20=>?_)
       ·refine xO (want_tt krf h20) krf (xR 1 krf ?_)
        refine xG krf krf (aop_idxR (e:=24) (S:=5) (enc:=GNode.cs) (dec:=GNode.of) (l:=x13.Kids) (k:=.i64) (n:=0) (sv:=.p (.sl 5 (mI x13.Kids))) GNode.of_cs rfl krf krf krf krf krf) (fun x21=>?_)
        refine xR 5 krf ?_
        refine xS (eqI x21.At 17) (fun h22=>?_) (fun h22=>?_)
        ·refine xO (want_tt krf h22) krf (xR 1 krf ?_)
         refine xG krf krf (aop_idxR (e:=24) (S:=5) (enc:=GNode.cs) (dec:=GNode.of) (l:=x13.Kids) (k:=.i64) (n:=1) (sv:=.p (.sl 5 (mI x13.Kids))) GNode.of_cs rfl krf krf krf krf krf) (fun x23=>?_)
         refine xR 5 krf ?_
         refine xS (eqI x23.At 24) (fun h24=>?_) (fun h24=>?_)
         ·refine xO (want_tt krf h24) krf (xR 1 krf ?_)
          refine xG krf krf (aop_idxR (e:=24) (S:=5) (enc:=GNode.cs) (dec:=GNode.of) (l:=x13.Kids) (k:=.i64) (n:=1) (sv:=.p (.sl 5 (mI x13.Kids))) GNode.of_cs rfl krf krf krf krf krf) (fun x25=>?_)
          refine xR 5 krf (xE ?_)
          exact nq_n (eqS x25.Name [108,105,109,105,116]) ⟨[1,3,5,6,7],[1,3,5,6],[],[]⟩ krf
         ·refine xN (want_tf krf h24) krf (xR 7 krf (xE ?_))
          exact nq_n false ⟨[1,3,5,6,7],[1,3,5,6],[],[]⟩ krf
        ·refine xN (want_tf krf h22) krf (xR 15 krf (xE ?_))
         exact nq_n false ⟨[1,3,5,6,7],[1,3,5,6],[],[]⟩ krf
       ·refine xN (want_tf krf h20) krf (xR 23 krf (xE ?_))
        exact nq_n false ⟨[1,3,5,6,7],[1,3,5,6],[],[]⟩ krf
      ·refine xN (want_tf krf h19) krf (xR 28 krf (xE ?_))
       exact nq_n false ⟨[1,3,5,6,7],[1,3,5,6],[],[]⟩ krf
     ·refine xN (want_tf krf h18) krf (xR 33 krf (xE ?_))
      exact nq_n false ⟨[1,3,5,6,7],[1,3,5,6],[],[]⟩ krf
    ·refine xN (want_tf krf h17) krf (xR 38 krf (xE ?_))
     exact nq_n false ⟨[1,3,5,6,7],[1,3,5,6],[],[]⟩ krf
   ·rintro j16
    refine sim_bind (fun j26=>⟨[(1, .ptr 1 0),(3, .ptr 3 0),(5, .ptr 5 0),(7,B j26)],[(1, .box 24 (bxc (GNode.cs r1.1))),(3, .box 24 (bxc (GNode.cs r2.1))),(5, .box 24 (bxc (GNode.cs x13)))]⟩:Bool→St) ?_ ?_
    ·refine sG (xR 2 krf ?_)
     refine xS j16 (fun h27=>?_) (fun h27=>?_)
     ·refine xO (want_tt krf h27) krf (xR 1 krf ?_)
      refine xG krf krf (aop_idxR (e:=24) (S:=5) (enc:=GNode.cs) (dec:=GNode.of) (l:=x13.Kids) (k:=.i64) (n:=0) (sv:=.p (.sl 5 (mI x13.Kids))) GNode.of_cs rfl krf krf krf krf krf) (fun x28=>?_)
      refine xR 1 krf ?_
      refine xC [] krf (g_p_Strip_ok n x28) krf krf (fun _=>by kernel_rfl) (fun r29=>?_)
      refine xR 3 krf ?_
      refine xC [.id, .agg [.id, .id, .id, .id, .sl 5]] krf (g_ref02_Same_ok n r29 (⟨3,[102,114,111,109],0,0,[GNode.cs (⟨5,[102],0,0,[]⟩:GNode)]⟩:GNode)) krf krf (fun _=>by kernel_rfl) (fun r30=>?_)
      refine xR 2 krf ?_
      refine xS r30 (fun h31=>?_) (fun h31=>?_)
      ·refine xO (want_tt krf h31) krf (xR 4 krf ?_)
       refine xS (eqI x15.Kind 4) (fun h32=>?_) (fun h32=>?_)
       ·refine xO (want_tt krf h32) krf (xR 1 krf ?_)
        refine xG krf krf (aop_idxR (e:=24) (S:=5) (enc:=GNode.cs) (dec:=GNode.of) (l:=x15.Kids) (k:=.i64) (n:=0) (sv:=.p (.sl 5 (mI x15.Kids))) GNode.of_cs rfl krf krf krf krf krf) (fun x33=>?_)
        refine xR 5 krf ?_
        refine xS (eqI x33.N 30) (fun h34=>?_) (fun h34=>?_)
        ·refine xO (want_tt krf h34) krf (xR 1 krf ?_)
         refine xG krf krf (aop_idxR (e:=24) (S:=5) (enc:=GNode.cs) (dec:=GNode.of) (l:=x15.Kids) (k:=.i64) (n:=2) (sv:=.p (.sl 5 (mI x15.Kids))) GNode.of_cs rfl krf krf krf krf krf) (fun x35=>?_)
         refine xR 5 krf (xE ?_)
         exact nq_n (eqS x35.Name [119,111,114,107]) ⟨[1,3,5,7],[1,3,5],[],[]⟩ krf
        ·refine xN (want_tf krf h34) krf (xR 7 krf (xE ?_))
         exact nq_n false ⟨[1,3,5,7],[1,3,5],[],[]⟩ krf
       ·refine xN (want_tf krf h32) krf (xR 15 krf (xE ?_))
        exact nq_n false ⟨[1,3,5,7],[1,3,5],[],[]⟩ krf
      ·refine xN (want_tf krf h31) krf (xR 20 krf (xE ?_))
       exact nq_n false ⟨[1,3,5,7],[1,3,5],[],[]⟩ krf
     ·refine xN (want_tf krf h27) krf (xR 31 krf (xE ?_))
      exact nq_n false ⟨[1,3,5,7],[1,3,5],[],[]⟩ krf
    ·rintro j26
     refine sim_bind (fun j36=>⟨[(0,B j36)],[]⟩:Bool→St) ?_ ?_
     ·refine sG (xR 2 krf ?_)
      refine xS j26 (fun h37=>?_) (fun h37=>?_)
      ·refine xO (want_tt krf h37) krf ?_
       refine xC [.id, .sl 1] krf (g_law02_gives_ok n [111,119,110,101,114,59,32,98,97,121,32,98,32,99,104,97,114,103,101,114] [5,20]) krf krf (fun _=>by kernel_rfl) (fun r38=>?_)
       refine xR 2 krf ?_
       refine xS r38 (fun h39=>?_) (fun h39=>?_)
       ·refine xO (want_tt krf h39) krf ?_
        refine xC [.id, .sl 1] krf (g_law02_gives_ok n [116,97,114,105,102,102,32,116,32,123,32,120,32,51,59,32,99,97,112,32,53,59,32,125,32,111,119,110,101,114,32,111] [11,32]) krf krf (fun _=>by kernel_rfl) (fun r40=>?_)
        refine xR 2 krf ?_
        refine xS r40 (fun h41=>?_) (fun h41=>?_)
        ·refine xO (want_tt krf h41) krf ?_
         refine xC [] krf (g_p_Valid_ok n r1.1) krf krf (fun _=>by kernel_rfl) (fun r42=>?_)
         refine xR 2 krf ?_
         refine xS r42 (fun h43=>?_) (fun h43=>?_)
         ·refine xO (want_tt krf h43) krf ?_
          refine xC [] krf (g_p_Valid_ok n r2.1) krf krf (fun _=>by kernel_rfl) (fun r44=>?_)
          refine xR 2 krf ?_
          refine xS r44 (fun h45=>?_) (fun h45=>?_)
          ·refine xO (want_tt krf h45) krf ?_
           refine xC [] krf (g_p_Valid_ok n x13) krf krf (fun _=>by kernel_rfl) (fun r46=>?_)
           refine xR 3 krf (xE ?_)
           exact nq_n (!r46) ⟨[0],[],[],[]⟩ krf
          ·refine xN (want_tf krf h45) krf (xR 4 krf (xE ?_))
           exact nq_n false ⟨[0],[],[],[]⟩ krf
         ·refine xN (want_tf krf h43) krf (xR 8 krf (xE ?_))
          exact nq_n false ⟨[0],[],[],[]⟩ krf
        ·refine xN (want_tf krf h41) krf (xR 12 krf (xE ?_))
         exact nq_n false ⟨[0],[],[],[]⟩ krf
       ·refine xN (want_tf krf h39) krf (xR 16 krf (xE ?_))
        exact nq_n false ⟨[0],[],[],[]⟩ krf
      ·refine xN (want_tf krf h37) krf (xR 20 krf (xE ?_))
       exact nq_n false ⟨[0],[],[],[]⟩ krf
     ·rintro j36
      refine sT ?_
      exact qR (.id) krf krf krf
def g_ref01_Gap_l1 (a0s:List UInt8) (recl1:(Int × Bool)→Option Int) (l1_1:Int) (l1_2:Bool):Option Int :=
 cond (ltI l1_1 (lenI a0s))
  ((getI a0s l1_1).bind fun x2 =>
  (cond (eqI (b2i x2) 35)
   (some true)
   (some l1_2)).bind fun j3 =>
  (cond (eqI (b2i x2) 10)
   (some false)
   (some j3)).bind fun j4 =>
  (cond (!j4)
   (cond (!eqI (b2i x2) 32)
    (cond (!eqI (b2i x2) 9)
     (some (!eqI (b2i x2) 10))
     (some false))
    (some false))
   (some false)).bind fun j5 =>
  cond j5
   (some l1_1)
   (recl1 (wi (l1_1+1),j4)))
  (some l1_1)
def g_ref01_Gap (n:Nat) (a0s:List UInt8) (a1at:Int):Option Int :=
 loopN (fun recl1 (l1_1,l1_2)=>g_ref01_Gap_l1 a0s recl1 l1_1 l1_2) n (a1at,false)
theorem g_ref01_Gap_ok (n:Nat) (a0s:List UInt8) (a1at:Int):∀ r,g_ref01_Gap n a0s a1at=some r→PCall Try.prog 47 [S a0s,I a1at] (.ret (I r)):=by
 refine pcall_sim (X:=fun r:Int=>AEnd.ret (I r)) Try.func47 rfl Try.ntmps47 rfl ?_
 unfold g_ref01_Gap
 refine sR tfm ⟨[0,1],[],[],[]⟩ ⟨[(0,S a0s),(1,I a1at)],[]⟩ krf (sR tfm ⟨[0,1,5],[],[],[]⟩ ⟨[(0,S a0s),(1,I a1at),(5,B false)],[]⟩ krf (sS (sB (sim_loop (fun (l1_1,l1_2)=>⟨[(0,S a0s),(1,I l1_1),(5,B l1_2)],[]⟩:(Int × Bool)→St) (weak_shr (K:=⟨[0,1,5],[],[],[]⟩) krf) ?_))))
 rintro recl1 ⟨l1_1,l1_2⟩
 show SimE (g_ref01_Gap_l1 a0s recl1 l1_1 l1_2) _ _ _ _ _ _
 unfold g_ref01_Gap_l1
 refine sS (sR tfm ⟨[0,1,5,10],[],[],[]⟩ ⟨[(0,S a0s),(1,I l1_1),(5,B l1_2),(10,B (ltI l1_1 (lenI a0s)))],[]⟩ krf (sC (ltI l1_1 (lenI a0s)) krf ?_ ?_))
 ·refine sK (sN ⟨[0,1,5],[],[],[]⟩ ⟨[(0,S a0s),(1,I l1_1),(5,B l1_2)],[]⟩ krf (sB (sS (sG (xR 2 krf ?_)))))
  refine xG krf krf (aop_sidx (l:=a0s) (k:=.i64) (n:=l1_1) rfl krf krf krf) (fun x2=>?_)
  refine xR 1 krf (xE (sN ⟨[0,1,5,6],[],[],[]⟩ ⟨[(0,S a0s),(1,I l1_1),(5,B l1_2),(6,B8 (b2i x2))],[]⟩ krf (sim_bind (fun j3=>⟨[(0,S a0s),(1,I l1_1),(5,B j3),(6,B8 (b2i x2))],[]⟩:Bool→St) ?_ ?_)))
  ·refine sR tfm ⟨[0,1,5,6,15],[],[],[]⟩ ⟨[(0,S a0s),(1,I l1_1),(5,B l1_2),(6,B8 (b2i x2)),(15,B (eqI (b2i x2) 35))],[]⟩ krf (sC (eqI (b2i x2) 35) krf ?_ ?_)
   ·refine sL tfm krf ?_
    exact nq_n true ⟨[0,1,5,6],[],[],[]⟩ krf
   ·refine sK ?_
    exact nq_n l1_2 ⟨[0,1,5,6],[],[],[]⟩ krf
  ·rintro j3
   refine sim_bind (fun j4=>⟨[(0,S a0s),(1,I l1_1),(5,B j4),(6,B8 (b2i x2))],[]⟩:Bool→St) ?_ ?_
   ·refine sR tfm ⟨[0,1,5,6,17],[],[],[]⟩ ⟨[(0,S a0s),(1,I l1_1),(5,B j3),(6,B8 (b2i x2)),(17,B (eqI (b2i x2) 10))],[]⟩ krf (sC (eqI (b2i x2) 10) krf ?_ ?_)
    ·refine sL tfm krf ?_
     exact nq_n false ⟨[0,1,5,6],[],[],[]⟩ krf
    ·refine sK ?_
     exact nq_n j3 ⟨[0,1,5,6],[],[],[]⟩ krf
   ·rintro j4
    refine sS (sim_bind (fun j5=>⟨[(0,S a0s),(1,I l1_1),(5,B j4),(31,B j5)],[]⟩:Bool→St) ?_ ?_)
    ·refine sG (xR 3 krf ?_)
     refine xS (!j4) (fun h6=>?_) (fun h6=>?_)
     ·refine xO (want_tt krf h6) krf (xR 3 krf ?_)
      refine xS (!eqI (b2i x2) 32) (fun h7=>?_) (fun h7=>?_)
      ·refine xO (want_tt krf h7) krf (xR 3 krf ?_)
       refine xS (!eqI (b2i x2) 9) (fun h8=>?_) (fun h8=>?_)
       ·refine xO (want_tt krf h8) krf (xR 2 krf (xE ?_))
        exact nq_n (!eqI (b2i x2) 10) ⟨[0,1,5,31],[],[],[]⟩ krf
       ·refine xN (want_tf krf h8) krf (xR 2 krf (xE ?_))
        exact nq_n false ⟨[0,1,5,31],[],[],[]⟩ krf
      ·refine xN (want_tf krf h7) krf (xR 6 krf (xE ?_))
       exact nq_n false ⟨[0,1,5,31],[],[],[]⟩ krf
     ·refine xN (want_tf krf h6) krf (xR 10 krf (xE ?_))
      exact nq_n false ⟨[0,1,5,31],[],[],[]⟩ krf
    ·rintro j5
     refine sC j5 krf ?_ ?_
     ·refine sR tfm ⟨[4],[],[],[]⟩ ⟨[(4,I l1_1)],[]⟩ krf (sT (sq_r (bq_r (kq_r (bq_r (sq_r ?_))))))
      exact qR (.id) krf krf krf
     ·refine sK (sN ⟨[0,1,5],[],[],[]⟩ ⟨[(0,S a0s),(1,I l1_1),(5,B j4)],[]⟩ krf (sL tfm krf (bq_n ?_)))
      exact kq_n (wi (l1_1+1),j4) ⟨[0,1,5],[],[],[]⟩ krf
 ·refine sim_exit (sq_x (kq_x (bq_hit (sN ⟨[1],[],[],[]⟩ ⟨[(1,I l1_1)],[]⟩ krf (sR tfm ⟨[4],[],[],[]⟩ ⟨[(4,I l1_1)],[]⟩ krf (sT ?_))))))
  exact qR (.id) krf krf krf
def g_ref01_Letter (n:Nat) (a0c:Int):Option Bool :=
 cond (leI 97 a0c)
  (some (leI a0c 122))
  (some false)
theorem g_ref01_Letter_ok (n:Nat) (a0c:Int):∀ r,g_ref01_Letter n a0c=some r→PCall Try.prog 77 [B8 a0c] (.ret (B r)):=by
 refine pcall_sim (X:=fun r:Bool=>AEnd.ret (B r)) Try.func77 rfl Try.ntmps77 rfl ?_
 unfold g_ref01_Letter
 refine sR tfm ⟨[0],[],[],[]⟩ ⟨[(0,B8 a0c)],[]⟩ krf (sS (sG (xR 3 krf ?_)))
 refine xS (leI 97 a0c) (fun h1=>?_) (fun h1=>?_)
 ·refine xO (want_tt krf h1) krf (xR 3 krf (xE (sN ⟨[2],[],[],[]⟩ ⟨[(2,B (leI a0c 122))],[]⟩ krf (sT ?_))))
  exact qR (.id) krf krf krf
 ·refine xN (want_tf krf h1) krf (xR 3 krf (xE (sN ⟨[2],[],[],[]⟩ ⟨[(2,B false)],[]⟩ krf (sT ?_))))
  exact qR (.id) krf krf krf
def g_ref01_Digit (n:Nat) (a0c:Int):Option Bool :=
 cond (leI 48 a0c)
  (some (leI a0c 57))
  (some false)
theorem g_ref01_Digit_ok (n:Nat) (a0c:Int):∀ r,g_ref01_Digit n a0c=some r→PCall Try.prog 78 [B8 a0c] (.ret (B r)):=by
 refine pcall_sim (X:=fun r:Bool=>AEnd.ret (B r)) Try.func78 rfl Try.ntmps78 rfl ?_
 unfold g_ref01_Digit
 refine sR tfm ⟨[0],[],[],[]⟩ ⟨[(0,B8 a0c)],[]⟩ krf (sS (sG (xR 3 krf ?_)))
 refine xS (leI 48 a0c) (fun h1=>?_) (fun h1=>?_)
 ·refine xO (want_tt krf h1) krf (xR 3 krf (xE (sN ⟨[2],[],[],[]⟩ ⟨[(2,B (leI a0c 57))],[]⟩ krf (sT ?_))))
  exact qR (.id) krf krf krf
 ·refine xN (want_tf krf h1) krf (xR 3 krf (xE (sN ⟨[2],[],[],[]⟩ ⟨[(2,B false)],[]⟩ krf (sT ?_))))
  exact qR (.id) krf krf krf
def g_ref01_End_l6 (n:Nat) (a0s:List UInt8) (recl6:Int→Option Int) (l6:Int):Option Int :=
 (cond (ltI l6 (lenI a0s))
  ((getI a0s l6).bind fun x9 =>
  (g_ref01_Letter n (b2i x9)).bind fun r10 =>
  cond r10
   (some true)
   ((getI a0s l6).bind fun x12 =>
   (g_ref01_Digit n (b2i x12)).bind fun r13 =>
   cond r13
    (some true)
    ((getI a0s l6).bind fun x15 =>
    some (eqI (b2i x15) 95))))
  (some false)).bind fun j7 =>
 cond j7
  (recl6 (wi (l6+1)))
  (some l6)
def g_ref01_End_l17 (n:Nat) (a0s:List UInt8) (recl17:Int→Option Int) (l17:Int):Option Int :=
 (cond (ltI l17 (lenI a0s))
  ((getI a0s l17).bind fun x20 =>
  (g_ref01_Digit n (b2i x20)).bind fun r21 =>
  some r21)
  (some false)).bind fun j18 =>
 cond j18
  (recl17 (wi (l17+1)))
  (some l17)
def g_ref01_End (n:Nat) (a0s:List UInt8) (a1at:Int):Option Int :=
 cond (leI (lenI a0s) a1at)
  (some a1at)
  ((getI a0s a1at).bind fun x1 =>
  (cond (eqI (b2i x1) 59)
   (some true)
   (cond (eqI (b2i x1) 123)
    (some true)
    (some (eqI (b2i x1) 125)))).bind fun j2 =>
  cond j2
   (some (wi (a1at+1)))
   ((g_ref01_Letter n (b2i x1)).bind fun r5 =>
   cond r5
    (loopN (fun recl6 l6=>g_ref01_End_l6 n a0s recl6 l6) n a1at)
    ((g_ref01_Digit n (b2i x1)).bind fun r16 =>
    cond r16
     (loopN (fun recl17 l17=>g_ref01_End_l17 n a0s recl17 l17) n a1at)
     (some a1at))))
theorem g_ref01_End_ok (n:Nat) (a0s:List UInt8) (a1at:Int):∀ r,g_ref01_End n a0s a1at=some r→PCall Try.prog 48 [S a0s,I a1at] (.ret (I r)):=by
 refine pcall_sim (X:=fun r:Int=>AEnd.ret (I r)) Try.func48 rfl Try.ntmps48 rfl ?_
 unfold g_ref01_End
 refine sR tfm ⟨[0,1],[],[],[]⟩ ⟨[(0,S a0s),(1,I a1at)],[]⟩ krf (sS (sR tfm ⟨[0,1,10],[],[],[]⟩ ⟨[(0,S a0s),(1,I a1at),(10,B (leI (lenI a0s) a1at))],[]⟩ krf (sC (leI (lenI a0s) a1at) krf ?_ ?_)))
 ·refine sR tfm ⟨[4],[],[],[]⟩ ⟨[(4,I a1at)],[]⟩ krf (sT (sq_r ?_))
  exact qR (.id) krf krf krf
 ·refine sK (sN ⟨[0,1],[],[],[]⟩ ⟨[(0,S a0s),(1,I a1at)],[]⟩ krf (sS (sG (xR 2 krf ?_))))
  refine xG krf krf (aop_sidx (l:=a0s) (k:=.i64) (n:=a1at) rfl krf krf krf) (fun x1=>?_)
  refine xR 1 krf (xE (sN ⟨[0,1,5],[],[],[]⟩ ⟨[(0,S a0s),(1,I a1at),(5,B8 (b2i x1))],[]⟩ krf (sS (sim_bind (fun j2=>⟨[(0,S a0s),(1,I a1at),(5,B8 (b2i x1)),(24,B j2)],[]⟩:Bool→St) ?_ ?_))))
  ·refine sG (xR 3 krf ?_)
   refine xS (eqI (b2i x1) 59) (fun h3=>?_) (fun h3=>?_)
   ·refine xN (want_ft krf h3) krf (xR 6 krf (xE ?_))
    exact nq_n true ⟨[0,1,5,24],[],[],[]⟩ krf
   ·refine xO (want_ff krf h3) krf (xR 3 krf ?_)
    refine xS (eqI (b2i x1) 123) (fun h4=>?_) (fun h4=>?_)
    ·refine xN (want_ft krf h4) krf (xR 2 krf (xE ?_))
     exact nq_n true ⟨[0,1,5,24],[],[],[]⟩ krf
    ·refine xO (want_ff krf h4) krf (xR 2 krf (xE ?_))
     exact nq_n (eqI (b2i x1) 125) ⟨[0,1,5,24],[],[],[]⟩ krf
  ·rintro j2
   refine sC j2 krf ?_ ?_
   ·refine sR tfm ⟨[4],[],[],[]⟩ ⟨[(4,I (wi (a1at+1)))],[]⟩ krf (sT (sq_r ?_))
    exact qR (.id) krf krf krf
   ·refine sK (sN ⟨[0,1,5],[],[],[]⟩ ⟨[(0,S a0s),(1,I a1at),(5,B8 (b2i x1))],[]⟩ krf (sR tfm ⟨[0,5,6],[],[],[]⟩ ⟨[(0,S a0s),(5,B8 (b2i x1)),(6,I a1at)],[]⟩ krf (sS (sS (sG (xR 1 krf ?_))))))
    refine xC [] krf (g_ref01_Letter_ok n (b2i x1)) krf krf (fun _=>by kernel_rfl) (fun r5=>?_)
    refine xE (sN ⟨[0,5,6,29],[],[],[]⟩ ⟨[(0,S a0s),(5,B8 (b2i x1)),(6,I a1at),(29,B r5)],[]⟩ krf (sC r5 krf ?_ ?_))
    ·refine sB (sim_loop (fun l6=>⟨[(0,S a0s),(6,I l6)],[]⟩:Int→St) (weak_shr (K:=⟨[0,6],[],[],[]⟩) krf) ?_)
     rintro recl6 l6
     show SimE (g_ref01_End_l6 n a0s recl6 l6) _ _ _ _ _ _
     unfold g_ref01_End_l6
     refine sS (sim_bind (fun j7=>⟨[(0,S a0s),(6,I l6),(51,B j7)],[]⟩:Bool→St) ?_ ?_)
     ·refine sG (xR 5 krf ?_)
      refine xS (ltI l6 (lenI a0s)) (fun h8=>?_) (fun h8=>?_)
      ·refine xO (want_tt krf h8) krf (xR 1 krf ?_)
       refine xG krf krf (aop_sidx (l:=a0s) (k:=.i64) (n:=l6) rfl krf krf krf) (fun x9=>?_)
       refine xC [] krf (g_ref01_Letter_ok n (b2i x9)) krf krf (fun _=>by kernel_rfl) (fun r10=>?_)
       refine xR 1 krf ?_
       refine xS r10 (fun h11=>?_) (fun h11=>?_)
       ·refine xN (want_ft krf h11) krf (xR 11 krf (xE ?_))
        exact nq_n true ⟨[0,6,51],[],[],[]⟩ krf
       ·refine xO (want_ff krf h11) krf (xR 1 krf ?_)
        refine xG krf krf (aop_sidx (l:=a0s) (k:=.i64) (n:=l6) rfl krf krf krf) (fun x12=>?_)
        refine xC [] krf (g_ref01_Digit_ok n (b2i x12)) krf krf (fun _=>by kernel_rfl) (fun r13=>?_)
        refine xR 2 krf ?_
        refine xS r13 (fun h14=>?_) (fun h14=>?_)
        ·refine xN (want_ft krf h14) krf (xR 5 krf (xE ?_))
         exact nq_n true ⟨[0,6,51],[],[],[]⟩ krf
        ·refine xO (want_ff krf h14) krf (xR 1 krf ?_)
         refine xG krf krf (aop_sidx (l:=a0s) (k:=.i64) (n:=l6) rfl krf krf krf) (fun x15=>?_)
         refine xR 3 krf (xE ?_)
         exact nq_n (eqI (b2i x15) 95) ⟨[0,6,51],[],[],[]⟩ krf
      ·refine xN (want_tf krf h8) krf (xR 16 krf (xE ?_))
       exact nq_n false ⟨[0,6,51],[],[],[]⟩ krf
     ·rintro j7
      refine sC j7 krf ?_ ?_
      ·refine sK (sN ⟨[0,6],[],[],[]⟩ ⟨[(0,S a0s),(6,I l6)],[]⟩ krf (sB (sL tfm krf (bq_n ?_))))
       exact kq_n (wi (l6+1)) ⟨[0,6],[],[],[]⟩ krf
      ·refine sim_exit (sq_x (kq_x (bq_hit (sN ⟨[6],[],[],[]⟩ ⟨[(6,I l6)],[]⟩ krf (sR tfm ⟨[4],[],[],[]⟩ ⟨[(4,I l6)],[]⟩ krf (sT ?_))))))
       exact qR (.id) krf krf krf
    ·refine sS (sG (xR 1 krf ?_))
     refine xC [] krf (g_ref01_Digit_ok n (b2i x1)) krf krf (fun _=>by kernel_rfl) (fun r16=>?_)
     refine xE (sN ⟨[0,6,55],[],[],[]⟩ ⟨[(0,S a0s),(6,I a1at),(55,B r16)],[]⟩ krf (sC r16 krf ?_ ?_))
     ·refine sB (sim_loop (fun l17=>⟨[(0,S a0s),(6,I l17)],[]⟩:Int→St) (weak_shr (K:=⟨[0,6],[],[],[]⟩) krf) ?_)
      rintro recl17 l17
      show SimE (g_ref01_End_l17 n a0s recl17 l17) _ _ _ _ _ _
      unfold g_ref01_End_l17
      refine sS (sim_bind (fun j18=>⟨[(0,S a0s),(6,I l17),(65,B j18)],[]⟩:Bool→St) ?_ ?_)
      ·refine sG (xR 5 krf ?_)
       refine xS (ltI l17 (lenI a0s)) (fun h19=>?_) (fun h19=>?_)
       ·refine xO (want_tt krf h19) krf (xR 1 krf ?_)
        refine xG krf krf (aop_sidx (l:=a0s) (k:=.i64) (n:=l17) rfl krf krf krf) (fun x20=>?_)
        refine xC [] krf (g_ref01_Digit_ok n (b2i x20)) krf krf (fun _=>by kernel_rfl) (fun r21=>?_)
        refine xR 1 krf (xE ?_)
        exact nq_n r21 ⟨[0,6,65],[],[],[]⟩ krf
       ·refine xN (want_tf krf h19) krf (xR 4 krf (xE ?_))
        exact nq_n false ⟨[0,6,65],[],[],[]⟩ krf
      ·rintro j18
       refine sC j18 krf ?_ ?_
       ·refine sK (sN ⟨[0,6],[],[],[]⟩ ⟨[(0,S a0s),(6,I l17)],[]⟩ krf (sB (sL tfm krf (bq_n ?_))))
        exact kq_n (wi (l17+1)) ⟨[0,6],[],[],[]⟩ krf
       ·refine sim_exit (sq_x (kq_x (bq_hit (sN ⟨[6],[],[],[]⟩ ⟨[(6,I l17)],[]⟩ krf (sR tfm ⟨[4],[],[],[]⟩ ⟨[(4,I l17)],[]⟩ krf (sT ?_))))))
        exact qR (.id) krf krf krf
     ·refine sK (sN ⟨[6],[],[],[]⟩ ⟨[(6,I a1at)],[]⟩ krf (sR tfm ⟨[4],[],[],[]⟩ ⟨[(4,I a1at)],[]⟩ krf (sT ?_)))
      exact qR (.id) krf krf krf
def g_ref01_Token_l6 (a0text:List UInt8) (recl6:(Int × Int)→Option (GTk × Int)) (l6_1:Int) (l6_2:Int):Option (GTk × Int) :=
 cond (ltI l6_2 (lenI a0text))
  ((getI a0text l6_2).bind fun x7 =>
  cond (ltI 1000000 (wi ((wi (10 * l6_1))+(wi (w8 ((b2i x7) - 48))))))
   (some ((⟨0,[],0,0⟩:GTk),3))
   (recl6 (wi ((wi (10 * l6_1))+(wi (w8 ((b2i x7) - 48)))),wi (l6_2+1))))
  (some ((⟨2,[],l6_1,0⟩:GTk),0))
def g_ref01_Token (n:Nat) (a0text:List UInt8):Option (GTk × Int) :=
 (getI a0text 0).bind fun x1 =>
 (g_ref01_Letter n (b2i x1)).bind fun r2 =>
 cond r2
  (cond (ltI 12 (lenI a0text))
   (some ((⟨0,[],0,0⟩:GTk),3))
   (some ((⟨1,a0text,0,0⟩:GTk),0)))
  ((g_ref01_Digit n (b2i x1)).bind fun r3 =>
  cond (!r3)
   (some ((⟨3,a0text,0,0⟩:GTk),0))
   ((cond (ltI 1 (lenI a0text))
    (some (eqI (b2i x1) 48))
    (some false)).bind fun j4 =>
   cond j4
    (some ((⟨0,[],0,0⟩:GTk),7))
    (loopN (fun recl6 (l6_1,l6_2)=>g_ref01_Token_l6 a0text recl6 l6_1 l6_2) n (0,0))))
theorem g_ref01_Token_ok (n:Nat) (a0text:List UInt8):∀ r,g_ref01_Token n a0text=some r→PCall Try.prog 49 [S a0text] (.ret (.tup [ag (GTk.cs r.1),I r.2])):=by
 refine pcall_sim (X:=fun r:GTk × Int=>AEnd.ret (.tup [ag (GTk.cs r.1),I r.2])) Try.func49 rfl Try.ntmps49 rfl ?_
 unfold g_ref01_Token
 refine sR tfm ⟨[0,2],[2],[],[]⟩ ⟨[(0,S a0text),(2, .ptr 2 0)],[(2, .box 56 [I 0,S [],I 0,I 0])]⟩ krf (sS (sG (xR 1 krf ?_)))
 refine xG krf krf (aop_sidx (l:=a0text) (k:=.i64) (n:=0) rfl krf krf krf) (fun x1=>?_)
 refine xR 1 krf (xE (sN ⟨[0,2,4],[2],[],[]⟩ ⟨[(0,S a0text),(2, .ptr 2 0),(4,B8 (b2i x1))],[(2, .box 56 [I 0,S [],I 0,I 0])]⟩ krf (sS (sS (sG (xR 1 krf ?_))))))
 refine xC [] krf (g_ref01_Letter_ok n (b2i x1)) krf krf (fun _=>by kernel_rfl) (fun r2=>?_)
 refine xE (sN ⟨[0,2,4,10],[2],[],[]⟩ ⟨[(0,S a0text),(2, .ptr 2 0),(4,B8 (b2i x1)),(10,B r2)],[(2, .box 56 [I 0,S [],I 0,I 0])]⟩ krf (sC r2 krf ?_ ?_))
 ·refine sS (sR tfm ⟨[0,2,13],[2],[],[]⟩ ⟨[(0,S a0text),(2, .ptr 2 0),(13,B (ltI 12 (lenI a0text)))],[(2, .box 56 [I 0,S [],I 0,I 0])]⟩ krf (sC (ltI 12 (lenI a0text)) krf ?_ ?_))
  ·refine sR tfm ⟨[2,3],[2],[],[]⟩ ⟨[(2, .ptr 2 0),(3,I 3)],[(2, .box 56 [I 0,S [],I 0,I 0])]⟩ krf (sT (sq_r (sq_r ?_)))
   exact qR (.id) krf krf krf
  ·refine sK (sN ⟨[0,2],[2],[],[]⟩ ⟨[(0,S a0text),(2, .ptr 2 0)],[(2, .box 56 [I 0,S [],I 0,I 0])]⟩ krf (sR tfm ⟨[2,3],[2],[],[]⟩ ⟨[(2, .ptr 2 0),(3,I 0)],[(2, .box 56 [I 1,S a0text,I 0,I 0])]⟩ krf (sT (sq_r ?_))))
   exact qR (.id) krf krf krf
 ·refine sK (sN ⟨[0,2,4],[2],[],[]⟩ ⟨[(0,S a0text),(2, .ptr 2 0),(4,B8 (b2i x1))],[(2, .box 56 [I 0,S [],I 0,I 0])]⟩ krf (sS (sS (sG (xR 1 krf ?_)))))
  refine xC [] krf (g_ref01_Digit_ok n (b2i x1)) krf krf (fun _=>by kernel_rfl) (fun r3=>?_)
  refine xR 1 krf (xE (sN ⟨[0,2,4,19],[2],[],[]⟩ ⟨[(0,S a0text),(2, .ptr 2 0),(4,B8 (b2i x1)),(19,B (!r3))],[(2, .box 56 [I 0,S [],I 0,I 0])]⟩ krf (sC (!r3) krf ?_ ?_)))
  ·refine sR tfm ⟨[2,3],[2],[],[]⟩ ⟨[(2, .ptr 2 0),(3,I 0)],[(2, .box 56 [I 3,S a0text,I 0,I 0])]⟩ krf (sT (sq_r ?_))
   exact qR (.id) krf krf krf
  ·refine sK (sN ⟨[0,2,4],[2],[],[]⟩ ⟨[(0,S a0text),(2, .ptr 2 0),(4,B8 (b2i x1))],[(2, .box 56 [I 0,S [],I 0,I 0])]⟩ krf (sS (sim_bind (fun j4=>⟨[(0,S a0text),(2, .ptr 2 0),(28,B j4)],[(2, .box 56 [I 0,S [],I 0,I 0])]⟩:Bool→St) ?_ ?_)))
   ·refine sG (xR 4 krf ?_)
    refine xS (ltI 1 (lenI a0text)) (fun h5=>?_) (fun h5=>?_)
    ·refine xO (want_tt krf h5) krf (xR 2 krf (xE ?_))
     exact nq_n (eqI (b2i x1) 48) ⟨[0,2,28],[2],[],[]⟩ krf
    ·refine xN (want_tf krf h5) krf (xR 2 krf (xE ?_))
     exact nq_n false ⟨[0,2,28],[2],[],[]⟩ krf
   ·rintro j4
    refine sC j4 krf ?_ ?_
    ·refine sR tfm ⟨[2,3],[2],[],[]⟩ ⟨[(2, .ptr 2 0),(3,I 7)],[(2, .box 56 [I 0,S [],I 0,I 0])]⟩ krf (sT (sq_r ?_))
     exact qR (.id) krf krf krf
    ·refine sK (sN ⟨[0,2],[2],[],[]⟩ ⟨[(0,S a0text),(2, .ptr 2 0)],[(2, .box 56 [I 0,S [],I 0,I 0])]⟩ krf (sR tfm ⟨[0,2,5],[2],[],[]⟩ ⟨[(0,S a0text),(2, .ptr 2 0),(5,I 0)],[(2, .box 56 [I 0,S [],I 0,I 0])]⟩ krf (sS (sR tfm ⟨[0,2,5,6],[2],[],[]⟩ ⟨[(0,S a0text),(2, .ptr 2 0),(5,I 0),(6,I 0)],[(2, .box 56 [I 0,S [],I 0,I 0])]⟩ krf (sB (sim_loop (fun (l6_1,l6_2)=>⟨[(0,S a0text),(2, .ptr 2 0),(5,I l6_1),(6,I l6_2)],[(2, .box 56 [I 0,S [],I 0,I 0])]⟩:(Int × Int)→St) (weak_shr (K:=⟨[0,2,5,6],[2],[],[]⟩) krf) ?_))))))
     rintro recl6 ⟨l6_1,l6_2⟩
     show SimE (g_ref01_Token_l6 a0text recl6 l6_1 l6_2) _ _ _ _ _ _
     unfold g_ref01_Token_l6
     refine sS (sR tfm ⟨[0,2,5,6,33],[2],[],[]⟩ ⟨[(0,S a0text),(2, .ptr 2 0),(5,I l6_1),(6,I l6_2),(33,B (ltI l6_2 (lenI a0text)))],[(2, .box 56 [I 0,S [],I 0,I 0])]⟩ krf (sC (ltI l6_2 (lenI a0text)) krf ?_ ?_))
     ·refine sK (sN ⟨[0,2,5,6],[2],[],[]⟩ ⟨[(0,S a0text),(2, .ptr 2 0),(5,I l6_1),(6,I l6_2)],[(2, .box 56 [I 0,S [],I 0,I 0])]⟩ krf (sS (sB (sS (sG (xR 4 krf ?_))))))
      refine xG krf krf (aop_sidx (l:=a0text) (k:=.i64) (n:=l6_2) rfl krf krf krf) (fun x7=>?_)
      refine xR 4 krf (xE (sN ⟨[0,2,5,6],[2],[],[]⟩ ⟨[(0,S a0text),(2, .ptr 2 0),(5,I (wi ((wi (10 * l6_1))+(wi (w8 ((b2i x7) - 48)))))),(6,I l6_2)],[(2, .box 56 [I 0,S [],I 0,I 0])]⟩ krf (sR tfm ⟨[0,2,5,6,45],[2],[],[]⟩ ⟨[(0,S a0text),(2, .ptr 2 0),(5,I (wi ((wi (10 * l6_1))+(wi (w8 ((b2i x7) - 48)))))),(6,I l6_2),(45,B (ltI 1000000 (wi ((wi (10 * l6_1))+(wi (w8 ((b2i x7) - 48)))))))],[(2, .box 56 [I 0,S [],I 0,I 0])]⟩ krf (sC (ltI 1000000 (wi ((wi (10 * l6_1))+(wi (w8 ((b2i x7) - 48)))))) krf ?_ ?_))))
      ·refine sR tfm ⟨[2,3],[2],[],[]⟩ ⟨[(2, .ptr 2 0),(3,I 3)],[(2, .box 56 [I 0,S [],I 0,I 0])]⟩ krf (sT (bq_r (sq_r (kq_r (bq_r (sq_r ?_))))))
       exact qR (.id) krf krf krf
      ·refine sK (bq_n (sN ⟨[0,2,5,6],[2],[],[]⟩ ⟨[(0,S a0text),(2, .ptr 2 0),(5,I (wi ((wi (10 * l6_1))+(wi (w8 ((b2i x7) - 48)))))),(6,I l6_2)],[(2, .box 56 [I 0,S [],I 0,I 0])]⟩ krf (sL tfm krf ?_)))
       exact kq_n (wi ((wi (10 * l6_1))+(wi (w8 ((b2i x7) - 48)))),wi (l6_2+1)) ⟨[0,2,5,6],[2],[],[]⟩ krf
     ·refine sim_exit (sq_x (kq_x (bq_hit (sN ⟨[2,5],[2],[],[]⟩ ⟨[(2, .ptr 2 0),(5,I l6_1)],[(2, .box 56 [I 0,S [],I 0,I 0])]⟩ krf (sR tfm ⟨[2,3],[2],[],[]⟩ ⟨[(2, .ptr 2 0),(3,I 0)],[(2, .box 56 [I 2,S [],I l6_1,I 0])]⟩ krf (sT ?_))))))
      exact qR (.id) krf krf krf
def g_ref01_Lex_l2 (n:Nat) (a0z:List UInt8) (recl2:((List GTk) × Int)→Option ((List GTk) × Int × Int)) (l2_1:List GTk) (l2_2:Int):Option ((List GTk) × Int × Int) :=
 cond (ltI l2_2 (lenI a0z))
  (cond (eqI (lenI (List.map GTk.cs l2_1)) 2000)
   (some ([],2,l2_2))
   ((g_ref01_End n a0z l2_2).bind fun r3 =>
   cond (eqI r3 l2_2)
    (some ([],7,l2_2))
    (cond (sliceB l2_2 r3 (List.length a0z)) (
     (g_ref01_Token n (List.drop (Int.toNat l2_2) (List.take (Int.toNat r3) a0z))).bind fun r4 =>
     cond (!eqI r4.2 0)
      (some ([],r4.2,l2_2))
      (cond (roomB (List.length (l2_1++[(⟨r4.1.Kind,r4.1.Text,r4.1.N,l2_2⟩:GTk)])) 40) (
       (g_ref01_Gap n a0z r3).bind fun r5 =>
       recl2 (l2_1++[(⟨r4.1.Kind,r4.1.Text,r4.1.N,l2_2⟩:GTk)],r5)) none)) none)))
  (some (l2_1,0,0))
def g_ref01_Lex (n:Nat) (a0z:List UInt8):Option ((List GTk) × Int × Int) :=
 cond (ltI 8000 (lenI a0z))
  (some ([],2,0))
  ((g_ref01_Gap n a0z 0).bind fun r1 =>
  loopN (fun recl2 (l2_1,l2_2)=>g_ref01_Lex_l2 n a0z recl2 l2_1 l2_2) n ([],r1))
theorem g_ref01_Lex_ok (n:Nat) (a0z:List UInt8):∀ r,g_ref01_Lex n a0z=some r→PCall Try.prog 26 [S a0z] (.ret (.tup [.p (.sl 4 (mTk r.1)),I r.2.1,I r.2.2])):=by
 refine pcall_sim (X:=fun r:(List GTk) × Int × Int=>AEnd.ret (.tup [.p (.sl 4 (mTk r.1)),I r.2.1,I r.2.2])) Try.func26 rfl Try.ntmps26 rfl ?_
 unfold g_ref01_Lex
 refine sR tfm ⟨[0],[],[],[]⟩ ⟨[(0,S a0z)],[]⟩ krf (sS (sR tfm ⟨[0,12],[],[],[]⟩ ⟨[(0,S a0z),(12,B (ltI 8000 (lenI a0z)))],[]⟩ krf (sC (ltI 8000 (lenI a0z)) krf ?_ ?_)))
 ·refine sR tfm ⟨[2,3,4],[],[],[]⟩ ⟨[(2,zS),(3,I 2),(4,I 0)],[]⟩ krf (sT (sq_r ?_))
  exact qR (.agg [.sl 4, .id, .id]) krf krf krf
 ·refine sK (sN ⟨[0],[],[],[]⟩ ⟨[(0,S a0z)],[]⟩ krf (sR tfm ⟨[0,5],[],[],[]⟩ ⟨[(0,S a0z),(5,zS)],[]⟩ krf (sS (sG (xR 1 krf ?_)))))
  refine xC [] krf (g_ref01_Gap_ok n a0z 0) krf krf (fun _=>by kernel_rfl) (fun r1=>?_)
  refine xR 1 krf (xE (sN ⟨[0,5,6],[],[],[]⟩ ⟨[(0,S a0z),(5,zS),(6,I r1)],[]⟩ krf (sS (sB (sP ⟨[0,5,6],[],[],[]⟩ ⟨[(0,S a0z),(5,zS),(6,I r1)],[]⟩ krf (sim_weak (weak_pn 56 4 47 [5] [] krf) (sim_loop (fun (l2_1,l2_2)=>⟨[(0,S a0z),(5, .tsl 4 (mTk l2_1) 47),(6,I l2_2)],[(47, .arr 56 4 (mTk l2_1).length)]⟩:((List GTk) × Int)→St) (weak_shr (K:=⟨[0,5,6],[47],[],[]⟩) krf) ?_)))))))
  rintro recl2 ⟨l2_1,l2_2⟩
  show SimE (g_ref01_Lex_l2 n a0z recl2 l2_1 l2_2) _ _ _ _ _ _
  unfold g_ref01_Lex_l2
  refine sS (sR tfm ⟨[0,5,6,18],[47],[],[]⟩ ⟨[(0,S a0z),(5, .tsl 4 (mTk l2_1) 47),(6,I l2_2),(18,B (ltI l2_2 (lenI a0z)))],[(47, .arr 56 4 (mTk l2_1).length)]⟩ krf (sC (ltI l2_2 (lenI a0z)) krf ?_ ?_))
  ·refine sK (sN ⟨[0,5,6],[47],[],[]⟩ ⟨[(0,S a0z),(5, .tsl 4 (mTk l2_1) 47),(6,I l2_2)],[(47, .arr 56 4 (mTk l2_1).length)]⟩ krf (sB (sS (sR tfm ⟨[0,5,6,21],[47],[],[]⟩ ⟨[(0,S a0z),(5, .tsl 4 (mTk l2_1) 47),(6,I l2_2),(21,B (eqI (lenI (mTk l2_1)) 2000))],[(47, .arr 56 4 (mTk l2_1).length)]⟩ krf (sC (eqI (lenI (mTk l2_1)) 2000) krf ?_ ?_)))))
   ·refine sR tfm ⟨[2,3,4],[],[],[]⟩ ⟨[(2,zS),(3,I 2),(4,I l2_2)],[]⟩ krf (sT (sq_r (bq_r (kq_r (bq_r (sq_r ?_))))))
    exact qR (.agg [.sl 4, .id, .id]) krf krf krf
   ·refine sK (sN ⟨[0,5,6],[47],[],[]⟩ ⟨[(0,S a0z),(5, .tsl 4 (mTk l2_1) 47),(6,I l2_2)],[(47, .arr 56 4 (mTk l2_1).length)]⟩ krf (sS (sG (xR 2 krf ?_))))
    refine xC [] krf (g_ref01_End_ok n a0z l2_2) krf krf (fun _=>by kernel_rfl) (fun r3=>?_)
    refine xR 1 krf (xE (sN ⟨[0,5,6,7],[47],[],[]⟩ ⟨[(0,S a0z),(5, .tsl 4 (mTk l2_1) 47),(6,I l2_2),(7,I r3)],[(47, .arr 56 4 (mTk l2_1).length)]⟩ krf (sS (sR tfm ⟨[0,5,6,7,28],[47],[],[]⟩ ⟨[(0,S a0z),(5, .tsl 4 (mTk l2_1) 47),(6,I l2_2),(7,I r3),(28,B (eqI r3 l2_2))],[(47, .arr 56 4 (mTk l2_1).length)]⟩ krf (sC (eqI r3 l2_2) krf ?_ ?_)))))
    ·refine sR tfm ⟨[2,3,4],[],[],[]⟩ ⟨[(2,zS),(3,I 7),(4,I l2_2)],[]⟩ krf (sT (sq_r (bq_r (kq_r (bq_r (sq_r ?_))))))
     exact qR (.agg [.sl 4, .id, .id]) krf krf krf
    ·refine sK (sN ⟨[0,5,6,7],[47],[],[]⟩ ⟨[(0,S a0z),(5, .tsl 4 (mTk l2_1) 47),(6,I l2_2),(7,I r3)],[(47, .arr 56 4 (mTk l2_1).length)]⟩ krf (sS (sG (xR 3 krf (xF krf krf (aop_sslice (l:=a0z) (a:=l2_2) (b:=r3) rfl krf krf krf krf) ?_)))))
     refine xC [] krf (g_ref01_Token_ok n (List.drop (Int.toNat l2_2) (List.take (Int.toNat r3) a0z))) krf krf (fun _=>by kernel_rfl) (fun r4=>?_)
     refine xR 6 krf (xE (sN ⟨[0,5,6,7,8,9],[8,47],[],[]⟩ ⟨[(0,S a0z),(5, .tsl 4 (mTk l2_1) 47),(6,I l2_2),(7,I r3),(8, .ptr 8 0),(9,I r4.2)],[(8, .box 56 (bxc (GTk.cs r4.1))),(47, .arr 56 4 (mTk l2_1).length)]⟩ krf (sS (sR tfm ⟨[0,5,6,7,8,9,39],[8,47],[],[]⟩ ⟨[(0,S a0z),(5, .tsl 4 (mTk l2_1) 47),(6,I l2_2),(7,I r3),(8, .ptr 8 0),(9,I r4.2),(39,B (!eqI r4.2 0))],[(8, .box 56 (bxc (GTk.cs r4.1))),(47, .arr 56 4 (mTk l2_1).length)]⟩ krf (sC (!eqI r4.2 0) krf ?_ ?_)))))
     ·refine sR tfm ⟨[2,3,4],[],[],[]⟩ ⟨[(2,zS),(3,I r4.2),(4,I l2_2)],[]⟩ krf (sT (sq_r (bq_r (kq_r (bq_r (sq_r ?_))))))
      exact qR (.agg [.sl 4, .id, .id]) krf krf krf
     ·refine sK (sN ⟨[0,5,6,7,8],[8,47],[],[]⟩ ⟨[(0,S a0z),(5, .tsl 4 (mTk l2_1) 47),(6,I l2_2),(7,I r3),(8, .ptr 8 0)],[(8, .box 56 (bxc (GTk.cs r4.1))),(47, .arr 56 4 (mTk l2_1).length)]⟩ krf (sR tfm ⟨[0,5,7,8],[8,47],[],[]⟩ ⟨[(0,S a0z),(5, .tsl 4 (mTk l2_1) 47),(7,I r3),(8, .ptr 8 0)],[(8, .box 56 [I r4.1.Kind,S r4.1.Text,I r4.1.N,I l2_2]),(47, .arr 56 4 (mTk l2_1).length)]⟩ krf (sS (sG (xR 3 krf (xF krf krf (aop_app (e:=56) (S:=4) (by_:=40) (enc:=GTk.cs) (tk:=47) (l:=l2_1) (l2:=[(⟨r4.1.Kind,r4.1.Text,r4.1.N,l2_2⟩:GTk)]) (xv:=.tsl 4 (mTk [(⟨r4.1.Kind,r4.1.Text,r4.1.N,l2_2⟩:GTk)]) 46) rfl krf krf rfl krf krf krf rfl krf) (xR 1 krf ?_)))))))
      refine xE (sN ⟨[0,5,7],[47],[],[]⟩ ⟨[(0,S a0z),(5, .tsl 4 (mTk (l2_1++[(⟨r4.1.Kind,r4.1.Text,r4.1.N,l2_2⟩:GTk)])) 47),(7,I r3)],[(47, .arr 56 4 (mTk (l2_1++[(⟨r4.1.Kind,r4.1.Text,r4.1.N,l2_2⟩:GTk)])).length)]⟩ krf (sG (xR 2 krf ?_)))
      refine xC [] krf (g_ref01_Gap_ok n a0z r3) krf krf (fun _=>by kernel_rfl) (fun r5=>?_)
      refine xR 1 krf (xE (bq_n ?_))
      exact kq_n (l2_1++[(⟨r4.1.Kind,r4.1.Text,r4.1.N,l2_2⟩:GTk)],r5) ⟨[0,5,6],[47],[],[]⟩ krf
  ·refine sim_exit (sq_x (kq_x (bq_hit (sN ⟨[5],[47],[],[]⟩ ⟨[(5, .tsl 4 (mTk l2_1) 47)],[(47, .arr 56 4 (mTk l2_1).length)]⟩ krf (sR tfm ⟨[2,3,4],[47],[],[]⟩ ⟨[(2, .tsl 4 (mTk l2_1) 47),(3,I 0),(4,I 0)],[(47, .arr 56 4 (mTk l2_1).length)]⟩ krf (sT ?_))))))
   exact qR (.agg [.sl 4, .id, .id]) krf krf krf
def g_law02_usable (n:Nat) (a0s:List UInt8):Option Bool :=
 (g_ref01_Lex n a0s).bind fun r1 =>
 some (eqI r1.2.1 0)
theorem g_law02_usable_ok (n:Nat) (a0s:List UInt8):∀ r,g_law02_usable n a0s=some r→PCall Try.prog 17 [S a0s] (.ret (B r)):=by
 refine pcall_sim (X:=fun r:Bool=>AEnd.ret (B r)) Try.func17 rfl Try.ntmps17 rfl ?_
 unfold g_law02_usable
 refine sR tfm ⟨[0],[],[],[]⟩ ⟨[(0,S a0s)],[]⟩ krf (sS (sG (xR 1 krf ?_)))
 refine xC [] krf (g_ref01_Lex_ok n a0s) krf krf (fun _=>by kernel_rfl) (fun r1=>?_)
 refine xR 7 krf (xE (sN ⟨[4],[],[],[]⟩ ⟨[(4,I r1.2.1)],[]⟩ krf (sR tfm ⟨[2],[],[],[]⟩ ⟨[(2,B (eqI r1.2.1 0))],[]⟩ krf (sT ?_))))
 exact qR (.id) krf krf krf
def g_law02_shifted_l1 (a0n:GNode) (a1by:Int) (rf_law02_shifted:GNode→Int→Option GNode) (recl1:(Int × (List (List PV)))→Option GNode) (l1_1:Int) (l1_2:List (List PV)):Option GNode :=
 cond (ltI l1_1 (lenI (List.map idc a0n.Kids)))
  ((Option.bind (getI a0n.Kids l1_1) GNode.of).bind fun x2 =>
  (rf_law02_shifted x2 a1by).bind fun r3 =>
  cond (roomB (List.length (l1_2++[GNode.cs r3])) 64) (
   recl1 (wi (l1_1+1),l1_2++[GNode.cs r3])) none)
  (some (⟨a0n.Kind,a0n.Name,a0n.N,wi (a0n.At+a1by),l1_2⟩:GNode))
def g_law02_shifted_body (n:Nat) (rf_law02_shifted:GNode→Int→Option GNode) (a0n:GNode) (a1by:Int):Option GNode :=
 loopN (fun recl1 (l1_1,l1_2)=>g_law02_shifted_l1 a0n a1by rf_law02_shifted recl1 l1_1 l1_2) n (0,[])
def g_law02_shifted:Nat→GNode→Int→Option GNode
 | 0,_,_=>none
 | n+1,a0n,a1by=>g_law02_shifted_body n (g_law02_shifted n) a0n a1by
theorem g_law02_shifted_ok (n:Nat) (a0n:GNode) (a1by:Int):∀ r,g_law02_shifted n a0n a1by=some r→PCall Try.prog 18 [ag (GNode.cs a0n),I a1by] (.ret (ag (GNode.cs r))):=by
 induction n generalizing a0n a1by with
 | zero=>intro r hr; cases (show (none:Option GNode)=some r from hr)
 | succ n ih =>
 show ∀ r,g_law02_shifted_body n (g_law02_shifted n) a0n a1by=some r→_
 generalize g_law02_shifted n=rf_law02_shifted at ih ⊢
 refine pcall_sim (X:=fun r:GNode=>AEnd.ret (ag (GNode.cs r))) Try.func18 rfl Try.ntmps18 rfl ?_
 unfold g_law02_shifted_body
 refine sR tfm ⟨[1,2,4],[2,4],[],[]⟩ ⟨[(1,I a1by),(2, .ptr 2 0),(4, .ptr 4 0)],[(2, .box 24 (bxc (GNode.cs a0n))),(4, .box 24 [I 0,S [],I 0,I 0,zS])]⟩ krf (sR tfm ⟨[1,2,4,5],[2,4,5],[],[]⟩ ⟨[(1,I a1by),(2, .ptr 2 0),(4, .ptr 4 0),(5, .ptr 5 0)],[(2, .box 24 (bxc (GNode.cs a0n))),(4, .box 24 [I 0,S [],I 0,I 0,zS]),(5, .box 24 (bxc (GNode.cs a0n)))]⟩ krf (sR tfm ⟨[1,2,4,5],[2,4,5],[],[]⟩ ⟨[(1,I a1by),(2, .ptr 2 0),(4, .ptr 4 0),(5, .ptr 5 0)],[(2, .box 24 (bxc (GNode.cs a0n))),(4, .box 24 [I 0,S [],I 0,I 0,zS]),(5, .box 24 (bxc (GNode.cs ⟨a0n.Kind,a0n.Name,a0n.N,wi (a0n.At+a1by),a0n.Kids⟩)))]⟩ krf (sR tfm ⟨[1,2,4,5],[2,4,5],[],[]⟩ ⟨[(1,I a1by),(2, .ptr 2 0),(4, .ptr 4 0),(5, .ptr 5 0)],[(2, .box 24 (bxc (GNode.cs a0n))),(4, .box 24 [I 0,S [],I 0,I 0,zS]),(5, .box 24 [I a0n.Kind,S a0n.Name,I a0n.N,I (wi (a0n.At+a1by)),zS])]⟩ krf (sS (sR tfm ⟨[1,4,5,16,17,18],[4,5],[],[]⟩ ⟨[(1,I a1by),(4, .ptr 4 0),(5, .ptr 5 0),(16, .p (.sl 5 (mI a0n.Kids))),(17,I (lenI (mI a0n.Kids))),(18,I 0)],[(4, .box 24 [I 0,S [],I 0,I 0,zS]),(5, .box 24 [I a0n.Kind,S a0n.Name,I a0n.N,I (wi (a0n.At+a1by)),zS])]⟩ krf (sB (sP ⟨[1,4,5,16,17,18],[4,5],[],[]⟩ ⟨[(1,I a1by),(4, .ptr 4 0),(5, .ptr 5 0),(16, .p (.sl 5 (mI a0n.Kids))),(17,I (lenI (mI a0n.Kids))),(18,I 0)],[(4, .box 24 [I 0,S [],I 0,I 0,zS]),(5, .box 24 [I a0n.Kind,S a0n.Name,I a0n.N,I (wi (a0n.At+a1by)),zS])]⟩ krf ?_)))))))
 refine sim_weak (weak_pn 24 5 600 [] [(5,4)] krf) (sim_loop (fun (l1_1,l1_2)=>⟨[(1,I a1by),(4, .ptr 4 0),(5, .ptr 5 0),(16, .p (.sl 5 (mI a0n.Kids))),(17,I (lenI (mI a0n.Kids))),(18,I l1_1)],[(4, .box 24 [I 0,S [],I 0,I 0,zS]),(5, .box 24 [I a0n.Kind,S a0n.Name,I a0n.N,I (wi (a0n.At+a1by)), .tsl 5 (mI l1_2) 600]),(600, .arr 24 5 (mI l1_2).length)]⟩:(Int × (List (List PV)))→St) (weak_shr (K:=⟨[1,4,5,16,17,18],[4,5,600],[],[]⟩) krf) ?_)
 rintro recl1 ⟨l1_1,l1_2⟩
 show SimE (g_law02_shifted_l1 a0n a1by rf_law02_shifted recl1 l1_1 l1_2) _ _ _ _ _ _
 unfold g_law02_shifted_l1
 refine sR tfm ⟨[1,4,5,16,17,18,19],[4,5,600],[],[]⟩ ⟨[(1,I a1by),(4, .ptr 4 0),(5, .ptr 5 0),(16, .p (.sl 5 (mI a0n.Kids))),(17,I (lenI (mI a0n.Kids))),(18,I l1_1),(19,B (ltI l1_1 (lenI (mI a0n.Kids))))],[(4, .box 24 [I 0,S [],I 0,I 0,zS]),(5, .box 24 [I a0n.Kind,S a0n.Name,I a0n.N,I (wi (a0n.At+a1by)), .tsl 5 (mI l1_2) 600]),(600, .arr 24 5 (mI l1_2).length)]⟩ krf (sS (sC (ltI l1_1 (lenI (mI a0n.Kids))) krf ?_ ?_))
 ·refine sK (sN ⟨[1,4,5,16,17,18],[4,5,600],[],[]⟩ ⟨[(1,I a1by),(4, .ptr 4 0),(5, .ptr 5 0),(16, .p (.sl 5 (mI a0n.Kids))),(17,I (lenI (mI a0n.Kids))),(18,I l1_1)],[(4, .box 24 [I 0,S [],I 0,I 0,zS]),(5, .box 24 [I a0n.Kind,S a0n.Name,I a0n.N,I (wi (a0n.At+a1by)), .tsl 5 (mI l1_2) 600]),(600, .arr 24 5 (mI l1_2).length)]⟩ krf (sS (sB (sS (sG ?_)))))
  refine xG krf krf (aop_idxR (e:=24) (S:=5) (enc:=GNode.cs) (dec:=GNode.of) (l:=a0n.Kids) (k:=.i64) (n:=l1_1) (sv:=.p (.sl 5 (mI a0n.Kids))) GNode.of_cs rfl krf krf krf krf krf) (fun x2=>?_)
  refine xR 3 krf (xE (sN ⟨[1,4,5,7,16,17,18],[4,5,7,600],[],[]⟩ ⟨[(1,I a1by),(4, .ptr 4 0),(5, .ptr 5 0),(7, .ptr 7 0),(16, .p (.sl 5 (mI a0n.Kids))),(17,I (lenI (mI a0n.Kids))),(18,I l1_1)],[(4, .box 24 [I 0,S [],I 0,I 0,zS]),(5, .box 24 [I a0n.Kind,S a0n.Name,I a0n.N,I (wi (a0n.At+a1by)), .tsl 5 (mI l1_2) 600]),(7, .box 24 (bxc (GNode.cs x2))),(600, .arr 24 5 (mI l1_2).length)]⟩ krf (sim_drw tfm rfl (xR 4 krf ?_))))
  refine xC [] krf (ih x2 a1by) krf krf (fun _=>by kernel_rfl) (fun r3=>?_)
  refine xR 1 krf (xF krf krf (aop_app (e:=24) (S:=5) (by_:=64) (enc:=idc) (tk:=600) (l:=l1_2) (l2:=[GNode.cs r3]) (xv:=.tsl 5 (mI [GNode.cs r3]) 27) rfl krf krf rfl krf krf krf rfl krf) (xR 2 krf (xs_endD krf (bq_n (sN ⟨[1,4,5,16,17,18],[4,5,600],[],[]⟩ ⟨[(1,I a1by),(4, .ptr 4 0),(5, .ptr 5 0),(16, .p (.sl 5 (mI a0n.Kids))),(17,I (lenI (mI a0n.Kids))),(18,I l1_1)],[(4, .box 24 [I 0,S [],I 0,I 0,zS]),(5, .box 24 [I a0n.Kind,S a0n.Name,I a0n.N,I (wi (a0n.At+a1by)), .tsl 5 (mI (l1_2++[GNode.cs r3])) 600]),(600, .arr 24 5 (mI (l1_2++[GNode.cs r3])).length)]⟩ krf (sL tfm krf ?_))))))
  exact kq_n (wi (l1_1+1),l1_2++[GNode.cs r3]) ⟨[1,4,5,16,17,18],[4,5,600],[],[]⟩ krf
 ·refine sim_exit (sq_x (kq_x (bq_hit (sN ⟨[4,5],[4,5,600],[],[]⟩ ⟨[(4, .ptr 4 0),(5, .ptr 5 0)],[(4, .box 24 [I 0,S [],I 0,I 0,zS]),(5, .box 24 [I a0n.Kind,S a0n.Name,I a0n.N,I (wi (a0n.At+a1by)), .tsl 5 (mI l1_2) 600]),(600, .arr 24 5 (mI l1_2).length)]⟩ krf (sR tfm ⟨[4],[4,600],[],[]⟩ ⟨[(4, .ptr 4 0)],[(4, .box 24 [I a0n.Kind,S a0n.Name,I a0n.N,I (wi (a0n.At+a1by)), .tsl 5 (mI l1_2) 600]),(600, .arr 24 5 (mI l1_2).length)]⟩ krf (sT ?_))))))
  exact qR (.agg [.id, .id, .id, .id, .sl 5]) krf krf krf
def g_ref02_Count_l1 (a0n:GNode) (a1most:Int) (rf_ref02_Count:GNode→Int→Option Int) (recl1:(Int × Int)→Option Int) (l1_1:Int) (l1_2:Int):Option Int :=
 (cond (ltI l1_2 (lenI (List.map idc a0n.Kids)))
  (some (leI l1_1 a1most))
  (some false)).bind fun j2 =>
 cond j2
  ((Option.bind (getI a0n.Kids l1_2) GNode.of).bind fun x4 =>
  (rf_ref02_Count x4 (wi (a1most - l1_1))).bind fun r5 =>
  recl1 (wi (l1_1+r5),wi (l1_2+1)))
  (some l1_1)
def g_ref02_Count_body (n:Nat) (rf_ref02_Count:GNode→Int→Option Int) (a0n:GNode) (a1most:Int):Option Int :=
 loopN (fun recl1 (l1_1,l1_2)=>g_ref02_Count_l1 a0n a1most rf_ref02_Count recl1 l1_1 l1_2) n (1,0)
def g_ref02_Count:Nat→GNode→Int→Option Int
 | 0,_,_=>none
 | n+1,a0n,a1most=>g_ref02_Count_body n (g_ref02_Count n) a0n a1most
theorem g_ref02_Count_ok (n:Nat) (a0n:GNode) (a1most:Int):∀ r,g_ref02_Count n a0n a1most=some r→PCall Try.prog 19 [ag (GNode.cs a0n),I a1most] (.ret (I r)):=by
 induction n generalizing a0n a1most with
 | zero=>intro r hr; cases (show (none:Option Int)=some r from hr)
 | succ n ih =>
 show ∀ r,g_ref02_Count_body n (g_ref02_Count n) a0n a1most=some r→_
 generalize g_ref02_Count n=rf_ref02_Count at ih ⊢
 refine pcall_sim (X:=fun r:Int=>AEnd.ret (I r)) Try.func19 rfl Try.ntmps19 rfl ?_
 unfold g_ref02_Count_body
 refine sR tfm ⟨[1,2],[2],[],[]⟩ ⟨[(1,I a1most),(2, .ptr 2 0)],[(2, .box 24 (bxc (GNode.cs a0n)))]⟩ krf (sR tfm ⟨[1,2,5],[2],[],[]⟩ ⟨[(1,I a1most),(2, .ptr 2 0),(5,I 1)],[(2, .box 24 (bxc (GNode.cs a0n)))]⟩ krf (sS (sR tfm ⟨[1,2,5,6],[2],[],[]⟩ ⟨[(1,I a1most),(2, .ptr 2 0),(5,I 1),(6,I 0)],[(2, .box 24 (bxc (GNode.cs a0n)))]⟩ krf (sB (sim_loop (fun (l1_1,l1_2)=>⟨[(1,I a1most),(2, .ptr 2 0),(5,I l1_1),(6,I l1_2)],[(2, .box 24 (bxc (GNode.cs a0n)))]⟩:(Int × Int)→St) (weak_shr (K:=⟨[1,2,5,6],[2],[],[]⟩) krf) ?_)))))
 rintro recl1 ⟨l1_1,l1_2⟩
 show SimE (g_ref02_Count_l1 a0n a1most rf_ref02_Count recl1 l1_1 l1_2) _ _ _ _ _ _
 unfold g_ref02_Count_l1
 refine sS (sim_bind (fun j2=>⟨[(1,I a1most),(2, .ptr 2 0),(5,I l1_1),(6,I l1_2),(16,B j2)],[(2, .box 24 (bxc (GNode.cs a0n)))]⟩:Bool→St) ?_ ?_)
 ·refine sG (xR 6 krf ?_)
  refine xS (ltI l1_2 (lenI (mI a0n.Kids))) (fun h3=>?_) (fun h3=>?_)
  ·refine xO (want_tt krf h3) krf (xR 3 krf (xE ?_))
   exact nq_n (leI l1_1 a1most) ⟨[1,2,5,6,16],[2],[],[]⟩ krf
  ·refine xN (want_tf krf h3) krf (xR 3 krf (xE ?_))
   exact nq_n false ⟨[1,2,5,6,16],[2],[],[]⟩ krf
 ·rintro j2
  refine sC j2 krf ?_ ?_
  ·refine sK (sN ⟨[1,2,5,6],[2],[],[]⟩ ⟨[(1,I a1most),(2, .ptr 2 0),(5,I l1_1),(6,I l1_2)],[(2, .box 24 (bxc (GNode.cs a0n)))]⟩ krf (sS (sB (sG (xR 4 krf ?_)))))
   refine xG krf krf (aop_idxR (e:=24) (S:=5) (enc:=GNode.cs) (dec:=GNode.of) (l:=a0n.Kids) (k:=.i64) (n:=l1_2) (sv:=.p (.sl 5 (mI a0n.Kids))) GNode.of_cs rfl krf krf krf krf krf) (fun x4=>?_)
   refine xR 4 krf ?_
   refine xC [] krf (ih x4 (wi (a1most - l1_1))) krf krf (fun _=>by kernel_rfl) (fun r5=>?_)
   refine xR 2 krf (xE (bq_n (sN ⟨[1,2,5,6],[2],[],[]⟩ ⟨[(1,I a1most),(2, .ptr 2 0),(5,I (wi (l1_1+r5))),(6,I l1_2)],[(2, .box 24 (bxc (GNode.cs a0n)))]⟩ krf (sL tfm krf ?_))))
   exact kq_n (wi (l1_1+r5),wi (l1_2+1)) ⟨[1,2,5,6],[2],[],[]⟩ krf
  ·refine sim_exit (sq_x (kq_x (bq_hit (sN ⟨[5],[],[],[]⟩ ⟨[(5,I l1_1)],[]⟩ krf (sR tfm ⟨[4],[],[],[]⟩ ⟨[(4,I l1_1)],[]⟩ krf (sT ?_))))))
   exact qR (.id) krf krf krf
def g_law02_ParserJoining_l6 (n:Nat) (a0a:List UInt8) (r4:GNode × (List GDg)) (recl6:(Int × (List (List PV)))→Option (List (List PV))) (l6_1:Int) (l6_2:List (List PV)):Option (List (List PV)) :=
 cond (ltI l6_1 (lenI (List.map idc r4.1.Kids)))
  ((Option.bind (getI r4.1.Kids l6_1) GNode.of).bind fun x7 =>
  (g_law02_shifted n x7 (wi ((lenI a0a)+1))).bind fun r8 =>
  cond (roomB (List.length (l6_2++[GNode.cs r8])) 64) (
   recl6 (wi (l6_1+1),l6_2++[GNode.cs r8])) none)
  (some l6_2)
def g_law02_ParserJoining (n:Nat) (a0a:List UInt8) (a1b:List UInt8):Option Bool :=
 (g_law02_head n).bind fun r1 =>
 cond (sumB a0a [10]) (
  cond (sumB (a0a++[10]) a1b) (
   (g_law02_usable n ((a0a++[10])++a1b)).bind fun r2 =>
   cond (!r2)
    (some r1)
    ((g_p_Parse n a0a).bind fun r3 =>
    (g_p_Parse n a1b).bind fun r4 =>
    cond (roomB (List.length ([]++r3.1.Kids)) 64) (
     (loopN (fun recl6 (l6_1,l6_2)=>g_law02_ParserJoining_l6 n a0a r4 recl6 l6_1 l6_2) n (0,[]++r3.1.Kids)).bind fun j5 =>
     (cond (ltI 0 (wi ((lenI (List.map GDg.cs r3.2))+(lenI (List.map GDg.cs r4.2)))))
      (some true)
      ((g_ref02_Count n (⟨1,[],0,0,j5⟩:GNode) 1500).bind fun r11 =>
      some (ltI 1500 r11))).bind fun j9 =>
     cond j9
      (some r1)
      (cond (sumB a0a [10]) (
       cond (sumB (a0a++[10]) a1b) (
        (g_p_Parse n ((a0a++[10])++a1b)).bind fun r12 =>
        cond r1
         (cond (eqI (lenI (List.map GDg.cs r12.2)) 0)
          ((g_ref02_Same n r12.1 (⟨1,[],0,0,j5⟩:GNode)).bind fun r15 =>
          some r15)
          (some false))
         (some false)) none) none)) none)) none) none
theorem g_law02_ParserJoining_ok (n:Nat) (a0a:List UInt8) (a1b:List UInt8):∀ r,g_law02_ParserJoining n a0a a1b=some r→PCall Try.prog 4 [S a0a,S a1b] (.ret (B r)):=by
 refine pcall_sim (X:=fun r:Bool=>AEnd.ret (B r)) Try.func4 rfl Try.ntmps4 rfl ?_
 unfold g_law02_ParserJoining
 refine sR tfm ⟨[0,1],[],[],[]⟩ ⟨[(0,S a0a),(1,S a1b)],[]⟩ krf (sS (sG ?_))
 refine xC [] krf (g_law02_head_ok n) krf krf (fun _=>by kernel_rfl) (fun r1=>?_)
 refine xR 1 krf (xE (sN ⟨[0,1,5],[],[],[]⟩ ⟨[(0,S a0a),(1,S a1b),(5,B r1)],[]⟩ krf (sS (sS (sG (xR 1 krf (xF krf krf (aop_sadd (a:=a0a) (b:=[10]) rfl krf krf) ?_)))))))
 refine xR 1 krf (xF krf krf (aop_sadd (a:=a0a++[10]) (b:=a1b) rfl krf krf) ?_)
 refine xC [] krf (g_law02_usable_ok n ((a0a++[10])++a1b)) krf krf (fun _=>by kernel_rfl) (fun r2=>?_)
 refine xR 1 krf (xE (sN ⟨[0,1,5,21],[],[],[]⟩ ⟨[(0,S a0a),(1,S a1b),(5,B r1),(21,B (!r2))],[]⟩ krf (sC (!r2) krf ?_ ?_)))
 ·refine sR tfm ⟨[4],[],[],[]⟩ ⟨[(4,B r1)],[]⟩ krf (sT (sq_r ?_))
  exact qR (.id) krf krf krf
 ·refine sK (sN ⟨[0,1,5],[],[],[]⟩ ⟨[(0,S a0a),(1,S a1b),(5,B r1)],[]⟩ krf (sS (sG (xR 1 krf ?_))))
  refine xC [] krf (g_p_Parse_ok n a0a) krf krf (fun _=>by kernel_rfl) (fun r3=>?_)
  refine xR 6 krf (xE (sN ⟨[0,1,5,6,7],[6],[],[]⟩ ⟨[(0,S a0a),(1,S a1b),(5,B r1),(6, .ptr 6 0),(7, .p (.sl 2 (mDg r3.2)))],[(6, .box 24 (bxc (GNode.cs r3.1)))]⟩ krf (sS (sG (xR 1 krf ?_)))))
  refine xC [] krf (g_p_Parse_ok n a1b) krf krf (fun _=>by kernel_rfl) (fun r4=>?_)
  refine xR 6 krf (xE (sN ⟨[0,1,5,6,7,8,9],[6,8],[],[]⟩ ⟨[(0,S a0a),(1,S a1b),(5,B r1),(6, .ptr 6 0),(7, .p (.sl 2 (mDg r3.2))),(8, .ptr 8 0),(9, .p (.sl 2 (mDg r4.2)))],[(6, .box 24 (bxc (GNode.cs r3.1))),(8, .box 24 (bxc (GNode.cs r4.1)))]⟩ krf (sS (sG (xR 3 krf ?_)))))
  refine xF krf krf (aop_vapp (e:=24) (S:=5) (by_:=64) (enc:=idc) (tk:=33) (l:=[]) (l2:=r3.1.Kids) (xv:=.p (.sl 5 (mI r3.1.Kids))) (n:=(mI []).length) rfl krf krf rfl krf krf krf krf (by simp)) ?_
  refine xR 3 krf (xE (sN ⟨[0,1,5,7,8,9,10],[8,10,33],[],[]⟩ ⟨[(0,S a0a),(1,S a1b),(5,B r1),(7, .p (.sl 2 (mDg r3.2))),(8, .ptr 8 0),(9, .p (.sl 2 (mDg r4.2))),(10, .ptr 10 0)],[(8, .box 24 (bxc (GNode.cs r4.1))),(10, .box 24 [I 1,S [],I 0,I 0, .vsl 5 33 (mI ([]++r3.1.Kids)).length]),(33, .vec 24 5 (mI ([]++r3.1.Kids)))]⟩ krf (sim_bind (fun j5=>⟨[(0,S a0a),(1,S a1b),(5,B r1),(7, .p (.sl 2 (mDg r3.2))),(9, .p (.sl 2 (mDg r4.2))),(10, .ptr 10 0)],[(10, .box 24 (bxc (GNode.cs ⟨1,[],0,0,j5⟩)))]⟩:(List (List PV))→St) ?_ ?_)))
  ·refine sR tfm ⟨[0,1,5,7,9,10,39,40,41],[10,33],[],[]⟩ ⟨[(0,S a0a),(1,S a1b),(5,B r1),(7, .p (.sl 2 (mDg r3.2))),(9, .p (.sl 2 (mDg r4.2))),(10, .ptr 10 0),(39, .p (.sl 5 (mI r4.1.Kids))),(40,I (lenI (mI r4.1.Kids))),(41,I 0)],[(10, .box 24 [I 1,S [],I 0,I 0, .vsl 5 33 (mI ([]++r3.1.Kids)).length]),(33, .vec 24 5 (mI ([]++r3.1.Kids)))]⟩ krf (sB (sim_loop (fun (l6_1,l6_2)=>⟨[(0,S a0a),(1,S a1b),(5,B r1),(7, .p (.sl 2 (mDg r3.2))),(9, .p (.sl 2 (mDg r4.2))),(10, .ptr 10 0),(39, .p (.sl 5 (mI r4.1.Kids))),(40,I (lenI (mI r4.1.Kids))),(41,I l6_1)],[(10, .box 24 [I 1,S [],I 0,I 0, .vsl 5 33 (mI l6_2).length]),(33, .vec 24 5 (mI l6_2))]⟩:(Int × (List (List PV)))→St) (weak_shr (K:=⟨[0,1,5,7,9,10,39,40,41],[10,33],[],[]⟩) krf) ?_))
   rintro recl6 ⟨l6_1,l6_2⟩
   show SimE (g_law02_ParserJoining_l6 n a0a r4 recl6 l6_1 l6_2) _ _ _ _ _ _
   unfold g_law02_ParserJoining_l6
   refine sR tfm ⟨[0,1,5,7,9,10,39,40,41,42],[10,33],[],[]⟩ ⟨[(0,S a0a),(1,S a1b),(5,B r1),(7, .p (.sl 2 (mDg r3.2))),(9, .p (.sl 2 (mDg r4.2))),(10, .ptr 10 0),(39, .p (.sl 5 (mI r4.1.Kids))),(40,I (lenI (mI r4.1.Kids))),(41,I l6_1),(42,B (ltI l6_1 (lenI (mI r4.1.Kids))))],[(10, .box 24 [I 1,S [],I 0,I 0, .vsl 5 33 (mI l6_2).length]),(33, .vec 24 5 (mI l6_2))]⟩ krf (sS (sC (ltI l6_1 (lenI (mI r4.1.Kids))) krf ?_ ?_))
   ·refine sK (sN ⟨[0,1,5,7,9,10,39,40,41],[10,33],[],[]⟩ ⟨[(0,S a0a),(1,S a1b),(5,B r1),(7, .p (.sl 2 (mDg r3.2))),(9, .p (.sl 2 (mDg r4.2))),(10, .ptr 10 0),(39, .p (.sl 5 (mI r4.1.Kids))),(40,I (lenI (mI r4.1.Kids))),(41,I l6_1)],[(10, .box 24 [I 1,S [],I 0,I 0, .vsl 5 33 (mI l6_2).length]),(33, .vec 24 5 (mI l6_2))]⟩ krf (sS (sB (sS (sG ?_)))))
    refine xG krf krf (aop_idxR (e:=24) (S:=5) (enc:=GNode.cs) (dec:=GNode.of) (l:=r4.1.Kids) (k:=.i64) (n:=l6_1) (sv:=.p (.sl 5 (mI r4.1.Kids))) GNode.of_cs rfl krf krf krf krf krf) (fun x7=>?_)
    refine xR 3 krf (xE (sN ⟨[0,1,5,7,9,10,12,39,40,41],[10,12,33],[],[]⟩ ⟨[(0,S a0a),(1,S a1b),(5,B r1),(7, .p (.sl 2 (mDg r3.2))),(9, .p (.sl 2 (mDg r4.2))),(10, .ptr 10 0),(12, .ptr 12 0),(39, .p (.sl 5 (mI r4.1.Kids))),(40,I (lenI (mI r4.1.Kids))),(41,I l6_1)],[(10, .box 24 [I 1,S [],I 0,I 0, .vsl 5 33 (mI l6_2).length]),(12, .box 24 (bxc (GNode.cs x7))),(33, .vec 24 5 (mI l6_2))]⟩ krf (sim_drw tfm rfl (xR 6 krf ?_))))
    refine xC [] krf (g_law02_shifted_ok n x7 (wi ((lenI a0a)+1))) krf krf (fun _=>by kernel_rfl) (fun r8=>?_)
    refine xR 1 krf ?_
    refine xF krf krf (aop_vapp (e:=24) (S:=5) (by_:=64) (enc:=idc) (tk:=33) (l:=l6_2) (l2:=[GNode.cs r8]) (xv:=.tsl 5 (mI [GNode.cs r8]) 52) (n:=(mI l6_2).length) rfl krf krf rfl krf krf krf krf (by simp)) ?_
    refine xR 2 krf (xs_endD krf (bq_n (sN ⟨[0,1,5,7,9,10,39,40,41],[10,33],[],[]⟩ ⟨[(0,S a0a),(1,S a1b),(5,B r1),(7, .p (.sl 2 (mDg r3.2))),(9, .p (.sl 2 (mDg r4.2))),(10, .ptr 10 0),(39, .p (.sl 5 (mI r4.1.Kids))),(40,I (lenI (mI r4.1.Kids))),(41,I l6_1)],[(10, .box 24 [I 1,S [],I 0,I 0, .vsl 5 33 (mI (l6_2++[GNode.cs r8])).length]),(33, .vec 24 5 (mI (l6_2++[GNode.cs r8])))]⟩ krf (sL tfm krf ?_))))
    exact kq_n (wi (l6_1+1),l6_2++[GNode.cs r8]) ⟨[0,1,5,7,9,10,39,40,41],[10,33],[],[]⟩ krf
   ·refine sim_exit (sq_x (kq_x (bq_hit ?_)))
    exact nq_f l6_2 ⟨[0,1,5,7,9,10],[10,33],[],[]⟩ ⟨[(0,S a0a),(1,S a1b),(5,B r1),(7, .p (.sl 2 (mDg r3.2))),(9, .p (.sl 2 (mDg r4.2))),(10, .ptr 10 0)],[(10, .box 24 [I 1,S [],I 0,I 0, .vsl 5 33 (mI l6_2).length]),(33, .vec 24 5 (mI l6_2))]⟩ krf (weak_vfz 33 24 5 (mI l6_2) [(mI l6_2).length] krf krf (by simp) krf krf) ⟨[0,1,5,7,9,10],[10],[],[]⟩ krf
  ·rintro j5
   refine sS (sim_bind (fun j9=>⟨[(0,S a0a),(1,S a1b),(5,B r1),(10, .ptr 10 0),(66,B j9)],[(10, .box 24 (bxc (GNode.cs ⟨1,[],0,0,j5⟩)))]⟩:Bool→St) ?_ ?_)
   ·refine sG (xR 7 krf ?_)
    refine xS (ltI 0 (wi ((lenI (mDg r3.2))+(lenI (mDg r4.2))))) (fun h10=>?_) (fun h10=>?_)
    ·refine xN (want_ft krf h10) krf (xR 3 krf (xE ?_))
     exact nq_n true ⟨[0,1,5,10,66],[10],[],[]⟩ krf
    ·refine xO (want_ff krf h10) krf ?_
     refine xC [] krf (g_ref02_Count_ok n (⟨1,[],0,0,j5⟩:GNode) 1500) krf krf (fun _=>by kernel_rfl) (fun r11=>?_)
     refine xR 2 krf (xE ?_)
     exact nq_n (ltI 1500 r11) ⟨[0,1,5,10,66],[10],[],[]⟩ krf
   ·rintro j9
    refine sC j9 krf ?_ ?_
    ·refine sR tfm ⟨[4],[],[],[]⟩ ⟨[(4,B r1)],[]⟩ krf (sT (sq_r ?_))
     exact qR (.id) krf krf krf
    ·refine sK (sN ⟨[0,1,5,10],[10],[],[]⟩ ⟨[(0,S a0a),(1,S a1b),(5,B r1),(10, .ptr 10 0)],[(10, .box 24 (bxc (GNode.cs ⟨1,[],0,0,j5⟩)))]⟩ krf (sS (sG (xR 1 krf (xF krf krf (aop_sadd (a:=a0a) (b:=[10]) rfl krf krf) (xR 1 krf (xF krf krf (aop_sadd (a:=a0a++[10]) (b:=a1b) rfl krf krf) ?_)))))))
     refine xC [] krf (g_p_Parse_ok n ((a0a++[10])++a1b)) krf krf (fun _=>by kernel_rfl) (fun r12=>?_)
     refine xR 6 krf (xE (sN ⟨[5,10,13,14],[10,13],[],[]⟩ ⟨[(5,B r1),(10, .ptr 10 0),(13, .ptr 13 0),(14, .p (.sl 2 (mDg r12.2)))],[(10, .box 24 (bxc (GNode.cs ⟨1,[],0,0,j5⟩))),(13, .box 24 (bxc (GNode.cs r12.1)))]⟩ krf (sS (sG (xR 2 krf ?_)))))
     refine xS r1 (fun h13=>?_) (fun h13=>?_)
     ·refine xO (want_tt krf h13) krf (xR 4 krf ?_)
      refine xS (eqI (lenI (mDg r12.2)) 0) (fun h14=>?_) (fun h14=>?_)
      ·refine xO (want_tt krf h14) krf (xR 1 krf ?_)
       refine xC [] krf (g_ref02_Same_ok n r12.1 (⟨1,[],0,0,j5⟩:GNode)) krf krf (fun _=>by kernel_rfl) (fun r15=>?_)
       refine xR 2 krf (xE (sN ⟨[4],[],[],[]⟩ ⟨[(4,B r15)],[]⟩ krf (sT ?_)))
       exact qR (.id) krf krf krf
      ·refine xN (want_tf krf h14) krf (xR 4 krf (xE (sN ⟨[4],[],[],[]⟩ ⟨[(4,B false)],[]⟩ krf (sT ?_))))
       exact qR (.id) krf krf krf
     ·refine xN (want_tf krf h13) krf (xR 9 krf (xE (sN ⟨[4],[],[],[]⟩ ⟨[(4,B false)],[]⟩ krf (sT ?_))))
      exact qR (.id) krf krf krf
end Go.Proofs
namespace Go.Proofs
open Go Go.Abs
set_option maxRecDepth 100000
set_option linter.unusedVariables false
structure GAr where
 Kind:Int
 Days:Int
 From:Int
 To:Int
 Price:Int
 Unit:Int
 Free:Int
deriving DecidableEq
def GAr.cs (x:GAr):List PV:=[VI x.Kind,VI x.Days,VI x.From,VI x.To,VI x.Price,VI x.Unit,VI x.Free]
structure GTr where
 article:GAr
 values:List (List PV)
 good:Bool
def GTr.cs (x:GTr):List PV:=[VI x.article.Kind,VI x.article.Days,VI x.article.From,VI x.article.To,VI x.article.Price,VI x.article.Unit,VI x.article.Free, .sl 5 (List.map idc x.values),VB x.good]
structure GTf where
 Name:List UInt8
 Articles:List GAr
deriving DecidableEq
def GTf.cs (x:GTf):List PV:=[VS x.Name, .sl 7 (List.map GAr.cs x.Articles)]
structure GCh where
 At:Int
 Offset:Int
deriving DecidableEq
def GCh.cs (x:GCh):List PV:=[VI x.At,VI x.Offset]
structure GCl where
 Offset:Int
 Changes:List GCh
 Holidays:List Int
deriving DecidableEq
def GCl.cs (x:GCl):List PV:=[VI x.Offset, .sl 2 (List.map GCh.cs x.Changes), .sl 1 (List.map ci x.Holidays)]
def g_ref02_Kinds (n:Nat):Option (List (List UInt8)) :=
 some [[102,101,101,100,101,114],[99,97,98,108,101],[111,119,110,101,114],[99,111,110,116,114,97,99,116],[99,104,97,114,103,101,114],[98,97,121],[116,97,114,105,102,102]]
def g_ref02_Attrs (n:Nat):Option (List (List UInt8)) :=
 some [[108,105,109,105,116],[110,101,117,116,114,97,108],[102,117,115,101],[116,104,101,114,109,97,108],[102,114,111,109],[97,116],[112,104,97,115,101,115],[97,109,112,115],[102,97,108,108,98,97,99,107],[111,119,110,101,114],[99,97,114,100],[114,97,110,107],[99,104,97,114,103,101,114]]
def g_ref02_Articles (n:Nat):Option (List (List UInt8)) :=
 some [[115,116,97,114,116],[101,110,101,114,103,121],[116,105,109,101],[105,100,108,101],[99,97,112],[116,97,120]]
def g_ref02_Words (n:Nat):Option (List (List UInt8)) :=
 some [[111,110],[119,111,114,107],[115,97,116,117,114,100,97,121],[115,117,110,100,97,121],[98,101,116,119,101,101,110],[112,101,114],[102,114,101,101]]
structure GQuoteQuoted where
 Tariff:GTf
 calendar:GCl
 from_:Int
 to_:Int
deriving DecidableEq
def GQuoteQuoted.cs (x:GQuoteQuoted):List PV:=[VS x.Tariff.Name, .sl 7 (List.map GAr.cs x.Tariff.Articles),VI x.calendar.Offset, .sl 2 (List.map GCh.cs x.calendar.Changes), .sl 1 (List.map ci x.calendar.Holidays),VI x.from_,VI x.to_]
structure GSl where
 Minute:Int
 Energy:Int
deriving DecidableEq
def GSl.cs (x:GSl):List PV:=[VI x.Minute,VI x.Energy]
structure GSs where
 From:Int
 To:Int
 End:Int
 Slices:List GSl
deriving DecidableEq
def GSs.cs (x:GSs):List PV:=[VI x.From,VI x.To,VI x.End, .sl 2 (List.map GSl.cs x.Slices)]
structure GLine where
 Article:Int
 Amount:Int
deriving DecidableEq
def GLine.cs (x:GLine):List PV:=[VI x.Article,VI x.Amount]
structure GBill where
 Lines:List GLine
 Net:Int
 Tax:Int
 Total:Int
deriving DecidableEq
def GBill.cs (x:GBill):List PV:=[.sl 2 (List.map GLine.cs x.Lines),VI x.Net,VI x.Tax,VI x.Total]
structure GBB where
 article:GAr
 calendar:GCl
 session:GSs
deriving DecidableEq
def GBB.cs (x:GBB):List PV:=[VI x.article.Kind,VI x.article.Days,VI x.article.From,VI x.article.To,VI x.article.Price,VI x.article.Unit,VI x.article.Free,VI x.calendar.Offset, .sl 2 (List.map GCh.cs x.calendar.Changes), .sl 1 (List.map ci x.calendar.Holidays),VI x.session.From,VI x.session.To,VI x.session.End, .sl 2 (List.map GSl.cs x.session.Slices)]
structure GReading where
 Serial:Int
 Number:Int
 Minute:Int
 Register:Int
 Link:Int
deriving DecidableEq
def GReading.cs (x:GReading):List PV:=[VI x.Serial,VI x.Number,VI x.Minute,VI x.Register,VU x.Link]
structure GClaim where
 Tariff:GTf
 Calendar:GCl
 Readings:List GReading
 Seed:Int
 Session:GSs
 Bill:GBill
deriving DecidableEq
def GClaim.cs (x:GClaim):List PV:=[VS x.Tariff.Name, .sl 7 (List.map GAr.cs x.Tariff.Articles),VI x.Calendar.Offset, .sl 2 (List.map GCh.cs x.Calendar.Changes), .sl 1 (List.map ci x.Calendar.Holidays), .sl 5 (List.map GReading.cs x.Readings),VU x.Seed,VI x.Session.From,VI x.Session.To,VI x.Session.End, .sl 2 (List.map GSl.cs x.Session.Slices), .sl 2 (List.map GLine.cs x.Bill.Lines),VI x.Bill.Net,VI x.Bill.Tax,VI x.Bill.Total]
structure GAE where
 Claim:GClaim
 follows:GSs
 bill:GBill
 rate:Int
deriving DecidableEq
def GAE.cs (x:GAE):List PV:=[VS x.Claim.Tariff.Name, .sl 7 (List.map GAr.cs x.Claim.Tariff.Articles),VI x.Claim.Calendar.Offset, .sl 2 (List.map GCh.cs x.Claim.Calendar.Changes), .sl 1 (List.map ci x.Claim.Calendar.Holidays), .sl 5 (List.map GReading.cs x.Claim.Readings),VU x.Claim.Seed,VI x.Claim.Session.From,VI x.Claim.Session.To,VI x.Claim.Session.End, .sl 2 (List.map GSl.cs x.Claim.Session.Slices), .sl 2 (List.map GLine.cs x.Claim.Bill.Lines),VI x.Claim.Bill.Net,VI x.Claim.Bill.Tax,VI x.Claim.Bill.Total,VI x.follows.From,VI x.follows.To,VI x.follows.End, .sl 2 (List.map GSl.cs x.follows.Slices), .sl 2 (List.map GLine.cs x.bill.Lines),VI x.bill.Net,VI x.bill.Tax,VI x.bill.Total,VI x.rate]
def g_a_isKey (n:Nat) (a0w:List UInt8):Option Bool :=
 (cond (eqS a0w [102,101,101,100,101,114])
  (some (eqS a0w [102,101,101,100,101,114]))
  (cond (eqS a0w [99,97,98,108,101])
   (some (eqS a0w [99,97,98,108,101]))
   (cond (eqS a0w [111,119,110,101,114])
    (some (eqS a0w [111,119,110,101,114]))
    (cond (eqS a0w [99,111,110,116,114,97,99,116])
     (some (eqS a0w [99,111,110,116,114,97,99,116]))
     (cond (eqS a0w [99,104,97,114,103,101,114])
      (some (eqS a0w [99,104,97,114,103,101,114]))
      (cond (eqS a0w [98,97,121])
       (some (eqS a0w [98,97,121]))
       (some (eqS a0w [116,97,114,105,102,102])))))))).bind fun j1 =>
 cond j1
  (some true)
  ((cond (eqS a0w [108,105,109,105,116])
   (some (eqS a0w [108,105,109,105,116]))
   (cond (eqS a0w [110,101,117,116,114,97,108])
    (some (eqS a0w [110,101,117,116,114,97,108]))
    (cond (eqS a0w [102,117,115,101])
     (some (eqS a0w [102,117,115,101]))
     (cond (eqS a0w [116,104,101,114,109,97,108])
      (some (eqS a0w [116,104,101,114,109,97,108]))
      (cond (eqS a0w [102,114,111,109])
       (some (eqS a0w [102,114,111,109]))
       (cond (eqS a0w [97,116])
        (some (eqS a0w [97,116]))
        (cond (eqS a0w [112,104,97,115,101,115])
         (some (eqS a0w [112,104,97,115,101,115]))
         (cond (eqS a0w [97,109,112,115])
          (some (eqS a0w [97,109,112,115]))
          (cond (eqS a0w [102,97,108,108,98,97,99,107])
           (some (eqS a0w [102,97,108,108,98,97,99,107]))
           (cond (eqS a0w [99,97,114,100])
            (some (eqS a0w [99,97,114,100]))
            (some (eqS a0w [114,97,110,107])))))))))))).bind fun j2 =>
  cond j2
   (some true)
   ((cond (eqS a0w [115,116,97,114,116])
    (some (eqS a0w [115,116,97,114,116]))
    (cond (eqS a0w [101,110,101,114,103,121])
     (some (eqS a0w [101,110,101,114,103,121]))
     (cond (eqS a0w [116,105,109,101])
      (some (eqS a0w [116,105,109,101]))
      (cond (eqS a0w [105,100,108,101])
       (some (eqS a0w [105,100,108,101]))
       (cond (eqS a0w [99,97,112])
        (some (eqS a0w [99,97,112]))
        (some (eqS a0w [116,97,120]))))))).bind fun j3 =>
   cond j3
    (some true)
    ((cond (eqS a0w [111,110])
     (some (eqS a0w [111,110]))
     (cond (eqS a0w [119,111,114,107])
      (some (eqS a0w [119,111,114,107]))
      (cond (eqS a0w [115,97,116,117,114,100,97,121])
       (some (eqS a0w [115,97,116,117,114,100,97,121]))
       (cond (eqS a0w [115,117,110,100,97,121])
        (some (eqS a0w [115,117,110,100,97,121]))
        (cond (eqS a0w [98,101,116,119,101,101,110])
         (some (eqS a0w [98,101,116,119,101,101,110]))
         (cond (eqS a0w [112,101,114])
          (some (eqS a0w [112,101,114]))
          (some (eqS a0w [102,114,101,101])))))))).bind fun j4 =>
    cond j4
     (some true)
     (some false))))
structure GLs where
 from_:Int
 to_:Int
deriving DecidableEq
def GLs.cs (x:GLs):List PV:=[VI x.from_,VI x.to_]
end Go.Proofs
namespace Go.Proofs
open Go Go.Abs Go.ChangeShapes Go.WideShapes Go.ChangeAt Go.RowKit Go.Proofs.Ytniaojaeacgpoaa
set_option maxRecDepth 100000
set_option linter.unusedVariables false
end Go.Proofs
