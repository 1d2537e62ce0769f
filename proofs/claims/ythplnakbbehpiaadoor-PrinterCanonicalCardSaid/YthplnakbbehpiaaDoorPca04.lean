/-
  A part of the proof of a statement of the seat YthplnakbbehpiaaDoor.
-/
import Derived.Test.YthplnakbbehpiaaDoorPca03
namespace Go.Proofs
open Go Go.Abs
set_option maxRecDepth 100000
set_option linter.unusedVariables false
def g_p_reader_values_2 (n:Nat) (a0r:GPr):Option ((List (List PV)) × GPr) :=
 loopN (fun recl1 (l1_1,l1_2)=>g_p_reader_values_2_l1 n a0r recl1 l1_1 l1_2) n ([],a0r.pos)
theorem g_p_reader_values_2_ok (n:Nat) (a0r:GPr) (hv0_3w:Option Addr) (hv0_3l hv0_3c:Nat):∀ r,g_p_reader_values_2 n a0r=some r→ACall Tryd.prog 76 [.ptr 1000 0, .p (.val (.func (.func 82) #[] #[]))] (Go.Abs.look [(1000, .box 67 [.p (.sl 4 (mTk a0r.tokens)),I a0r.pos,I a0r.length, .p (.val (.slice hv0_3w hv0_3l hv0_3c))])]) (heapR (fun r:(List (List PV)) × GPr=>((.ret (.p (.sl 5 (mI r.1))),[(1000, .box 67 [.p (.sl 4 (mTk r.2.tokens)),I r.2.pos,I r.2.length, .p (.val (.slice hv0_3w hv0_3l hv0_3c))])]):AEnd × List (Nat × Blk))) r):=by
 refine acall_sim (X:=fun r:(List (List PV)) × GPr=>((.ret (.p (.sl 5 (mI r.1))),[(1000, .box 67 [.p (.sl 4 (mTk r.2.tokens)),I r.2.pos,I r.2.length, .p (.val (.slice hv0_3w hv0_3l hv0_3c))])]):AEnd × List (Nat × Blk))) [(1000, .box 67 [.p (.sl 4 (mTk a0r.tokens)),I a0r.pos,I a0r.length, .p (.val (.slice hv0_3w hv0_3l hv0_3c))])] Tryd.func76 rfl Tryd.ntmps76 rfl ?_
 unfold g_p_reader_values_2
 refine sR Tryd.fm ⟨[0,1],[1000],[],[]⟩ ⟨[(0, .ptr 1000 0),(1, .p (.val (.func (.func 82) #[] #[])))],[(1000, .box 67 [.p (.sl 4 (mTk a0r.tokens)),I a0r.pos,I a0r.length, .p (.val (.slice hv0_3w hv0_3l hv0_3c))])]⟩ krf (sR Tryd.fm ⟨[0,1,5],[1000],[],[]⟩ ⟨[(0, .ptr 1000 0),(1, .p (.val (.func (.func 82) #[] #[]))),(5,zS)],[(1000, .box 67 [.p (.sl 4 (mTk a0r.tokens)),I a0r.pos,I a0r.length, .p (.val (.slice hv0_3w hv0_3l hv0_3c))])]⟩ krf (sB (sP ⟨[0,1,5],[1000],[],[]⟩ ⟨[(0, .ptr 1000 0),(1, .p (.val (.func (.func 82) #[] #[]))),(5,zS)],[(1000, .box 67 [.p (.sl 4 (mTk a0r.tokens)),I a0r.pos,I a0r.length, .p (.val (.slice hv0_3w hv0_3l hv0_3c))])]⟩ krf (sim_weak (weak_pn 33 5 600 [5] [] krf) (sim_loop (fun (l1_1,l1_2)=>⟨[(0, .ptr 1000 0),(1, .p (.val (.func (.func 82) #[] #[]))),(5, .tsl 5 (mI l1_1) 600)],[(600, .arr 33 5 (mI l1_1).length),(1000, .box 67 [.p (.sl 4 (mTk a0r.tokens)),I l1_2,I a0r.length, .p (.val (.slice hv0_3w hv0_3l hv0_3c))])]⟩:((List (List PV)) × Int)→St) (weak_shr (K:=⟨[0,1,5],[600,1000],[],[]⟩) krf) ?_)))))
 rintro recl1 ⟨l1_1,l1_2⟩
 show SimE (g_p_reader_values_2_l1 n a0r recl1 l1_1 l1_2) _ _ _ _ _ _
 unfold g_p_reader_values_2_l1
 refine sB (sS (sG (xR 1 krf ?_)))
 refine xs_ro [.ro []] krf (g_p_reader_peek_ok n (⟨a0r.tokens,l1_2,a0r.length,[]⟩:GPr) hv0_3w hv0_3l hv0_3c) krf krf (fun _=>by kernel_rfl) (fun r2=>?_)
 refine xR 2 krf (xE (sN ⟨[0,1,5,6],[6,600,1000],[],[]⟩ ⟨[(0, .ptr 1000 0),(1, .p (.val (.func (.func 82) #[] #[]))),(5, .tsl 5 (mI l1_1) 600),(6, .ptr 6 0)],[(6, .box 46 (bxc (GTk.cs r2))),(600, .arr 33 5 (mI l1_1).length),(1000, .box 67 [.p (.sl 4 (mTk a0r.tokens)),I l1_2,I a0r.length, .p (.val (.slice hv0_3w hv0_3l hv0_3c))])]⟩ krf (sS (sB (sR Tryd.fm ⟨[0,1,5,6,10],[6,600,1000],[],[]⟩ ⟨[(0, .ptr 1000 0),(1, .p (.val (.func (.func 82) #[] #[]))),(5, .tsl 5 (mI l1_1) 600),(6, .ptr 6 0),(10,B (eqI r2.Kind 2))],[(6, .box 46 (bxc (GTk.cs r2))),(600, .arr 33 5 (mI l1_1).length),(1000, .box 67 [.p (.sl 4 (mTk a0r.tokens)),I l1_2,I a0r.length, .p (.val (.slice hv0_3w hv0_3l hv0_3c))])]⟩ krf (sC (eqI r2.Kind 2) krf ?_ ?_))))))
 ·refine sG (xR 4 krf (xs_inline [] [.agg [I r2.Kind,S r2.Text,I r2.N,I r2.At],I 6,S [],I r2.N,zS] [] [] [] krf Tryd.func26 rfl Tryd.ntmps26 rfl krf krf krf (sR Tryd.fm ⟨[1,2,3,4,5,10],[5,10],[],[]⟩ ⟨[(1,I 6),(2,S []),(3,I r2.N),(4,zS),(5, .ptr 5 0),(10, .ptr 10 0)],[(5, .box 46 (bxc (GTk.cs r2))),(10, .box 33 [I 0,S [],I 0,I 0,zS])]⟩ krf (sR Tryd.fm ⟨[4,10,11],[10,11],[],[]⟩ ⟨[(4,zS),(10, .ptr 10 0),(11, .ptr 11 0)],[(10, .box 33 [I 0,S [],I 0,I 0,zS]),(11, .box 33 [I 6,S [],I r2.N,I r2.At,zS])]⟩ krf (sim_bind (fun _=>⟨[(10, .ptr 10 0),(11, .ptr 11 0)],[(10, .box 33 [I 0,S [],I 0,I 0,zS]),(11, .box 33 [I 6,S [],I r2.N,I r2.At,zS])]⟩:Unit→St) ?_ ?_)))))
  ·refine sR Tryd.fm ⟨[10,11,20,21,22],[10,11],[],[]⟩ ⟨[(10, .ptr 10 0),(11, .ptr 11 0),(20,zS),(21,I 0),(22,I 0)],[(10, .box 33 [I 0,S [],I 0,I 0,zS]),(11, .box 33 [I 6,S [],I r2.N,I r2.At,zS])]⟩ krf (sB (sim_unroll 0 (sR Tryd.fm ⟨[10,11,20,21,22,23],[10,11],[],[]⟩ ⟨[(10, .ptr 10 0),(11, .ptr 11 0),(20,zS),(21,I 0),(22,I 0),(23,B false)],[(10, .box 33 [I 0,S [],I 0,I 0,zS]),(11, .box 33 [I 6,S [],I r2.N,I r2.At,zS])]⟩ krf (sS (sim_condF krf (sim_exit (sq_x ?_)))))))
   refine ru_x (bq_hit ?_)
   exact nq_n () ⟨[10,11],[10,11],[],[]⟩ krf
  ·rintro _
   refine sR Tryd.fm ⟨[10],[10],[],[]⟩ ⟨[(10, .ptr 10 0)],[(10, .box 33 [I 6,S [],I r2.N,I r2.At,zS])]⟩ krf (sT (iq_ret (.agg [.id, .id, .id, .id, .sl 5]) [] [] (.agg [I 6,S [],I r2.N,I r2.At, .p (.sl 5 (mI []))]) krf krf (kr0 (xR 1 krf (xF krf krf (aop_app (e:=33) (S:=5) (by_:=64) (enc:=idc) (tk:=600) (l:=l1_1) (l2:=[GNode.cs (⟨6,[],r2.N,r2.At,[]⟩:GNode)]) (xv:=.tsl 5 (mI [GNode.cs (⟨6,[],r2.N,r2.At,[]⟩:GNode)]) 19) rfl krf krf rfl krf krf krf rfl krf) (xR 1 krf (xE ?_)))))))
   refine bq_n (sN ⟨[0,1,5],[600,1000],[],[]⟩ ⟨[(0, .ptr 1000 0),(1, .p (.val (.func (.func 82) #[] #[]))),(5, .tsl 5 (mI (l1_1++[GNode.cs (⟨6,[],r2.N,r2.At,[]⟩:GNode)])) 600)],[(600, .arr 33 5 (mI (l1_1++[GNode.cs (⟨6,[],r2.N,r2.At,[]⟩:GNode)])).length),(1000, .box 67 [.p (.sl 4 (mTk a0r.tokens)),I l1_2,I a0r.length, .p (.val (.slice hv0_3w hv0_3l hv0_3c))])]⟩ krf (sL Tryd.fm krf (bq_n ?_)))
   exact kq_n (l1_1++[GNode.cs (⟨6,[],r2.N,r2.At,[]⟩:GNode)],wi (l1_2+1)) ⟨[0,1,5],[600,1000],[],[]⟩ krf
 ·refine sim_bind (fun j4=>⟨[(0, .ptr 1000 0),(1, .p (.val (.func (.func 82) #[] #[]))),(5, .tsl 5 (mI l1_1) 600),(6, .ptr 6 0),(21,B j4)],[(6, .box 46 (bxc (GTk.cs r2))),(600, .arr 33 5 (mI l1_1).length),(1000, .box 67 [.p (.sl 4 (mTk a0r.tokens)),I l1_2,I a0r.length, .p (.val (.slice hv0_3w hv0_3l hv0_3c))])]⟩:Bool→St) ?_ ?_
  ·refine sG (xR 4 krf ?_)
   refine xS (eqI r2.Kind 1) (fun h5=>?_) (fun h5=>?_)
   ·refine xO (want_tt krf h5) krf (xR 2 krf ?_)
    refine xC [] krf (g_p_reader_article_1_1_ok n r2.Text) krf krf (fun _=>by kernel_rfl) (fun r6=>?_)
    refine xR 2 krf (xE ?_)
    exact nq_n r6 ⟨[0,1,5,6,21],[6,600,1000],[],[]⟩ krf
   ·refine xN (want_tf krf h5) krf (xR 5 krf (xE ?_))
    exact nq_n false ⟨[0,1,5,6,21],[6,600,1000],[],[]⟩ krf
  ·rintro j4
   refine sC j4 krf ?_ ?_
   ·refine sG (xR 4 krf (xs_inline [] [.agg [I r2.Kind,S r2.Text,I r2.N,I r2.At],I 5,S r2.Text,I 0,zS] [] [] [] krf Tryd.func26 rfl Tryd.ntmps26 rfl krf krf krf (sR Tryd.fm ⟨[1,2,3,4,5,10],[5,10],[],[]⟩ ⟨[(1,I 5),(2,S r2.Text),(3,I 0),(4,zS),(5, .ptr 5 0),(10, .ptr 10 0)],[(5, .box 46 (bxc (GTk.cs r2))),(10, .box 33 [I 0,S [],I 0,I 0,zS])]⟩ krf (sR Tryd.fm ⟨[4,10,11],[10,11],[],[]⟩ ⟨[(4,zS),(10, .ptr 10 0),(11, .ptr 11 0)],[(10, .box 33 [I 0,S [],I 0,I 0,zS]),(11, .box 33 [I 5,S r2.Text,I 0,I r2.At,zS])]⟩ krf (sim_bind (fun _=>⟨[(10, .ptr 10 0),(11, .ptr 11 0)],[(10, .box 33 [I 0,S [],I 0,I 0,zS]),(11, .box 33 [I 5,S r2.Text,I 0,I r2.At,zS])]⟩:Unit→St) ?_ ?_)))))
    ·refine sR Tryd.fm ⟨[10,11,20,21,22],[10,11],[],[]⟩ ⟨[(10, .ptr 10 0),(11, .ptr 11 0),(20,zS),(21,I 0),(22,I 0)],[(10, .box 33 [I 0,S [],I 0,I 0,zS]),(11, .box 33 [I 5,S r2.Text,I 0,I r2.At,zS])]⟩ krf (sB (sim_unroll 0 (sR Tryd.fm ⟨[10,11,20,21,22,23],[10,11],[],[]⟩ ⟨[(10, .ptr 10 0),(11, .ptr 11 0),(20,zS),(21,I 0),(22,I 0),(23,B false)],[(10, .box 33 [I 0,S [],I 0,I 0,zS]),(11, .box 33 [I 5,S r2.Text,I 0,I r2.At,zS])]⟩ krf (sS (sim_condF krf (sim_exit (sq_x ?_)))))))
     refine ru_x (bq_hit ?_)
     exact nq_n () ⟨[10,11],[10,11],[],[]⟩ krf
    ·rintro _
     refine sR Tryd.fm ⟨[10],[10],[],[]⟩ ⟨[(10, .ptr 10 0)],[(10, .box 33 [I 5,S r2.Text,I 0,I r2.At,zS])]⟩ krf (sT (iq_ret (.agg [.id, .id, .id, .id, .sl 5]) [] [] (.agg [I 5,S r2.Text,I 0,I r2.At, .p (.sl 5 (mI []))]) krf krf (kr0 (xR 1 krf (xF krf krf (aop_app (e:=33) (S:=5) (by_:=64) (enc:=idc) (tk:=600) (l:=l1_1) (l2:=[GNode.cs (⟨5,r2.Text,0,r2.At,[]⟩:GNode)]) (xv:=.tsl 5 (mI [GNode.cs (⟨5,r2.Text,0,r2.At,[]⟩:GNode)]) 36) rfl krf krf rfl krf krf krf rfl krf) (xR 1 krf (xE ?_)))))))
     refine bq_n (sN ⟨[0,1,5],[600,1000],[],[]⟩ ⟨[(0, .ptr 1000 0),(1, .p (.val (.func (.func 82) #[] #[]))),(5, .tsl 5 (mI (l1_1++[GNode.cs (⟨5,r2.Text,0,r2.At,[]⟩:GNode)])) 600)],[(600, .arr 33 5 (mI (l1_1++[GNode.cs (⟨5,r2.Text,0,r2.At,[]⟩:GNode)])).length),(1000, .box 67 [.p (.sl 4 (mTk a0r.tokens)),I l1_2,I a0r.length, .p (.val (.slice hv0_3w hv0_3l hv0_3c))])]⟩ krf (sL Tryd.fm krf (bq_n ?_)))
     exact kq_n (l1_1++[GNode.cs (⟨5,r2.Text,0,r2.At,[]⟩:GNode)],wi (l1_2+1)) ⟨[0,1,5],[600,1000],[],[]⟩ krf
   ·refine sR Tryd.fm ⟨[4],[600,1000],[],[]⟩ ⟨[(4, .tsl 5 (mI l1_1) 600)],[(600, .arr 33 5 (mI l1_1).length),(1000, .box 67 [.p (.sl 4 (mTk a0r.tokens)),I l1_2,I a0r.length, .p (.val (.slice hv0_3w hv0_3l hv0_3c))])]⟩ krf (sT (bq_r (sq_r (bq_r (kq_r (bq_r ?_))))))
    exact hq_ret (.sl 5) [1000] [] krf krf krf krf
def g_p_reader_article_j6 (r1:GTk) (j3_1:List (List PV)) (j3_2:List GTk) (j3_3:Int) (j3_4:Int):Option (Except (Int × GPr) (GNode × GPr)) :=
 some (.ok ((⟨4,r1.Text,0,r1.At,j3_1⟩:GNode),(⟨j3_2,wi (j3_3+1),j3_4,[]⟩:GPr)))
def g_p_reader_article_j2 (n:Nat) (a0r:GPr) (r1:GTk):Option (Except (Int × GPr) (GNode × GPr)) :=
 ((g_p_reader_values_2 n (⟨a0r.tokens,wi (a0r.pos+1),a0r.length,[]⟩:GPr)).bind fun r4 =>
 cond (roomB (List.length ([]++r4.1)) 64) (
  some ([]++r4.1,r4.2.tokens,r4.2.pos,r4.2.length)) none).bind fun (j3_1,j3_2,j3_3,j3_4) =>
 (g_p_reader_peek n (⟨j3_2,j3_3,j3_4,[]⟩:GPr)).bind fun r5 =>
 (cond (eqI r5.Kind 0)
  (some true)
  ((cond (eqI r5.Kind 3)
   (some (eqS r5.Text [59]))
   (some false)).bind fun j9 =>
  some (!j9))).bind fun j7 =>
 cond j7
  ((g_p_reader_fail n (⟨j3_2,j3_3,j3_4,[]⟩:GPr)).bind (exc (fun r11 =>
   g_p_reader_article_j6 r1 j3_1 j3_2 j3_3 j3_4) fun e12=>some (.error (e12,(⟨j3_2,j3_3,j3_4,[]⟩:GPr)))))
  (g_p_reader_article_j6 r1 j3_1 j3_2 j3_3 j3_4)
def g_p_reader_article (n:Nat) (a0r:GPr):Option (Except (Int × GPr) (GNode × GPr)) :=
 (g_p_reader_peek n (⟨a0r.tokens,a0r.pos,a0r.length,[]⟩:GPr)).bind fun r1 =>
 (cond (eqI r1.Kind 0)
  (some true)
  ((cond (eqI r1.Kind 1)
   ((g_p_isArticle n r1.Text).bind fun r17 =>
   some r17)
   (some false)).bind fun j15 =>
  some (!j15))).bind fun j13 =>
 cond j13
  ((g_p_reader_fail n (⟨a0r.tokens,a0r.pos,a0r.length,[]⟩:GPr)).bind (exc (fun r18 =>
   g_p_reader_article_j2 n a0r r1) fun e19=>some (.error (e19,(⟨a0r.tokens,a0r.pos,a0r.length,[]⟩:GPr)))))
  (g_p_reader_article_j2 n a0r r1)
theorem g_p_reader_article_ok (n:Nat) (a0r:GPr) (hv0_3w:Option Addr) (hv0_3l hv0_3c:Nat):∀ r,g_p_reader_article n a0r=some r→ACall Tryd.prog 78 [.ptr 1000 0] (Go.Abs.look [(1000, .box 67 [.p (.sl 4 (mTk a0r.tokens)),I a0r.pos,I a0r.length, .p (.val (.slice hv0_3w hv0_3l hv0_3c))])]) (heapR (excX (fun r:GNode × GPr=>((.ret (ag (GNode.cs r.1)),[(1000, .box 67 [.p (.sl 4 (mTk r.2.tokens)),I r.2.pos,I r.2.length, .p (.val (.slice hv0_3w hv0_3l hv0_3c))])]):AEnd × List (Nat × Blk))) (fun e:Int × GPr=>((.panic (.ifc 88 (.agg [I e.1])),[(1000, .box 67 [.p (.sl 4 (mTk e.2.tokens)),I e.2.pos,I e.2.length, .p (.val (.slice hv0_3w hv0_3l hv0_3c))])]):AEnd × List (Nat × Blk)))) r):=by
 refine acall_sim (X:=excX (fun r:GNode × GPr=>((.ret (ag (GNode.cs r.1)),[(1000, .box 67 [.p (.sl 4 (mTk r.2.tokens)),I r.2.pos,I r.2.length, .p (.val (.slice hv0_3w hv0_3l hv0_3c))])]):AEnd × List (Nat × Blk))) (fun e:Int × GPr=>((.panic (.ifc 88 (.agg [I e.1])),[(1000, .box 67 [.p (.sl 4 (mTk e.2.tokens)),I e.2.pos,I e.2.length, .p (.val (.slice hv0_3w hv0_3l hv0_3c))])]):AEnd × List (Nat × Blk)))) [(1000, .box 67 [.p (.sl 4 (mTk a0r.tokens)),I a0r.pos,I a0r.length, .p (.val (.slice hv0_3w hv0_3l hv0_3c))])] Tryd.func78 rfl Tryd.ntmps78 rfl ?_
 unfold g_p_reader_article
 refine sR Tryd.fm ⟨[1,2],[1,2,1000],[],[]⟩ ⟨[(1, .ptr 1 0),(2, .ptr 2 0)],[(1, .box 65 [.ptr 1000 0]),(2, .box 33 [I 0,S [],I 0,I 0,zS]),(1000, .box 67 [.p (.sl 4 (mTk a0r.tokens)),I a0r.pos,I a0r.length, .p (.val (.slice hv0_3w hv0_3l hv0_3c))])]⟩ krf (sS (sP ⟨[1,2],[1,2,1000],[],[]⟩ ⟨[(1, .ptr 1 0),(2, .ptr 2 0)],[(1, .box 65 [.ptr 1000 0]),(2, .box 33 [I 0,S [],I 0,I 0,zS]),(1000, .box 67 [.p (.sl 4 (mTk a0r.tokens)),I a0r.pos,I a0r.length, .p (.val (.slice hv0_3w hv0_3l hv0_3c))])]⟩ krf (sim_hstF [0] 3 3 [1,2,3,4] Tryd.fm rfl krf krf (lates_cons (late_read (.ptr 1000 0) krf rfl) (lates_nil)) krf (f_enter (f:=54) (args:=[.p (.val (.func (.func 66) #[] #[]))]) (dst:=some 6) krf krf rfl (sc_inline (hc:=[]) (args':=[.p (.val (.func (.func 66) #[] #[]))]) [(1,401)] [] [] Tryd.func54 rfl Tryd.ntmps54 rfl krf krf krf (sR Tryd.fm ⟨[1],[1],[],[]⟩ ⟨[(1, .ptr 1 0)],[(1, .box 30 [.p (.val (.func (.func 66) #[] #[]))])]⟩ krf (sR Tryd.fm ⟨[2],[1],[],[]⟩ ⟨[(2, .fn (.func 73) [] [.ptr 1 0])],[(1, .box 30 [.p (.val (.func (.func 66) #[] #[]))])]⟩ krf ?_)))))))
 refine sT (iq_ret (.id) [1] [] (.fn (.func 73) [] [.ptr 1 0]) krf krf (kf [0] krf (lates_cons (late_read (.ptr 1000 0) krf rfl) (lates_nil)) krf (f_enter (f:=53) (args:=[.ptr 1000 0, .fn (.func 73) [] [.ptr 401 0]]) (dst:=some 7) krf krf rfl (sc_inline (hc:=[(1000, .box 30 [.p (.val (.func (.func 66) #[] #[]))]),(1001, .box 67 [.p (.sl 4 (mTk a0r.tokens)),I a0r.pos,I a0r.length, .p (.val (.slice hv0_3w hv0_3l hv0_3c))])]) (args':=[.ptr 1001 0, .fn (.func 73) [] [.ptr 1000 0]]) [(1000,401),(1001,1000)] [] [] Tryd.func53 rfl Tryd.ntmps53 rfl krf krf krf (sR Tryd.fm ⟨[0,1,4],[4,1000,1001],[],[]⟩ ⟨[(0, .ptr 1001 0),(1, .fn (.func 73) [] [.ptr 1000 0]),(4, .ptr 4 0)],[(4, .box 46 [I 0,S [],I 0,I 0]),(1000, .box 30 [.p (.val (.func (.func 66) #[] #[]))]),(1001, .box 67 [.p (.sl 4 (mTk a0r.tokens)),I a0r.pos,I a0r.length, .p (.val (.slice hv0_3w hv0_3l hv0_3c))])]⟩ krf (sS (sG ?_)))))))
 refine xR 1 krf ?_
 refine xs_ro [.ro []] krf (g_p_reader_peek_ok n (⟨a0r.tokens,a0r.pos,a0r.length,[]⟩:GPr) hv0_3w hv0_3l hv0_3c) krf krf (fun _=>by kernel_rfl) (fun r1=>?_)
 refine xR 2 krf (xE (sN ⟨[0,1,4,5],[4,5,1000,1001],[],[]⟩ ⟨[(0, .ptr 1001 0),(1, .fn (.func 73) [] [.ptr 1000 0]),(4, .ptr 4 0),(5, .ptr 5 0)],[(4, .box 46 [I 0,S [],I 0,I 0]),(5, .box 46 (bxc (GTk.cs r1))),(1000, .box 30 [.p (.val (.func (.func 66) #[] #[]))]),(1001, .box 67 [.p (.sl 4 (mTk a0r.tokens)),I a0r.pos,I a0r.length, .p (.val (.slice hv0_3w hv0_3l hv0_3c))])]⟩ krf (sim_cps (fun _=>⟨[(0, .ptr 1001 0),(4, .ptr 4 0),(5, .ptr 5 0)],[(4, .box 46 [I 0,S [],I 0,I 0]),(5, .box 46 (bxc (GTk.cs r1))),(1000, .box 30 [.p (.val (.func (.func 66) #[] #[]))]),(1001, .box 67 [.p (.sl 4 (mTk a0r.tokens)),I a0r.pos,I a0r.length, .p (.val (.slice hv0_3w hv0_3l hv0_3c))])]⟩:Unit→St) (fun _=>g_p_reader_article_j2 n a0r r1) ?_ ?_)))
 ·rintro _
  show SimE (g_p_reader_article_j2 n a0r r1) _ _ _ _ _ _
  unfold g_p_reader_article_j2
  refine sR Tryd.fm ⟨[4,5],[4,5,1000,1001],[],[]⟩ ⟨[(4, .ptr 4 0),(5, .ptr 5 0)],[(4, .box 46 [I 0,S [],I 0,I 0]),(5, .box 46 (bxc (GTk.cs r1))),(1000, .box 30 [.p (.val (.func (.func 66) #[] #[]))]),(1001, .box 67 [.p (.sl 4 (mTk a0r.tokens)),I (wi (a0r.pos+1)),I a0r.length, .p (.val (.slice hv0_3w hv0_3l hv0_3c))])]⟩ krf (sR Tryd.fm ⟨[4],[4,1000,1001],[],[]⟩ ⟨[(4, .ptr 4 0)],[(4, .box 46 (bxc (GTk.cs r1))),(1000, .box 30 [.p (.val (.func (.func 66) #[] #[]))]),(1001, .box 67 [.p (.sl 4 (mTk a0r.tokens)),I (wi (a0r.pos+1)),I a0r.length, .p (.val (.slice hv0_3w hv0_3l hv0_3c))])]⟩ krf (sT (iq_ret (.id) [1000,1001] [] (.agg [I r1.Kind,S r1.Text,I r1.N,I r1.At]) krf krf (kf [] krf (lates_nil) krf (f_q [0] krf krf (lates_cons (late_read (.ptr 1000 0) krf rfl) (lates_nil)) (f_op [] rfl krf krf (lates_nil) krf (f_end ?_)))))))
  refine sN ⟨[1,2,3],[1,2,3,1000],[],[]⟩ ⟨[(1, .ptr 1 0),(2, .ptr 2 0),(3, .ptr 3 0)],[(1, .box 65 [.ptr 1000 0]),(2, .box 33 [I 0,S [],I 0,I 0,zS]),(3, .box 46 (bxc (GTk.cs r1))),(1000, .box 67 [.p (.sl 4 (mTk a0r.tokens)),I (wi (a0r.pos+1)),I a0r.length, .p (.val (.slice hv0_3w hv0_3l hv0_3c))])]⟩ krf (sS (sG (xR 5 krf (xs_inline [(1000, .box 65 [.ptr 1002 0]),(1001, .box 69 [.fn (.func 81) [] [.ptr 1000 0]]),(1002, .box 67 [.p (.sl 4 (mTk a0r.tokens)),I (wi (a0r.pos+1)),I a0r.length, .p (.val (.slice hv0_3w hv0_3l hv0_3c))])] [.agg [I r1.Kind,S r1.Text,I r1.N,I r1.At],I 4,S r1.Text,I 0, .bsl 1001 1] [(1000,1),(1001,12),(1002,1000)] [] [] krf Tryd.func26 rfl Tryd.ntmps26 rfl krf krf krf (sR Tryd.fm ⟨[1,2,3,4,5,10],[5,10,1000,1001,1002],[],[]⟩ ⟨[(1,I 4),(2,S r1.Text),(3,I 0),(4, .bsl 1001 1),(5, .ptr 5 0),(10, .ptr 10 0)],[(5, .box 46 (bxc (GTk.cs r1))),(10, .box 33 [I 0,S [],I 0,I 0,zS]),(1000, .box 65 [.ptr 1002 0]),(1001, .box 69 [.fn (.func 81) [] [.ptr 1000 0]]),(1002, .box 67 [.p (.sl 4 (mTk a0r.tokens)),I (wi (a0r.pos+1)),I a0r.length, .p (.val (.slice hv0_3w hv0_3l hv0_3c))])]⟩ krf (sR Tryd.fm ⟨[4,10,11],[10,11,1000,1001,1002],[],[]⟩ ⟨[(4, .bsl 1001 1),(10, .ptr 10 0),(11, .ptr 11 0)],[(10, .box 33 [I 0,S [],I 0,I 0,zS]),(11, .box 33 [I 4,S r1.Text,I 0,I r1.At,zS]),(1000, .box 65 [.ptr 1002 0]),(1001, .box 69 [.fn (.func 81) [] [.ptr 1000 0]]),(1002, .box 67 [.p (.sl 4 (mTk a0r.tokens)),I (wi (a0r.pos+1)),I a0r.length, .p (.val (.slice hv0_3w hv0_3l hv0_3c))])]⟩ krf (sim_bind (fun (j3_1,j3_2,j3_3,j3_4)=>⟨[(10, .ptr 10 0),(11, .ptr 11 0)],[(10, .box 33 [I 0,S [],I 0,I 0,zS]),(11, .box 33 [I 4,S r1.Text,I 0,I r1.At, .tsl 5 (mI j3_1) 600]),(600, .arr 33 5 (mI j3_1).length),(1000, .box 65 [.ptr 1002 0]),(1001, .box 69 [.fn (.func 81) [] [.ptr 1000 0]]),(1002, .box 67 [.p (.sl 4 (mTk j3_2)),I j3_3,I j3_4, .p (.val (.slice hv0_3w hv0_3l hv0_3c))])]⟩:((List (List PV)) × (List GTk) × Int × Int)→St) ?_ ?_)))))))
  ·refine sR Tryd.fm ⟨[10,11,20,21,22],[10,11,1000,1001,1002],[],[]⟩ ⟨[(10, .ptr 10 0),(11, .ptr 11 0),(20, .bsl 1001 1),(21,I 1),(22,I 0)],[(10, .box 33 [I 0,S [],I 0,I 0,zS]),(11, .box 33 [I 4,S r1.Text,I 0,I r1.At,zS]),(1000, .box 65 [.ptr 1002 0]),(1001, .box 69 [.fn (.func 81) [] [.ptr 1000 0]]),(1002, .box 67 [.p (.sl 4 (mTk a0r.tokens)),I (wi (a0r.pos+1)),I a0r.length, .p (.val (.slice hv0_3w hv0_3l hv0_3c))])]⟩ krf (sB (sim_unroll 1 (sR Tryd.fm ⟨[10,11,20,21,22,23],[10,11,1000,1001,1002],[],[]⟩ ⟨[(10, .ptr 10 0),(11, .ptr 11 0),(20, .bsl 1001 1),(21,I 1),(22,I 0),(23,B true)],[(10, .box 33 [I 0,S [],I 0,I 0,zS]),(11, .box 33 [I 4,S r1.Text,I 0,I r1.At,zS]),(1000, .box 65 [.ptr 1002 0]),(1001, .box 69 [.fn (.func 81) [] [.ptr 1000 0]]),(1002, .box 67 [.p (.sl 4 (mTk a0r.tokens)),I (wi (a0r.pos+1)),I a0r.length, .p (.val (.slice hv0_3w hv0_3l hv0_3c))])]⟩ krf (sS (sim_condT krf (sK (sN ⟨[10,11,20,21,22],[10,11,1000,1001,1002],[],[]⟩ ⟨[(10, .ptr 10 0),(11, .ptr 11 0),(20, .bsl 1001 1),(21,I 1),(22,I 0)],[(10, .box 33 [I 0,S [],I 0,I 0,zS]),(11, .box 33 [I 4,S r1.Text,I 0,I r1.At,zS]),(1000, .box 65 [.ptr 1002 0]),(1001, .box 69 [.fn (.func 81) [] [.ptr 1000 0]]),(1002, .box 67 [.p (.sl 4 (mTk a0r.tokens)),I (wi (a0r.pos+1)),I a0r.length, .p (.val (.slice hv0_3w hv0_3l hv0_3c))])]⟩ krf ?_)))))))
   refine sS (sB (sR Tryd.fm ⟨[10,11,13,20,21,22],[10,11,1000,1001,1002],[],[]⟩ ⟨[(10, .ptr 10 0),(11, .ptr 11 0),(13, .fn (.func 81) [] [.ptr 1000 0]),(20, .bsl 1001 1),(21,I 1),(22,I 0)],[(10, .box 33 [I 0,S [],I 0,I 0,zS]),(11, .box 33 [I 4,S r1.Text,I 0,I r1.At,zS]),(1000, .box 65 [.ptr 1002 0]),(1001, .box 69 [.fn (.func 81) [] [.ptr 1000 0]]),(1002, .box 67 [.p (.sl 4 (mTk a0r.tokens)),I (wi (a0r.pos+1)),I a0r.length, .p (.val (.slice hv0_3w hv0_3l hv0_3c))])]⟩ krf (sP ⟨[10,11,13,20,21,22],[10,11,1000,1001,1002],[],[]⟩ ⟨[(10, .ptr 10 0),(11, .ptr 11 0),(13, .fn (.func 81) [] [.ptr 1000 0]),(20, .bsl 1001 1),(21,I 1),(22,I 0)],[(10, .box 33 [I 0,S [],I 0,I 0,zS]),(11, .box 33 [I 4,S r1.Text,I 0,I r1.At,zS]),(1000, .box 65 [.ptr 1002 0]),(1001, .box 69 [.fn (.func 81) [] [.ptr 1000 0]]),(1002, .box 67 [.p (.sl 4 (mTk a0r.tokens)),I (wi (a0r.pos+1)),I a0r.length, .p (.val (.slice hv0_3w hv0_3l hv0_3c))])]⟩ krf (sim_weak (weak_pn 33 5 600 [] [(11,4)] krf) (sim_hst [0,1,2] [0,1] [(3,[]),(4,[]),(5,[]),(6,[])] Tryd.fm rfl krf krf (h_enter (f:=81) (args:=[.ptr 1000 0]) (dst:=some 29) krf krf (sc_inline (hc:=[(1000, .box 65 [.ptr 1001 0]),(1001, .box 67 [.p (.sl 4 (mTk a0r.tokens)),I (wi (a0r.pos+1)),I a0r.length, .p (.val (.slice hv0_3w hv0_3l hv0_3c))])]) (args':=[.ptr 1000 0]) [(1000,1000),(1001,1002)] [] [] Tryd.func81 rfl Tryd.ntmps81 rfl krf krf krf ?_)))))))
   refine sR Tryd.fm ⟨[0],[1000,1001],[],[]⟩ ⟨[(0, .ptr 1000 0)],[(1000, .box 65 [.ptr 1001 0]),(1001, .box 67 [.p (.sl 4 (mTk a0r.tokens)),I (wi (a0r.pos+1)),I a0r.length, .p (.val (.slice hv0_3w hv0_3l hv0_3c))])]⟩ krf (sS (sG (xR 1 krf ?_)))
   refine xs_heap [(1000,1001)] [] [] krf (g_p_reader_values_2_ok n (⟨a0r.tokens,wi (a0r.pos+1),a0r.length,[]⟩:GPr) hv0_3w hv0_3l hv0_3c) krf krf krf (fun _=>by kernel_rfl) (fun _=>by kernel_rfl) (fun r4=>?_)
   refine xR 1 krf (xE (sN ⟨[1],[1000,1001],[],[]⟩ ⟨[(1, .p (.sl 5 (mI r4.1)))],[(1000, .box 65 [.ptr 1001 0]),(1001, .box 67 [.p (.sl 4 (mTk r4.2.tokens)),I r4.2.pos,I r4.2.length, .p (.val (.slice hv0_3w hv0_3l hv0_3c))])]⟩ krf (sT (iq_ret (.id) [1000,1001] [] (.p (.sl 5 (mI r4.1))) krf krf (kh [0,1] krf (lates_cons (late_read (.ptr 11 4) krf rfl) (lates_cons (late_tsl (S:=5) (t:=600) (ty:=33) (es:=mI []) krf krf rfl) (lates_nil))) krf (h_if [] rfl krf krf (aop_appL (e:=33) (S:=5) (by_:=64) (enc:=idc) (tk:=600) (l:=[]) (l2:=r4.1) (xv:=.p (.sl 5 (mI r4.1))) rfl krf krf rfl krf krf krf krf) (fun _=>lates_nil) (h_op [] krf krf (lates_nil) ?_)))))))
   refine h_op [] krf krf (lates_nil) (h_end (bq_n (sN ⟨[10,11,20,21,22],[10,11,600,1000,1001,1002],[],[]⟩ ⟨[(10, .ptr 10 0),(11, .ptr 11 0),(20, .bsl 1001 1),(21,I 1),(22,I 0)],[(10, .box 33 [I 0,S [],I 0,I 0,zS]),(11, .box 33 [I 4,S r1.Text,I 0,I r1.At, .tsl 5 (mI ([]++r4.1)) 600]),(600, .arr 33 5 (mI ([]++r4.1)).length),(1000, .box 65 [.ptr 1002 0]),(1001, .box 69 [.fn (.func 81) [] [.ptr 1000 0]]),(1002, .box 67 [.p (.sl 4 (mTk r4.2.tokens)),I r4.2.pos,I r4.2.length, .p (.val (.slice hv0_3w hv0_3l hv0_3c))])]⟩ krf (sL Tryd.fm krf (ru_n ⟨[10,11,20,21,22],[10,11,600,1000,1001,1002],[],[]⟩ ⟨[(10, .ptr 10 0),(11, .ptr 11 0),(20, .bsl 1001 1),(21,I 1),(22,I 1)],[(10, .box 33 [I 0,S [],I 0,I 0,zS]),(11, .box 33 [I 4,S r1.Text,I 0,I r1.At, .tsl 5 (mI ([]++r4.1)) 600]),(600, .arr 33 5 (mI ([]++r4.1)).length),(1000, .box 65 [.ptr 1002 0]),(1001, .box 69 [.fn (.func 81) [] [.ptr 1000 0]]),(1002, .box 67 [.p (.sl 4 (mTk r4.2.tokens)),I r4.2.pos,I r4.2.length, .p (.val (.slice hv0_3w hv0_3l hv0_3c))])]⟩ krf (sR Tryd.fm ⟨[10,11,20,21,22,23],[10,11,600,1000,1001,1002],[],[]⟩ ⟨[(10, .ptr 10 0),(11, .ptr 11 0),(20, .bsl 1001 1),(21,I 1),(22,I 1),(23,B false)],[(10, .box 33 [I 0,S [],I 0,I 0,zS]),(11, .box 33 [I 4,S r1.Text,I 0,I r1.At, .tsl 5 (mI ([]++r4.1)) 600]),(600, .arr 33 5 (mI ([]++r4.1)).length),(1000, .box 65 [.ptr 1002 0]),(1001, .box 69 [.fn (.func 81) [] [.ptr 1000 0]]),(1002, .box 67 [.p (.sl 4 (mTk r4.2.tokens)),I r4.2.pos,I r4.2.length, .p (.val (.slice hv0_3w hv0_3l hv0_3c))])]⟩ krf (sS ?_)))))))
   refine sim_condF krf (sim_exit (sq_x (ru_x (bq_hit ?_))))
   exact nq_n ([]++r4.1,r4.2.tokens,r4.2.pos,r4.2.length) ⟨[10,11],[10,11,600,1000,1001,1002],[],[]⟩ krf
  ·rintro ⟨j3_1,j3_2,j3_3,j3_4⟩
   refine sR Tryd.fm ⟨[10],[10,600,1000,1001,1002],[],[]⟩ ⟨[(10, .ptr 10 0)],[(10, .box 33 [I 4,S r1.Text,I 0,I r1.At, .tsl 5 (mI j3_1) 600]),(600, .arr 33 5 (mI j3_1).length),(1000, .box 65 [.ptr 1002 0]),(1001, .box 69 [.fn (.func 81) [] [.ptr 1000 0]]),(1002, .box 67 [.p (.sl 4 (mTk j3_2)),I j3_3,I j3_4, .p (.val (.slice hv0_3w hv0_3l hv0_3c))])]⟩ krf (sT (iq_ret (.agg [.id, .id, .id, .id, .sl 5]) [1000,1001,1002] [] (.agg [I 4,S r1.Text,I 0,I r1.At, .p (.sl 5 (mI j3_1))]) krf krf (kr0 (xR 2 krf (xE (sN ⟨[1,2,4],[1,2,4,1000],[],[]⟩ ⟨[(1, .ptr 1 0),(2, .ptr 2 0),(4, .ptr 4 0)],[(1, .box 65 [.ptr 1000 0]),(2, .box 33 [I 0,S [],I 0,I 0,zS]),(4, .box 33 (bxc (GNode.cs ⟨4,r1.Text,0,r1.At,j3_1⟩))),(1000, .box 67 [.p (.sl 4 (mTk j3_2)),I j3_3,I j3_4, .p (.val (.slice hv0_3w hv0_3l hv0_3c))])]⟩ krf (sS ?_)))))))
   refine sim_hst [0] [0] [(1,[]),(2,[])] Tryd.fm rfl krf krf (h_enter (f:=59) (args:=[S [59]]) (dst:=some 15) krf krf (sc_inline (hc:=[]) (args':=[S [59]]) [(1,401)] [] [] Tryd.func59 rfl Tryd.ntmps59 rfl krf krf krf (sR Tryd.fm ⟨[1],[1],[],[]⟩ ⟨[(1, .ptr 1 0)],[(1, .box 9 [S [59]])]⟩ krf (sR Tryd.fm ⟨[2],[1],[],[]⟩ ⟨[(2, .fn (.func 74) [] [.ptr 1 0])],[(1, .box 9 [S [59]])]⟩ krf (sT (iq_ret (.id) [1] [] (.fn (.func 74) [] [.ptr 1 0]) krf krf (kh [0] krf (lates_cons (late_read (.ptr 1000 0) krf rfl) (lates_nil)) krf ?_)))))))
   refine h_enter (f:=53) (args:=[.ptr 1000 0, .fn (.func 74) [] [.ptr 401 0]]) (dst:=some 16) krf krf (sc_inline (hc:=[(1000, .box 9 [S [59]]),(1001, .box 67 [.p (.sl 4 (mTk j3_2)),I j3_3,I j3_4, .p (.val (.slice hv0_3w hv0_3l hv0_3c))])]) (args':=[.ptr 1001 0, .fn (.func 74) [] [.ptr 1000 0]]) [(1000,401),(1001,1000)] [] [] Tryd.func53 rfl Tryd.ntmps53 rfl krf krf krf (sR Tryd.fm ⟨[0,1,4],[4,1000,1001],[],[]⟩ ⟨[(0, .ptr 1001 0),(1, .fn (.func 74) [] [.ptr 1000 0]),(4, .ptr 4 0)],[(4, .box 46 [I 0,S [],I 0,I 0]),(1000, .box 9 [S [59]]),(1001, .box 67 [.p (.sl 4 (mTk j3_2)),I j3_3,I j3_4, .p (.val (.slice hv0_3w hv0_3l hv0_3c))])]⟩ krf (sS (sG (xR 1 krf ?_)))))
   refine xs_ro [.ro []] krf (g_p_reader_peek_ok n (⟨j3_2,j3_3,j3_4,[]⟩:GPr) hv0_3w hv0_3l hv0_3c) krf krf (fun _=>by kernel_rfl) (fun r5=>?_)
   refine xR 2 krf (xE (sN ⟨[0,1,4,5],[4,5,1000,1001],[],[]⟩ ⟨[(0, .ptr 1001 0),(1, .fn (.func 74) [] [.ptr 1000 0]),(4, .ptr 4 0),(5, .ptr 5 0)],[(4, .box 46 [I 0,S [],I 0,I 0]),(5, .box 46 (bxc (GTk.cs r5))),(1000, .box 9 [S [59]]),(1001, .box 67 [.p (.sl 4 (mTk j3_2)),I j3_3,I j3_4, .p (.val (.slice hv0_3w hv0_3l hv0_3c))])]⟩ krf (sim_cps (fun _=>⟨[(0, .ptr 1001 0),(4, .ptr 4 0),(5, .ptr 5 0)],[(4, .box 46 [I 0,S [],I 0,I 0]),(5, .box 46 (bxc (GTk.cs r5))),(1000, .box 9 [S [59]]),(1001, .box 67 [.p (.sl 4 (mTk j3_2)),I j3_3,I j3_4, .p (.val (.slice hv0_3w hv0_3l hv0_3c))])]⟩:Unit→St) (fun _=>g_p_reader_article_j6 r1 j3_1 j3_2 j3_3 j3_4) ?_ ?_)))
   ·rintro _
    show SimE (g_p_reader_article_j6 r1 j3_1 j3_2 j3_3 j3_4) _ _ _ _ _ _
    unfold g_p_reader_article_j6
    refine sR Tryd.fm ⟨[4,5],[4,5,1000,1001],[],[]⟩ ⟨[(4, .ptr 4 0),(5, .ptr 5 0)],[(4, .box 46 [I 0,S [],I 0,I 0]),(5, .box 46 (bxc (GTk.cs r5))),(1000, .box 9 [S [59]]),(1001, .box 67 [.p (.sl 4 (mTk j3_2)),I (wi (j3_3+1)),I j3_4, .p (.val (.slice hv0_3w hv0_3l hv0_3c))])]⟩ krf (sR Tryd.fm ⟨[4],[4,1000,1001],[],[]⟩ ⟨[(4, .ptr 4 0)],[(4, .box 46 (bxc (GTk.cs r5))),(1000, .box 9 [S [59]]),(1001, .box 67 [.p (.sl 4 (mTk j3_2)),I (wi (j3_3+1)),I j3_4, .p (.val (.slice hv0_3w hv0_3l hv0_3c))])]⟩ krf (sT (iq_ret (.id) [1000,1001] [] (.agg [I r5.Kind,S r5.Text,I r5.N,I r5.At]) krf krf (kh [] krf (lates_nil) krf (h_end (sN ⟨[2,4],[2,4,1000],[],[]⟩ ⟨[(2, .ptr 2 0),(4, .ptr 4 0)],[(2, .box 33 [I 0,S [],I 0,I 0,zS]),(4, .box 33 (bxc (GNode.cs ⟨4,r1.Text,0,r1.At,j3_1⟩))),(1000, .box 67 [.p (.sl 4 (mTk j3_2)),I (wi (j3_3+1)),I j3_4, .p (.val (.slice hv0_3w hv0_3l hv0_3c))])]⟩ krf (sR Tryd.fm ⟨[2],[2,1000],[],[]⟩ ⟨[(2, .ptr 2 0)],[(2, .box 33 (bxc (GNode.cs ⟨4,r1.Text,0,r1.At,j3_1⟩))),(1000, .box 67 [.p (.sl 4 (mTk j3_2)),I (wi (j3_3+1)),I j3_4, .p (.val (.slice hv0_3w hv0_3l hv0_3c))])]⟩ krf ?_)))))))
    refine sT ?_
    exact hq_ret (.id) [1000] [] krf krf krf krf
   ·refine sim_bind (fun j7=>⟨[(0, .ptr 1001 0),(4, .ptr 4 0),(5, .ptr 5 0),(16,B j7)],[(4, .box 46 [I 0,S [],I 0,I 0]),(5, .box 46 (bxc (GTk.cs r5))),(1000, .box 9 [S [59]]),(1001, .box 67 [.p (.sl 4 (mTk j3_2)),I j3_3,I j3_4, .p (.val (.slice hv0_3w hv0_3l hv0_3c))])]⟩:Bool→St) ?_ ?_
    ·refine sG (xR 4 krf ?_)
     refine xS (eqI r5.Kind 0) (fun h8=>?_) (fun h8=>?_)
     ·refine xN (want_ft krf h8) krf (xR 4 krf (xE ?_))
      exact nq_n true ⟨[0,4,5,16],[4,5,1000,1001],[],[]⟩ krf
     ·refine xO (want_ff krf h8) krf (xR 1 krf (xs_inline [(1000, .box 9 [S [59]])] [.agg [I r5.Kind,S r5.Text,I r5.N,I r5.At], .ptr 1000 0] [(1000,1000)] [] [] krf Tryd.func74 rfl Tryd.ntmps74 rfl krf krf krf (sR Tryd.fm ⟨[1,2],[2,1000],[],[]⟩ ⟨[(1, .ptr 1000 0),(2, .ptr 2 0)],[(2, .box 46 (bxc (GTk.cs r5))),(1000, .box 9 [S [59]])]⟩ krf (sim_bind (fun j9=>⟨[(3,B j9)],[(1000, .box 9 [S [59]])]⟩:Bool→St) ?_ ?_))))
      ·refine sG (xR 4 krf ?_)
       refine xS (eqI r5.Kind 3) (fun h10=>?_) (fun h10=>?_)
       ·refine xO (want_tt krf h10) krf (xR 5 krf (xE ?_))
        exact nq_n (eqS r5.Text [59]) ⟨[3],[1000],[],[]⟩ krf
       ·refine xN (want_tf krf h10) krf (xR 5 krf (xE ?_))
        exact nq_n false ⟨[3],[1000],[],[]⟩ krf
      ·rintro j9
       refine sT (iq_ret (.id) [1000] [] (B j9) krf krf (kr0 (xR 2 krf (xE ?_))))
       exact nq_n (!j9) ⟨[0,4,5,16],[4,5,1000,1001],[],[]⟩ krf
    ·rintro j7
     refine sC j7 krf ?_ ?_
     ·refine sG (xR 1 krf ?_)
      refine xs_roE [.ro []] krf (g_p_reader_fail_ok n (⟨j3_2,j3_3,j3_4,[]⟩:GPr) hv0_3w hv0_3l hv0_3c) krf krf (fun _=>by kernel_rfl) (fun _=>by kernel_rfl) (fun r11=>?_) (fun e12=>?_)
      ·refine xE ?_
       exact kq_n (k:=fun _=>g_p_reader_article_j6 r1 j3_1 j3_2 j3_3 j3_4) () ⟨[0,4,5],[4,5,1000,1001],[],[]⟩ krf
      ·refine kq_p (iq_p [1000,1001] [] krf (qh_p _ rfl (sq_p ?_)))
       exact hq_p [1000] [] krf krf krf
     ·refine sK ?_
      exact kq_n (k:=fun _=>g_p_reader_article_j6 r1 j3_1 j3_2 j3_3 j3_4) () ⟨[0,4,5],[4,5,1000,1001],[],[]⟩ krf
 ·refine sim_bind (fun j13=>⟨[(0, .ptr 1001 0),(4, .ptr 4 0),(5, .ptr 5 0),(16,B j13)],[(4, .box 46 [I 0,S [],I 0,I 0]),(5, .box 46 (bxc (GTk.cs r1))),(1000, .box 30 [.p (.val (.func (.func 66) #[] #[]))]),(1001, .box 67 [.p (.sl 4 (mTk a0r.tokens)),I a0r.pos,I a0r.length, .p (.val (.slice hv0_3w hv0_3l hv0_3c))])]⟩:Bool→St) ?_ ?_
  ·refine sG (xR 4 krf ?_)
   refine xS (eqI r1.Kind 0) (fun h14=>?_) (fun h14=>?_)
   ·refine xN (want_ft krf h14) krf (xR 4 krf (xE ?_))
    exact nq_n true ⟨[0,4,5,16],[4,5,1000,1001],[],[]⟩ krf
   ·refine xO (want_ff krf h14) krf (xR 1 krf (xs_inline [(1000, .box 30 [.p (.val (.func (.func 66) #[] #[]))])] [.agg [I r1.Kind,S r1.Text,I r1.N,I r1.At], .ptr 1000 0] [(1000,1000)] [] [] krf Tryd.func73 rfl Tryd.ntmps73 rfl krf krf krf (sR Tryd.fm ⟨[1,2],[2,1000],[],[]⟩ ⟨[(1, .ptr 1000 0),(2, .ptr 2 0)],[(2, .box 46 (bxc (GTk.cs r1))),(1000, .box 30 [.p (.val (.func (.func 66) #[] #[]))])]⟩ krf (sim_bind (fun j15=>⟨[(3,B j15)],[(1000, .box 30 [.p (.val (.func (.func 66) #[] #[]))])]⟩:Bool→St) ?_ ?_))))
    ·refine sG (xR 4 krf ?_)
     refine xS (eqI r1.Kind 1) (fun h16=>?_) (fun h16=>?_)
     ·refine xO (want_tt krf h16) krf (xR 2 krf ?_)
      refine xC [] krf (g_p_isArticle_ok n r1.Text) krf krf (fun _=>by kernel_rfl) (fun r17=>?_)
      refine xR 2 krf (xE ?_)
      exact nq_n r17 ⟨[3],[1000],[],[]⟩ krf
     ·refine xN (want_tf krf h16) krf (xR 5 krf (xE ?_))
      exact nq_n false ⟨[3],[1000],[],[]⟩ krf
    ·rintro j15
     refine sT (iq_ret (.id) [1000] [] (B j15) krf krf (kr0 (xR 2 krf (xE ?_))))
     exact nq_n (!j15) ⟨[0,4,5,16],[4,5,1000,1001],[],[]⟩ krf
  ·rintro j13
   refine sC j13 krf ?_ ?_
   ·refine sG (xR 1 krf ?_)
    refine xs_roE [.ro []] krf (g_p_reader_fail_ok n (⟨a0r.tokens,a0r.pos,a0r.length,[]⟩:GPr) hv0_3w hv0_3l hv0_3c) krf krf (fun _=>by kernel_rfl) (fun _=>by kernel_rfl) (fun r18=>?_) (fun e19=>?_)
    ·refine xE ?_
     exact kq_n (k:=fun _=>g_p_reader_article_j2 n a0r r1) () ⟨[0,4,5],[4,5,1000,1001],[],[]⟩ krf
    ·refine kq_p (iq_p [1000,1001] [] krf (qh_p _ rfl (sq_p ?_)))
     exact hq_p [1000] [] krf krf krf
   ·refine sK ?_
    exact kq_n (k:=fun _=>g_p_reader_article_j2 n a0r r1) () ⟨[0,4,5],[4,5,1000,1001],[],[]⟩ krf
def g_p_reader_skip_l1 (a0r:GPr) (recl1:Int→Option ((List UInt8) × GPr)) (l1:Int):Option ((List UInt8) × GPr) :=
 cond (ltI l1 (lenI (List.map GTk.cs a0r.tokens)))
  ((getI a0r.tokens l1).bind fun x2 =>
  (cond (eqI x2.Kind 3)
   (some (!eqS x2.Text [123]))
   (some false)).bind fun j3 =>
  cond j3
   (some (x2.Text,(⟨a0r.tokens,wi (l1+1),a0r.length,[]⟩:GPr)))
   (recl1 (wi (l1+1))))
  (some ([],(⟨a0r.tokens,l1,a0r.length,[]⟩:GPr)))
def g_p_reader_skip (n:Nat) (a0r:GPr):Option ((List UInt8) × GPr) :=
 loopN (fun recl1 l1=>g_p_reader_skip_l1 a0r recl1 l1) n a0r.pos
theorem g_p_reader_skip_ok (n:Nat) (a0r:GPr) (hv0_3w:Option Addr) (hv0_3l hv0_3c:Nat):∀ r,g_p_reader_skip n a0r=some r→ACall Tryd.prog 52 [.ptr 1000 0] (Go.Abs.look [(1000, .box 67 [.p (.sl 4 (mTk a0r.tokens)),I a0r.pos,I a0r.length, .p (.val (.slice hv0_3w hv0_3l hv0_3c))])]) (heapR (fun r:(List UInt8) × GPr=>((.ret (S r.1),[(1000, .box 67 [.p (.sl 4 (mTk r.2.tokens)),I r.2.pos,I r.2.length, .p (.val (.slice hv0_3w hv0_3l hv0_3c))])]):AEnd × List (Nat × Blk))) r):=by
 refine acall_sim (X:=fun r:(List UInt8) × GPr=>((.ret (S r.1),[(1000, .box 67 [.p (.sl 4 (mTk r.2.tokens)),I r.2.pos,I r.2.length, .p (.val (.slice hv0_3w hv0_3l hv0_3c))])]):AEnd × List (Nat × Blk))) [(1000, .box 67 [.p (.sl 4 (mTk a0r.tokens)),I a0r.pos,I a0r.length, .p (.val (.slice hv0_3w hv0_3l hv0_3c))])] Tryd.func52 rfl Tryd.ntmps52 rfl ?_
 unfold g_p_reader_skip
 refine sR Tryd.fm ⟨[0],[1000],[],[]⟩ ⟨[(0, .ptr 1000 0)],[(1000, .box 67 [.p (.sl 4 (mTk a0r.tokens)),I a0r.pos,I a0r.length, .p (.val (.slice hv0_3w hv0_3l hv0_3c))])]⟩ krf (sS (sB (sim_loop (fun l1=>⟨[(0, .ptr 1000 0)],[(1000, .box 67 [.p (.sl 4 (mTk a0r.tokens)),I l1,I a0r.length, .p (.val (.slice hv0_3w hv0_3l hv0_3c))])]⟩:Int→St) (weak_shr (K:=⟨[0],[1000],[],[]⟩) krf) ?_)))
 rintro recl1 l1
 show SimE (g_p_reader_skip_l1 a0r recl1 l1) _ _ _ _ _ _
 unfold g_p_reader_skip_l1
 refine sS (sR Tryd.fm ⟨[0,13],[1000],[],[]⟩ ⟨[(0, .ptr 1000 0),(13,B (ltI l1 (lenI (mTk a0r.tokens))))],[(1000, .box 67 [.p (.sl 4 (mTk a0r.tokens)),I l1,I a0r.length, .p (.val (.slice hv0_3w hv0_3l hv0_3c))])]⟩ krf (sC (ltI l1 (lenI (mTk a0r.tokens))) krf ?_ ?_))
 ·refine sK (sN ⟨[0],[1000],[],[]⟩ ⟨[(0, .ptr 1000 0)],[(1000, .box 67 [.p (.sl 4 (mTk a0r.tokens)),I l1,I a0r.length, .p (.val (.slice hv0_3w hv0_3l hv0_3c))])]⟩ krf (sB (sS (sim_drw Tryd.fm rfl (xR 8 krf ?_)))))
  refine xG krf krf (aop_idx (e:=46) (S:=4) (enc:=GTk.cs) (l:=a0r.tokens) (k:=.i64) (n:=l1) (sv:=.p (.sl 4 (mTk a0r.tokens))) rfl krf krf krf krf krf) (fun x2=>?_)
  refine xR 3 krf (xs_endD krf (sN ⟨[0,3],[3,1000],[],[]⟩ ⟨[(0, .ptr 1000 0),(3, .ptr 3 0)],[(3, .box 46 (bxc (GTk.cs x2))),(1000, .box 67 [.p (.sl 4 (mTk a0r.tokens)),I l1,I a0r.length, .p (.val (.slice hv0_3w hv0_3l hv0_3c))])]⟩ krf (sR Tryd.fm ⟨[0,3],[3,1000],[],[]⟩ ⟨[(0, .ptr 1000 0),(3, .ptr 3 0)],[(3, .box 46 (bxc (GTk.cs x2))),(1000, .box 67 [.p (.sl 4 (mTk a0r.tokens)),I (wi (l1+1)),I a0r.length, .p (.val (.slice hv0_3w hv0_3l hv0_3c))])]⟩ krf (sim_bind (fun j3=>⟨[(0, .ptr 1000 0),(3, .ptr 3 0),(38,B j3)],[(3, .box 46 (bxc (GTk.cs x2))),(1000, .box 67 [.p (.sl 4 (mTk a0r.tokens)),I (wi (l1+1)),I a0r.length, .p (.val (.slice hv0_3w hv0_3l hv0_3c))])]⟩:Bool→St) ?_ ?_))))
  ·refine sG (xR 4 krf ?_)
   refine xS (eqI x2.Kind 3) (fun h4=>?_) (fun h4=>?_)
   ·refine xO (want_tt krf h4) krf (xR 3 krf (xE ?_))
    exact nq_n (!eqS x2.Text [123]) ⟨[0,3,38],[3,1000],[],[]⟩ krf
   ·refine xN (want_tf krf h4) krf (xR 3 krf (xE ?_))
    exact nq_n false ⟨[0,3,38],[3,1000],[],[]⟩ krf
  ·rintro j3
   refine sC j3 krf ?_ ?_
   ·refine sR Tryd.fm ⟨[2],[1000],[],[]⟩ ⟨[(2,S x2.Text)],[(1000, .box 67 [.p (.sl 4 (mTk a0r.tokens)),I (wi (l1+1)),I a0r.length, .p (.val (.slice hv0_3w hv0_3l hv0_3c))])]⟩ krf (sT (bq_r (kq_r (bq_r (sq_r ?_)))))
    exact hq_ret (.id) [1000] [] krf krf krf krf
   ·refine sK (bq_n ?_)
    exact kq_n (wi (l1+1)) ⟨[0],[1000],[],[]⟩ krf
 ·refine sim_exit (sq_x (kq_x (bq_hit (sN ⟨[],[1000],[],[]⟩ ⟨[],[(1000, .box 67 [.p (.sl 4 (mTk a0r.tokens)),I l1,I a0r.length, .p (.val (.slice hv0_3w hv0_3l hv0_3c))])]⟩ krf (sR Tryd.fm ⟨[2],[1000],[],[]⟩ ⟨[(2,S [])],[(1000, .box 67 [.p (.sl 4 (mTk a0r.tokens)),I l1,I a0r.length, .p (.val (.slice hv0_3w hv0_3l hv0_3c))])]⟩ krf (sT ?_))))))
  exact hq_ret (.id) [1000] [] krf krf krf krf
def g_p_reader_item_j6 (r1:GTk) (r3:GTk) (r5:Int) (j6_1:List (List PV)) (j6_2:List GTk) (j6_3:Int) (j6_4:Int) (j6_5:List GDg):Option (Except (Int × GPr) (GNode × GPr)) :=
 some (.ok ((⟨2,r3.Text,r5,r1.At,j6_1⟩:GNode),(⟨j6_2,j6_3,j6_4,j6_5⟩:GPr)))
def g_p_reader_item_l9 (n:Nat) (a0r:GPr) (recl9:((List (List PV)) × (List GTk) × Int × Int × Int × (List UInt8) × Int × Int)→Option ((List (List PV)) × (List GTk) × Int × Int)) (l9_1:List (List PV)) (l9_2:List GTk) (l9_3:Int) (l9_4:Int) (l9_5:Int) (l9_6:List UInt8) (l9_7:Int) (l9_8:Int):Option ((List (List PV)) × (List GTk) × Int × Int) :=
 (cond (eqI l9_5 1)
  ((g_p_isAttr n l9_6).bind fun r12 =>
  some r12)
  (some false)).bind fun j10 =>
 cond j10
  (((g_p_reader_values n (⟨l9_2,wi (l9_3+1),l9_4,[]⟩:GPr)).bind fun r14 =>
  cond (roomB (List.length ([]++r14.1)) 64) (
   some ([]++r14.1,r14.2.tokens,r14.2.pos,r14.2.length)) none).bind fun (j13_1,j13_2,j13_3,j13_4) =>
  cond (roomB (List.length (l9_1++[GNode.cs (⟨3,l9_6,0,l9_8,j13_1⟩:GNode)])) 64) (
   (g_p_reader_peek_2 n (⟨j13_2,j13_3,j13_4,a0r.diags⟩:GPr)).bind fun r15 =>
   recl9 (l9_1++[GNode.cs (⟨3,l9_6,0,l9_8,j13_1⟩:GNode)],j13_2,j13_3,j13_4,r15.Kind,r15.Text,r15.N,r15.At)) none)
  (some (l9_1,l9_2,l9_3,l9_4))
def g_p_reader_item_j19 (j7_1:List (List PV)) (j19_1:List (List PV)) (j19_2:List GTk) (j19_3:Int) (j19_4:Int) (j19_5:List GDg):Option ((List (List PV)) × (List GTk) × Int × Int × (List GDg)) :=
 cond (roomB (List.length ((([]++j7_1)++[])++j19_1)) 64) (
  some ((([]++j7_1)++[])++j19_1,j19_2,j19_3,j19_4,j19_5)) none
def g_p_reader_item_l20 (n:Nat) (j7_1:List (List PV)) (recl20:((List (List PV)) × (List GTk) × Int × Int × (List GDg))→Option ((List (List PV)) × (List GTk) × Int × Int × (List GDg))) (l20_1:List (List PV)) (l20_2:List GTk) (l20_3:Int) (l20_4:Int) (l20_5:List GDg):Option ((List (List PV)) × (List GTk) × Int × Int × (List GDg)) :=
 (g_p_reader_full n (⟨l20_2,l20_3,l20_4,l20_5⟩:GPr)).bind fun r21 =>
 cond (!r21)
  ((g_p_reader_peek_2 n (⟨l20_2,l20_3,l20_4,l20_5⟩:GPr)).bind fun r22 =>
  (cond (eqI r22.Kind 3)
   (some (eqS r22.Text [125]))
   (some false)).bind fun j23 =>
  cond j23
   (cond (roomB (List.length ((([]++j7_1)++[])++l20_1)) 64) (
    some ((([]++j7_1)++[])++l20_1,l20_2,wi (l20_3+1),l20_4,l20_5)) none)
   (((g_p_reader_article n (⟨l20_2,l20_3,l20_4,[]⟩:GPr)).bind (exc (fun r26 =>
    some (true,[],r26.2.tokens,r26.2.pos,r26.2.length,l20_5,r26.1.Kind,r26.1.Name,r26.1.N,r26.1.At,r26.1.Kids)) fun e27=>cond (roomB (List.length (l20_5++[(⟨7,e27.1⟩:GDg)])) 16) (
    (g_p_reader_skip n (⟨e27.2.tokens,e27.2.pos,e27.2.length,[]⟩:GPr)).bind fun r28 =>
    some (false,r28.1,r28.2.tokens,r28.2.pos,r28.2.length,l20_5++[(⟨7,e27.1⟩:GDg)],0,[],0,0,[])) none)).bind fun (j25_1,j25_2,j25_3,j25_4,j25_5,j25_6,j25_7,j25_8,j25_9,j25_10,j25_11) =>
   cond j25_1
    (cond (roomB (List.length (l20_1++[GNode.cs (⟨j25_7,j25_8,j25_9,j25_10,j25_11⟩:GNode)])) 64) (
     recl20 (l20_1++[GNode.cs (⟨j25_7,j25_8,j25_9,j25_10,j25_11⟩:GNode)],j25_3,j25_4,j25_5,j25_6)) none)
    (cond (!eqS j25_2 [59])
     (cond (roomB (List.length ((([]++j7_1)++[])++l20_1)) 64) (
      some ((([]++j7_1)++[])++l20_1,j25_3,j25_4,j25_5,j25_6)) none)
     (recl20 (l20_1,j25_3,j25_4,j25_5,j25_6)))))
  (g_p_reader_item_j19 j7_1 l20_1 l20_2 l20_3 l20_4 l20_5)
def g_p_reader_item_j17 (n:Nat) (a0r:GPr) (r1:GTk) (r3:GTk) (r5:Int) (j7_1:List (List PV)) (j7_2:List GTk) (j7_3:Int) (j7_4:Int):Option (Except (Int × GPr) (GNode × GPr)) :=
 cond (roomB (List.length (([]++j7_1)++[])) 64) (
  (loopN (fun recl20 (l20_1,l20_2,l20_3,l20_4,l20_5)=>g_p_reader_item_l20 n j7_1 recl20 l20_1 l20_2 l20_3 l20_4 l20_5) n ([],j7_2,wi (j7_3+1),j7_4,a0r.diags)).bind fun (j18_1,j18_2,j18_3,j18_4,j18_5) =>
  g_p_reader_item_j6 r1 r3 r5 j18_1 j18_2 j18_3 j18_4 j18_5) none
def g_p_reader_item_j35 (a0r:GPr) (r1:GTk) (r3:GTk) (r5:Int) (j35_1:List (List PV)) (j35_2:List GTk) (j35_3:Int) (j35_4:Int):Option (Except (Int × GPr) (GNode × GPr)) :=
 some (.ok ((⟨2,r3.Text,r5,r1.At,j35_1⟩:GNode),(⟨j35_2,j35_3,j35_4,a0r.diags⟩:GPr)))
def g_p_reader_item_l38 (n:Nat) (a0r:GPr) (recl38:((List (List PV)) × (List GTk) × Int × Int × Int × (List UInt8) × Int × Int)→Option ((List (List PV)) × (List GTk) × Int × Int)) (l38_1:List (List PV)) (l38_2:List GTk) (l38_3:Int) (l38_4:Int) (l38_5:Int) (l38_6:List UInt8) (l38_7:Int) (l38_8:Int):Option ((List (List PV)) × (List GTk) × Int × Int) :=
 (cond (eqI l38_5 1)
  ((g_p_isAttr n l38_6).bind fun r41 =>
  some r41)
  (some false)).bind fun j39 =>
 cond j39
  (((g_p_reader_values n (⟨l38_2,wi (l38_3+1),l38_4,[]⟩:GPr)).bind fun r43 =>
  cond (roomB (List.length ([]++r43.1)) 64) (
   some ([]++r43.1,r43.2.tokens,r43.2.pos,r43.2.length)) none).bind fun (j42_1,j42_2,j42_3,j42_4) =>
  cond (roomB (List.length (l38_1++[GNode.cs (⟨3,l38_6,0,l38_8,j42_1⟩:GNode)])) 64) (
   (g_p_reader_peek_2 n (⟨j42_2,j42_3,j42_4,a0r.diags⟩:GPr)).bind fun r44 =>
   recl38 (l38_1++[GNode.cs (⟨3,l38_6,0,l38_8,j42_1⟩:GNode)],j42_2,j42_3,j42_4,r44.Kind,r44.Text,r44.N,r44.At)) none)
  (some (l38_1,l38_2,l38_3,l38_4))
def g_p_reader_item_j46 (a0r:GPr) (r1:GTk) (r3:GTk) (r5:Int) (j36_1:List (List PV)) (j36_2:List GTk) (j36_3:Int) (j36_4:Int):Option (Except (Int × GPr) (GNode × GPr)) :=
 cond (roomB (List.length (([]++j36_1)++[])) 64) (
  g_p_reader_item_j35 a0r r1 r3 r5 (([]++j36_1)++[]) j36_2 (wi (j36_3+1)) j36_4) none
def g_p_reader_item_j4 (n:Nat) (a0r:GPr) (r1:GTk) (r3:GTk):Option (Except (Int × GPr) (GNode × GPr)) :=
 (g_p_kindOf n r1.Text).bind fun r5 =>
 cond (eqI r5 7)
  (((g_p_reader_peek_2 n (⟨a0r.tokens,wi ((wi (a0r.pos+1))+1),a0r.length,a0r.diags⟩:GPr)).bind fun r8 =>
  loopN (fun recl9 (l9_1,l9_2,l9_3,l9_4,l9_5,l9_6,l9_7,l9_8)=>g_p_reader_item_l9 n a0r recl9 l9_1 l9_2 l9_3 l9_4 l9_5 l9_6 l9_7 l9_8) n ([],a0r.tokens,wi ((wi (a0r.pos+1))+1),a0r.length,r8.Kind,r8.Text,r8.N,r8.At)).bind fun (j7_1,j7_2,j7_3,j7_4) =>
  cond (roomB (List.length ([]++j7_1)) 64) (
   (g_p_reader_peek_2 n (⟨j7_2,j7_3,j7_4,a0r.diags⟩:GPr)).bind fun r16 =>
   (cond (eqI r16.Kind 0)
    (some true)
    ((cond (eqI r16.Kind 3)
     (some (eqS r16.Text [123]))
     (some false)).bind fun j31 =>
    some (!j31))).bind fun j29 =>
   cond j29
    ((g_p_reader_fail_2 n (⟨j7_2,j7_3,j7_4,a0r.diags⟩:GPr)).bind (exc (fun r33 =>
     g_p_reader_item_j17 n a0r r1 r3 r5 j7_1 j7_2 j7_3 j7_4) fun e34=>some (.error (e34,(⟨j7_2,j7_3,j7_4,a0r.diags⟩:GPr)))))
    (g_p_reader_item_j17 n a0r r1 r3 r5 j7_1 j7_2 j7_3 j7_4)) none)
  (((g_p_reader_peek_2 n (⟨a0r.tokens,wi ((wi (a0r.pos+1))+1),a0r.length,a0r.diags⟩:GPr)).bind fun r37 =>
  loopN (fun recl38 (l38_1,l38_2,l38_3,l38_4,l38_5,l38_6,l38_7,l38_8)=>g_p_reader_item_l38 n a0r recl38 l38_1 l38_2 l38_3 l38_4 l38_5 l38_6 l38_7 l38_8) n ([],a0r.tokens,wi ((wi (a0r.pos+1))+1),a0r.length,r37.Kind,r37.Text,r37.N,r37.At)).bind fun (j36_1,j36_2,j36_3,j36_4) =>
  cond (roomB (List.length ([]++j36_1)) 64) (
   (g_p_reader_peek_2 n (⟨j36_2,j36_3,j36_4,a0r.diags⟩:GPr)).bind fun r45 =>
   (cond (eqI r45.Kind 0)
    (some true)
    ((cond (eqI r45.Kind 3)
     (some (eqS r45.Text [59]))
     (some false)).bind fun j49 =>
    some (!j49))).bind fun j47 =>
   cond j47
    ((g_p_reader_fail_2 n (⟨j36_2,j36_3,j36_4,a0r.diags⟩:GPr)).bind (exc (fun r51 =>
     g_p_reader_item_j46 a0r r1 r3 r5 j36_1 j36_2 j36_3 j36_4) fun e52=>some (.error (e52,(⟨j36_2,j36_3,j36_4,a0r.diags⟩:GPr)))))
    (g_p_reader_item_j46 a0r r1 r3 r5 j36_1 j36_2 j36_3 j36_4)) none)
def g_p_reader_item_j2 (n:Nat) (a0r:GPr) (r1:GTk):Option (Except (Int × GPr) (GNode × GPr)) :=
 (g_p_reader_peek_2 n (⟨a0r.tokens,wi (a0r.pos+1),a0r.length,a0r.diags⟩:GPr)).bind fun r3 =>
 (cond (eqI r3.Kind 0)
  (some true)
  ((cond (eqI r3.Kind 1)
   ((g_p_notKey n r3.Text).bind fun r57 =>
   some r57)
   (some false)).bind fun j55 =>
  some (!j55))).bind fun j53 =>
 cond j53
  ((g_p_reader_fail_2 n (⟨a0r.tokens,wi (a0r.pos+1),a0r.length,a0r.diags⟩:GPr)).bind (exc (fun r58 =>
   g_p_reader_item_j4 n a0r r1 r3) fun e59=>some (.error (e59,(⟨a0r.tokens,wi (a0r.pos+1),a0r.length,a0r.diags⟩:GPr)))))
  (g_p_reader_item_j4 n a0r r1 r3)
def g_p_reader_item (n:Nat) (a0r:GPr):Option (Except (Int × GPr) (GNode × GPr)) :=
 (g_p_reader_peek_2 n a0r).bind fun r1 =>
 (cond (eqI r1.Kind 0)
  (some true)
  ((cond (eqI r1.Kind 1)
   ((g_p_reader_item_1 n r1.Text).bind fun r64 =>
   some r64)
   (some false)).bind fun j62 =>
  some (!j62))).bind fun j60 =>
 cond j60
  ((g_p_reader_fail_2 n a0r).bind (exc (fun r65 =>
   g_p_reader_item_j2 n a0r r1) fun e66=>some (.error (e66,a0r))))
  (g_p_reader_item_j2 n a0r r1)
theorem g_p_reader_item_ok (n:Nat) (a0r:GPr):∀ r,g_p_reader_item n a0r=some r→ACall Tryd.prog 46 [.ptr 1000 0] (Go.Abs.look [(1000, .box 67 [.p (.sl 4 (mTk a0r.tokens)),I a0r.pos,I a0r.length, .tsl 2 (mDg a0r.diags) 1103]),(1103, .arr 64 2 (mDg a0r.diags).length)]) (heapR (excX (fun r:GNode × GPr=>((.ret (ag (GNode.cs r.1)),[(1000, .box 67 [.p (.sl 4 (mTk r.2.tokens)),I r.2.pos,I r.2.length, .tsl 2 (mDg r.2.diags) 1103]),(1103, .arr 64 2 (mDg r.2.diags).length)]):AEnd × List (Nat × Blk))) (fun e:Int × GPr=>((.panic (.ifc 88 (.agg [I e.1])),[(1000, .box 67 [.p (.sl 4 (mTk e.2.tokens)),I e.2.pos,I e.2.length, .tsl 2 (mDg e.2.diags) 1103]),(1103, .arr 64 2 (mDg e.2.diags).length)]):AEnd × List (Nat × Blk)))) r):=by
 refine acall_sim (X:=excX (fun r:GNode × GPr=>((.ret (ag (GNode.cs r.1)),[(1000, .box 67 [.p (.sl 4 (mTk r.2.tokens)),I r.2.pos,I r.2.length, .tsl 2 (mDg r.2.diags) 1103]),(1103, .arr 64 2 (mDg r.2.diags).length)]):AEnd × List (Nat × Blk))) (fun e:Int × GPr=>((.panic (.ifc 88 (.agg [I e.1])),[(1000, .box 67 [.p (.sl 4 (mTk e.2.tokens)),I e.2.pos,I e.2.length, .tsl 2 (mDg e.2.diags) 1103]),(1103, .arr 64 2 (mDg e.2.diags).length)]):AEnd × List (Nat × Blk)))) [(1000, .box 67 [.p (.sl 4 (mTk a0r.tokens)),I a0r.pos,I a0r.length, .tsl 2 (mDg a0r.diags) 1103]),(1103, .arr 64 2 (mDg a0r.diags).length)] Tryd.func46 rfl Tryd.ntmps46 rfl ?_
 unfold g_p_reader_item
 refine sR Tryd.fm ⟨[1,2],[1,2,1000,1103],[],[]⟩ ⟨[(1, .ptr 1 0),(2, .ptr 2 0)],[(1, .box 65 [.ptr 1000 0]),(2, .box 33 [I 0,S [],I 0,I 0,zS]),(1000, .box 67 [.p (.sl 4 (mTk a0r.tokens)),I a0r.pos,I a0r.length, .tsl 2 (mDg a0r.diags) 1103]),(1103, .arr 64 2 (mDg a0r.diags).length)]⟩ krf (sS (sP ⟨[1,2],[1,2,1000,1103],[],[]⟩ ⟨[(1, .ptr 1 0),(2, .ptr 2 0)],[(1, .box 65 [.ptr 1000 0]),(2, .box 33 [I 0,S [],I 0,I 0,zS]),(1000, .box 67 [.p (.sl 4 (mTk a0r.tokens)),I a0r.pos,I a0r.length, .tsl 2 (mDg a0r.diags) 1103]),(1103, .arr 64 2 (mDg a0r.diags).length)]⟩ krf (sim_hstF [0] 3 3 [1,2,3,4] Tryd.fm rfl krf krf (lates_cons (late_read (.ptr 1000 0) krf rfl) (lates_nil)) krf (f_enter (f:=54) (args:=[.p (.val (.func (.func 55) #[] #[]))]) (dst:=some 9) krf krf rfl (sc_inline (hc:=[]) (args':=[.p (.val (.func (.func 55) #[] #[]))]) [(1,401)] [] [] Tryd.func54 rfl Tryd.ntmps54 rfl krf krf krf (sR Tryd.fm ⟨[1],[1],[],[]⟩ ⟨[(1, .ptr 1 0)],[(1, .box 30 [.p (.val (.func (.func 55) #[] #[]))])]⟩ krf (sR Tryd.fm ⟨[2],[1],[],[]⟩ ⟨[(2, .fn (.func 73) [] [.ptr 1 0])],[(1, .box 30 [.p (.val (.func (.func 55) #[] #[]))])]⟩ krf ?_)))))))
 refine sT (iq_ret (.id) [1] [] (.fn (.func 73) [] [.ptr 1 0]) krf krf (kf [0] krf (lates_cons (late_read (.ptr 1000 0) krf rfl) (lates_nil)) krf (f_enter (f:=53) (args:=[.ptr 1000 0, .fn (.func 73) [] [.ptr 401 0]]) (dst:=some 10) krf krf rfl (sc_inline (hc:=[(1000, .box 30 [.p (.val (.func (.func 55) #[] #[]))]),(1001, .box 67 [.p (.sl 4 (mTk a0r.tokens)),I a0r.pos,I a0r.length, .tsl 2 (mDg a0r.diags) 1002]),(1002, .arr 64 2 (mDg a0r.diags).length)]) (args':=[.ptr 1001 0, .fn (.func 73) [] [.ptr 1000 0]]) [(1000,401),(1001,1000),(1002,1103)] [] [] Tryd.func53 rfl Tryd.ntmps53 rfl krf krf krf (sR Tryd.fm ⟨[0,1,4],[4,1000,1001,1002],[],[]⟩ ⟨[(0, .ptr 1001 0),(1, .fn (.func 73) [] [.ptr 1000 0]),(4, .ptr 4 0)],[(4, .box 46 [I 0,S [],I 0,I 0]),(1000, .box 30 [.p (.val (.func (.func 55) #[] #[]))]),(1001, .box 67 [.p (.sl 4 (mTk a0r.tokens)),I a0r.pos,I a0r.length, .tsl 2 (mDg a0r.diags) 1002]),(1002, .arr 64 2 (mDg a0r.diags).length)]⟩ krf (sS (sG ?_)))))))
 refine xR 1 krf ?_
 refine xs_ro [.ro [.id, .id, .id, .sl 2]] krf (g_p_reader_peek_2_ok n a0r) krf krf (fun _=>by kernel_rfl) (fun r1=>?_)
 refine xR 2 krf (xE (sN ⟨[0,1,4,5],[4,5,1000,1001,1002],[],[]⟩ ⟨[(0, .ptr 1001 0),(1, .fn (.func 73) [] [.ptr 1000 0]),(4, .ptr 4 0),(5, .ptr 5 0)],[(4, .box 46 [I 0,S [],I 0,I 0]),(5, .box 46 (bxc (GTk.cs r1))),(1000, .box 30 [.p (.val (.func (.func 55) #[] #[]))]),(1001, .box 67 [.p (.sl 4 (mTk a0r.tokens)),I a0r.pos,I a0r.length, .tsl 2 (mDg a0r.diags) 1002]),(1002, .arr 64 2 (mDg a0r.diags).length)]⟩ krf (sim_cps (fun _=>⟨[(0, .ptr 1001 0),(4, .ptr 4 0),(5, .ptr 5 0)],[(4, .box 46 [I 0,S [],I 0,I 0]),(5, .box 46 (bxc (GTk.cs r1))),(1000, .box 30 [.p (.val (.func (.func 55) #[] #[]))]),(1001, .box 67 [.p (.sl 4 (mTk a0r.tokens)),I a0r.pos,I a0r.length, .tsl 2 (mDg a0r.diags) 1002]),(1002, .arr 64 2 (mDg a0r.diags).length)]⟩:Unit→St) (fun _=>g_p_reader_item_j2 n a0r r1) ?_ ?_)))
 ·rintro _
  show SimE (g_p_reader_item_j2 n a0r r1) _ _ _ _ _ _
  unfold g_p_reader_item_j2
  refine sR Tryd.fm ⟨[4,5],[4,5,1000,1001,1002],[],[]⟩ ⟨[(4, .ptr 4 0),(5, .ptr 5 0)],[(4, .box 46 [I 0,S [],I 0,I 0]),(5, .box 46 (bxc (GTk.cs r1))),(1000, .box 30 [.p (.val (.func (.func 55) #[] #[]))]),(1001, .box 67 [.p (.sl 4 (mTk a0r.tokens)),I (wi (a0r.pos+1)),I a0r.length, .tsl 2 (mDg a0r.diags) 1002]),(1002, .arr 64 2 (mDg a0r.diags).length)]⟩ krf (sR Tryd.fm ⟨[4],[4,1000,1001,1002],[],[]⟩ ⟨[(4, .ptr 4 0)],[(4, .box 46 (bxc (GTk.cs r1))),(1000, .box 30 [.p (.val (.func (.func 55) #[] #[]))]),(1001, .box 67 [.p (.sl 4 (mTk a0r.tokens)),I (wi (a0r.pos+1)),I a0r.length, .tsl 2 (mDg a0r.diags) 1002]),(1002, .arr 64 2 (mDg a0r.diags).length)]⟩ krf (sT (iq_ret (.id) [1000,1001,1002] [] (.agg [I r1.Kind,S r1.Text,I r1.N,I r1.At]) krf krf (kf [] krf (lates_nil) krf (f_q [0] krf krf (lates_cons (late_read (.ptr 1000 0) krf rfl) (lates_nil)) (f_op [] rfl krf krf (lates_nil) krf (f_end ?_)))))))
  refine sN ⟨[1,2,3],[1,2,3,1000,1103],[],[]⟩ ⟨[(1, .ptr 1 0),(2, .ptr 2 0),(3, .ptr 3 0)],[(1, .box 65 [.ptr 1000 0]),(2, .box 33 [I 0,S [],I 0,I 0,zS]),(3, .box 46 (bxc (GTk.cs r1))),(1000, .box 67 [.p (.sl 4 (mTk a0r.tokens)),I (wi (a0r.pos+1)),I a0r.length, .tsl 2 (mDg a0r.diags) 1103]),(1103, .arr 64 2 (mDg a0r.diags).length)]⟩ krf (sS (sim_hst [0] [0] [(1,[]),(2,[]),(3,[]),(4,[])] Tryd.fm rfl krf krf (h_enter (f:=54) (args:=[.p (.val (.func (.func 57) #[] #[]))]) (dst:=some 12) krf krf (sc_inline (hc:=[]) (args':=[.p (.val (.func (.func 57) #[] #[]))]) [(1,401)] [] [] Tryd.func54 rfl Tryd.ntmps54 rfl krf krf krf (sR Tryd.fm ⟨[1],[1],[],[]⟩ ⟨[(1, .ptr 1 0)],[(1, .box 30 [.p (.val (.func (.func 57) #[] #[]))])]⟩ krf (sR Tryd.fm ⟨[2],[1],[],[]⟩ ⟨[(2, .fn (.func 73) [] [.ptr 1 0])],[(1, .box 30 [.p (.val (.func (.func 57) #[] #[]))])]⟩ krf (sT ?_)))))))
  refine iq_ret (.id) [1] [] (.fn (.func 73) [] [.ptr 1 0]) krf krf (kh [0] krf (lates_cons (late_read (.ptr 1000 0) krf rfl) (lates_nil)) krf (h_enter (f:=53) (args:=[.ptr 1000 0, .fn (.func 73) [] [.ptr 401 0]]) (dst:=some 13) krf krf (sc_inline (hc:=[(1000, .box 30 [.p (.val (.func (.func 57) #[] #[]))]),(1001, .box 67 [.p (.sl 4 (mTk a0r.tokens)),I (wi (a0r.pos+1)),I a0r.length, .tsl 2 (mDg a0r.diags) 1002]),(1002, .arr 64 2 (mDg a0r.diags).length)]) (args':=[.ptr 1001 0, .fn (.func 73) [] [.ptr 1000 0]]) [(1000,401),(1001,1000),(1002,1103)] [] [] Tryd.func53 rfl Tryd.ntmps53 rfl krf krf krf (sR Tryd.fm ⟨[0,1,4],[4,1000,1001,1002],[],[]⟩ ⟨[(0, .ptr 1001 0),(1, .fn (.func 73) [] [.ptr 1000 0]),(4, .ptr 4 0)],[(4, .box 46 [I 0,S [],I 0,I 0]),(1000, .box 30 [.p (.val (.func (.func 57) #[] #[]))]),(1001, .box 67 [.p (.sl 4 (mTk a0r.tokens)),I (wi (a0r.pos+1)),I a0r.length, .tsl 2 (mDg a0r.diags) 1002]),(1002, .arr 64 2 (mDg a0r.diags).length)]⟩ krf (sS (sG (xR 1 krf ?_)))))))
  refine xs_ro [.ro [.id, .id, .id, .sl 2]] krf (g_p_reader_peek_2_ok n (⟨a0r.tokens,wi (a0r.pos+1),a0r.length,a0r.diags⟩:GPr)) krf krf (fun _=>by kernel_rfl) (fun r3=>?_)
  refine xR 2 krf (xE (sN ⟨[0,1,4,5],[4,5,1000,1001,1002],[],[]⟩ ⟨[(0, .ptr 1001 0),(1, .fn (.func 73) [] [.ptr 1000 0]),(4, .ptr 4 0),(5, .ptr 5 0)],[(4, .box 46 [I 0,S [],I 0,I 0]),(5, .box 46 (bxc (GTk.cs r3))),(1000, .box 30 [.p (.val (.func (.func 57) #[] #[]))]),(1001, .box 67 [.p (.sl 4 (mTk a0r.tokens)),I (wi (a0r.pos+1)),I a0r.length, .tsl 2 (mDg a0r.diags) 1002]),(1002, .arr 64 2 (mDg a0r.diags).length)]⟩ krf (sim_cps (fun _=>⟨[(0, .ptr 1001 0),(4, .ptr 4 0),(5, .ptr 5 0)],[(4, .box 46 [I 0,S [],I 0,I 0]),(5, .box 46 (bxc (GTk.cs r3))),(1000, .box 30 [.p (.val (.func (.func 57) #[] #[]))]),(1001, .box 67 [.p (.sl 4 (mTk a0r.tokens)),I (wi (a0r.pos+1)),I a0r.length, .tsl 2 (mDg a0r.diags) 1002]),(1002, .arr 64 2 (mDg a0r.diags).length)]⟩:Unit→St) (fun _=>g_p_reader_item_j4 n a0r r1 r3) ?_ ?_)))
  ·rintro _
   show SimE (g_p_reader_item_j4 n a0r r1 r3) _ _ _ _ _ _
   unfold g_p_reader_item_j4
   refine sR Tryd.fm ⟨[4,5],[4,5,1000,1001,1002],[],[]⟩ ⟨[(4, .ptr 4 0),(5, .ptr 5 0)],[(4, .box 46 [I 0,S [],I 0,I 0]),(5, .box 46 (bxc (GTk.cs r3))),(1000, .box 30 [.p (.val (.func (.func 57) #[] #[]))]),(1001, .box 67 [.p (.sl 4 (mTk a0r.tokens)),I (wi ((wi (a0r.pos+1))+1)),I a0r.length, .tsl 2 (mDg a0r.diags) 1002]),(1002, .arr 64 2 (mDg a0r.diags).length)]⟩ krf (sR Tryd.fm ⟨[4],[4,1000,1001,1002],[],[]⟩ ⟨[(4, .ptr 4 0)],[(4, .box 46 (bxc (GTk.cs r3))),(1000, .box 30 [.p (.val (.func (.func 57) #[] #[]))]),(1001, .box 67 [.p (.sl 4 (mTk a0r.tokens)),I (wi ((wi (a0r.pos+1))+1)),I a0r.length, .tsl 2 (mDg a0r.diags) 1002]),(1002, .arr 64 2 (mDg a0r.diags).length)]⟩ krf (sT (iq_ret (.id) [1000,1001,1002] [] (.agg [I r3.Kind,S r3.Text,I r3.N,I r3.At]) krf krf (kh [] krf (lates_nil) krf (h_op [] krf krf (lates_nil) (h_op [] krf krf (lates_nil) (h_end ?_)))))))
   refine sN ⟨[1,2,3,4],[1,2,3,1000,1103],[],[]⟩ ⟨[(1, .ptr 1 0),(2, .ptr 2 0),(3, .ptr 3 0),(4,S r3.Text)],[(1, .box 65 [.ptr 1000 0]),(2, .box 33 [I 0,S [],I 0,I 0,zS]),(3, .box 46 (bxc (GTk.cs r1))),(1000, .box 67 [.p (.sl 4 (mTk a0r.tokens)),I (wi ((wi (a0r.pos+1))+1)),I a0r.length, .tsl 2 (mDg a0r.diags) 1103]),(1103, .arr 64 2 (mDg a0r.diags).length)]⟩ krf (sS (sG (xR 2 krf ?_)))
   refine xC [] krf (g_p_kindOf_ok n r1.Text) krf krf (fun _=>by kernel_rfl) (fun r5=>?_)
   refine xR 1 krf (xE (sN ⟨[1,2,3,4,5],[1,2,3,1000,1103],[],[]⟩ ⟨[(1, .ptr 1 0),(2, .ptr 2 0),(3, .ptr 3 0),(4,S r3.Text),(5,I r5)],[(1, .box 65 [.ptr 1000 0]),(2, .box 33 [I 0,S [],I 0,I 0,zS]),(3, .box 46 (bxc (GTk.cs r1))),(1000, .box 67 [.p (.sl 4 (mTk a0r.tokens)),I (wi ((wi (a0r.pos+1))+1)),I a0r.length, .tsl 2 (mDg a0r.diags) 1103]),(1103, .arr 64 2 (mDg a0r.diags).length)]⟩ krf (sS (sR Tryd.fm ⟨[1,2,3,4,5,19],[1,2,3,1000,1103],[],[]⟩ ⟨[(1, .ptr 1 0),(2, .ptr 2 0),(3, .ptr 3 0),(4,S r3.Text),(5,I r5),(19,B (eqI r5 7))],[(1, .box 65 [.ptr 1000 0]),(2, .box 33 [I 0,S [],I 0,I 0,zS]),(3, .box 46 (bxc (GTk.cs r1))),(1000, .box 67 [.p (.sl 4 (mTk a0r.tokens)),I (wi ((wi (a0r.pos+1))+1)),I a0r.length, .tsl 2 (mDg a0r.diags) 1103]),(1103, .arr 64 2 (mDg a0r.diags).length)]⟩ krf (sC (eqI r5 7) krf ?_ ?_)))))
   ·refine sR Tryd.fm ⟨[1,2,3,4,5,6],[1,2,3,1000,1103],[],[]⟩ ⟨[(1, .ptr 1 0),(2, .ptr 2 0),(3, .ptr 3 0),(4,S r3.Text),(5,I r5),(6, .fn (.func 58) [] [.ptr 1 0])],[(1, .box 65 [.ptr 1000 0]),(2, .box 33 [I 0,S [],I 0,I 0,zS]),(3, .box 46 (bxc (GTk.cs r1))),(1000, .box 67 [.p (.sl 4 (mTk a0r.tokens)),I (wi ((wi (a0r.pos+1))+1)),I a0r.length, .tsl 2 (mDg a0r.diags) 1103]),(1103, .arr 64 2 (mDg a0r.diags).length)]⟩ krf (sS (sG (xR 9 krf (xs_inline [(1000, .box 65 [.ptr 1002 0]),(1001, .box 69 [.fn (.func 60) [.ptr 1002 0] [], .fn (.func 58) [] [.ptr 1000 0], .fn (.func 61) [.ptr 1002 0] []]),(1002, .box 67 [.p (.sl 4 (mTk a0r.tokens)),I (wi ((wi (a0r.pos+1))+1)),I a0r.length, .tsl 2 (mDg a0r.diags) 1003]),(1003, .arr 64 2 (mDg a0r.diags).length)] [.agg [I r1.Kind,S r1.Text,I r1.N,I r1.At],I 2,S r3.Text,I r5, .bsl 1001 3] [(1000,1),(1001,29),(1002,1000),(1003,1103)] [] [] krf Tryd.func26 rfl Tryd.ntmps26 rfl krf krf krf (sR Tryd.fm ⟨[1,2,3,4,5,10],[5,10,1000,1001,1002,1003],[],[]⟩ ⟨[(1,I 2),(2,S r3.Text),(3,I r5),(4, .bsl 1001 3),(5, .ptr 5 0),(10, .ptr 10 0)],[(5, .box 46 (bxc (GTk.cs r1))),(10, .box 33 [I 0,S [],I 0,I 0,zS]),(1000, .box 65 [.ptr 1002 0]),(1001, .box 69 [.fn (.func 60) [.ptr 1002 0] [], .fn (.func 58) [] [.ptr 1000 0], .fn (.func 61) [.ptr 1002 0] []]),(1002, .box 67 [.p (.sl 4 (mTk a0r.tokens)),I (wi ((wi (a0r.pos+1))+1)),I a0r.length, .tsl 2 (mDg a0r.diags) 1003]),(1003, .arr 64 2 (mDg a0r.diags).length)]⟩ krf (sR Tryd.fm ⟨[4,10,11],[10,11,1000,1001,1002,1003],[],[]⟩ ⟨[(4, .bsl 1001 3),(10, .ptr 10 0),(11, .ptr 11 0)],[(10, .box 33 [I 0,S [],I 0,I 0,zS]),(11, .box 33 [I 2,S r3.Text,I r5,I r1.At,zS]),(1000, .box 65 [.ptr 1002 0]),(1001, .box 69 [.fn (.func 60) [.ptr 1002 0] [], .fn (.func 58) [] [.ptr 1000 0], .fn (.func 61) [.ptr 1002 0] []]),(1002, .box 67 [.p (.sl 4 (mTk a0r.tokens)),I (wi ((wi (a0r.pos+1))+1)),I a0r.length, .tsl 2 (mDg a0r.diags) 1003]),(1003, .arr 64 2 (mDg a0r.diags).length)]⟩ krf (sim_cps (fun (j6_1,j6_2,j6_3,j6_4,j6_5)=>⟨[(10, .ptr 10 0),(11, .ptr 11 0)],[(10, .box 33 [I 0,S [],I 0,I 0,zS]),(11, .box 33 [I 2,S r3.Text,I r5,I r1.At, .tsl 5 (mI j6_1) 600]),(600, .arr 33 5 (mI j6_1).length),(1000, .box 65 [.ptr 1002 0]),(1001, .box 69 [.fn (.func 60) [.ptr 1002 0] [], .fn (.func 58) [] [.ptr 1000 0], .fn (.func 61) [.ptr 1002 0] []]),(1002, .box 67 [.p (.sl 4 (mTk j6_2)),I j6_3,I j6_4, .tsl 2 (mDg j6_5) 1003]),(1003, .arr 64 2 (mDg j6_5).length)]⟩:((List (List PV)) × (List GTk) × Int × Int × (List GDg))→St) (fun (j6_1,j6_2,j6_3,j6_4,j6_5)=>g_p_reader_item_j6 r1 r3 r5 j6_1 j6_2 j6_3 j6_4 j6_5) ?_ ?_)))))))
    ·rintro ⟨j6_1,j6_2,j6_3,j6_4,j6_5⟩
     show SimE (g_p_reader_item_j6 r1 r3 r5 j6_1 j6_2 j6_3 j6_4 j6_5) _ _ _ _ _ _
     unfold g_p_reader_item_j6
     refine sR Tryd.fm ⟨[10],[10,600,1000,1001,1002,1003],[],[]⟩ ⟨[(10, .ptr 10 0)],[(10, .box 33 [I 2,S r3.Text,I r5,I r1.At, .tsl 5 (mI j6_1) 600]),(600, .arr 33 5 (mI j6_1).length),(1000, .box 65 [.ptr 1002 0]),(1001, .box 69 [.fn (.func 60) [.ptr 1002 0] [], .fn (.func 58) [] [.ptr 1000 0], .fn (.func 61) [.ptr 1002 0] []]),(1002, .box 67 [.p (.sl 4 (mTk j6_2)),I j6_3,I j6_4, .tsl 2 (mDg j6_5) 1003]),(1003, .arr 64 2 (mDg j6_5).length)]⟩ krf (sT (iq_ret (.agg [.id, .id, .id, .id, .sl 5]) [1000,1001,1002,1003] [] (.agg [I 2,S r3.Text,I r5,I r1.At, .p (.sl 5 (mI j6_1))]) krf krf (kr0 (xR 1 krf (xE (sN ⟨[2],[2,1000,1103],[],[]⟩ ⟨[(2, .ptr 2 0)],[(2, .box 33 (bxc (GNode.cs ⟨2,r3.Text,r5,r1.At,j6_1⟩))),(1000, .box 67 [.p (.sl 4 (mTk j6_2)),I j6_3,I j6_4, .tsl 2 (mDg j6_5) 1103]),(1103, .arr 64 2 (mDg j6_5).length)]⟩ krf (sT ?_)))))))
     refine sq_r ?_
     exact hq_ret (.id) [1000,1103] [] krf krf krf krf
    ·refine sR Tryd.fm ⟨[10,11,20,21,22],[10,11,1000,1001,1002,1003],[],[]⟩ ⟨[(10, .ptr 10 0),(11, .ptr 11 0),(20, .bsl 1001 3),(21,I 3),(22,I 0)],[(10, .box 33 [I 0,S [],I 0,I 0,zS]),(11, .box 33 [I 2,S r3.Text,I r5,I r1.At,zS]),(1000, .box 65 [.ptr 1002 0]),(1001, .box 69 [.fn (.func 60) [.ptr 1002 0] [], .fn (.func 58) [] [.ptr 1000 0], .fn (.func 61) [.ptr 1002 0] []]),(1002, .box 67 [.p (.sl 4 (mTk a0r.tokens)),I (wi ((wi (a0r.pos+1))+1)),I a0r.length, .tsl 2 (mDg a0r.diags) 1003]),(1003, .arr 64 2 (mDg a0r.diags).length)]⟩ krf (sB (sim_unroll 3 (sR Tryd.fm ⟨[10,11,20,21,22,23],[10,11,1000,1001,1002,1003],[],[]⟩ ⟨[(10, .ptr 10 0),(11, .ptr 11 0),(20, .bsl 1001 3),(21,I 3),(22,I 0),(23,B true)],[(10, .box 33 [I 0,S [],I 0,I 0,zS]),(11, .box 33 [I 2,S r3.Text,I r5,I r1.At,zS]),(1000, .box 65 [.ptr 1002 0]),(1001, .box 69 [.fn (.func 60) [.ptr 1002 0] [], .fn (.func 58) [] [.ptr 1000 0], .fn (.func 61) [.ptr 1002 0] []]),(1002, .box 67 [.p (.sl 4 (mTk a0r.tokens)),I (wi ((wi (a0r.pos+1))+1)),I a0r.length, .tsl 2 (mDg a0r.diags) 1003]),(1003, .arr 64 2 (mDg a0r.diags).length)]⟩ krf (sS (sim_condT krf (sK (sN ⟨[10,11,20,21,22],[10,11,1000,1001,1002,1003],[],[]⟩ ⟨[(10, .ptr 10 0),(11, .ptr 11 0),(20, .bsl 1001 3),(21,I 3),(22,I 0)],[(10, .box 33 [I 0,S [],I 0,I 0,zS]),(11, .box 33 [I 2,S r3.Text,I r5,I r1.At,zS]),(1000, .box 65 [.ptr 1002 0]),(1001, .box 69 [.fn (.func 60) [.ptr 1002 0] [], .fn (.func 58) [] [.ptr 1000 0], .fn (.func 61) [.ptr 1002 0] []]),(1002, .box 67 [.p (.sl 4 (mTk a0r.tokens)),I (wi ((wi (a0r.pos+1))+1)),I a0r.length, .tsl 2 (mDg a0r.diags) 1003]),(1003, .arr 64 2 (mDg a0r.diags).length)]⟩ krf ?_)))))))
     refine sS (sB (sR Tryd.fm ⟨[10,11,13,20,21,22],[10,11,1000,1001,1002,1003],[],[]⟩ ⟨[(10, .ptr 10 0),(11, .ptr 11 0),(13, .fn (.func 60) [.ptr 1002 0] []),(20, .bsl 1001 3),(21,I 3),(22,I 0)],[(10, .box 33 [I 0,S [],I 0,I 0,zS]),(11, .box 33 [I 2,S r3.Text,I r5,I r1.At,zS]),(1000, .box 65 [.ptr 1002 0]),(1001, .box 69 [.fn (.func 60) [.ptr 1002 0] [], .fn (.func 58) [] [.ptr 1000 0], .fn (.func 61) [.ptr 1002 0] []]),(1002, .box 67 [.p (.sl 4 (mTk a0r.tokens)),I (wi ((wi (a0r.pos+1))+1)),I a0r.length, .tsl 2 (mDg a0r.diags) 1003]),(1003, .arr 64 2 (mDg a0r.diags).length)]⟩ krf (sP ⟨[10,11,13,20,21,22],[10,11,1000,1001,1002,1003],[],[]⟩ ⟨[(10, .ptr 10 0),(11, .ptr 11 0),(13, .fn (.func 60) [.ptr 1002 0] []),(20, .bsl 1001 3),(21,I 3),(22,I 0)],[(10, .box 33 [I 0,S [],I 0,I 0,zS]),(11, .box 33 [I 2,S r3.Text,I r5,I r1.At,zS]),(1000, .box 65 [.ptr 1002 0]),(1001, .box 69 [.fn (.func 60) [.ptr 1002 0] [], .fn (.func 58) [] [.ptr 1000 0], .fn (.func 61) [.ptr 1002 0] []]),(1002, .box 67 [.p (.sl 4 (mTk a0r.tokens)),I (wi ((wi (a0r.pos+1))+1)),I a0r.length, .tsl 2 (mDg a0r.diags) 1003]),(1003, .arr 64 2 (mDg a0r.diags).length)]⟩ krf (sim_weak (weak_pn 33 5 600 [] [(11,4)] krf) (sim_hst [0,1,2] [0,1] [(3,[]),(4,[]),(5,[]),(6,[])] Tryd.fm rfl krf krf (h_enter (f:=60) (args:=[.ptr 1002 0]) (dst:=some 29) krf krf (sc_inline (hc:=[(1000, .box 67 [.p (.sl 4 (mTk a0r.tokens)),I (wi ((wi (a0r.pos+1))+1)),I a0r.length, .tsl 2 (mDg a0r.diags) 1001]),(1001, .arr 64 2 (mDg a0r.diags).length)]) (args':=[.ptr 1000 0]) [(1000,1002),(1001,1003)] [] [] Tryd.func60 rfl Tryd.ntmps60 rfl krf krf krf ?_)))))))
     refine sR Tryd.fm ⟨[1],[1,1000,1001],[],[]⟩ ⟨[(1, .ptr 1 0)],[(1, .box 65 [.ptr 1000 0]),(1000, .box 67 [.p (.sl 4 (mTk a0r.tokens)),I (wi ((wi (a0r.pos+1))+1)),I a0r.length, .tsl 2 (mDg a0r.diags) 1001]),(1001, .arr 64 2 (mDg a0r.diags).length)]⟩ krf (sR Tryd.fm ⟨[1,3],[1,1000,1001],[],[]⟩ ⟨[(1, .ptr 1 0),(3,zS)],[(1, .box 65 [.ptr 1000 0]),(1000, .box 67 [.p (.sl 4 (mTk a0r.tokens)),I (wi ((wi (a0r.pos+1))+1)),I a0r.length, .tsl 2 (mDg a0r.diags) 1001]),(1001, .arr 64 2 (mDg a0r.diags).length)]⟩ krf (sim_bind (fun (j7_1,j7_2,j7_3,j7_4)=>⟨[(3, .tsl 5 (mI j7_1) 600)],[(600, .arr 33 5 (mI j7_1).length),(1000, .box 67 [.p (.sl 4 (mTk j7_2)),I j7_3,I j7_4, .tsl 2 (mDg a0r.diags) 1001]),(1001, .arr 64 2 (mDg a0r.diags).length)]⟩:((List (List PV)) × (List GTk) × Int × Int)→St) ?_ ?_))
     ·refine sS (sG (xR 1 krf ?_))
      refine xs_ro [.ro [.id, .id, .id, .sl 2]] krf (g_p_reader_peek_2_ok n (⟨a0r.tokens,wi ((wi (a0r.pos+1))+1),a0r.length,a0r.diags⟩:GPr)) krf krf (fun _=>by kernel_rfl) (fun r8=>?_)
      refine xR 2 krf (xE (sN ⟨[1,3,4],[1,4,1000,1001],[],[]⟩ ⟨[(1, .ptr 1 0),(3,zS),(4, .ptr 4 0)],[(1, .box 65 [.ptr 1000 0]),(4, .box 46 (bxc (GTk.cs r8))),(1000, .box 67 [.p (.sl 4 (mTk a0r.tokens)),I (wi ((wi (a0r.pos+1))+1)),I a0r.length, .tsl 2 (mDg a0r.diags) 1001]),(1001, .arr 64 2 (mDg a0r.diags).length)]⟩ krf (sB (sP ⟨[1,3,4],[1,4,1000,1001],[],[]⟩ ⟨[(1, .ptr 1 0),(3,zS),(4, .ptr 4 0)],[(1, .box 65 [.ptr 1000 0]),(4, .box 46 (bxc (GTk.cs r8))),(1000, .box 67 [.p (.sl 4 (mTk a0r.tokens)),I (wi ((wi (a0r.pos+1))+1)),I a0r.length, .tsl 2 (mDg a0r.diags) 1001]),(1001, .arr 64 2 (mDg a0r.diags).length)]⟩ krf (sim_weak (weak_pn 33 5 600 [3] [] krf) (sim_loop (fun (l9_1,l9_2,l9_3,l9_4,l9_5,l9_6,l9_7,l9_8)=>⟨[(1, .ptr 1 0),(3, .tsl 5 (mI l9_1) 600),(4, .ptr 4 0)],[(1, .box 65 [.ptr 1000 0]),(4, .box 46 [I l9_5,S l9_6,I l9_7,I l9_8]),(600, .arr 33 5 (mI l9_1).length),(1000, .box 67 [.p (.sl 4 (mTk l9_2)),I l9_3,I l9_4, .tsl 2 (mDg a0r.diags) 1001]),(1001, .arr 64 2 (mDg a0r.diags).length)]⟩:((List (List PV)) × (List GTk) × Int × Int × Int × (List UInt8) × Int × Int)→St) (weak_shr (K:=⟨[1,3,4],[1,4,600,1000,1001],[],[]⟩) krf) ?_))))))
      rintro recl9 ⟨l9_1,l9_2,l9_3,l9_4,l9_5,l9_6,l9_7,l9_8⟩
      show SimE (g_p_reader_item_l9 n a0r recl9 l9_1 l9_2 l9_3 l9_4 l9_5 l9_6 l9_7 l9_8) _ _ _ _ _ _
      unfold g_p_reader_item_l9
      refine sS (sim_bind (fun j10=>⟨[(1, .ptr 1 0),(3, .tsl 5 (mI l9_1) 600),(4, .ptr 4 0),(14,B j10)],[(1, .box 65 [.ptr 1000 0]),(4, .box 46 [I l9_5,S l9_6,I l9_7,I l9_8]),(600, .arr 33 5 (mI l9_1).length),(1000, .box 67 [.p (.sl 4 (mTk l9_2)),I l9_3,I l9_4, .tsl 2 (mDg a0r.diags) 1001]),(1001, .arr 64 2 (mDg a0r.diags).length)]⟩:Bool→St) ?_ ?_)
      ·refine sG (xR 4 krf ?_)
       refine xS (eqI l9_5 1) (fun h11=>?_) (fun h11=>?_)
       ·refine xO (want_tt krf h11) krf (xR 1 krf ?_)
        refine xC [] krf (g_p_isAttr_ok n l9_6) krf krf (fun _=>by kernel_rfl) (fun r12=>?_)
        refine xR 1 krf (xE ?_)
        exact nq_n r12 ⟨[1,3,4,14],[1,4,600,1000,1001],[],[]⟩ krf
       ·refine xN (want_tf krf h11) krf (xR 3 krf (xE ?_))
        exact nq_n false ⟨[1,3,4,14],[1,4,600,1000,1001],[],[]⟩ krf
      ·rintro j10
       refine sC j10 krf ?_ ?_
       ·refine sK (sN ⟨[1,3,4],[1,4,600,1000,1001],[],[]⟩ ⟨[(1, .ptr 1 0),(3, .tsl 5 (mI l9_1) 600),(4, .ptr 4 0)],[(1, .box 65 [.ptr 1000 0]),(4, .box 46 [I l9_5,S l9_6,I l9_7,I l9_8]),(600, .arr 33 5 (mI l9_1).length),(1000, .box 67 [.p (.sl 4 (mTk l9_2)),I l9_3,I l9_4, .tsl 2 (mDg a0r.diags) 1001]),(1001, .arr 64 2 (mDg a0r.diags).length)]⟩ krf (sS (sB (sR Tryd.fm ⟨[1,3,4],[1,4,600,1000,1001],[],[]⟩ ⟨[(1, .ptr 1 0),(3, .tsl 5 (mI l9_1) 600),(4, .ptr 4 0)],[(1, .box 65 [.ptr 1000 0]),(4, .box 46 [I l9_5,S l9_6,I l9_7,I l9_8]),(600, .arr 33 5 (mI l9_1).length),(1000, .box 67 [.p (.sl 4 (mTk l9_2)),I (wi (l9_3+1)),I l9_4, .tsl 2 (mDg a0r.diags) 1001]),(1001, .arr 64 2 (mDg a0r.diags).length)]⟩ krf (sG (xR 6 krf (xs_inline [(1000, .box 65 [.ptr 1002 0]),(1001, .box 69 [.fn (.func 75) [] [.ptr 1000 0]]),(1002, .box 67 [.p (.sl 4 (mTk l9_2)),I (wi (l9_3+1)),I l9_4, .tsl 2 (mDg a0r.diags) 1003]),(1003, .arr 64 2 (mDg a0r.diags).length)] [.agg [I l9_5,S l9_6,I l9_7,I l9_8],I 3,S l9_6,I 0, .bsl 1001 1] [(1000,1),(1001,29),(1002,1000),(1003,1001)] [] [] krf Tryd.func26 rfl Tryd.ntmps26 rfl krf krf krf ?_)))))))
        refine sR Tryd.fm ⟨[1,2,3,4,5,10],[5,10,1000,1001,1002,1003],[],[]⟩ ⟨[(1,I 3),(2,S l9_6),(3,I 0),(4, .bsl 1001 1),(5, .ptr 5 0),(10, .ptr 10 0)],[(5, .box 46 [I l9_5,S l9_6,I l9_7,I l9_8]),(10, .box 33 [I 0,S [],I 0,I 0,zS]),(1000, .box 65 [.ptr 1002 0]),(1001, .box 69 [.fn (.func 75) [] [.ptr 1000 0]]),(1002, .box 67 [.p (.sl 4 (mTk l9_2)),I (wi (l9_3+1)),I l9_4, .tsl 2 (mDg a0r.diags) 1003]),(1003, .arr 64 2 (mDg a0r.diags).length)]⟩ krf (sR Tryd.fm ⟨[4,10,11],[10,11,1000,1001,1002,1003],[],[]⟩ ⟨[(4, .bsl 1001 1),(10, .ptr 10 0),(11, .ptr 11 0)],[(10, .box 33 [I 0,S [],I 0,I 0,zS]),(11, .box 33 [I 3,S l9_6,I 0,I l9_8,zS]),(1000, .box 65 [.ptr 1002 0]),(1001, .box 69 [.fn (.func 75) [] [.ptr 1000 0]]),(1002, .box 67 [.p (.sl 4 (mTk l9_2)),I (wi (l9_3+1)),I l9_4, .tsl 2 (mDg a0r.diags) 1003]),(1003, .arr 64 2 (mDg a0r.diags).length)]⟩ krf (sim_bind (fun (j13_1,j13_2,j13_3,j13_4)=>⟨[(10, .ptr 10 0),(11, .ptr 11 0)],[(10, .box 33 [I 0,S [],I 0,I 0,zS]),(11, .box 33 [I 3,S l9_6,I 0,I l9_8, .tsl 5 (mI j13_1) 600]),(600, .arr 33 5 (mI j13_1).length),(1000, .box 65 [.ptr 1002 0]),(1001, .box 69 [.fn (.func 75) [] [.ptr 1000 0]]),(1002, .box 67 [.p (.sl 4 (mTk j13_2)),I j13_3,I j13_4, .tsl 2 (mDg a0r.diags) 1003]),(1003, .arr 64 2 (mDg a0r.diags).length)]⟩:((List (List PV)) × (List GTk) × Int × Int)→St) ?_ ?_))
        ·refine sR Tryd.fm ⟨[10,11,20,21,22],[10,11,1000,1001,1002,1003],[],[]⟩ ⟨[(10, .ptr 10 0),(11, .ptr 11 0),(20, .bsl 1001 1),(21,I 1),(22,I 0)],[(10, .box 33 [I 0,S [],I 0,I 0,zS]),(11, .box 33 [I 3,S l9_6,I 0,I l9_8,zS]),(1000, .box 65 [.ptr 1002 0]),(1001, .box 69 [.fn (.func 75) [] [.ptr 1000 0]]),(1002, .box 67 [.p (.sl 4 (mTk l9_2)),I (wi (l9_3+1)),I l9_4, .tsl 2 (mDg a0r.diags) 1003]),(1003, .arr 64 2 (mDg a0r.diags).length)]⟩ krf (sB (sim_unroll 1 (sR Tryd.fm ⟨[10,11,20,21,22,23],[10,11,1000,1001,1002,1003],[],[]⟩ ⟨[(10, .ptr 10 0),(11, .ptr 11 0),(20, .bsl 1001 1),(21,I 1),(22,I 0),(23,B true)],[(10, .box 33 [I 0,S [],I 0,I 0,zS]),(11, .box 33 [I 3,S l9_6,I 0,I l9_8,zS]),(1000, .box 65 [.ptr 1002 0]),(1001, .box 69 [.fn (.func 75) [] [.ptr 1000 0]]),(1002, .box 67 [.p (.sl 4 (mTk l9_2)),I (wi (l9_3+1)),I l9_4, .tsl 2 (mDg a0r.diags) 1003]),(1003, .arr 64 2 (mDg a0r.diags).length)]⟩ krf (sS (sim_condT krf (sK (sN ⟨[10,11,20,21,22],[10,11,1000,1001,1002,1003],[],[]⟩ ⟨[(10, .ptr 10 0),(11, .ptr 11 0),(20, .bsl 1001 1),(21,I 1),(22,I 0)],[(10, .box 33 [I 0,S [],I 0,I 0,zS]),(11, .box 33 [I 3,S l9_6,I 0,I l9_8,zS]),(1000, .box 65 [.ptr 1002 0]),(1001, .box 69 [.fn (.func 75) [] [.ptr 1000 0]]),(1002, .box 67 [.p (.sl 4 (mTk l9_2)),I (wi (l9_3+1)),I l9_4, .tsl 2 (mDg a0r.diags) 1003]),(1003, .arr 64 2 (mDg a0r.diags).length)]⟩ krf ?_)))))))
         refine sS (sB (sR Tryd.fm ⟨[10,11,13,20,21,22],[10,11,1000,1001,1002,1003],[],[]⟩ ⟨[(10, .ptr 10 0),(11, .ptr 11 0),(13, .fn (.func 75) [] [.ptr 1000 0]),(20, .bsl 1001 1),(21,I 1),(22,I 0)],[(10, .box 33 [I 0,S [],I 0,I 0,zS]),(11, .box 33 [I 3,S l9_6,I 0,I l9_8,zS]),(1000, .box 65 [.ptr 1002 0]),(1001, .box 69 [.fn (.func 75) [] [.ptr 1000 0]]),(1002, .box 67 [.p (.sl 4 (mTk l9_2)),I (wi (l9_3+1)),I l9_4, .tsl 2 (mDg a0r.diags) 1003]),(1003, .arr 64 2 (mDg a0r.diags).length)]⟩ krf (sP ⟨[10,11,13,20,21,22],[10,11,1000,1001,1002,1003],[],[]⟩ ⟨[(10, .ptr 10 0),(11, .ptr 11 0),(13, .fn (.func 75) [] [.ptr 1000 0]),(20, .bsl 1001 1),(21,I 1),(22,I 0)],[(10, .box 33 [I 0,S [],I 0,I 0,zS]),(11, .box 33 [I 3,S l9_6,I 0,I l9_8,zS]),(1000, .box 65 [.ptr 1002 0]),(1001, .box 69 [.fn (.func 75) [] [.ptr 1000 0]]),(1002, .box 67 [.p (.sl 4 (mTk l9_2)),I (wi (l9_3+1)),I l9_4, .tsl 2 (mDg a0r.diags) 1003]),(1003, .arr 64 2 (mDg a0r.diags).length)]⟩ krf (sim_weak (weak_pn 33 5 600 [] [(11,4)] krf) (sim_hst [0,1,2] [0,1] [(3,[]),(4,[]),(5,[]),(6,[])] Tryd.fm rfl krf krf (h_enter (f:=75) (args:=[.ptr 1000 0]) (dst:=some 29) krf krf (sc_inline (hc:=[(1000, .box 65 [.ptr 1001 0]),(1001, .box 67 [.p (.sl 4 (mTk l9_2)),I (wi (l9_3+1)),I l9_4, .tsl 2 (mDg a0r.diags) 1002]),(1002, .arr 64 2 (mDg a0r.diags).length)]) (args':=[.ptr 1000 0]) [(1000,1000),(1001,1002),(1002,1003)] [] [] Tryd.func75 rfl Tryd.ntmps75 rfl krf krf krf ?_)))))))
         refine sR Tryd.fm ⟨[0],[1000,1001,1002],[],[]⟩ ⟨[(0, .ptr 1000 0)],[(1000, .box 65 [.ptr 1001 0]),(1001, .box 67 [.p (.sl 4 (mTk l9_2)),I (wi (l9_3+1)),I l9_4, .tsl 2 (mDg a0r.diags) 1002]),(1002, .arr 64 2 (mDg a0r.diags).length)]⟩ krf (sS (sG (xR 1 krf (xs_enter (f:=76) (args:=[.ptr 1001 0, .p (.val (.func (.func 57) #[] #[]))]) krf krf krf ?_))))
         refine sc_hold 1001 3 1002 64 2 (mDg a0r.diags).length (mDg a0r.diags) ⟨[0,2],[1000,1001],[],[]⟩ krf krf rfl (fun _ _ _=>by kernel_rfl) (fun hu14w hu14l hu14c=>?_)
         refine sc_heap [(1000,1001)] [] [] (g_p_reader_values_ok n (⟨l9_2,wi (l9_3+1),l9_4,[]⟩:GPr) hu14w hu14l hu14c) krf krf krf (fun _=>by kernel_rfl) (fun _=>by kernel_rfl) (fun r14=>?_)
         refine k_hold _ rfl krf krf (kr0 (xR 1 krf (xE (sN ⟨[1],[1000,1001,1002],[],[]⟩ ⟨[(1, .p (.sl 5 (mI r14.1)))],[(1000, .box 65 [.ptr 1001 0]),(1001, .box 67 [.p (.sl 4 (mTk r14.2.tokens)),I r14.2.pos,I r14.2.length, .tsl 2 (mDg a0r.diags) 1002]),(1002, .arr 64 2 (mDg a0r.diags).length)]⟩ krf (sT (iq_ret (.id) [1000,1001,1002] [] (.p (.sl 5 (mI r14.1))) krf krf (kh [0,1] krf (lates_cons (late_read (.ptr 11 4) krf rfl) (lates_cons (late_tsl (S:=5) (t:=600) (ty:=33) (es:=mI []) krf krf rfl) (lates_nil))) krf ?_)))))))
         refine h_if [] rfl krf krf (aop_appL (e:=33) (S:=5) (by_:=64) (enc:=idc) (tk:=600) (l:=[]) (l2:=r14.1) (xv:=.p (.sl 5 (mI r14.1))) rfl krf krf rfl krf krf krf krf) (fun _=>lates_nil) (h_op [] krf krf (lates_nil) (h_op [] krf krf (lates_nil) (h_end (bq_n (sN ⟨[10,11,20,21,22],[10,11,600,1000,1001,1002,1003],[],[]⟩ ⟨[(10, .ptr 10 0),(11, .ptr 11 0),(20, .bsl 1001 1),(21,I 1),(22,I 0)],[(10, .box 33 [I 0,S [],I 0,I 0,zS]),(11, .box 33 [I 3,S l9_6,I 0,I l9_8, .tsl 5 (mI ([]++r14.1)) 600]),(600, .arr 33 5 (mI ([]++r14.1)).length),(1000, .box 65 [.ptr 1002 0]),(1001, .box 69 [.fn (.func 75) [] [.ptr 1000 0]]),(1002, .box 67 [.p (.sl 4 (mTk r14.2.tokens)),I r14.2.pos,I r14.2.length, .tsl 2 (mDg a0r.diags) 1003]),(1003, .arr 64 2 (mDg a0r.diags).length)]⟩ krf (sL Tryd.fm krf (ru_n ⟨[10,11,20,21,22],[10,11,600,1000,1001,1002,1003],[],[]⟩ ⟨[(10, .ptr 10 0),(11, .ptr 11 0),(20, .bsl 1001 1),(21,I 1),(22,I 1)],[(10, .box 33 [I 0,S [],I 0,I 0,zS]),(11, .box 33 [I 3,S l9_6,I 0,I l9_8, .tsl 5 (mI ([]++r14.1)) 600]),(600, .arr 33 5 (mI ([]++r14.1)).length),(1000, .box 65 [.ptr 1002 0]),(1001, .box 69 [.fn (.func 75) [] [.ptr 1000 0]]),(1002, .box 67 [.p (.sl 4 (mTk r14.2.tokens)),I r14.2.pos,I r14.2.length, .tsl 2 (mDg a0r.diags) 1003]),(1003, .arr 64 2 (mDg a0r.diags).length)]⟩ krf ?_)))))))
         refine sR Tryd.fm ⟨[10,11,20,21,22,23],[10,11,600,1000,1001,1002,1003],[],[]⟩ ⟨[(10, .ptr 10 0),(11, .ptr 11 0),(20, .bsl 1001 1),(21,I 1),(22,I 1),(23,B false)],[(10, .box 33 [I 0,S [],I 0,I 0,zS]),(11, .box 33 [I 3,S l9_6,I 0,I l9_8, .tsl 5 (mI ([]++r14.1)) 600]),(600, .arr 33 5 (mI ([]++r14.1)).length),(1000, .box 65 [.ptr 1002 0]),(1001, .box 69 [.fn (.func 75) [] [.ptr 1000 0]]),(1002, .box 67 [.p (.sl 4 (mTk r14.2.tokens)),I r14.2.pos,I r14.2.length, .tsl 2 (mDg a0r.diags) 1003]),(1003, .arr 64 2 (mDg a0r.diags).length)]⟩ krf (sS (sim_condF krf (sim_exit (sq_x (ru_x (bq_hit ?_))))))
         exact nq_n ([]++r14.1,r14.2.tokens,r14.2.pos,r14.2.length) ⟨[10,11],[10,11,600,1000,1001,1002,1003],[],[]⟩ krf
        ·rintro ⟨j13_1,j13_2,j13_3,j13_4⟩
         refine sR Tryd.fm ⟨[10],[10,600,1000,1001,1002,1003],[],[]⟩ ⟨[(10, .ptr 10 0)],[(10, .box 33 [I 3,S l9_6,I 0,I l9_8, .tsl 5 (mI j13_1) 600]),(600, .arr 33 5 (mI j13_1).length),(1000, .box 65 [.ptr 1002 0]),(1001, .box 69 [.fn (.func 75) [] [.ptr 1000 0]]),(1002, .box 67 [.p (.sl 4 (mTk j13_2)),I j13_3,I j13_4, .tsl 2 (mDg a0r.diags) 1003]),(1003, .arr 64 2 (mDg a0r.diags).length)]⟩ krf (sT (iq_ret (.agg [.id, .id, .id, .id, .sl 5]) [1000,1001,1002,1003] [] (.agg [I 3,S l9_6,I 0,I l9_8, .p (.sl 5 (mI j13_1))]) krf krf (kr0 (xR 1 krf (xF krf krf (aop_app (e:=33) (S:=5) (by_:=64) (enc:=idc) (tk:=600) (l:=l9_1) (l2:=[GNode.cs (⟨3,l9_6,0,l9_8,j13_1⟩:GNode)]) (xv:=.tsl 5 (mI [GNode.cs (⟨3,l9_6,0,l9_8,j13_1⟩:GNode)]) 31) rfl krf krf rfl krf krf krf rfl krf) (xR 1 krf (xE ?_)))))))
         refine bq_n (sN ⟨[1,3,4],[1,4,600,1000,1001],[],[]⟩ ⟨[(1, .ptr 1 0),(3, .tsl 5 (mI (l9_1++[GNode.cs (⟨3,l9_6,0,l9_8,j13_1⟩:GNode)])) 600),(4, .ptr 4 0)],[(1, .box 65 [.ptr 1000 0]),(4, .box 46 [I l9_5,S l9_6,I l9_7,I l9_8]),(600, .arr 33 5 (mI (l9_1++[GNode.cs (⟨3,l9_6,0,l9_8,j13_1⟩:GNode)])).length),(1000, .box 67 [.p (.sl 4 (mTk j13_2)),I j13_3,I j13_4, .tsl 2 (mDg a0r.diags) 1001]),(1001, .arr 64 2 (mDg a0r.diags).length)]⟩ krf (sS (sR Tryd.fm ⟨[1,3,33],[1,600,1000,1001],[],[]⟩ ⟨[(1, .ptr 1 0),(3, .tsl 5 (mI (l9_1++[GNode.cs (⟨3,l9_6,0,l9_8,j13_1⟩:GNode)])) 600),(33, .agg [I l9_5,S l9_6,I l9_7,I l9_8])],[(1, .box 65 [.ptr 1000 0]),(600, .arr 33 5 (mI (l9_1++[GNode.cs (⟨3,l9_6,0,l9_8,j13_1⟩:GNode)])).length),(1000, .box 67 [.p (.sl 4 (mTk j13_2)),I j13_3,I j13_4, .tsl 2 (mDg a0r.diags) 1001]),(1001, .arr 64 2 (mDg a0r.diags).length)]⟩ krf (sL Tryd.fm krf (sN ⟨[1,3,4],[1,4,600,1000,1001],[],[]⟩ ⟨[(1, .ptr 1 0),(3, .tsl 5 (mI (l9_1++[GNode.cs (⟨3,l9_6,0,l9_8,j13_1⟩:GNode)])) 600),(4, .ptr 4 0)],[(1, .box 65 [.ptr 1000 0]),(4, .box 46 [I l9_5,S l9_6,I l9_7,I l9_8]),(600, .arr 33 5 (mI (l9_1++[GNode.cs (⟨3,l9_6,0,l9_8,j13_1⟩:GNode)])).length),(1000, .box 67 [.p (.sl 4 (mTk j13_2)),I j13_3,I j13_4, .tsl 2 (mDg a0r.diags) 1001]),(1001, .arr 64 2 (mDg a0r.diags).length)]⟩ krf (sG (xR 1 krf ?_)))))))
         refine xs_ro [.ro [.id, .id, .id, .sl 2]] krf (g_p_reader_peek_2_ok n (⟨j13_2,j13_3,j13_4,a0r.diags⟩:GPr)) krf krf (fun _=>by kernel_rfl) (fun r15=>?_)
         refine xR 1 krf (xE ?_)
         exact kq_n (l9_1++[GNode.cs (⟨3,l9_6,0,l9_8,j13_1⟩:GNode)],j13_2,j13_3,j13_4,r15.Kind,r15.Text,r15.N,r15.At) ⟨[1,3,4],[1,4,600,1000,1001],[],[]⟩ krf
       ·refine sim_exit (sq_x (kq_x (bq_hit ?_)))
        exact nq_n (l9_1,l9_2,l9_3,l9_4) ⟨[3],[600,1000,1001],[],[]⟩ krf
     ·rintro ⟨j7_1,j7_2,j7_3,j7_4⟩
      refine sR Tryd.fm ⟨[2],[600,1000,1001],[],[]⟩ ⟨[(2, .tsl 5 (mI j7_1) 600)],[(600, .arr 33 5 (mI j7_1).length),(1000, .box 67 [.p (.sl 4 (mTk j7_2)),I j7_3,I j7_4, .tsl 2 (mDg a0r.diags) 1001]),(1001, .arr 64 2 (mDg a0r.diags).length)]⟩ krf (sT (iq_ret (.sl 5) [1000,1001] [] (.p (.sl 5 (mI j7_1))) krf krf (kh [0,1] krf (lates_cons (late_read (.ptr 11 4) krf rfl) (lates_cons (late_tsl (S:=5) (t:=600) (ty:=33) (es:=mI []) krf krf rfl) (lates_nil))) krf (h_if [] rfl krf krf (aop_appL (e:=33) (S:=5) (by_:=64) (enc:=idc) (tk:=600) (l:=[]) (l2:=j7_1) (xv:=.p (.sl 5 (mI j7_1))) rfl krf krf rfl krf krf krf krf) (fun _=>lates_nil) (h_op [] krf krf (lates_nil) (h_op [] krf krf (lates_nil) (h_end ?_)))))))
      refine bq_n (sN ⟨[10,11,20,21,22],[10,11,600,1000,1001,1002,1003],[],[]⟩ ⟨[(10, .ptr 10 0),(11, .ptr 11 0),(20, .bsl 1001 3),(21,I 3),(22,I 0)],[(10, .box 33 [I 0,S [],I 0,I 0,zS]),(11, .box 33 [I 2,S r3.Text,I r5,I r1.At, .tsl 5 (mI ([]++j7_1)) 600]),(600, .arr 33 5 (mI ([]++j7_1)).length),(1000, .box 65 [.ptr 1002 0]),(1001, .box 69 [.fn (.func 60) [.ptr 1002 0] [], .fn (.func 58) [] [.ptr 1000 0], .fn (.func 61) [.ptr 1002 0] []]),(1002, .box 67 [.p (.sl 4 (mTk j7_2)),I j7_3,I j7_4, .tsl 2 (mDg a0r.diags) 1003]),(1003, .arr 64 2 (mDg a0r.diags).length)]⟩ krf (sL Tryd.fm krf (ru_n ⟨[10,11,20,21,22],[10,11,600,1000,1001,1002,1003],[],[]⟩ ⟨[(10, .ptr 10 0),(11, .ptr 11 0),(20, .bsl 1001 3),(21,I 3),(22,I 1)],[(10, .box 33 [I 0,S [],I 0,I 0,zS]),(11, .box 33 [I 2,S r3.Text,I r5,I r1.At, .tsl 5 (mI ([]++j7_1)) 600]),(600, .arr 33 5 (mI ([]++j7_1)).length),(1000, .box 65 [.ptr 1002 0]),(1001, .box 69 [.fn (.func 60) [.ptr 1002 0] [], .fn (.func 58) [] [.ptr 1000 0], .fn (.func 61) [.ptr 1002 0] []]),(1002, .box 67 [.p (.sl 4 (mTk j7_2)),I j7_3,I j7_4, .tsl 2 (mDg a0r.diags) 1003]),(1003, .arr 64 2 (mDg a0r.diags).length)]⟩ krf (sR Tryd.fm ⟨[10,11,20,21,22,23],[10,11,600,1000,1001,1002,1003],[],[]⟩ ⟨[(10, .ptr 10 0),(11, .ptr 11 0),(20, .bsl 1001 3),(21,I 3),(22,I 1),(23,B true)],[(10, .box 33 [I 0,S [],I 0,I 0,zS]),(11, .box 33 [I 2,S r3.Text,I r5,I r1.At, .tsl 5 (mI ([]++j7_1)) 600]),(600, .arr 33 5 (mI ([]++j7_1)).length),(1000, .box 65 [.ptr 1002 0]),(1001, .box 69 [.fn (.func 60) [.ptr 1002 0] [], .fn (.func 58) [] [.ptr 1000 0], .fn (.func 61) [.ptr 1002 0] []]),(1002, .box 67 [.p (.sl 4 (mTk j7_2)),I j7_3,I j7_4, .tsl 2 (mDg a0r.diags) 1003]),(1003, .arr 64 2 (mDg a0r.diags).length)]⟩ krf (sS (sim_condT krf (sK ?_)))))))
      refine sN ⟨[10,11,20,21,22],[10,11,600,1000,1001,1002,1003],[],[]⟩ ⟨[(10, .ptr 10 0),(11, .ptr 11 0),(20, .bsl 1001 3),(21,I 3),(22,I 1)],[(10, .box 33 [I 0,S [],I 0,I 0,zS]),(11, .box 33 [I 2,S r3.Text,I r5,I r1.At, .tsl 5 (mI ([]++j7_1)) 600]),(600, .arr 33 5 (mI ([]++j7_1)).length),(1000, .box 65 [.ptr 1002 0]),(1001, .box 69 [.fn (.func 60) [.ptr 1002 0] [], .fn (.func 58) [] [.ptr 1000 0], .fn (.func 61) [.ptr 1002 0] []]),(1002, .box 67 [.p (.sl 4 (mTk j7_2)),I j7_3,I j7_4, .tsl 2 (mDg a0r.diags) 1003]),(1003, .arr 64 2 (mDg a0r.diags).length)]⟩ krf (sS (sB (sR Tryd.fm ⟨[10,11,13,20,21,22],[10,11,600,1000,1001,1002,1003],[],[]⟩ ⟨[(10, .ptr 10 0),(11, .ptr 11 0),(13, .fn (.func 58) [] [.ptr 1000 0]),(20, .bsl 1001 3),(21,I 3),(22,I 1)],[(10, .box 33 [I 0,S [],I 0,I 0,zS]),(11, .box 33 [I 2,S r3.Text,I r5,I r1.At, .tsl 5 (mI ([]++j7_1)) 600]),(600, .arr 33 5 (mI ([]++j7_1)).length),(1000, .box 65 [.ptr 1002 0]),(1001, .box 69 [.fn (.func 60) [.ptr 1002 0] [], .fn (.func 58) [] [.ptr 1000 0], .fn (.func 61) [.ptr 1002 0] []]),(1002, .box 67 [.p (.sl 4 (mTk j7_2)),I j7_3,I j7_4, .tsl 2 (mDg a0r.diags) 1003]),(1003, .arr 64 2 (mDg a0r.diags).length)]⟩ krf (sim_hst [0,1,2] [0,1] [(3,[]),(4,[]),(5,[]),(6,[])] Tryd.fm rfl krf krf (h_enter (f:=58) (args:=[.ptr 1000 0]) (dst:=some 29) krf krf (sc_inline (hc:=[(1000, .box 65 [.ptr 1001 0]),(1001, .box 67 [.p (.sl 4 (mTk j7_2)),I j7_3,I j7_4, .tsl 2 (mDg a0r.diags) 1002]),(1002, .arr 64 2 (mDg a0r.diags).length)]) (args':=[.ptr 1000 0]) [(1000,1000),(1001,1002),(1002,1003)] [] [] Tryd.func58 rfl Tryd.ntmps58 rfl krf krf krf (sR Tryd.fm ⟨[0],[1000,1001,1002],[],[]⟩ ⟨[(0, .ptr 1000 0)],[(1000, .box 65 [.ptr 1001 0]),(1001, .box 67 [.p (.sl 4 (mTk j7_2)),I j7_3,I j7_4, .tsl 2 (mDg a0r.diags) 1002]),(1002, .arr 64 2 (mDg a0r.diags).length)]⟩ krf ?_)))))))
      refine sS (sim_hst [0] [0] [(1,[]),(2,[])] Tryd.fm rfl krf krf (h_enter (f:=59) (args:=[S [123]]) (dst:=some 3) krf krf (sc_inline (hc:=[]) (args':=[S [123]]) [(1,401)] [] [] Tryd.func59 rfl Tryd.ntmps59 rfl krf krf krf (sR Tryd.fm ⟨[1],[1],[],[]⟩ ⟨[(1, .ptr 1 0)],[(1, .box 9 [S [123]])]⟩ krf (sR Tryd.fm ⟨[2],[1],[],[]⟩ ⟨[(2, .fn (.func 74) [] [.ptr 1 0])],[(1, .box 9 [S [123]])]⟩ krf (sT (iq_ret (.id) [1] [] (.fn (.func 74) [] [.ptr 1 0]) krf krf ?_)))))))
      refine kh [0] krf (lates_cons (late_read (.ptr 1001 0) krf rfl) (lates_nil)) krf (h_enter (f:=53) (args:=[.ptr 1001 0, .fn (.func 74) [] [.ptr 401 0]]) (dst:=some 4) krf krf (sc_inline (hc:=[(1000, .box 9 [S [123]]),(1001, .box 67 [.p (.sl 4 (mTk j7_2)),I j7_3,I j7_4, .tsl 2 (mDg a0r.diags) 1002]),(1002, .arr 64 2 (mDg a0r.diags).length)]) (args':=[.ptr 1001 0, .fn (.func 74) [] [.ptr 1000 0]]) [(1000,401),(1001,1001),(1002,1002)] [] [] Tryd.func53 rfl Tryd.ntmps53 rfl krf krf krf (sR Tryd.fm ⟨[0,1,4],[4,1000,1001,1002],[],[]⟩ ⟨[(0, .ptr 1001 0),(1, .fn (.func 74) [] [.ptr 1000 0]),(4, .ptr 4 0)],[(4, .box 46 [I 0,S [],I 0,I 0]),(1000, .box 9 [S [123]]),(1001, .box 67 [.p (.sl 4 (mTk j7_2)),I j7_3,I j7_4, .tsl 2 (mDg a0r.diags) 1002]),(1002, .arr 64 2 (mDg a0r.diags).length)]⟩ krf (sS (sG (xR 1 krf ?_))))))
      refine xs_ro [.ro [.id, .id, .id, .sl 2]] krf (g_p_reader_peek_2_ok n (⟨j7_2,j7_3,j7_4,a0r.diags⟩:GPr)) krf krf (fun _=>by kernel_rfl) (fun r16=>?_)
      refine xR 2 krf (xE (sN ⟨[0,1,4,5],[4,5,1000,1001,1002],[],[]⟩ ⟨[(0, .ptr 1001 0),(1, .fn (.func 74) [] [.ptr 1000 0]),(4, .ptr 4 0),(5, .ptr 5 0)],[(4, .box 46 [I 0,S [],I 0,I 0]),(5, .box 46 (bxc (GTk.cs r16))),(1000, .box 9 [S [123]]),(1001, .box 67 [.p (.sl 4 (mTk j7_2)),I j7_3,I j7_4, .tsl 2 (mDg a0r.diags) 1002]),(1002, .arr 64 2 (mDg a0r.diags).length)]⟩ krf (sim_cps (fun _=>⟨[(0, .ptr 1001 0),(4, .ptr 4 0),(5, .ptr 5 0)],[(4, .box 46 [I 0,S [],I 0,I 0]),(5, .box 46 (bxc (GTk.cs r16))),(1000, .box 9 [S [123]]),(1001, .box 67 [.p (.sl 4 (mTk j7_2)),I j7_3,I j7_4, .tsl 2 (mDg a0r.diags) 1002]),(1002, .arr 64 2 (mDg a0r.diags).length)]⟩:Unit→St) (fun _=>g_p_reader_item_j17 n a0r r1 r3 r5 j7_1 j7_2 j7_3 j7_4) ?_ ?_)))
      ·rintro _
       show SimE (g_p_reader_item_j17 n a0r r1 r3 r5 j7_1 j7_2 j7_3 j7_4) _ _ _ _ _ _
       unfold g_p_reader_item_j17
       refine sR Tryd.fm ⟨[4,5],[4,5,1000,1001,1002],[],[]⟩ ⟨[(4, .ptr 4 0),(5, .ptr 5 0)],[(4, .box 46 [I 0,S [],I 0,I 0]),(5, .box 46 (bxc (GTk.cs r16))),(1000, .box 9 [S [123]]),(1001, .box 67 [.p (.sl 4 (mTk j7_2)),I (wi (j7_3+1)),I j7_4, .tsl 2 (mDg a0r.diags) 1002]),(1002, .arr 64 2 (mDg a0r.diags).length)]⟩ krf (sR Tryd.fm ⟨[4],[4,1000,1001,1002],[],[]⟩ ⟨[(4, .ptr 4 0)],[(4, .box 46 (bxc (GTk.cs r16))),(1000, .box 9 [S [123]]),(1001, .box 67 [.p (.sl 4 (mTk j7_2)),I (wi (j7_3+1)),I j7_4, .tsl 2 (mDg a0r.diags) 1002]),(1002, .arr 64 2 (mDg a0r.diags).length)]⟩ krf (sT (iq_ret (.id) [1000,1001,1002] [] (.agg [I r16.Kind,S r16.Text,I r16.N,I r16.At]) krf krf (kh [] krf (lates_nil) krf (h_end (sN ⟨[],[1000,1001,1002],[],[]⟩ ⟨[],[(1000, .box 65 [.ptr 1001 0]),(1001, .box 67 [.p (.sl 4 (mTk j7_2)),I (wi (j7_3+1)),I j7_4, .tsl 2 (mDg a0r.diags) 1002]),(1002, .arr 64 2 (mDg a0r.diags).length)]⟩ krf (sR Tryd.fm ⟨[1],[1000,1001,1002],[],[]⟩ ⟨[(1,zS)],[(1000, .box 65 [.ptr 1001 0]),(1001, .box 67 [.p (.sl 4 (mTk j7_2)),I (wi (j7_3+1)),I j7_4, .tsl 2 (mDg a0r.diags) 1002]),(1002, .arr 64 2 (mDg a0r.diags).length)]⟩ krf ?_)))))))
       refine sT (iq_ret (.sl 5) [1000,1001,1002] [] (.p (.sl 5 (mI []))) krf krf (kh [0,1] krf (lates_cons (late_read (.ptr 11 4) krf rfl) (lates_cons (late_tsl (S:=5) (t:=600) (ty:=33) (es:=mI ([]++j7_1)) krf krf rfl) (lates_nil))) krf (h_if [] rfl krf krf (aop_appL (e:=33) (S:=5) (by_:=64) (enc:=idc) (tk:=600) (l:=[]++j7_1) (l2:=[]) (xv:=.p (.sl 5 (mI []))) rfl krf krf rfl krf krf krf krf) (fun _=>lates_nil) (h_op [] krf krf (lates_nil) (h_op [] krf krf (lates_nil) (h_end (bq_n ?_)))))))
       refine sN ⟨[10,11,20,21,22],[10,11,600,1000,1001,1002,1003],[],[]⟩ ⟨[(10, .ptr 10 0),(11, .ptr 11 0),(20, .bsl 1001 3),(21,I 3),(22,I 1)],[(10, .box 33 [I 0,S [],I 0,I 0,zS]),(11, .box 33 [I 2,S r3.Text,I r5,I r1.At, .tsl 5 (mI (([]++j7_1)++[])) 600]),(600, .arr 33 5 (mI (([]++j7_1)++[])).length),(1000, .box 65 [.ptr 1002 0]),(1001, .box 69 [.fn (.func 60) [.ptr 1002 0] [], .fn (.func 58) [] [.ptr 1000 0], .fn (.func 61) [.ptr 1002 0] []]),(1002, .box 67 [.p (.sl 4 (mTk j7_2)),I (wi (j7_3+1)),I j7_4, .tsl 2 (mDg a0r.diags) 1003]),(1003, .arr 64 2 (mDg a0r.diags).length)]⟩ krf (sL Tryd.fm krf (ru_n ⟨[10,11,20,21,22],[10,11,600,1000,1001,1002,1003],[],[]⟩ ⟨[(10, .ptr 10 0),(11, .ptr 11 0),(20, .bsl 1001 3),(21,I 3),(22,I 2)],[(10, .box 33 [I 0,S [],I 0,I 0,zS]),(11, .box 33 [I 2,S r3.Text,I r5,I r1.At, .tsl 5 (mI (([]++j7_1)++[])) 600]),(600, .arr 33 5 (mI (([]++j7_1)++[])).length),(1000, .box 65 [.ptr 1002 0]),(1001, .box 69 [.fn (.func 60) [.ptr 1002 0] [], .fn (.func 58) [] [.ptr 1000 0], .fn (.func 61) [.ptr 1002 0] []]),(1002, .box 67 [.p (.sl 4 (mTk j7_2)),I (wi (j7_3+1)),I j7_4, .tsl 2 (mDg a0r.diags) 1003]),(1003, .arr 64 2 (mDg a0r.diags).length)]⟩ krf (sR Tryd.fm ⟨[10,11,20,21,22,23],[10,11,600,1000,1001,1002,1003],[],[]⟩ ⟨[(10, .ptr 10 0),(11, .ptr 11 0),(20, .bsl 1001 3),(21,I 3),(22,I 2),(23,B true)],[(10, .box 33 [I 0,S [],I 0,I 0,zS]),(11, .box 33 [I 2,S r3.Text,I r5,I r1.At, .tsl 5 (mI (([]++j7_1)++[])) 600]),(600, .arr 33 5 (mI (([]++j7_1)++[])).length),(1000, .box 65 [.ptr 1002 0]),(1001, .box 69 [.fn (.func 60) [.ptr 1002 0] [], .fn (.func 58) [] [.ptr 1000 0], .fn (.func 61) [.ptr 1002 0] []]),(1002, .box 67 [.p (.sl 4 (mTk j7_2)),I (wi (j7_3+1)),I j7_4, .tsl 2 (mDg a0r.diags) 1003]),(1003, .arr 64 2 (mDg a0r.diags).length)]⟩ krf (sS (sim_condT krf (sK (sN ⟨[10,11,20,21,22],[10,11,600,1000,1001,1002,1003],[],[]⟩ ⟨[(10, .ptr 10 0),(11, .ptr 11 0),(20, .bsl 1001 3),(21,I 3),(22,I 2)],[(10, .box 33 [I 0,S [],I 0,I 0,zS]),(11, .box 33 [I 2,S r3.Text,I r5,I r1.At, .tsl 5 (mI (([]++j7_1)++[])) 600]),(600, .arr 33 5 (mI (([]++j7_1)++[])).length),(1000, .box 65 [.ptr 1002 0]),(1001, .box 69 [.fn (.func 60) [.ptr 1002 0] [], .fn (.func 58) [] [.ptr 1000 0], .fn (.func 61) [.ptr 1002 0] []]),(1002, .box 67 [.p (.sl 4 (mTk j7_2)),I (wi (j7_3+1)),I j7_4, .tsl 2 (mDg a0r.diags) 1003]),(1003, .arr 64 2 (mDg a0r.diags).length)]⟩ krf ?_)))))))
       refine sim_bind (fun (j18_1,j18_2,j18_3,j18_4,j18_5)=>⟨[(10, .ptr 10 0),(11, .ptr 11 0),(20, .bsl 1001 3),(21,I 3),(22,I 2)],[(10, .box 33 [I 0,S [],I 0,I 0,zS]),(11, .box 33 [I 2,S r3.Text,I r5,I r1.At, .tsl 5 (mI j18_1) 600]),(600, .arr 33 5 (mI j18_1).length),(1000, .box 65 [.ptr 1002 0]),(1001, .box 69 [.fn (.func 60) [.ptr 1002 0] [], .fn (.func 58) [] [.ptr 1000 0], .fn (.func 61) [.ptr 1002 0] []]),(1002, .box 67 [.p (.sl 4 (mTk j18_2)),I j18_3,I j18_4, .tsl 2 (mDg j18_5) 1003]),(1003, .arr 64 2 (mDg j18_5).length)]⟩:((List (List PV)) × (List GTk) × Int × Int × (List GDg))→St) ?_ ?_
       ·refine sB (sR Tryd.fm ⟨[10,11,13,20,21,22],[10,11,600,1000,1001,1002,1003],[],[]⟩ ⟨[(10, .ptr 10 0),(11, .ptr 11 0),(13, .fn (.func 61) [.ptr 1002 0] []),(20, .bsl 1001 3),(21,I 3),(22,I 2)],[(10, .box 33 [I 0,S [],I 0,I 0,zS]),(11, .box 33 [I 2,S r3.Text,I r5,I r1.At, .tsl 5 (mI (([]++j7_1)++[])) 600]),(600, .arr 33 5 (mI (([]++j7_1)++[])).length),(1000, .box 65 [.ptr 1002 0]),(1001, .box 69 [.fn (.func 60) [.ptr 1002 0] [], .fn (.func 58) [] [.ptr 1000 0], .fn (.func 61) [.ptr 1002 0] []]),(1002, .box 67 [.p (.sl 4 (mTk j7_2)),I (wi (j7_3+1)),I j7_4, .tsl 2 (mDg a0r.diags) 1003]),(1003, .arr 64 2 (mDg a0r.diags).length)]⟩ krf (sim_hst [0,1,2] [0,1] [(3,[]),(4,[]),(5,[]),(6,[])] Tryd.fm rfl krf krf (h_enter (f:=61) (args:=[.ptr 1002 0]) (dst:=some 29) krf krf (sc_inline (hc:=[(1000, .box 67 [.p (.sl 4 (mTk j7_2)),I (wi (j7_3+1)),I j7_4, .tsl 2 (mDg a0r.diags) 1001]),(1001, .arr 64 2 (mDg a0r.diags).length)]) (args':=[.ptr 1000 0]) [(1000,1002),(1001,1003)] [] [] Tryd.func61 rfl Tryd.ntmps61 rfl krf krf krf (sR Tryd.fm ⟨[1],[1,1000,1001],[],[]⟩ ⟨[(1, .ptr 1 0)],[(1, .box 65 [.ptr 1000 0]),(1000, .box 67 [.p (.sl 4 (mTk j7_2)),I (wi (j7_3+1)),I j7_4, .tsl 2 (mDg a0r.diags) 1001]),(1001, .arr 64 2 (mDg a0r.diags).length)]⟩ krf (sR Tryd.fm ⟨[1,3],[1,1000,1001],[],[]⟩ ⟨[(1, .ptr 1 0),(3,zS)],[(1, .box 65 [.ptr 1000 0]),(1000, .box 67 [.p (.sl 4 (mTk j7_2)),I (wi (j7_3+1)),I j7_4, .tsl 2 (mDg a0r.diags) 1001]),(1001, .arr 64 2 (mDg a0r.diags).length)]⟩ krf (sim_cps (fun (j19_1,j19_2,j19_3,j19_4,j19_5)=>⟨[(3, .tsl 5 (mI j19_1) 32)],[(32, .arr 33 5 (mI j19_1).length),(1000, .box 67 [.p (.sl 4 (mTk j19_2)),I j19_3,I j19_4, .tsl 2 (mDg j19_5) 1001]),(1001, .arr 64 2 (mDg j19_5).length)]⟩:((List (List PV)) × (List GTk) × Int × Int × (List GDg))→St) (fun (j19_1,j19_2,j19_3,j19_4,j19_5)=>g_p_reader_item_j19 j7_1 j19_1 j19_2 j19_3 j19_4 j19_5) ?_ ?_)))))))
        ·rintro ⟨j19_1,j19_2,j19_3,j19_4,j19_5⟩
         show SimE (g_p_reader_item_j19 j7_1 j19_1 j19_2 j19_3 j19_4 j19_5) _ _ _ _ _ _
         unfold g_p_reader_item_j19
         refine sR Tryd.fm ⟨[2],[32,1000,1001],[],[]⟩ ⟨[(2, .tsl 5 (mI j19_1) 32)],[(32, .arr 33 5 (mI j19_1).length),(1000, .box 67 [.p (.sl 4 (mTk j19_2)),I j19_3,I j19_4, .tsl 2 (mDg j19_5) 1001]),(1001, .arr 64 2 (mDg j19_5).length)]⟩ krf (sT (iq_ret (.sl 5) [1000,1001] [] (.p (.sl 5 (mI j19_1))) krf krf (kh [0,1] krf (lates_cons (late_read (.ptr 11 4) krf rfl) (lates_cons (late_tsl (S:=5) (t:=600) (ty:=33) (es:=mI (([]++j7_1)++[])) krf krf rfl) (lates_nil))) krf (h_if [] rfl krf krf (aop_appL (e:=33) (S:=5) (by_:=64) (enc:=idc) (tk:=600) (l:=([]++j7_1)++[]) (l2:=j19_1) (xv:=.p (.sl 5 (mI j19_1))) rfl krf krf rfl krf krf krf krf) (fun _=>lates_nil) (h_op [] krf krf (lates_nil) (h_op [] krf krf (lates_nil) (h_end ?_)))))))
         refine bq_n ?_
         exact nq_n ((([]++j7_1)++[])++j19_1,j19_2,j19_3,j19_4,j19_5) ⟨[10,11,20,21,22],[10,11,600,1000,1001,1002,1003],[],[]⟩ krf
        ·refine sB (sP ⟨[1,3],[1,1000,1001],[],[]⟩ ⟨[(1, .ptr 1 0),(3,zS)],[(1, .box 65 [.ptr 1000 0]),(1000, .box 67 [.p (.sl 4 (mTk j7_2)),I (wi (j7_3+1)),I j7_4, .tsl 2 (mDg a0r.diags) 1001]),(1001, .arr 64 2 (mDg a0r.diags).length)]⟩ krf (sim_weak (weak_pn 33 5 32 [3] [] krf) (sim_loop (fun (l20_1,l20_2,l20_3,l20_4,l20_5)=>⟨[(1, .ptr 1 0),(3, .tsl 5 (mI l20_1) 32)],[(1, .box 65 [.ptr 1000 0]),(32, .arr 33 5 (mI l20_1).length),(1000, .box 67 [.p (.sl 4 (mTk l20_2)),I l20_3,I l20_4, .tsl 2 (mDg l20_5) 1001]),(1001, .arr 64 2 (mDg l20_5).length)]⟩:((List (List PV)) × (List GTk) × Int × Int × (List GDg))→St) (weak_shr (K:=⟨[1,3],[1,32,1000,1001],[],[]⟩) krf) ?_)))
         rintro recl20 ⟨l20_1,l20_2,l20_3,l20_4,l20_5⟩
         show SimE (g_p_reader_item_l20 n j7_1 recl20 l20_1 l20_2 l20_3 l20_4 l20_5) _ _ _ _ _ _
         unfold g_p_reader_item_l20
         refine sS (sS (sG (xR 1 krf ?_)))
         refine xs_ro [.ro [.id, .id, .id, .sl 2]] krf (g_p_reader_full_ok n (⟨l20_2,l20_3,l20_4,l20_5⟩:GPr)) krf krf (fun _=>by kernel_rfl) (fun r21=>?_)
         refine xR 1 krf (xE (sN ⟨[1,3,9],[1,32,1000,1001],[],[]⟩ ⟨[(1, .ptr 1 0),(3, .tsl 5 (mI l20_1) 32),(9,B (!r21))],[(1, .box 65 [.ptr 1000 0]),(32, .arr 33 5 (mI l20_1).length),(1000, .box 67 [.p (.sl 4 (mTk l20_2)),I l20_3,I l20_4, .tsl 2 (mDg l20_5) 1001]),(1001, .arr 64 2 (mDg l20_5).length)]⟩ krf (sC (!r21) krf ?_ ?_)))
         ·refine sK (sN ⟨[1,3],[1,32,1000,1001],[],[]⟩ ⟨[(1, .ptr 1 0),(3, .tsl 5 (mI l20_1) 32)],[(1, .box 65 [.ptr 1000 0]),(32, .arr 33 5 (mI l20_1).length),(1000, .box 67 [.p (.sl 4 (mTk l20_2)),I l20_3,I l20_4, .tsl 2 (mDg l20_5) 1001]),(1001, .arr 64 2 (mDg l20_5).length)]⟩ krf (sB (sS (sS (sim_hst [1] [1] [(0,[]),(2,[]),(3,[])] Tryd.fm rfl krf krf (h_enter (f:=59) (args:=[S [125]]) (dst:=some 10) krf krf (sc_inline (hc:=[]) (args':=[S [125]]) [(1,401)] [] [] Tryd.func59 rfl Tryd.ntmps59 rfl krf krf krf ?_)))))))
          refine sR Tryd.fm ⟨[1],[1],[],[]⟩ ⟨[(1, .ptr 1 0)],[(1, .box 9 [S [125]])]⟩ krf (sR Tryd.fm ⟨[2],[1],[],[]⟩ ⟨[(2, .fn (.func 74) [] [.ptr 1 0])],[(1, .box 9 [S [125]])]⟩ krf (sT (iq_ret (.id) [1] [] (.fn (.func 74) [] [.ptr 1 0]) krf krf (kh [1] krf (lates_cons (late_read (.ptr 1000 0) krf rfl) (lates_nil)) krf (h_enter (f:=71) (args:=[.ptr 1000 0]) (dst:=some 12) krf krf ?_)))))
          refine sc_ro [.ro [.id, .id, .id, .sl 2]] (g_p_reader_peek_2_ok n (⟨l20_2,l20_3,l20_4,l20_5⟩:GPr)) krf krf (fun _=>by kernel_rfl) (fun r22=>?_)
          refine kh [] krf (lates_nil) krf (h_enter (f:=74) (args:=[.agg [I r22.Kind,S r22.Text,I r22.N,I r22.At], .ptr 401 0]) (dst:=some 13) krf krf (sc_inline (hc:=[(1000, .box 9 [S [125]])]) (args':=[.agg [I r22.Kind,S r22.Text,I r22.N,I r22.At], .ptr 1000 0]) [(1000,401)] [] [] Tryd.func74 rfl Tryd.ntmps74 rfl krf krf krf (sR Tryd.fm ⟨[1,2],[2,1000],[],[]⟩ ⟨[(1, .ptr 1000 0),(2, .ptr 2 0)],[(2, .box 46 (bxc (GTk.cs r22))),(1000, .box 9 [S [125]])]⟩ krf (sim_bind (fun j23=>⟨[(3,B j23)],[(1000, .box 9 [S [125]])]⟩:Bool→St) ?_ ?_))))
          ·refine sG (xR 4 krf ?_)
           refine xS (eqI r22.Kind 3) (fun h24=>?_) (fun h24=>?_)
           ·refine xO (want_tt krf h24) krf (xR 5 krf (xE ?_))
            exact nq_n (eqS r22.Text [125]) ⟨[3],[1000],[],[]⟩ krf
           ·refine xN (want_tf krf h24) krf (xR 5 krf (xE ?_))
            exact nq_n false ⟨[3],[1000],[],[]⟩ krf
          ·rintro j23
           refine sT (iq_ret (.id) [1000] [] (B j23) krf krf (kh [] krf (lates_nil) krf (h_end (sN ⟨[1,3,13],[1,32,1000,1001],[],[]⟩ ⟨[(1, .ptr 1 0),(3, .tsl 5 (mI l20_1) 32),(13,B j23)],[(1, .box 65 [.ptr 1000 0]),(32, .arr 33 5 (mI l20_1).length),(1000, .box 67 [.p (.sl 4 (mTk l20_2)),I l20_3,I l20_4, .tsl 2 (mDg l20_5) 1001]),(1001, .arr 64 2 (mDg l20_5).length)]⟩ krf (sC j23 krf ?_ ?_)))))
           ·refine sR Tryd.fm ⟨[3],[32,1000,1001],[],[]⟩ ⟨[(3, .tsl 5 (mI l20_1) 32)],[(32, .arr 33 5 (mI l20_1).length),(1000, .box 67 [.p (.sl 4 (mTk l20_2)),I (wi (l20_3+1)),I l20_4, .tsl 2 (mDg l20_5) 1001]),(1001, .arr 64 2 (mDg l20_5).length)]⟩ krf (sR Tryd.fm ⟨[2],[32,1000,1001],[],[]⟩ ⟨[(2, .tsl 5 (mI l20_1) 32)],[(32, .arr 33 5 (mI l20_1).length),(1000, .box 67 [.p (.sl 4 (mTk l20_2)),I (wi (l20_3+1)),I l20_4, .tsl 2 (mDg l20_5) 1001]),(1001, .arr 64 2 (mDg l20_5).length)]⟩ krf (sT (sq_r (bq_r (kq_r (bq_r (kq_r ?_)))))))
            refine iq_ret (.sl 5) [1000,1001] [] (.p (.sl 5 (mI l20_1))) krf krf (kh [0,1] krf (lates_cons (late_read (.ptr 11 4) krf rfl) (lates_cons (late_tsl (S:=5) (t:=600) (ty:=33) (es:=mI (([]++j7_1)++[])) krf krf rfl) (lates_nil))) krf (h_if [] rfl krf krf (aop_appL (e:=33) (S:=5) (by_:=64) (enc:=idc) (tk:=600) (l:=([]++j7_1)++[]) (l2:=l20_1) (xv:=.p (.sl 5 (mI l20_1))) rfl krf krf rfl krf krf krf krf) (fun _=>lates_nil) (h_op [] krf krf (lates_nil) (h_op [] krf krf (lates_nil) (h_end (bq_n ?_))))))
            exact nq_n ((([]++j7_1)++[])++l20_1,l20_2,wi (l20_3+1),l20_4,l20_5) ⟨[10,11,20,21,22],[10,11,600,1000,1001,1002,1003],[],[]⟩ krf
           ·refine sK (sN ⟨[1,3],[1,32,1000,1001],[],[]⟩ ⟨[(1, .ptr 1 0),(3, .tsl 5 (mI l20_1) 32)],[(1, .box 65 [.ptr 1000 0]),(32, .arr 33 5 (mI l20_1).length),(1000, .box 67 [.p (.sl 4 (mTk l20_2)),I l20_3,I l20_4, .tsl 2 (mDg l20_5) 1001]),(1001, .arr 64 2 (mDg l20_5).length)]⟩ krf (sR Tryd.fm ⟨[1,3,4],[1,4,32,1000,1001],[],[]⟩ ⟨[(1, .ptr 1 0),(3, .tsl 5 (mI l20_1) 32),(4, .ptr 4 0)],[(1, .box 65 [.ptr 1000 0]),(4, .box 33 [I 0,S [],I 0,I 0,zS]),(32, .arr 33 5 (mI l20_1).length),(1000, .box 67 [.p (.sl 4 (mTk l20_2)),I l20_3,I l20_4, .tsl 2 (mDg l20_5) 1001]),(1001, .arr 64 2 (mDg l20_5).length)]⟩ krf (sim_bind (fun (j25_1,j25_2,j25_3,j25_4,j25_5,j25_6,j25_7,j25_8,j25_9,j25_10,j25_11)=>⟨[(1, .ptr 1 0),(3, .tsl 5 (mI l20_1) 32),(4, .ptr 4 0),(5,B j25_1),(6,S j25_2)],[(1, .box 65 [.ptr 1000 0]),(4, .box 33 (bxc (GNode.cs ⟨j25_7,j25_8,j25_9,j25_10,j25_11⟩))),(32, .arr 33 5 (mI l20_1).length),(1000, .box 67 [.p (.sl 4 (mTk j25_3)),I j25_4,I j25_5, .tsl 2 (mDg j25_6) 1001]),(1001, .arr 64 2 (mDg j25_6).length)]⟩:(Bool × (List UInt8) × (List GTk) × Int × Int × (List GDg) × Int × (List UInt8) × Int × Int × (List (List PV)))→St) ?_ ?_)))
            ·refine sG (xR 2 krf (xs_enter (f:=44) (args:=[.ptr 1000 0, .fn (.func 77) [] [.ptr 1 0, .ptr 4 0]]) krf krf krf ?_))
             refine sc_inlineD (hc:=[(1000, .box 65 [.ptr 1002 0]),(1001, .box 33 [I 0,S [],I 0,I 0,zS]),(1002, .box 67 [.p (.sl 4 (mTk l20_2)),I l20_3,I l20_4, .tsl 2 (mDg l20_5) 1003]),(1003, .arr 64 2 (mDg l20_5).length)]) (args':=[.ptr 1002 0, .fn (.func 77) [] [.ptr 1000 0, .ptr 1001 0]]) [(1000,1),(1001,4),(1002,1000),(1003,1001)] [] [] (⟨_,_,_,_,_,_,[2,4,5],6,_,rfl,rfl,rfl,rfl,rfl,rfl,rfl,rfl,by decide⟩:Deferrer2 Tryd.f44 51) [(2,1900),(4,1901),(5,1902)] Tryd.func44 Tryd.ntmps44 krf krf krf krf krf Tryd.fm rfl krf krf ?_
             refine sP ⟨[1,4,5],[1000,1001,1002,1003,1900,1901,1902],[],[]⟩ ⟨[(1, .fn (.func 77) [] [.ptr 1000 0, .ptr 1001 0]),(4, .ptr 1901 0),(5, .ptr 1902 0)],[(1000, .box 65 [.ptr 1002 0]),(1001, .box 33 [I 0,S [],I 0,I 0,zS]),(1002, .box 67 [.p (.sl 4 (mTk l20_2)),I l20_3,I l20_4, .tsl 2 (mDg l20_5) 1003]),(1003, .arr 64 2 (mDg l20_5).length),(1900, .box 65 [.ptr 1002 0]),(1901, .box 4 [B false]),(1902, .box 9 [S []])]⟩ krf (sS (sG (xR 1 krf (xs_inline [(1000, .box 65 [.ptr 1002 0]),(1001, .box 33 [I 0,S [],I 0,I 0,zS]),(1002, .box 67 [.p (.sl 4 (mTk l20_2)),I l20_3,I l20_4, .tsl 2 (mDg l20_5) 1003]),(1003, .arr 64 2 (mDg l20_5).length)] [.ptr 1000 0, .ptr 1001 0] [(1000,1000),(1001,1001),(1002,1002),(1003,1003)] [] [] krf Tryd.func77 rfl Tryd.ntmps77 rfl krf krf krf (sG (xR 1 krf (xs_enter (f:=78) (args:=[.ptr 1002 0]) krf krf krf ?_)))))))
             refine sc_hold 1002 3 1003 64 2 (mDg l20_5).length (mDg l20_5) ⟨[0,1,2],[1000,1001,1002],[],[]⟩ krf krf rfl (fun _ _ _=>by kernel_rfl) (fun hu26w hu26l hu26c=>?_)
             refine sc_heapE [(1000,1002)] [] [] (g_p_reader_article_ok n (⟨l20_2,l20_3,l20_4,[]⟩:GPr) hu26w hu26l hu26c) krf krf krf (fun _=>by kernel_rfl) (fun _=>by kernel_rfl) (fun _=>by kernel_rfl) (fun _=>by kernel_rfl) (fun r26=>?_) (fun e27=>?_)
             ·refine k_hold _ rfl krf krf (kr0 (xR 1 krf (xE (iq_n (.id) [1000,1001,1002,1003] [] (.tup []) krf krf (kr0 (xE (sN ⟨[4,5],[1000,1001,1002,1003,1900,1901,1902],[],[]⟩ ⟨[(4, .ptr 1901 0),(5, .ptr 1902 0)],[(1000, .box 65 [.ptr 1002 0]),(1001, .box 33 (bxc (GNode.cs r26.1))),(1002, .box 67 [.p (.sl 4 (mTk r26.2.tokens)),I r26.2.pos,I r26.2.length, .tsl 2 (mDg l20_5) 1003]),(1003, .arr 64 2 (mDg l20_5).length),(1900, .box 65 [.ptr 1002 0]),(1901, .box 4 [B false]),(1902, .box 9 [S []])]⟩ krf ?_)))))))
              refine sR Tryd.fm ⟨[4,5],[1000,1001,1002,1003,1900,1901,1902],[],[]⟩ ⟨[(4, .ptr 1901 0),(5, .ptr 1902 0)],[(1000, .box 65 [.ptr 1002 0]),(1001, .box 33 (bxc (GNode.cs r26.1))),(1002, .box 67 [.p (.sl 4 (mTk r26.2.tokens)),I r26.2.pos,I r26.2.length, .tsl 2 (mDg l20_5) 1003]),(1003, .arr 64 2 (mDg l20_5).length),(1900, .box 65 [.ptr 1002 0]),(1901, .box 4 [B true]),(1902, .box 9 [S []])]⟩ krf (sT ?_)
              refine dI_end (⟨Tryd.f51,_,_,_,6,3,_,_,Tryd.func51,rfl,rfl,rfl,rfl,rfl,rfl,rfl,by decide,by decide⟩:Recoverer Tryd.prog 51) [(1000,1002),(1001,1003),(1002,1900),(1003,1901),(1004,1902)] [(1000, .box 67 [.p (.sl 4 (mTk r26.2.tokens)),I r26.2.pos,I r26.2.length, .tsl 2 (mDg l20_5) 1001]),(1001, .arr 64 2 (mDg l20_5).length),(1002, .box 65 [.ptr 1000 0]),(1003, .box 4 [B true]),(1004, .box 9 [S []])] (.p (.val (.nilIface))) [.ptr 1002 0, .ptr 1003 0, .ptr 1004 0] [] rfl krf krf krf krf ?_
              refine sS (sR Tryd.fm ⟨[0,1,2,3,8],[1000,1001,1002,1003,1004],[],[]⟩ ⟨[(0, .ptr 1002 0),(1, .ptr 1003 0),(2, .ptr 1004 0),(3, .p (.val (.nilIface))),(8,B true)],[(1000, .box 67 [.p (.sl 4 (mTk r26.2.tokens)),I r26.2.pos,I r26.2.length, .tsl 2 (mDg l20_5) 1001]),(1001, .arr 64 2 (mDg l20_5).length),(1002, .box 65 [.ptr 1000 0]),(1003, .box 4 [B true]),(1004, .box 9 [S []])]⟩ krf (sim_condT krf (sT (sq_r (cl_ret [1000,1001,1002,1003,1004] [] krf krf (iq_ret (.id) [1000,1001,1002,1003] [] (.tup [B true,S []]) krf krf (kr0 ?_)))))))
              refine xR 5 krf (xE ?_)
              exact nq_n (true,[],r26.2.tokens,r26.2.pos,r26.2.length,l20_5,r26.1.Kind,r26.1.Name,r26.1.N,r26.1.At,r26.1.Kids) ⟨[1,3,4,5,6],[1,4,32,1000,1001],[],[]⟩ krf
             ·refine q_hold _ rfl krf krf (iq_p [1000,1001,1002,1003] [] krf (sq_p ?_))
              refine dI_end (⟨Tryd.f51,_,_,_,6,3,_,_,Tryd.func51,rfl,rfl,rfl,rfl,rfl,rfl,rfl,by decide,by decide⟩:Recoverer Tryd.prog 51) [(1000,1002),(1001,1003),(1002,1900),(1003,1901),(1004,1902)] [(1000, .box 67 [.p (.sl 4 (mTk e27.2.tokens)),I e27.2.pos,I e27.2.length, .tsl 2 (mDg l20_5) 1001]),(1001, .arr 64 2 (mDg l20_5).length),(1002, .box 65 [.ptr 1000 0]),(1003, .box 4 [B false]),(1004, .box 9 [S []])] (.ifc 88 (.agg [I e27.1])) [.ptr 1002 0, .ptr 1003 0, .ptr 1004 0] [] rfl krf krf krf krf ?_
              refine sS (sR Tryd.fm ⟨[0,1,2,3,8],[1000,1001,1002,1003,1004],[],[]⟩ ⟨[(0, .ptr 1002 0),(1, .ptr 1003 0),(2, .ptr 1004 0),(3, .ifc 88 (.agg [I e27.1])),(8,B false)],[(1000, .box 67 [.p (.sl 4 (mTk e27.2.tokens)),I e27.2.pos,I e27.2.length, .tsl 2 (mDg l20_5) 1001]),(1001, .arr 64 2 (mDg l20_5).length),(1002, .box 65 [.ptr 1000 0]),(1003, .box 4 [B false]),(1004, .box 9 [S []])]⟩ krf (sim_condF krf (sK (sN ⟨[0,1,2,3],[1000,1001,1002,1003,1004],[],[]⟩ ⟨[(0, .ptr 1002 0),(1, .ptr 1003 0),(2, .ptr 1004 0),(3, .ifc 88 (.agg [I e27.1]))],[(1000, .box 67 [.p (.sl 4 (mTk e27.2.tokens)),I e27.2.pos,I e27.2.length, .tsl 2 (mDg l20_5) 1001]),(1001, .arr 64 2 (mDg l20_5).length),(1002, .box 65 [.ptr 1000 0]),(1003, .box 4 [B false]),(1004, .box 9 [S []])]⟩ krf (sR Tryd.fm ⟨[0,1,2,3,4,5],[4,1000,1001,1002,1003,1004],[],[]⟩ ⟨[(0, .ptr 1002 0),(1, .ptr 1003 0),(2, .ptr 1004 0),(3, .ifc 88 (.agg [I e27.1])),(4, .ptr 4 0),(5,B true)],[(4, .box 88 [I e27.1]),(1000, .box 67 [.p (.sl 4 (mTk e27.2.tokens)),I e27.2.pos,I e27.2.length, .tsl 2 (mDg l20_5) 1001]),(1001, .arr 64 2 (mDg l20_5).length),(1002, .box 65 [.ptr 1000 0]),(1003, .box 4 [B false]),(1004, .box 9 [S []])]⟩ krf (sS (sR Tryd.fm ⟨[0,1,2,3,4,15],[4,1000,1001,1002,1003,1004],[],[]⟩ ⟨[(0, .ptr 1002 0),(1, .ptr 1003 0),(2, .ptr 1004 0),(3, .ifc 88 (.agg [I e27.1])),(4, .ptr 4 0),(15,B false)],[(4, .box 88 [I e27.1]),(1000, .box 67 [.p (.sl 4 (mTk e27.2.tokens)),I e27.2.pos,I e27.2.length, .tsl 2 (mDg l20_5) 1001]),(1001, .arr 64 2 (mDg l20_5).length),(1002, .box 65 [.ptr 1000 0]),(1003, .box 4 [B false]),(1004, .box 9 [S []])]⟩ krf ?_)))))))
              refine sim_condF krf (sK (sN ⟨[0,1,2,4],[4,1000,1001,1002,1003,1004],[],[]⟩ ⟨[(0, .ptr 1002 0),(1, .ptr 1003 0),(2, .ptr 1004 0),(4, .ptr 4 0)],[(4, .box 88 [I e27.1]),(1000, .box 67 [.p (.sl 4 (mTk e27.2.tokens)),I e27.2.pos,I e27.2.length, .tsl 2 (mDg l20_5) 1001]),(1001, .arr 64 2 (mDg l20_5).length),(1002, .box 65 [.ptr 1000 0]),(1003, .box 4 [B false]),(1004, .box 9 [S []])]⟩ krf (sS (sim_drw Tryd.fm rfl (xR 9 krf (xF krf krf (aop_app (e:=64) (S:=2) (by_:=16) (enc:=GDg.cs) (tk:=1001) (l:=l20_5) (l2:=[(⟨7,e27.1⟩:GDg)]) (xv:=.tsl 2 (mDg [(⟨7,e27.1⟩:GDg)]) 25) rfl krf krf rfl krf krf krf rfl krf) (xR 3 krf ?_)))))))
              refine xs_endD krf (sN ⟨[0,1,2],[1000,1001,1002,1003,1004],[],[]⟩ ⟨[(0, .ptr 1002 0),(1, .ptr 1003 0),(2, .ptr 1004 0)],[(1000, .box 67 [.p (.sl 4 (mTk e27.2.tokens)),I e27.2.pos,I e27.2.length, .tsl 2 (mDg (l20_5++[(⟨7,e27.1⟩:GDg)])) 1001]),(1001, .arr 64 2 (mDg (l20_5++[(⟨7,e27.1⟩:GDg)])).length),(1002, .box 65 [.ptr 1000 0]),(1003, .box 4 [B false]),(1004, .box 9 [S []])]⟩ krf (sG (xR 1 krf (xs_enter (f:=52) (args:=[.ptr 1000 0]) krf krf krf ?_))))
              refine sc_hold 1000 3 1001 64 2 (mDg (l20_5++[(⟨7,e27.1⟩:GDg)])).length (mDg (l20_5++[(⟨7,e27.1⟩:GDg)])) ⟨[0,1,2,29],[1000,1002,1003,1004],[],[]⟩ krf krf rfl (fun _ _ _=>by kernel_rfl) (fun hu28w hu28l hu28c=>?_)
              refine sc_heap [(1000,1000)] [] [] (g_p_reader_skip_ok n (⟨e27.2.tokens,e27.2.pos,e27.2.length,[]⟩:GPr) hu28w hu28l hu28c) krf krf krf (fun _=>by kernel_rfl) (fun _=>by kernel_rfl) (fun r28=>?_)
              refine k_hold _ rfl krf krf (kr0 (xR 2 krf (xE (cl_n [1000,1001,1002,1003,1004] [] krf krf (iq_ret (.id) [1000,1001,1002,1003] [] (.tup [B false,S r28.1]) krf krf (kr0 (xR 5 krf ?_)))))))
              refine xE ?_
              exact nq_n (false,r28.1,r28.2.tokens,r28.2.pos,r28.2.length,l20_5++[(⟨7,e27.1⟩:GDg)],0,[],0,0,[]) ⟨[1,3,4,5,6],[1,4,32,1000,1001],[],[(4,[.id, .id, .id, .id, .sl 5])]⟩ krf
            ·rintro ⟨j25_1,j25_2,j25_3,j25_4,j25_5,j25_6,j25_7,j25_8,j25_9,j25_10,j25_11⟩
             refine sR Tryd.fm ⟨[1,3,4,6,28],[1,4,32,1000,1001],[],[]⟩ ⟨[(1, .ptr 1 0),(3, .tsl 5 (mI l20_1) 32),(4, .ptr 4 0),(6,S j25_2),(28,B j25_1)],[(1, .box 65 [.ptr 1000 0]),(4, .box 33 (bxc (GNode.cs ⟨j25_7,j25_8,j25_9,j25_10,j25_11⟩))),(32, .arr 33 5 (mI l20_1).length),(1000, .box 67 [.p (.sl 4 (mTk j25_3)),I j25_4,I j25_5, .tsl 2 (mDg j25_6) 1001]),(1001, .arr 64 2 (mDg j25_6).length)]⟩ krf (sC j25_1 krf ?_ ?_)
             ·refine sG (xR 3 krf (xF krf krf (aop_app (e:=33) (S:=5) (by_:=64) (enc:=idc) (tk:=32) (l:=l20_1) (l2:=[GNode.cs (⟨j25_7,j25_8,j25_9,j25_10,j25_11⟩:GNode)]) (xv:=.tsl 5 (mI [GNode.cs (⟨j25_7,j25_8,j25_9,j25_10,j25_11⟩:GNode)]) 31) rfl krf krf rfl krf krf krf rfl krf) (xR 1 krf (xE (bq_n ?_)))))
              exact kq_n (l20_1++[GNode.cs (⟨j25_7,j25_8,j25_9,j25_10,j25_11⟩:GNode)],j25_3,j25_4,j25_5,j25_6) ⟨[1,3],[1,32,1000,1001],[],[]⟩ krf
             ·refine sR Tryd.fm ⟨[1,3,34],[1,32,1000,1001],[],[]⟩ ⟨[(1, .ptr 1 0),(3, .tsl 5 (mI l20_1) 32),(34,B (!eqS j25_2 [59]))],[(1, .box 65 [.ptr 1000 0]),(32, .arr 33 5 (mI l20_1).length),(1000, .box 67 [.p (.sl 4 (mTk j25_3)),I j25_4,I j25_5, .tsl 2 (mDg j25_6) 1001]),(1001, .arr 64 2 (mDg j25_6).length)]⟩ krf (sC (!eqS j25_2 [59]) krf ?_ ?_)
              ·refine sR Tryd.fm ⟨[2],[32,1000,1001],[],[]⟩ ⟨[(2, .tsl 5 (mI l20_1) 32)],[(32, .arr 33 5 (mI l20_1).length),(1000, .box 67 [.p (.sl 4 (mTk j25_3)),I j25_4,I j25_5, .tsl 2 (mDg j25_6) 1001]),(1001, .arr 64 2 (mDg j25_6).length)]⟩ krf (sT (bq_r (kq_r (bq_r (kq_r (iq_ret (.sl 5) [1000,1001] [] (.p (.sl 5 (mI l20_1))) krf krf (kh [0,1] krf (lates_cons (late_read (.ptr 11 4) krf rfl) (lates_cons (late_tsl (S:=5) (t:=600) (ty:=33) (es:=mI (([]++j7_1)++[])) krf krf rfl) (lates_nil))) krf ?_)))))))
               refine h_if [] rfl krf krf (aop_appL (e:=33) (S:=5) (by_:=64) (enc:=idc) (tk:=600) (l:=([]++j7_1)++[]) (l2:=l20_1) (xv:=.p (.sl 5 (mI l20_1))) rfl krf krf rfl krf krf krf krf) (fun _=>lates_nil) (h_op [] krf krf (lates_nil) (h_op [] krf krf (lates_nil) (h_end (bq_n ?_))))
               exact nq_n ((([]++j7_1)++[])++l20_1,j25_3,j25_4,j25_5,j25_6) ⟨[10,11,20,21,22],[10,11,600,1000,1001,1002,1003],[],[]⟩ krf
              ·refine sK (bq_n ?_)
               exact kq_n (l20_1,j25_3,j25_4,j25_5,j25_6) ⟨[1,3],[1,32,1000,1001],[],[]⟩ krf
         ·refine sim_exit (sq_x (kq_x (bq_hit ?_)))
          exact kq_n (k:=fun (j19_1,j19_2,j19_3,j19_4,j19_5)=>g_p_reader_item_j19 j7_1 j19_1 j19_2 j19_3 j19_4 j19_5) (l20_1,l20_2,l20_3,l20_4,l20_5) ⟨[3],[32,1000,1001],[],[]⟩ krf
       ·rintro ⟨j18_1,j18_2,j18_3,j18_4,j18_5⟩
        refine sL Tryd.fm krf (ru_n ⟨[10,11,20,21,22],[10,11,600,1000,1001,1002,1003],[],[]⟩ ⟨[(10, .ptr 10 0),(11, .ptr 11 0),(20, .bsl 1001 3),(21,I 3),(22,I 3)],[(10, .box 33 [I 0,S [],I 0,I 0,zS]),(11, .box 33 [I 2,S r3.Text,I r5,I r1.At, .tsl 5 (mI j18_1) 600]),(600, .arr 33 5 (mI j18_1).length),(1000, .box 65 [.ptr 1002 0]),(1001, .box 69 [.fn (.func 60) [.ptr 1002 0] [], .fn (.func 58) [] [.ptr 1000 0], .fn (.func 61) [.ptr 1002 0] []]),(1002, .box 67 [.p (.sl 4 (mTk j18_2)),I j18_3,I j18_4, .tsl 2 (mDg j18_5) 1003]),(1003, .arr 64 2 (mDg j18_5).length)]⟩ krf (sR Tryd.fm ⟨[10,11,20,21,22,23],[10,11,600,1000,1001,1002,1003],[],[]⟩ ⟨[(10, .ptr 10 0),(11, .ptr 11 0),(20, .bsl 1001 3),(21,I 3),(22,I 3),(23,B false)],[(10, .box 33 [I 0,S [],I 0,I 0,zS]),(11, .box 33 [I 2,S r3.Text,I r5,I r1.At, .tsl 5 (mI j18_1) 600]),(600, .arr 33 5 (mI j18_1).length),(1000, .box 65 [.ptr 1002 0]),(1001, .box 69 [.fn (.func 60) [.ptr 1002 0] [], .fn (.func 58) [] [.ptr 1000 0], .fn (.func 61) [.ptr 1002 0] []]),(1002, .box 67 [.p (.sl 4 (mTk j18_2)),I j18_3,I j18_4, .tsl 2 (mDg j18_5) 1003]),(1003, .arr 64 2 (mDg j18_5).length)]⟩ krf (sS (sim_condF krf (sim_exit (sq_x (ru_x ?_)))))))
        refine bq_hit ?_
        exact kq_n (k:=fun (j6_1,j6_2,j6_3,j6_4,j6_5)=>g_p_reader_item_j6 r1 r3 r5 j6_1 j6_2 j6_3 j6_4 j6_5) (j18_1,j18_2,j18_3,j18_4,j18_5) ⟨[10,11],[10,11,600,1000,1001,1002,1003],[],[]⟩ krf
      ·refine sim_bind (fun j29=>⟨[(0, .ptr 1001 0),(4, .ptr 4 0),(5, .ptr 5 0),(16,B j29)],[(4, .box 46 [I 0,S [],I 0,I 0]),(5, .box 46 (bxc (GTk.cs r16))),(1000, .box 9 [S [123]]),(1001, .box 67 [.p (.sl 4 (mTk j7_2)),I j7_3,I j7_4, .tsl 2 (mDg a0r.diags) 1002]),(1002, .arr 64 2 (mDg a0r.diags).length)]⟩:Bool→St) ?_ ?_
       ·refine sG (xR 4 krf ?_)
        refine xS (eqI r16.Kind 0) (fun h30=>?_) (fun h30=>?_)
        ·refine xN (want_ft krf h30) krf (xR 4 krf (xE ?_))
         exact nq_n true ⟨[0,4,5,16],[4,5,1000,1001,1002],[],[]⟩ krf
        ·refine xO (want_ff krf h30) krf (xR 1 krf (xs_inline [(1000, .box 9 [S [123]])] [.agg [I r16.Kind,S r16.Text,I r16.N,I r16.At], .ptr 1000 0] [(1000,1000)] [] [] krf Tryd.func74 rfl Tryd.ntmps74 rfl krf krf krf (sR Tryd.fm ⟨[1,2],[2,1000],[],[]⟩ ⟨[(1, .ptr 1000 0),(2, .ptr 2 0)],[(2, .box 46 (bxc (GTk.cs r16))),(1000, .box 9 [S [123]])]⟩ krf (sim_bind (fun j31=>⟨[(3,B j31)],[(1000, .box 9 [S [123]])]⟩:Bool→St) ?_ ?_))))
         ·refine sG (xR 4 krf ?_)
          refine xS (eqI r16.Kind 3) (fun h32=>?_) (fun h32=>?_)
          ·refine xO (want_tt krf h32) krf (xR 5 krf (xE ?_))
           exact nq_n (eqS r16.Text [123]) ⟨[3],[1000],[],[]⟩ krf
          ·refine xN (want_tf krf h32) krf (xR 5 krf (xE ?_))
           exact nq_n false ⟨[3],[1000],[],[]⟩ krf
         ·rintro j31
          refine sT (iq_ret (.id) [1000] [] (B j31) krf krf (kr0 (xR 2 krf (xE ?_))))
          exact nq_n (!j31) ⟨[0,4,5,16],[4,5,1000,1001,1002],[],[]⟩ krf
       ·rintro j29
        refine sC j29 krf ?_ ?_
        ·refine sG (xR 1 krf ?_)
         refine xs_roE [.ro [.id, .id, .id, .sl 2]] krf (g_p_reader_fail_2_ok n (⟨j7_2,j7_3,j7_4,a0r.diags⟩:GPr)) krf krf (fun _=>by kernel_rfl) (fun _=>by kernel_rfl) (fun r33=>?_) (fun e34=>?_)
         ·refine xE ?_
          exact kq_n (k:=fun _=>g_p_reader_item_j17 n a0r r1 r3 r5 j7_1 j7_2 j7_3 j7_4) () ⟨[0,4,5],[4,5,1000,1001,1002],[],[]⟩ krf
         ·refine kq_p (iq_p [1000,1001,1002] [] krf (qh_p _ rfl (sq_p (iq_p [1000,1001,1002] [] krf (qh_p _ rfl (bq_p (sq_p ?_)))))))
          refine ru_p (bq_p (kq_p (iq_p [1000,1001,1002,1003] [] krf (sq_p (sq_p ?_)))))
          exact hq_p [1000,1103] [] krf krf krf
        ·refine sK ?_
         exact kq_n (k:=fun _=>g_p_reader_item_j17 n a0r r1 r3 r5 j7_1 j7_2 j7_3 j7_4) () ⟨[0,4,5],[4,5,1000,1001,1002],[],[]⟩ krf
   ·refine sK (sN ⟨[1,2,3,4,5],[1,2,3,1000,1103],[],[]⟩ ⟨[(1, .ptr 1 0),(2, .ptr 2 0),(3, .ptr 3 0),(4,S r3.Text),(5,I r5)],[(1, .box 65 [.ptr 1000 0]),(2, .box 33 [I 0,S [],I 0,I 0,zS]),(3, .box 46 (bxc (GTk.cs r1))),(1000, .box 67 [.p (.sl 4 (mTk a0r.tokens)),I (wi ((wi (a0r.pos+1))+1)),I a0r.length, .tsl 2 (mDg a0r.diags) 1103]),(1103, .arr 64 2 (mDg a0r.diags).length)]⟩ krf (sR Tryd.fm ⟨[1,2,3,4,5,7],[1,2,3,1000,1103],[],[]⟩ ⟨[(1, .ptr 1 0),(2, .ptr 2 0),(3, .ptr 3 0),(4,S r3.Text),(5,I r5),(7, .fn (.func 62) [] [.ptr 1 0])],[(1, .box 65 [.ptr 1000 0]),(2, .box 33 [I 0,S [],I 0,I 0,zS]),(3, .box 46 (bxc (GTk.cs r1))),(1000, .box 67 [.p (.sl 4 (mTk a0r.tokens)),I (wi ((wi (a0r.pos+1))+1)),I a0r.length, .tsl 2 (mDg a0r.diags) 1103]),(1103, .arr 64 2 (mDg a0r.diags).length)]⟩ krf (sS (sG (xR 7 krf (xs_inline [(1000, .box 65 [.ptr 1002 0]),(1001, .box 69 [.fn (.func 60) [.ptr 1002 0] [], .fn (.func 62) [] [.ptr 1000 0]]),(1002, .box 67 [.p (.sl 4 (mTk a0r.tokens)),I (wi ((wi (a0r.pos+1))+1)),I a0r.length, .tsl 2 (mDg a0r.diags) 1003]),(1003, .arr 64 2 (mDg a0r.diags).length)] [.agg [I r1.Kind,S r1.Text,I r1.N,I r1.At],I 2,S r3.Text,I r5, .bsl 1001 2] [(1000,1),(1001,38),(1002,1000),(1003,1103)] [] [] krf Tryd.func26 rfl Tryd.ntmps26 rfl krf krf krf (sR Tryd.fm ⟨[1,2,3,4,5,10],[5,10,1000,1001,1002,1003],[],[]⟩ ⟨[(1,I 2),(2,S r3.Text),(3,I r5),(4, .bsl 1001 2),(5, .ptr 5 0),(10, .ptr 10 0)],[(5, .box 46 (bxc (GTk.cs r1))),(10, .box 33 [I 0,S [],I 0,I 0,zS]),(1000, .box 65 [.ptr 1002 0]),(1001, .box 69 [.fn (.func 60) [.ptr 1002 0] [], .fn (.func 62) [] [.ptr 1000 0]]),(1002, .box 67 [.p (.sl 4 (mTk a0r.tokens)),I (wi ((wi (a0r.pos+1))+1)),I a0r.length, .tsl 2 (mDg a0r.diags) 1003]),(1003, .arr 64 2 (mDg a0r.diags).length)]⟩ krf ?_)))))))
    refine sR Tryd.fm ⟨[4,10,11],[10,11,1000,1001,1002,1003],[],[]⟩ ⟨[(4, .bsl 1001 2),(10, .ptr 10 0),(11, .ptr 11 0)],[(10, .box 33 [I 0,S [],I 0,I 0,zS]),(11, .box 33 [I 2,S r3.Text,I r5,I r1.At,zS]),(1000, .box 65 [.ptr 1002 0]),(1001, .box 69 [.fn (.func 60) [.ptr 1002 0] [], .fn (.func 62) [] [.ptr 1000 0]]),(1002, .box 67 [.p (.sl 4 (mTk a0r.tokens)),I (wi ((wi (a0r.pos+1))+1)),I a0r.length, .tsl 2 (mDg a0r.diags) 1003]),(1003, .arr 64 2 (mDg a0r.diags).length)]⟩ krf (sim_cps (fun (j35_1,j35_2,j35_3,j35_4)=>⟨[(10, .ptr 10 0),(11, .ptr 11 0)],[(10, .box 33 [I 0,S [],I 0,I 0,zS]),(11, .box 33 [I 2,S r3.Text,I r5,I r1.At, .tsl 5 (mI j35_1) 600]),(600, .arr 33 5 (mI j35_1).length),(1000, .box 65 [.ptr 1002 0]),(1001, .box 69 [.fn (.func 60) [.ptr 1002 0] [], .fn (.func 62) [] [.ptr 1000 0]]),(1002, .box 67 [.p (.sl 4 (mTk j35_2)),I j35_3,I j35_4, .tsl 2 (mDg a0r.diags) 1003]),(1003, .arr 64 2 (mDg a0r.diags).length)]⟩:((List (List PV)) × (List GTk) × Int × Int)→St) (fun (j35_1,j35_2,j35_3,j35_4)=>g_p_reader_item_j35 a0r r1 r3 r5 j35_1 j35_2 j35_3 j35_4) ?_ ?_)
    ·rintro ⟨j35_1,j35_2,j35_3,j35_4⟩
     show SimE (g_p_reader_item_j35 a0r r1 r3 r5 j35_1 j35_2 j35_3 j35_4) _ _ _ _ _ _
     unfold g_p_reader_item_j35
     refine sR Tryd.fm ⟨[10],[10,600,1000,1001,1002,1003],[],[]⟩ ⟨[(10, .ptr 10 0)],[(10, .box 33 [I 2,S r3.Text,I r5,I r1.At, .tsl 5 (mI j35_1) 600]),(600, .arr 33 5 (mI j35_1).length),(1000, .box 65 [.ptr 1002 0]),(1001, .box 69 [.fn (.func 60) [.ptr 1002 0] [], .fn (.func 62) [] [.ptr 1000 0]]),(1002, .box 67 [.p (.sl 4 (mTk j35_2)),I j35_3,I j35_4, .tsl 2 (mDg a0r.diags) 1003]),(1003, .arr 64 2 (mDg a0r.diags).length)]⟩ krf (sT (iq_ret (.agg [.id, .id, .id, .id, .sl 5]) [1000,1001,1002,1003] [] (.agg [I 2,S r3.Text,I r5,I r1.At, .p (.sl 5 (mI j35_1))]) krf krf (kr0 (xR 1 krf (xE (sN ⟨[2],[2,1000,1103],[],[]⟩ ⟨[(2, .ptr 2 0)],[(2, .box 33 (bxc (GNode.cs ⟨2,r3.Text,r5,r1.At,j35_1⟩))),(1000, .box 67 [.p (.sl 4 (mTk j35_2)),I j35_3,I j35_4, .tsl 2 (mDg a0r.diags) 1103]),(1103, .arr 64 2 (mDg a0r.diags).length)]⟩ krf (sT ?_)))))))
     exact hq_ret (.id) [1000,1103] [] krf krf krf krf
    ·refine sR Tryd.fm ⟨[10,11,20,21,22],[10,11,1000,1001,1002,1003],[],[]⟩ ⟨[(10, .ptr 10 0),(11, .ptr 11 0),(20, .bsl 1001 2),(21,I 2),(22,I 0)],[(10, .box 33 [I 0,S [],I 0,I 0,zS]),(11, .box 33 [I 2,S r3.Text,I r5,I r1.At,zS]),(1000, .box 65 [.ptr 1002 0]),(1001, .box 69 [.fn (.func 60) [.ptr 1002 0] [], .fn (.func 62) [] [.ptr 1000 0]]),(1002, .box 67 [.p (.sl 4 (mTk a0r.tokens)),I (wi ((wi (a0r.pos+1))+1)),I a0r.length, .tsl 2 (mDg a0r.diags) 1003]),(1003, .arr 64 2 (mDg a0r.diags).length)]⟩ krf (sB (sim_unroll 2 (sR Tryd.fm ⟨[10,11,20,21,22,23],[10,11,1000,1001,1002,1003],[],[]⟩ ⟨[(10, .ptr 10 0),(11, .ptr 11 0),(20, .bsl 1001 2),(21,I 2),(22,I 0),(23,B true)],[(10, .box 33 [I 0,S [],I 0,I 0,zS]),(11, .box 33 [I 2,S r3.Text,I r5,I r1.At,zS]),(1000, .box 65 [.ptr 1002 0]),(1001, .box 69 [.fn (.func 60) [.ptr 1002 0] [], .fn (.func 62) [] [.ptr 1000 0]]),(1002, .box 67 [.p (.sl 4 (mTk a0r.tokens)),I (wi ((wi (a0r.pos+1))+1)),I a0r.length, .tsl 2 (mDg a0r.diags) 1003]),(1003, .arr 64 2 (mDg a0r.diags).length)]⟩ krf (sS (sim_condT krf (sK (sN ⟨[10,11,20,21,22],[10,11,1000,1001,1002,1003],[],[]⟩ ⟨[(10, .ptr 10 0),(11, .ptr 11 0),(20, .bsl 1001 2),(21,I 2),(22,I 0)],[(10, .box 33 [I 0,S [],I 0,I 0,zS]),(11, .box 33 [I 2,S r3.Text,I r5,I r1.At,zS]),(1000, .box 65 [.ptr 1002 0]),(1001, .box 69 [.fn (.func 60) [.ptr 1002 0] [], .fn (.func 62) [] [.ptr 1000 0]]),(1002, .box 67 [.p (.sl 4 (mTk a0r.tokens)),I (wi ((wi (a0r.pos+1))+1)),I a0r.length, .tsl 2 (mDg a0r.diags) 1003]),(1003, .arr 64 2 (mDg a0r.diags).length)]⟩ krf ?_)))))))
     refine sS (sB (sR Tryd.fm ⟨[10,11,13,20,21,22],[10,11,1000,1001,1002,1003],[],[]⟩ ⟨[(10, .ptr 10 0),(11, .ptr 11 0),(13, .fn (.func 60) [.ptr 1002 0] []),(20, .bsl 1001 2),(21,I 2),(22,I 0)],[(10, .box 33 [I 0,S [],I 0,I 0,zS]),(11, .box 33 [I 2,S r3.Text,I r5,I r1.At,zS]),(1000, .box 65 [.ptr 1002 0]),(1001, .box 69 [.fn (.func 60) [.ptr 1002 0] [], .fn (.func 62) [] [.ptr 1000 0]]),(1002, .box 67 [.p (.sl 4 (mTk a0r.tokens)),I (wi ((wi (a0r.pos+1))+1)),I a0r.length, .tsl 2 (mDg a0r.diags) 1003]),(1003, .arr 64 2 (mDg a0r.diags).length)]⟩ krf (sP ⟨[10,11,13,20,21,22],[10,11,1000,1001,1002,1003],[],[]⟩ ⟨[(10, .ptr 10 0),(11, .ptr 11 0),(13, .fn (.func 60) [.ptr 1002 0] []),(20, .bsl 1001 2),(21,I 2),(22,I 0)],[(10, .box 33 [I 0,S [],I 0,I 0,zS]),(11, .box 33 [I 2,S r3.Text,I r5,I r1.At,zS]),(1000, .box 65 [.ptr 1002 0]),(1001, .box 69 [.fn (.func 60) [.ptr 1002 0] [], .fn (.func 62) [] [.ptr 1000 0]]),(1002, .box 67 [.p (.sl 4 (mTk a0r.tokens)),I (wi ((wi (a0r.pos+1))+1)),I a0r.length, .tsl 2 (mDg a0r.diags) 1003]),(1003, .arr 64 2 (mDg a0r.diags).length)]⟩ krf (sim_weak (weak_pn 33 5 600 [] [(11,4)] krf) (sim_hst [0,1,2] [0,1] [(3,[]),(4,[]),(5,[]),(6,[])] Tryd.fm rfl krf krf (h_enter (f:=60) (args:=[.ptr 1002 0]) (dst:=some 29) krf krf (sc_inline (hc:=[(1000, .box 67 [.p (.sl 4 (mTk a0r.tokens)),I (wi ((wi (a0r.pos+1))+1)),I a0r.length, .tsl 2 (mDg a0r.diags) 1001]),(1001, .arr 64 2 (mDg a0r.diags).length)]) (args':=[.ptr 1000 0]) [(1000,1002),(1001,1003)] [] [] Tryd.func60 rfl Tryd.ntmps60 rfl krf krf krf ?_)))))))
     refine sR Tryd.fm ⟨[1],[1,1000,1001],[],[]⟩ ⟨[(1, .ptr 1 0)],[(1, .box 65 [.ptr 1000 0]),(1000, .box 67 [.p (.sl 4 (mTk a0r.tokens)),I (wi ((wi (a0r.pos+1))+1)),I a0r.length, .tsl 2 (mDg a0r.diags) 1001]),(1001, .arr 64 2 (mDg a0r.diags).length)]⟩ krf (sR Tryd.fm ⟨[1,3],[1,1000,1001],[],[]⟩ ⟨[(1, .ptr 1 0),(3,zS)],[(1, .box 65 [.ptr 1000 0]),(1000, .box 67 [.p (.sl 4 (mTk a0r.tokens)),I (wi ((wi (a0r.pos+1))+1)),I a0r.length, .tsl 2 (mDg a0r.diags) 1001]),(1001, .arr 64 2 (mDg a0r.diags).length)]⟩ krf (sim_bind (fun (j36_1,j36_2,j36_3,j36_4)=>⟨[(3, .tsl 5 (mI j36_1) 600)],[(600, .arr 33 5 (mI j36_1).length),(1000, .box 67 [.p (.sl 4 (mTk j36_2)),I j36_3,I j36_4, .tsl 2 (mDg a0r.diags) 1001]),(1001, .arr 64 2 (mDg a0r.diags).length)]⟩:((List (List PV)) × (List GTk) × Int × Int)→St) ?_ ?_))
     ·refine sS (sG (xR 1 krf ?_))
      refine xs_ro [.ro [.id, .id, .id, .sl 2]] krf (g_p_reader_peek_2_ok n (⟨a0r.tokens,wi ((wi (a0r.pos+1))+1),a0r.length,a0r.diags⟩:GPr)) krf krf (fun _=>by kernel_rfl) (fun r37=>?_)
      refine xR 2 krf (xE (sN ⟨[1,3,4],[1,4,1000,1001],[],[]⟩ ⟨[(1, .ptr 1 0),(3,zS),(4, .ptr 4 0)],[(1, .box 65 [.ptr 1000 0]),(4, .box 46 (bxc (GTk.cs r37))),(1000, .box 67 [.p (.sl 4 (mTk a0r.tokens)),I (wi ((wi (a0r.pos+1))+1)),I a0r.length, .tsl 2 (mDg a0r.diags) 1001]),(1001, .arr 64 2 (mDg a0r.diags).length)]⟩ krf (sB (sP ⟨[1,3,4],[1,4,1000,1001],[],[]⟩ ⟨[(1, .ptr 1 0),(3,zS),(4, .ptr 4 0)],[(1, .box 65 [.ptr 1000 0]),(4, .box 46 (bxc (GTk.cs r37))),(1000, .box 67 [.p (.sl 4 (mTk a0r.tokens)),I (wi ((wi (a0r.pos+1))+1)),I a0r.length, .tsl 2 (mDg a0r.diags) 1001]),(1001, .arr 64 2 (mDg a0r.diags).length)]⟩ krf (sim_weak (weak_pn 33 5 600 [3] [] krf) (sim_loop (fun (l38_1,l38_2,l38_3,l38_4,l38_5,l38_6,l38_7,l38_8)=>⟨[(1, .ptr 1 0),(3, .tsl 5 (mI l38_1) 600),(4, .ptr 4 0)],[(1, .box 65 [.ptr 1000 0]),(4, .box 46 [I l38_5,S l38_6,I l38_7,I l38_8]),(600, .arr 33 5 (mI l38_1).length),(1000, .box 67 [.p (.sl 4 (mTk l38_2)),I l38_3,I l38_4, .tsl 2 (mDg a0r.diags) 1001]),(1001, .arr 64 2 (mDg a0r.diags).length)]⟩:((List (List PV)) × (List GTk) × Int × Int × Int × (List UInt8) × Int × Int)→St) (weak_shr (K:=⟨[1,3,4],[1,4,600,1000,1001],[],[]⟩) krf) ?_))))))
      rintro recl38 ⟨l38_1,l38_2,l38_3,l38_4,l38_5,l38_6,l38_7,l38_8⟩
      show SimE (g_p_reader_item_l38 n a0r recl38 l38_1 l38_2 l38_3 l38_4 l38_5 l38_6 l38_7 l38_8) _ _ _ _ _ _
      unfold g_p_reader_item_l38
      refine sS (sim_bind (fun j39=>⟨[(1, .ptr 1 0),(3, .tsl 5 (mI l38_1) 600),(4, .ptr 4 0),(14,B j39)],[(1, .box 65 [.ptr 1000 0]),(4, .box 46 [I l38_5,S l38_6,I l38_7,I l38_8]),(600, .arr 33 5 (mI l38_1).length),(1000, .box 67 [.p (.sl 4 (mTk l38_2)),I l38_3,I l38_4, .tsl 2 (mDg a0r.diags) 1001]),(1001, .arr 64 2 (mDg a0r.diags).length)]⟩:Bool→St) ?_ ?_)
      ·refine sG (xR 4 krf ?_)
       refine xS (eqI l38_5 1) (fun h40=>?_) (fun h40=>?_)
       ·refine xO (want_tt krf h40) krf (xR 1 krf ?_)
        refine xC [] krf (g_p_isAttr_ok n l38_6) krf krf (fun _=>by kernel_rfl) (fun r41=>?_)
        refine xR 1 krf (xE ?_)
        exact nq_n r41 ⟨[1,3,4,14],[1,4,600,1000,1001],[],[]⟩ krf
       ·refine xN (want_tf krf h40) krf (xR 3 krf (xE ?_))
        exact nq_n false ⟨[1,3,4,14],[1,4,600,1000,1001],[],[]⟩ krf
      ·rintro j39
       refine sC j39 krf ?_ ?_
       ·refine sK (sN ⟨[1,3,4],[1,4,600,1000,1001],[],[]⟩ ⟨[(1, .ptr 1 0),(3, .tsl 5 (mI l38_1) 600),(4, .ptr 4 0)],[(1, .box 65 [.ptr 1000 0]),(4, .box 46 [I l38_5,S l38_6,I l38_7,I l38_8]),(600, .arr 33 5 (mI l38_1).length),(1000, .box 67 [.p (.sl 4 (mTk l38_2)),I l38_3,I l38_4, .tsl 2 (mDg a0r.diags) 1001]),(1001, .arr 64 2 (mDg a0r.diags).length)]⟩ krf (sS (sB (sR Tryd.fm ⟨[1,3,4],[1,4,600,1000,1001],[],[]⟩ ⟨[(1, .ptr 1 0),(3, .tsl 5 (mI l38_1) 600),(4, .ptr 4 0)],[(1, .box 65 [.ptr 1000 0]),(4, .box 46 [I l38_5,S l38_6,I l38_7,I l38_8]),(600, .arr 33 5 (mI l38_1).length),(1000, .box 67 [.p (.sl 4 (mTk l38_2)),I (wi (l38_3+1)),I l38_4, .tsl 2 (mDg a0r.diags) 1001]),(1001, .arr 64 2 (mDg a0r.diags).length)]⟩ krf (sG (xR 6 krf (xs_inline [(1000, .box 65 [.ptr 1002 0]),(1001, .box 69 [.fn (.func 75) [] [.ptr 1000 0]]),(1002, .box 67 [.p (.sl 4 (mTk l38_2)),I (wi (l38_3+1)),I l38_4, .tsl 2 (mDg a0r.diags) 1003]),(1003, .arr 64 2 (mDg a0r.diags).length)] [.agg [I l38_5,S l38_6,I l38_7,I l38_8],I 3,S l38_6,I 0, .bsl 1001 1] [(1000,1),(1001,29),(1002,1000),(1003,1001)] [] [] krf Tryd.func26 rfl Tryd.ntmps26 rfl krf krf krf ?_)))))))
        refine sR Tryd.fm ⟨[1,2,3,4,5,10],[5,10,1000,1001,1002,1003],[],[]⟩ ⟨[(1,I 3),(2,S l38_6),(3,I 0),(4, .bsl 1001 1),(5, .ptr 5 0),(10, .ptr 10 0)],[(5, .box 46 [I l38_5,S l38_6,I l38_7,I l38_8]),(10, .box 33 [I 0,S [],I 0,I 0,zS]),(1000, .box 65 [.ptr 1002 0]),(1001, .box 69 [.fn (.func 75) [] [.ptr 1000 0]]),(1002, .box 67 [.p (.sl 4 (mTk l38_2)),I (wi (l38_3+1)),I l38_4, .tsl 2 (mDg a0r.diags) 1003]),(1003, .arr 64 2 (mDg a0r.diags).length)]⟩ krf (sR Tryd.fm ⟨[4,10,11],[10,11,1000,1001,1002,1003],[],[]⟩ ⟨[(4, .bsl 1001 1),(10, .ptr 10 0),(11, .ptr 11 0)],[(10, .box 33 [I 0,S [],I 0,I 0,zS]),(11, .box 33 [I 3,S l38_6,I 0,I l38_8,zS]),(1000, .box 65 [.ptr 1002 0]),(1001, .box 69 [.fn (.func 75) [] [.ptr 1000 0]]),(1002, .box 67 [.p (.sl 4 (mTk l38_2)),I (wi (l38_3+1)),I l38_4, .tsl 2 (mDg a0r.diags) 1003]),(1003, .arr 64 2 (mDg a0r.diags).length)]⟩ krf (sim_bind (fun (j42_1,j42_2,j42_3,j42_4)=>⟨[(10, .ptr 10 0),(11, .ptr 11 0)],[(10, .box 33 [I 0,S [],I 0,I 0,zS]),(11, .box 33 [I 3,S l38_6,I 0,I l38_8, .tsl 5 (mI j42_1) 600]),(600, .arr 33 5 (mI j42_1).length),(1000, .box 65 [.ptr 1002 0]),(1001, .box 69 [.fn (.func 75) [] [.ptr 1000 0]]),(1002, .box 67 [.p (.sl 4 (mTk j42_2)),I j42_3,I j42_4, .tsl 2 (mDg a0r.diags) 1003]),(1003, .arr 64 2 (mDg a0r.diags).length)]⟩:((List (List PV)) × (List GTk) × Int × Int)→St) ?_ ?_))
        ·refine sR Tryd.fm ⟨[10,11,20,21,22],[10,11,1000,1001,1002,1003],[],[]⟩ ⟨[(10, .ptr 10 0),(11, .ptr 11 0),(20, .bsl 1001 1),(21,I 1),(22,I 0)],[(10, .box 33 [I 0,S [],I 0,I 0,zS]),(11, .box 33 [I 3,S l38_6,I 0,I l38_8,zS]),(1000, .box 65 [.ptr 1002 0]),(1001, .box 69 [.fn (.func 75) [] [.ptr 1000 0]]),(1002, .box 67 [.p (.sl 4 (mTk l38_2)),I (wi (l38_3+1)),I l38_4, .tsl 2 (mDg a0r.diags) 1003]),(1003, .arr 64 2 (mDg a0r.diags).length)]⟩ krf (sB (sim_unroll 1 (sR Tryd.fm ⟨[10,11,20,21,22,23],[10,11,1000,1001,1002,1003],[],[]⟩ ⟨[(10, .ptr 10 0),(11, .ptr 11 0),(20, .bsl 1001 1),(21,I 1),(22,I 0),(23,B true)],[(10, .box 33 [I 0,S [],I 0,I 0,zS]),(11, .box 33 [I 3,S l38_6,I 0,I l38_8,zS]),(1000, .box 65 [.ptr 1002 0]),(1001, .box 69 [.fn (.func 75) [] [.ptr 1000 0]]),(1002, .box 67 [.p (.sl 4 (mTk l38_2)),I (wi (l38_3+1)),I l38_4, .tsl 2 (mDg a0r.diags) 1003]),(1003, .arr 64 2 (mDg a0r.diags).length)]⟩ krf (sS (sim_condT krf (sK (sN ⟨[10,11,20,21,22],[10,11,1000,1001,1002,1003],[],[]⟩ ⟨[(10, .ptr 10 0),(11, .ptr 11 0),(20, .bsl 1001 1),(21,I 1),(22,I 0)],[(10, .box 33 [I 0,S [],I 0,I 0,zS]),(11, .box 33 [I 3,S l38_6,I 0,I l38_8,zS]),(1000, .box 65 [.ptr 1002 0]),(1001, .box 69 [.fn (.func 75) [] [.ptr 1000 0]]),(1002, .box 67 [.p (.sl 4 (mTk l38_2)),I (wi (l38_3+1)),I l38_4, .tsl 2 (mDg a0r.diags) 1003]),(1003, .arr 64 2 (mDg a0r.diags).length)]⟩ krf ?_)))))))
         refine sS (sB (sR Tryd.fm ⟨[10,11,13,20,21,22],[10,11,1000,1001,1002,1003],[],[]⟩ ⟨[(10, .ptr 10 0),(11, .ptr 11 0),(13, .fn (.func 75) [] [.ptr 1000 0]),(20, .bsl 1001 1),(21,I 1),(22,I 0)],[(10, .box 33 [I 0,S [],I 0,I 0,zS]),(11, .box 33 [I 3,S l38_6,I 0,I l38_8,zS]),(1000, .box 65 [.ptr 1002 0]),(1001, .box 69 [.fn (.func 75) [] [.ptr 1000 0]]),(1002, .box 67 [.p (.sl 4 (mTk l38_2)),I (wi (l38_3+1)),I l38_4, .tsl 2 (mDg a0r.diags) 1003]),(1003, .arr 64 2 (mDg a0r.diags).length)]⟩ krf (sP ⟨[10,11,13,20,21,22],[10,11,1000,1001,1002,1003],[],[]⟩ ⟨[(10, .ptr 10 0),(11, .ptr 11 0),(13, .fn (.func 75) [] [.ptr 1000 0]),(20, .bsl 1001 1),(21,I 1),(22,I 0)],[(10, .box 33 [I 0,S [],I 0,I 0,zS]),(11, .box 33 [I 3,S l38_6,I 0,I l38_8,zS]),(1000, .box 65 [.ptr 1002 0]),(1001, .box 69 [.fn (.func 75) [] [.ptr 1000 0]]),(1002, .box 67 [.p (.sl 4 (mTk l38_2)),I (wi (l38_3+1)),I l38_4, .tsl 2 (mDg a0r.diags) 1003]),(1003, .arr 64 2 (mDg a0r.diags).length)]⟩ krf (sim_weak (weak_pn 33 5 600 [] [(11,4)] krf) (sim_hst [0,1,2] [0,1] [(3,[]),(4,[]),(5,[]),(6,[])] Tryd.fm rfl krf krf (h_enter (f:=75) (args:=[.ptr 1000 0]) (dst:=some 29) krf krf (sc_inline (hc:=[(1000, .box 65 [.ptr 1001 0]),(1001, .box 67 [.p (.sl 4 (mTk l38_2)),I (wi (l38_3+1)),I l38_4, .tsl 2 (mDg a0r.diags) 1002]),(1002, .arr 64 2 (mDg a0r.diags).length)]) (args':=[.ptr 1000 0]) [(1000,1000),(1001,1002),(1002,1003)] [] [] Tryd.func75 rfl Tryd.ntmps75 rfl krf krf krf ?_)))))))
         refine sR Tryd.fm ⟨[0],[1000,1001,1002],[],[]⟩ ⟨[(0, .ptr 1000 0)],[(1000, .box 65 [.ptr 1001 0]),(1001, .box 67 [.p (.sl 4 (mTk l38_2)),I (wi (l38_3+1)),I l38_4, .tsl 2 (mDg a0r.diags) 1002]),(1002, .arr 64 2 (mDg a0r.diags).length)]⟩ krf (sS (sG (xR 1 krf (xs_enter (f:=76) (args:=[.ptr 1001 0, .p (.val (.func (.func 57) #[] #[]))]) krf krf krf ?_))))
         refine sc_hold 1001 3 1002 64 2 (mDg a0r.diags).length (mDg a0r.diags) ⟨[0,2],[1000,1001],[],[]⟩ krf krf rfl (fun _ _ _=>by kernel_rfl) (fun hu43w hu43l hu43c=>?_)
         refine sc_heap [(1000,1001)] [] [] (g_p_reader_values_ok n (⟨l38_2,wi (l38_3+1),l38_4,[]⟩:GPr) hu43w hu43l hu43c) krf krf krf (fun _=>by kernel_rfl) (fun _=>by kernel_rfl) (fun r43=>?_)
         refine k_hold _ rfl krf krf (kr0 (xR 1 krf (xE (sN ⟨[1],[1000,1001,1002],[],[]⟩ ⟨[(1, .p (.sl 5 (mI r43.1)))],[(1000, .box 65 [.ptr 1001 0]),(1001, .box 67 [.p (.sl 4 (mTk r43.2.tokens)),I r43.2.pos,I r43.2.length, .tsl 2 (mDg a0r.diags) 1002]),(1002, .arr 64 2 (mDg a0r.diags).length)]⟩ krf (sT (iq_ret (.id) [1000,1001,1002] [] (.p (.sl 5 (mI r43.1))) krf krf (kh [0,1] krf (lates_cons (late_read (.ptr 11 4) krf rfl) (lates_cons (late_tsl (S:=5) (t:=600) (ty:=33) (es:=mI []) krf krf rfl) (lates_nil))) krf ?_)))))))
         refine h_if [] rfl krf krf (aop_appL (e:=33) (S:=5) (by_:=64) (enc:=idc) (tk:=600) (l:=[]) (l2:=r43.1) (xv:=.p (.sl 5 (mI r43.1))) rfl krf krf rfl krf krf krf krf) (fun _=>lates_nil) (h_op [] krf krf (lates_nil) (h_op [] krf krf (lates_nil) (h_end (bq_n (sN ⟨[10,11,20,21,22],[10,11,600,1000,1001,1002,1003],[],[]⟩ ⟨[(10, .ptr 10 0),(11, .ptr 11 0),(20, .bsl 1001 1),(21,I 1),(22,I 0)],[(10, .box 33 [I 0,S [],I 0,I 0,zS]),(11, .box 33 [I 3,S l38_6,I 0,I l38_8, .tsl 5 (mI ([]++r43.1)) 600]),(600, .arr 33 5 (mI ([]++r43.1)).length),(1000, .box 65 [.ptr 1002 0]),(1001, .box 69 [.fn (.func 75) [] [.ptr 1000 0]]),(1002, .box 67 [.p (.sl 4 (mTk r43.2.tokens)),I r43.2.pos,I r43.2.length, .tsl 2 (mDg a0r.diags) 1003]),(1003, .arr 64 2 (mDg a0r.diags).length)]⟩ krf (sL Tryd.fm krf (ru_n ⟨[10,11,20,21,22],[10,11,600,1000,1001,1002,1003],[],[]⟩ ⟨[(10, .ptr 10 0),(11, .ptr 11 0),(20, .bsl 1001 1),(21,I 1),(22,I 1)],[(10, .box 33 [I 0,S [],I 0,I 0,zS]),(11, .box 33 [I 3,S l38_6,I 0,I l38_8, .tsl 5 (mI ([]++r43.1)) 600]),(600, .arr 33 5 (mI ([]++r43.1)).length),(1000, .box 65 [.ptr 1002 0]),(1001, .box 69 [.fn (.func 75) [] [.ptr 1000 0]]),(1002, .box 67 [.p (.sl 4 (mTk r43.2.tokens)),I r43.2.pos,I r43.2.length, .tsl 2 (mDg a0r.diags) 1003]),(1003, .arr 64 2 (mDg a0r.diags).length)]⟩ krf ?_)))))))
         refine sR Tryd.fm ⟨[10,11,20,21,22,23],[10,11,600,1000,1001,1002,1003],[],[]⟩ ⟨[(10, .ptr 10 0),(11, .ptr 11 0),(20, .bsl 1001 1),(21,I 1),(22,I 1),(23,B false)],[(10, .box 33 [I 0,S [],I 0,I 0,zS]),(11, .box 33 [I 3,S l38_6,I 0,I l38_8, .tsl 5 (mI ([]++r43.1)) 600]),(600, .arr 33 5 (mI ([]++r43.1)).length),(1000, .box 65 [.ptr 1002 0]),(1001, .box 69 [.fn (.func 75) [] [.ptr 1000 0]]),(1002, .box 67 [.p (.sl 4 (mTk r43.2.tokens)),I r43.2.pos,I r43.2.length, .tsl 2 (mDg a0r.diags) 1003]),(1003, .arr 64 2 (mDg a0r.diags).length)]⟩ krf (sS (sim_condF krf (sim_exit (sq_x (ru_x (bq_hit ?_))))))
         exact nq_n ([]++r43.1,r43.2.tokens,r43.2.pos,r43.2.length) ⟨[10,11],[10,11,600,1000,1001,1002,1003],[],[]⟩ krf
        ·rintro ⟨j42_1,j42_2,j42_3,j42_4⟩
         refine sR Tryd.fm ⟨[10],[10,600,1000,1001,1002,1003],[],[]⟩ ⟨[(10, .ptr 10 0)],[(10, .box 33 [I 3,S l38_6,I 0,I l38_8, .tsl 5 (mI j42_1) 600]),(600, .arr 33 5 (mI j42_1).length),(1000, .box 65 [.ptr 1002 0]),(1001, .box 69 [.fn (.func 75) [] [.ptr 1000 0]]),(1002, .box 67 [.p (.sl 4 (mTk j42_2)),I j42_3,I j42_4, .tsl 2 (mDg a0r.diags) 1003]),(1003, .arr 64 2 (mDg a0r.diags).length)]⟩ krf (sT (iq_ret (.agg [.id, .id, .id, .id, .sl 5]) [1000,1001,1002,1003] [] (.agg [I 3,S l38_6,I 0,I l38_8, .p (.sl 5 (mI j42_1))]) krf krf (kr0 (xR 1 krf (xF krf krf (aop_app (e:=33) (S:=5) (by_:=64) (enc:=idc) (tk:=600) (l:=l38_1) (l2:=[GNode.cs (⟨3,l38_6,0,l38_8,j42_1⟩:GNode)]) (xv:=.tsl 5 (mI [GNode.cs (⟨3,l38_6,0,l38_8,j42_1⟩:GNode)]) 31) rfl krf krf rfl krf krf krf rfl krf) (xR 1 krf (xE ?_)))))))
         refine bq_n (sN ⟨[1,3,4],[1,4,600,1000,1001],[],[]⟩ ⟨[(1, .ptr 1 0),(3, .tsl 5 (mI (l38_1++[GNode.cs (⟨3,l38_6,0,l38_8,j42_1⟩:GNode)])) 600),(4, .ptr 4 0)],[(1, .box 65 [.ptr 1000 0]),(4, .box 46 [I l38_5,S l38_6,I l38_7,I l38_8]),(600, .arr 33 5 (mI (l38_1++[GNode.cs (⟨3,l38_6,0,l38_8,j42_1⟩:GNode)])).length),(1000, .box 67 [.p (.sl 4 (mTk j42_2)),I j42_3,I j42_4, .tsl 2 (mDg a0r.diags) 1001]),(1001, .arr 64 2 (mDg a0r.diags).length)]⟩ krf (sS (sR Tryd.fm ⟨[1,3,33],[1,600,1000,1001],[],[]⟩ ⟨[(1, .ptr 1 0),(3, .tsl 5 (mI (l38_1++[GNode.cs (⟨3,l38_6,0,l38_8,j42_1⟩:GNode)])) 600),(33, .agg [I l38_5,S l38_6,I l38_7,I l38_8])],[(1, .box 65 [.ptr 1000 0]),(600, .arr 33 5 (mI (l38_1++[GNode.cs (⟨3,l38_6,0,l38_8,j42_1⟩:GNode)])).length),(1000, .box 67 [.p (.sl 4 (mTk j42_2)),I j42_3,I j42_4, .tsl 2 (mDg a0r.diags) 1001]),(1001, .arr 64 2 (mDg a0r.diags).length)]⟩ krf (sL Tryd.fm krf (sN ⟨[1,3,4],[1,4,600,1000,1001],[],[]⟩ ⟨[(1, .ptr 1 0),(3, .tsl 5 (mI (l38_1++[GNode.cs (⟨3,l38_6,0,l38_8,j42_1⟩:GNode)])) 600),(4, .ptr 4 0)],[(1, .box 65 [.ptr 1000 0]),(4, .box 46 [I l38_5,S l38_6,I l38_7,I l38_8]),(600, .arr 33 5 (mI (l38_1++[GNode.cs (⟨3,l38_6,0,l38_8,j42_1⟩:GNode)])).length),(1000, .box 67 [.p (.sl 4 (mTk j42_2)),I j42_3,I j42_4, .tsl 2 (mDg a0r.diags) 1001]),(1001, .arr 64 2 (mDg a0r.diags).length)]⟩ krf (sG (xR 1 krf ?_)))))))
         refine xs_ro [.ro [.id, .id, .id, .sl 2]] krf (g_p_reader_peek_2_ok n (⟨j42_2,j42_3,j42_4,a0r.diags⟩:GPr)) krf krf (fun _=>by kernel_rfl) (fun r44=>?_)
         refine xR 1 krf (xE ?_)
         exact kq_n (l38_1++[GNode.cs (⟨3,l38_6,0,l38_8,j42_1⟩:GNode)],j42_2,j42_3,j42_4,r44.Kind,r44.Text,r44.N,r44.At) ⟨[1,3,4],[1,4,600,1000,1001],[],[]⟩ krf
       ·refine sim_exit (sq_x (kq_x (bq_hit ?_)))
        exact nq_n (l38_1,l38_2,l38_3,l38_4) ⟨[3],[600,1000,1001],[],[]⟩ krf
     ·rintro ⟨j36_1,j36_2,j36_3,j36_4⟩
      refine sR Tryd.fm ⟨[2],[600,1000,1001],[],[]⟩ ⟨[(2, .tsl 5 (mI j36_1) 600)],[(600, .arr 33 5 (mI j36_1).length),(1000, .box 67 [.p (.sl 4 (mTk j36_2)),I j36_3,I j36_4, .tsl 2 (mDg a0r.diags) 1001]),(1001, .arr 64 2 (mDg a0r.diags).length)]⟩ krf (sT (iq_ret (.sl 5) [1000,1001] [] (.p (.sl 5 (mI j36_1))) krf krf (kh [0,1] krf (lates_cons (late_read (.ptr 11 4) krf rfl) (lates_cons (late_tsl (S:=5) (t:=600) (ty:=33) (es:=mI []) krf krf rfl) (lates_nil))) krf (h_if [] rfl krf krf (aop_appL (e:=33) (S:=5) (by_:=64) (enc:=idc) (tk:=600) (l:=[]) (l2:=j36_1) (xv:=.p (.sl 5 (mI j36_1))) rfl krf krf rfl krf krf krf krf) (fun _=>lates_nil) (h_op [] krf krf (lates_nil) (h_op [] krf krf (lates_nil) (h_end ?_)))))))
      refine bq_n (sN ⟨[10,11,20,21,22],[10,11,600,1000,1001,1002,1003],[],[]⟩ ⟨[(10, .ptr 10 0),(11, .ptr 11 0),(20, .bsl 1001 2),(21,I 2),(22,I 0)],[(10, .box 33 [I 0,S [],I 0,I 0,zS]),(11, .box 33 [I 2,S r3.Text,I r5,I r1.At, .tsl 5 (mI ([]++j36_1)) 600]),(600, .arr 33 5 (mI ([]++j36_1)).length),(1000, .box 65 [.ptr 1002 0]),(1001, .box 69 [.fn (.func 60) [.ptr 1002 0] [], .fn (.func 62) [] [.ptr 1000 0]]),(1002, .box 67 [.p (.sl 4 (mTk j36_2)),I j36_3,I j36_4, .tsl 2 (mDg a0r.diags) 1003]),(1003, .arr 64 2 (mDg a0r.diags).length)]⟩ krf (sL Tryd.fm krf (ru_n ⟨[10,11,20,21,22],[10,11,600,1000,1001,1002,1003],[],[]⟩ ⟨[(10, .ptr 10 0),(11, .ptr 11 0),(20, .bsl 1001 2),(21,I 2),(22,I 1)],[(10, .box 33 [I 0,S [],I 0,I 0,zS]),(11, .box 33 [I 2,S r3.Text,I r5,I r1.At, .tsl 5 (mI ([]++j36_1)) 600]),(600, .arr 33 5 (mI ([]++j36_1)).length),(1000, .box 65 [.ptr 1002 0]),(1001, .box 69 [.fn (.func 60) [.ptr 1002 0] [], .fn (.func 62) [] [.ptr 1000 0]]),(1002, .box 67 [.p (.sl 4 (mTk j36_2)),I j36_3,I j36_4, .tsl 2 (mDg a0r.diags) 1003]),(1003, .arr 64 2 (mDg a0r.diags).length)]⟩ krf (sR Tryd.fm ⟨[10,11,20,21,22,23],[10,11,600,1000,1001,1002,1003],[],[]⟩ ⟨[(10, .ptr 10 0),(11, .ptr 11 0),(20, .bsl 1001 2),(21,I 2),(22,I 1),(23,B true)],[(10, .box 33 [I 0,S [],I 0,I 0,zS]),(11, .box 33 [I 2,S r3.Text,I r5,I r1.At, .tsl 5 (mI ([]++j36_1)) 600]),(600, .arr 33 5 (mI ([]++j36_1)).length),(1000, .box 65 [.ptr 1002 0]),(1001, .box 69 [.fn (.func 60) [.ptr 1002 0] [], .fn (.func 62) [] [.ptr 1000 0]]),(1002, .box 67 [.p (.sl 4 (mTk j36_2)),I j36_3,I j36_4, .tsl 2 (mDg a0r.diags) 1003]),(1003, .arr 64 2 (mDg a0r.diags).length)]⟩ krf (sS (sim_condT krf (sK ?_)))))))
      refine sN ⟨[10,11,20,21,22],[10,11,600,1000,1001,1002,1003],[],[]⟩ ⟨[(10, .ptr 10 0),(11, .ptr 11 0),(20, .bsl 1001 2),(21,I 2),(22,I 1)],[(10, .box 33 [I 0,S [],I 0,I 0,zS]),(11, .box 33 [I 2,S r3.Text,I r5,I r1.At, .tsl 5 (mI ([]++j36_1)) 600]),(600, .arr 33 5 (mI ([]++j36_1)).length),(1000, .box 65 [.ptr 1002 0]),(1001, .box 69 [.fn (.func 60) [.ptr 1002 0] [], .fn (.func 62) [] [.ptr 1000 0]]),(1002, .box 67 [.p (.sl 4 (mTk j36_2)),I j36_3,I j36_4, .tsl 2 (mDg a0r.diags) 1003]),(1003, .arr 64 2 (mDg a0r.diags).length)]⟩ krf (sS (sB (sR Tryd.fm ⟨[10,11,13,20,21,22],[10,11,600,1000,1001,1002,1003],[],[]⟩ ⟨[(10, .ptr 10 0),(11, .ptr 11 0),(13, .fn (.func 62) [] [.ptr 1000 0]),(20, .bsl 1001 2),(21,I 2),(22,I 1)],[(10, .box 33 [I 0,S [],I 0,I 0,zS]),(11, .box 33 [I 2,S r3.Text,I r5,I r1.At, .tsl 5 (mI ([]++j36_1)) 600]),(600, .arr 33 5 (mI ([]++j36_1)).length),(1000, .box 65 [.ptr 1002 0]),(1001, .box 69 [.fn (.func 60) [.ptr 1002 0] [], .fn (.func 62) [] [.ptr 1000 0]]),(1002, .box 67 [.p (.sl 4 (mTk j36_2)),I j36_3,I j36_4, .tsl 2 (mDg a0r.diags) 1003]),(1003, .arr 64 2 (mDg a0r.diags).length)]⟩ krf (sim_hst [0,1,2] [0,1] [(3,[]),(4,[]),(5,[]),(6,[])] Tryd.fm rfl krf krf (h_enter (f:=62) (args:=[.ptr 1000 0]) (dst:=some 29) krf krf (sc_inline (hc:=[(1000, .box 65 [.ptr 1001 0]),(1001, .box 67 [.p (.sl 4 (mTk j36_2)),I j36_3,I j36_4, .tsl 2 (mDg a0r.diags) 1002]),(1002, .arr 64 2 (mDg a0r.diags).length)]) (args':=[.ptr 1000 0]) [(1000,1000),(1001,1002),(1002,1003)] [] [] Tryd.func62 rfl Tryd.ntmps62 rfl krf krf krf (sR Tryd.fm ⟨[0],[1000,1001,1002],[],[]⟩ ⟨[(0, .ptr 1000 0)],[(1000, .box 65 [.ptr 1001 0]),(1001, .box 67 [.p (.sl 4 (mTk j36_2)),I j36_3,I j36_4, .tsl 2 (mDg a0r.diags) 1002]),(1002, .arr 64 2 (mDg a0r.diags).length)]⟩ krf ?_)))))))
      refine sS (sim_hst [0] [0] [(1,[]),(2,[])] Tryd.fm rfl krf krf (h_enter (f:=59) (args:=[S [59]]) (dst:=some 3) krf krf (sc_inline (hc:=[]) (args':=[S [59]]) [(1,401)] [] [] Tryd.func59 rfl Tryd.ntmps59 rfl krf krf krf (sR Tryd.fm ⟨[1],[1],[],[]⟩ ⟨[(1, .ptr 1 0)],[(1, .box 9 [S [59]])]⟩ krf (sR Tryd.fm ⟨[2],[1],[],[]⟩ ⟨[(2, .fn (.func 74) [] [.ptr 1 0])],[(1, .box 9 [S [59]])]⟩ krf (sT (iq_ret (.id) [1] [] (.fn (.func 74) [] [.ptr 1 0]) krf krf ?_)))))))
      refine kh [0] krf (lates_cons (late_read (.ptr 1001 0) krf rfl) (lates_nil)) krf (h_enter (f:=53) (args:=[.ptr 1001 0, .fn (.func 74) [] [.ptr 401 0]]) (dst:=some 4) krf krf (sc_inline (hc:=[(1000, .box 9 [S [59]]),(1001, .box 67 [.p (.sl 4 (mTk j36_2)),I j36_3,I j36_4, .tsl 2 (mDg a0r.diags) 1002]),(1002, .arr 64 2 (mDg a0r.diags).length)]) (args':=[.ptr 1001 0, .fn (.func 74) [] [.ptr 1000 0]]) [(1000,401),(1001,1001),(1002,1002)] [] [] Tryd.func53 rfl Tryd.ntmps53 rfl krf krf krf (sR Tryd.fm ⟨[0,1,4],[4,1000,1001,1002],[],[]⟩ ⟨[(0, .ptr 1001 0),(1, .fn (.func 74) [] [.ptr 1000 0]),(4, .ptr 4 0)],[(4, .box 46 [I 0,S [],I 0,I 0]),(1000, .box 9 [S [59]]),(1001, .box 67 [.p (.sl 4 (mTk j36_2)),I j36_3,I j36_4, .tsl 2 (mDg a0r.diags) 1002]),(1002, .arr 64 2 (mDg a0r.diags).length)]⟩ krf (sS (sG (xR 1 krf ?_))))))
      refine xs_ro [.ro [.id, .id, .id, .sl 2]] krf (g_p_reader_peek_2_ok n (⟨j36_2,j36_3,j36_4,a0r.diags⟩:GPr)) krf krf (fun _=>by kernel_rfl) (fun r45=>?_)
      refine xR 2 krf (xE (sN ⟨[0,1,4,5],[4,5,1000,1001,1002],[],[]⟩ ⟨[(0, .ptr 1001 0),(1, .fn (.func 74) [] [.ptr 1000 0]),(4, .ptr 4 0),(5, .ptr 5 0)],[(4, .box 46 [I 0,S [],I 0,I 0]),(5, .box 46 (bxc (GTk.cs r45))),(1000, .box 9 [S [59]]),(1001, .box 67 [.p (.sl 4 (mTk j36_2)),I j36_3,I j36_4, .tsl 2 (mDg a0r.diags) 1002]),(1002, .arr 64 2 (mDg a0r.diags).length)]⟩ krf (sim_cps (fun _=>⟨[(0, .ptr 1001 0),(4, .ptr 4 0),(5, .ptr 5 0)],[(4, .box 46 [I 0,S [],I 0,I 0]),(5, .box 46 (bxc (GTk.cs r45))),(1000, .box 9 [S [59]]),(1001, .box 67 [.p (.sl 4 (mTk j36_2)),I j36_3,I j36_4, .tsl 2 (mDg a0r.diags) 1002]),(1002, .arr 64 2 (mDg a0r.diags).length)]⟩:Unit→St) (fun _=>g_p_reader_item_j46 a0r r1 r3 r5 j36_1 j36_2 j36_3 j36_4) ?_ ?_)))
      ·rintro _
       show SimE (g_p_reader_item_j46 a0r r1 r3 r5 j36_1 j36_2 j36_3 j36_4) _ _ _ _ _ _
       unfold g_p_reader_item_j46
       refine sR Tryd.fm ⟨[4,5],[4,5,1000,1001,1002],[],[]⟩ ⟨[(4, .ptr 4 0),(5, .ptr 5 0)],[(4, .box 46 [I 0,S [],I 0,I 0]),(5, .box 46 (bxc (GTk.cs r45))),(1000, .box 9 [S [59]]),(1001, .box 67 [.p (.sl 4 (mTk j36_2)),I (wi (j36_3+1)),I j36_4, .tsl 2 (mDg a0r.diags) 1002]),(1002, .arr 64 2 (mDg a0r.diags).length)]⟩ krf (sR Tryd.fm ⟨[4],[4,1000,1001,1002],[],[]⟩ ⟨[(4, .ptr 4 0)],[(4, .box 46 (bxc (GTk.cs r45))),(1000, .box 9 [S [59]]),(1001, .box 67 [.p (.sl 4 (mTk j36_2)),I (wi (j36_3+1)),I j36_4, .tsl 2 (mDg a0r.diags) 1002]),(1002, .arr 64 2 (mDg a0r.diags).length)]⟩ krf (sT (iq_ret (.id) [1000,1001,1002] [] (.agg [I r45.Kind,S r45.Text,I r45.N,I r45.At]) krf krf (kh [] krf (lates_nil) krf (h_end (sN ⟨[],[1000,1001,1002],[],[]⟩ ⟨[],[(1000, .box 65 [.ptr 1001 0]),(1001, .box 67 [.p (.sl 4 (mTk j36_2)),I (wi (j36_3+1)),I j36_4, .tsl 2 (mDg a0r.diags) 1002]),(1002, .arr 64 2 (mDg a0r.diags).length)]⟩ krf (sR Tryd.fm ⟨[1],[1000,1001,1002],[],[]⟩ ⟨[(1,zS)],[(1000, .box 65 [.ptr 1001 0]),(1001, .box 67 [.p (.sl 4 (mTk j36_2)),I (wi (j36_3+1)),I j36_4, .tsl 2 (mDg a0r.diags) 1002]),(1002, .arr 64 2 (mDg a0r.diags).length)]⟩ krf ?_)))))))
       refine sT (iq_ret (.sl 5) [1000,1001,1002] [] (.p (.sl 5 (mI []))) krf krf (kh [0,1] krf (lates_cons (late_read (.ptr 11 4) krf rfl) (lates_cons (late_tsl (S:=5) (t:=600) (ty:=33) (es:=mI ([]++j36_1)) krf krf rfl) (lates_nil))) krf (h_if [] rfl krf krf (aop_appL (e:=33) (S:=5) (by_:=64) (enc:=idc) (tk:=600) (l:=[]++j36_1) (l2:=[]) (xv:=.p (.sl 5 (mI []))) rfl krf krf rfl krf krf krf krf) (fun _=>lates_nil) (h_op [] krf krf (lates_nil) (h_op [] krf krf (lates_nil) (h_end (bq_n ?_)))))))
       refine sN ⟨[10,11,20,21,22],[10,11,600,1000,1001,1002,1003],[],[]⟩ ⟨[(10, .ptr 10 0),(11, .ptr 11 0),(20, .bsl 1001 2),(21,I 2),(22,I 1)],[(10, .box 33 [I 0,S [],I 0,I 0,zS]),(11, .box 33 [I 2,S r3.Text,I r5,I r1.At, .tsl 5 (mI (([]++j36_1)++[])) 600]),(600, .arr 33 5 (mI (([]++j36_1)++[])).length),(1000, .box 65 [.ptr 1002 0]),(1001, .box 69 [.fn (.func 60) [.ptr 1002 0] [], .fn (.func 62) [] [.ptr 1000 0]]),(1002, .box 67 [.p (.sl 4 (mTk j36_2)),I (wi (j36_3+1)),I j36_4, .tsl 2 (mDg a0r.diags) 1003]),(1003, .arr 64 2 (mDg a0r.diags).length)]⟩ krf (sL Tryd.fm krf (ru_n ⟨[10,11,20,21,22],[10,11,600,1000,1001,1002,1003],[],[]⟩ ⟨[(10, .ptr 10 0),(11, .ptr 11 0),(20, .bsl 1001 2),(21,I 2),(22,I 2)],[(10, .box 33 [I 0,S [],I 0,I 0,zS]),(11, .box 33 [I 2,S r3.Text,I r5,I r1.At, .tsl 5 (mI (([]++j36_1)++[])) 600]),(600, .arr 33 5 (mI (([]++j36_1)++[])).length),(1000, .box 65 [.ptr 1002 0]),(1001, .box 69 [.fn (.func 60) [.ptr 1002 0] [], .fn (.func 62) [] [.ptr 1000 0]]),(1002, .box 67 [.p (.sl 4 (mTk j36_2)),I (wi (j36_3+1)),I j36_4, .tsl 2 (mDg a0r.diags) 1003]),(1003, .arr 64 2 (mDg a0r.diags).length)]⟩ krf (sR Tryd.fm ⟨[10,11,20,21,22,23],[10,11,600,1000,1001,1002,1003],[],[]⟩ ⟨[(10, .ptr 10 0),(11, .ptr 11 0),(20, .bsl 1001 2),(21,I 2),(22,I 2),(23,B false)],[(10, .box 33 [I 0,S [],I 0,I 0,zS]),(11, .box 33 [I 2,S r3.Text,I r5,I r1.At, .tsl 5 (mI (([]++j36_1)++[])) 600]),(600, .arr 33 5 (mI (([]++j36_1)++[])).length),(1000, .box 65 [.ptr 1002 0]),(1001, .box 69 [.fn (.func 60) [.ptr 1002 0] [], .fn (.func 62) [] [.ptr 1000 0]]),(1002, .box 67 [.p (.sl 4 (mTk j36_2)),I (wi (j36_3+1)),I j36_4, .tsl 2 (mDg a0r.diags) 1003]),(1003, .arr 64 2 (mDg a0r.diags).length)]⟩ krf (sS (sim_condF krf (sim_exit (sq_x ?_)))))))
       refine ru_x (bq_hit ?_)
       exact kq_n (k:=fun (j35_1,j35_2,j35_3,j35_4)=>g_p_reader_item_j35 a0r r1 r3 r5 j35_1 j35_2 j35_3 j35_4) (([]++j36_1)++[],j36_2,wi (j36_3+1),j36_4) ⟨[10,11],[10,11,600,1000,1001,1002,1003],[],[]⟩ krf
      ·refine sim_bind (fun j47=>⟨[(0, .ptr 1001 0),(4, .ptr 4 0),(5, .ptr 5 0),(16,B j47)],[(4, .box 46 [I 0,S [],I 0,I 0]),(5, .box 46 (bxc (GTk.cs r45))),(1000, .box 9 [S [59]]),(1001, .box 67 [.p (.sl 4 (mTk j36_2)),I j36_3,I j36_4, .tsl 2 (mDg a0r.diags) 1002]),(1002, .arr 64 2 (mDg a0r.diags).length)]⟩:Bool→St) ?_ ?_
       ·refine sG (xR 4 krf ?_)
        refine xS (eqI r45.Kind 0) (fun h48=>?_) (fun h48=>?_)
        ·refine xN (want_ft krf h48) krf (xR 4 krf (xE ?_))
         exact nq_n true ⟨[0,4,5,16],[4,5,1000,1001,1002],[],[]⟩ krf
        ·refine xO (want_ff krf h48) krf (xR 1 krf (xs_inline [(1000, .box 9 [S [59]])] [.agg [I r45.Kind,S r45.Text,I r45.N,I r45.At], .ptr 1000 0] [(1000,1000)] [] [] krf Tryd.func74 rfl Tryd.ntmps74 rfl krf krf krf (sR Tryd.fm ⟨[1,2],[2,1000],[],[]⟩ ⟨[(1, .ptr 1000 0),(2, .ptr 2 0)],[(2, .box 46 (bxc (GTk.cs r45))),(1000, .box 9 [S [59]])]⟩ krf (sim_bind (fun j49=>⟨[(3,B j49)],[(1000, .box 9 [S [59]])]⟩:Bool→St) ?_ ?_))))
         ·refine sG (xR 4 krf ?_)
          refine xS (eqI r45.Kind 3) (fun h50=>?_) (fun h50=>?_)
          ·refine xO (want_tt krf h50) krf (xR 5 krf (xE ?_))
           exact nq_n (eqS r45.Text [59]) ⟨[3],[1000],[],[]⟩ krf
          ·refine xN (want_tf krf h50) krf (xR 5 krf (xE ?_))
           exact nq_n false ⟨[3],[1000],[],[]⟩ krf
         ·rintro j49
          refine sT (iq_ret (.id) [1000] [] (B j49) krf krf (kr0 (xR 2 krf (xE ?_))))
          exact nq_n (!j49) ⟨[0,4,5,16],[4,5,1000,1001,1002],[],[]⟩ krf
       ·rintro j47
        refine sC j47 krf ?_ ?_
        ·refine sG (xR 1 krf ?_)
         refine xs_roE [.ro [.id, .id, .id, .sl 2]] krf (g_p_reader_fail_2_ok n (⟨j36_2,j36_3,j36_4,a0r.diags⟩:GPr)) krf krf (fun _=>by kernel_rfl) (fun _=>by kernel_rfl) (fun r51=>?_) (fun e52=>?_)
         ·refine xE ?_
          exact kq_n (k:=fun _=>g_p_reader_item_j46 a0r r1 r3 r5 j36_1 j36_2 j36_3 j36_4) () ⟨[0,4,5],[4,5,1000,1001,1002],[],[]⟩ krf
         ·refine kq_p (iq_p [1000,1001,1002] [] krf (qh_p _ rfl (sq_p (iq_p [1000,1001,1002] [] krf (qh_p _ rfl (bq_p (sq_p ?_)))))))
          refine ru_p (bq_p (kq_p (iq_p [1000,1001,1002,1003] [] krf (sq_p ?_))))
          exact hq_p [1000,1103] [] krf krf krf
        ·refine sK ?_
         exact kq_n (k:=fun _=>g_p_reader_item_j46 a0r r1 r3 r5 j36_1 j36_2 j36_3 j36_4) () ⟨[0,4,5],[4,5,1000,1001,1002],[],[]⟩ krf
  ·refine sim_bind (fun j53=>⟨[(0, .ptr 1001 0),(4, .ptr 4 0),(5, .ptr 5 0),(16,B j53)],[(4, .box 46 [I 0,S [],I 0,I 0]),(5, .box 46 (bxc (GTk.cs r3))),(1000, .box 30 [.p (.val (.func (.func 57) #[] #[]))]),(1001, .box 67 [.p (.sl 4 (mTk a0r.tokens)),I (wi (a0r.pos+1)),I a0r.length, .tsl 2 (mDg a0r.diags) 1002]),(1002, .arr 64 2 (mDg a0r.diags).length)]⟩:Bool→St) ?_ ?_
   ·refine sG (xR 4 krf ?_)
    refine xS (eqI r3.Kind 0) (fun h54=>?_) (fun h54=>?_)
    ·refine xN (want_ft krf h54) krf (xR 4 krf (xE ?_))
     exact nq_n true ⟨[0,4,5,16],[4,5,1000,1001,1002],[],[]⟩ krf
    ·refine xO (want_ff krf h54) krf (xR 1 krf (xs_inline [(1000, .box 30 [.p (.val (.func (.func 57) #[] #[]))])] [.agg [I r3.Kind,S r3.Text,I r3.N,I r3.At], .ptr 1000 0] [(1000,1000)] [] [] krf Tryd.func73 rfl Tryd.ntmps73 rfl krf krf krf (sR Tryd.fm ⟨[1,2],[2,1000],[],[]⟩ ⟨[(1, .ptr 1000 0),(2, .ptr 2 0)],[(2, .box 46 (bxc (GTk.cs r3))),(1000, .box 30 [.p (.val (.func (.func 57) #[] #[]))])]⟩ krf (sim_bind (fun j55=>⟨[(3,B j55)],[(1000, .box 30 [.p (.val (.func (.func 57) #[] #[]))])]⟩:Bool→St) ?_ ?_))))
     ·refine sG (xR 4 krf ?_)
      refine xS (eqI r3.Kind 1) (fun h56=>?_) (fun h56=>?_)
      ·refine xO (want_tt krf h56) krf (xR 2 krf ?_)
       refine xC [] krf (g_p_notKey_ok n r3.Text) krf krf (fun _=>by kernel_rfl) (fun r57=>?_)
       refine xR 2 krf (xE ?_)
       exact nq_n r57 ⟨[3],[1000],[],[]⟩ krf
      ·refine xN (want_tf krf h56) krf (xR 5 krf (xE ?_))
       exact nq_n false ⟨[3],[1000],[],[]⟩ krf
     ·rintro j55
      refine sT (iq_ret (.id) [1000] [] (B j55) krf krf (kr0 (xR 2 krf (xE ?_))))
      exact nq_n (!j55) ⟨[0,4,5,16],[4,5,1000,1001,1002],[],[]⟩ krf
   ·rintro j53
    refine sC j53 krf ?_ ?_
    ·refine sG (xR 1 krf ?_)
     refine xs_roE [.ro [.id, .id, .id, .sl 2]] krf (g_p_reader_fail_2_ok n (⟨a0r.tokens,wi (a0r.pos+1),a0r.length,a0r.diags⟩:GPr)) krf krf (fun _=>by kernel_rfl) (fun _=>by kernel_rfl) (fun r58=>?_) (fun e59=>?_)
     ·refine xE ?_
      exact kq_n (k:=fun _=>g_p_reader_item_j4 n a0r r1 r3) () ⟨[0,4,5],[4,5,1000,1001,1002],[],[]⟩ krf
     ·refine kq_p (iq_p [1000,1001,1002] [] krf (qh_p _ rfl (sq_p ?_)))
      exact hq_p [1000,1103] [] krf krf krf
    ·refine sK ?_
     exact kq_n (k:=fun _=>g_p_reader_item_j4 n a0r r1 r3) () ⟨[0,4,5],[4,5,1000,1001,1002],[],[]⟩ krf
 ·refine sim_bind (fun j60=>⟨[(0, .ptr 1001 0),(4, .ptr 4 0),(5, .ptr 5 0),(16,B j60)],[(4, .box 46 [I 0,S [],I 0,I 0]),(5, .box 46 (bxc (GTk.cs r1))),(1000, .box 30 [.p (.val (.func (.func 55) #[] #[]))]),(1001, .box 67 [.p (.sl 4 (mTk a0r.tokens)),I a0r.pos,I a0r.length, .tsl 2 (mDg a0r.diags) 1002]),(1002, .arr 64 2 (mDg a0r.diags).length)]⟩:Bool→St) ?_ ?_
  ·refine sG (xR 4 krf ?_)
   refine xS (eqI r1.Kind 0) (fun h61=>?_) (fun h61=>?_)
   ·refine xN (want_ft krf h61) krf (xR 4 krf (xE ?_))
    exact nq_n true ⟨[0,4,5,16],[4,5,1000,1001,1002],[],[]⟩ krf
   ·refine xO (want_ff krf h61) krf (xR 1 krf (xs_inline [(1000, .box 30 [.p (.val (.func (.func 55) #[] #[]))])] [.agg [I r1.Kind,S r1.Text,I r1.N,I r1.At], .ptr 1000 0] [(1000,1000)] [] [] krf Tryd.func73 rfl Tryd.ntmps73 rfl krf krf krf (sR Tryd.fm ⟨[1,2],[2,1000],[],[]⟩ ⟨[(1, .ptr 1000 0),(2, .ptr 2 0)],[(2, .box 46 (bxc (GTk.cs r1))),(1000, .box 30 [.p (.val (.func (.func 55) #[] #[]))])]⟩ krf (sim_bind (fun j62=>⟨[(3,B j62)],[(1000, .box 30 [.p (.val (.func (.func 55) #[] #[]))])]⟩:Bool→St) ?_ ?_))))
    ·refine sG (xR 4 krf ?_)
     refine xS (eqI r1.Kind 1) (fun h63=>?_) (fun h63=>?_)
     ·refine xO (want_tt krf h63) krf (xR 2 krf ?_)
      refine xC [] krf (g_p_reader_item_1_ok n r1.Text) krf krf (fun _=>by kernel_rfl) (fun r64=>?_)
      refine xR 2 krf (xE ?_)
      exact nq_n r64 ⟨[3],[1000],[],[]⟩ krf
     ·refine xN (want_tf krf h63) krf (xR 5 krf (xE ?_))
      exact nq_n false ⟨[3],[1000],[],[]⟩ krf
    ·rintro j62
     refine sT (iq_ret (.id) [1000] [] (B j62) krf krf (kr0 (xR 2 krf (xE ?_))))
     exact nq_n (!j62) ⟨[0,4,5,16],[4,5,1000,1001,1002],[],[]⟩ krf
  ·rintro j60
   refine sC j60 krf ?_ ?_
   ·refine sG (xR 1 krf ?_)
    refine xs_roE [.ro [.id, .id, .id, .sl 2]] krf (g_p_reader_fail_2_ok n a0r) krf krf (fun _=>by kernel_rfl) (fun _=>by kernel_rfl) (fun r65=>?_) (fun e66=>?_)
    ·refine xE ?_
     exact kq_n (k:=fun _=>g_p_reader_item_j2 n a0r r1) () ⟨[0,4,5],[4,5,1000,1001,1002],[],[]⟩ krf
    ·refine kq_p (iq_p [1000,1001,1002] [] krf (qh_p _ rfl (sq_p ?_)))
     exact hq_p [1000,1103] [] krf krf krf
   ·refine sK ?_
    exact kq_n (k:=fun _=>g_p_reader_item_j2 n a0r r1) () ⟨[0,4,5],[4,5,1000,1001,1002],[],[]⟩ krf
def g_p_count_l1 (a0n:GNode) (a1limit:Int) (rf_parser_count:GNode→Int→Option Int) (recl1:(Int × Int)→Option Int) (l1_1:Int) (l1_2:Int):Option Int :=
 cond (ltI l1_2 (lenI (List.map idc a0n.Kids)))
  ((Option.bind (getI a0n.Kids l1_2) GNode.of).bind fun x2 =>
  cond (ltI a1limit l1_1)
   (some l1_1)
   ((rf_parser_count x2 (wi (a1limit - l1_1))).bind fun r3 =>
   recl1 (wi (l1_1+r3),wi (l1_2+1))))
  (some l1_1)
def g_p_count_body (n:Nat) (rf_parser_count:GNode→Int→Option Int) (a0n:GNode) (a1limit:Int):Option Int :=
 loopN (fun recl1 (l1_1,l1_2)=>g_p_count_l1 a0n a1limit rf_parser_count recl1 l1_1 l1_2) n (1,0)
def g_p_count:Nat→GNode→Int→Option Int
 | 0,_,_=>none
 | n+1,a0n,a1limit=>g_p_count_body n (g_p_count n) a0n a1limit
theorem g_p_count_ok (n:Nat) (a0n:GNode) (a1limit:Int):∀ r,g_p_count n a0n a1limit=some r→PCall Tryd.prog 28 [ag (GNode.cs a0n),I a1limit] (.ret (I r)):=by
 induction n generalizing a0n a1limit with
 | zero=>intro r hr; cases (show (none:Option Int)=some r from hr)
 | succ n ih =>
 show ∀ r,g_p_count_body n (g_p_count n) a0n a1limit=some r→_
 generalize g_p_count n=rf_parser_count at ih ⊢
 refine pcall_sim (X:=fun r:Int=>AEnd.ret (I r)) Tryd.func28 rfl Tryd.ntmps28 rfl ?_
 unfold g_p_count_body
 refine sR Tryd.fm ⟨[1,2],[2],[],[]⟩ ⟨[(1,I a1limit),(2, .ptr 2 0)],[(2, .box 33 (bxc (GNode.cs a0n)))]⟩ krf (sR Tryd.fm ⟨[1,2,5],[2],[],[]⟩ ⟨[(1,I a1limit),(2, .ptr 2 0),(5,I 1)],[(2, .box 33 (bxc (GNode.cs a0n)))]⟩ krf (sS (sR Tryd.fm ⟨[1,5,9,10,11],[],[],[]⟩ ⟨[(1,I a1limit),(5,I 1),(9, .p (.sl 5 (mI a0n.Kids))),(10,I (lenI (mI a0n.Kids))),(11,I 0)],[]⟩ krf (sB (sim_loop (fun (l1_1,l1_2)=>⟨[(1,I a1limit),(5,I l1_1),(9, .p (.sl 5 (mI a0n.Kids))),(10,I (lenI (mI a0n.Kids))),(11,I l1_2)],[]⟩:(Int × Int)→St) (weak_shr (K:=⟨[1,5,9,10,11],[],[],[]⟩) krf) ?_)))))
 rintro recl1 ⟨l1_1,l1_2⟩
 show SimE (g_p_count_l1 a0n a1limit rf_parser_count recl1 l1_1 l1_2) _ _ _ _ _ _
 unfold g_p_count_l1
 refine sR Tryd.fm ⟨[1,5,9,10,11,12],[],[],[]⟩ ⟨[(1,I a1limit),(5,I l1_1),(9, .p (.sl 5 (mI a0n.Kids))),(10,I (lenI (mI a0n.Kids))),(11,I l1_2),(12,B (ltI l1_2 (lenI (mI a0n.Kids))))],[]⟩ krf (sS (sC (ltI l1_2 (lenI (mI a0n.Kids))) krf ?_ ?_))
 ·refine sK (sN ⟨[1,5,9,10,11],[],[],[]⟩ ⟨[(1,I a1limit),(5,I l1_1),(9, .p (.sl 5 (mI a0n.Kids))),(10,I (lenI (mI a0n.Kids))),(11,I l1_2)],[]⟩ krf (sS (sB (sS (sG ?_)))))
  refine xG krf krf (aop_idxR (e:=33) (S:=5) (enc:=GNode.cs) (dec:=GNode.of) (l:=a0n.Kids) (k:=.i64) (n:=l1_2) (sv:=.p (.sl 5 (mI a0n.Kids))) GNode.of_cs rfl krf krf krf krf krf) (fun x2=>?_)
  refine xR 3 krf (xE (sN ⟨[1,5,7,9,10,11],[7],[],[]⟩ ⟨[(1,I a1limit),(5,I l1_1),(7, .ptr 7 0),(9, .p (.sl 5 (mI a0n.Kids))),(10,I (lenI (mI a0n.Kids))),(11,I l1_2)],[(7, .box 33 (bxc (GNode.cs x2)))]⟩ krf (sS (sR Tryd.fm ⟨[1,5,7,9,10,11,17],[7],[],[]⟩ ⟨[(1,I a1limit),(5,I l1_1),(7, .ptr 7 0),(9, .p (.sl 5 (mI a0n.Kids))),(10,I (lenI (mI a0n.Kids))),(11,I l1_2),(17,B (ltI a1limit l1_1))],[(7, .box 33 (bxc (GNode.cs x2)))]⟩ krf (sC (ltI a1limit l1_1) krf ?_ ?_)))))
  ·refine sR Tryd.fm ⟨[4],[],[],[]⟩ ⟨[(4,I l1_1)],[]⟩ krf (sT (sq_r (bq_r (sq_r (kq_r (bq_r (sq_r ?_)))))))
   exact qR (.id) krf krf krf
  ·refine sK (sN ⟨[1,5,7,9,10,11],[7],[],[]⟩ ⟨[(1,I a1limit),(5,I l1_1),(7, .ptr 7 0),(9, .p (.sl 5 (mI a0n.Kids))),(10,I (lenI (mI a0n.Kids))),(11,I l1_2)],[(7, .box 33 (bxc (GNode.cs x2)))]⟩ krf (sG (xR 5 krf ?_)))
   refine xC [] krf (ih x2 (wi (a1limit - l1_1))) krf krf (fun _=>by kernel_rfl) (fun r3=>?_)
   refine xR 2 krf (xE (bq_n (sN ⟨[1,5,9,10,11],[],[],[]⟩ ⟨[(1,I a1limit),(5,I (wi (l1_1+r3))),(9, .p (.sl 5 (mI a0n.Kids))),(10,I (lenI (mI a0n.Kids))),(11,I l1_2)],[]⟩ krf (sL Tryd.fm krf ?_))))
   exact kq_n (wi (l1_1+r3),wi (l1_2+1)) ⟨[1,5,9,10,11],[],[],[]⟩ krf
 ·refine sim_exit (sq_x (kq_x (bq_hit (sN ⟨[5],[],[],[]⟩ ⟨[(5,I l1_1)],[]⟩ krf (sR Tryd.fm ⟨[4],[],[],[]⟩ ⟨[(4,I l1_1)],[]⟩ krf (sT ?_))))))
  exact qR (.id) krf krf krf
def g_p_Parse_l4 (n:Nat) (recl4:((List (List PV)) × (List GTk) × Int × Int × (List GDg))→Option ((List (List PV)) × (List GTk) × Int × Int × (List GDg))) (l4_1:List (List PV)) (l4_2:List GTk) (l4_3:Int) (l4_4:Int) (l4_5:List GDg):Option ((List (List PV)) × (List GTk) × Int × Int × (List GDg)) :=
 (cond (ltI l4_3 (lenI (List.map GTk.cs l4_2)))
  ((g_p_reader_full n (⟨l4_2,l4_3,l4_4,l4_5⟩:GPr)).bind fun r7 =>
  some (!r7))
  (some false)).bind fun j5 =>
 cond j5
  (((g_p_reader_item n (⟨l4_2,l4_3,l4_4,l4_5⟩:GPr)).bind (exc (fun r9 =>
   some (true,r9.2.tokens,r9.2.pos,r9.2.length,r9.2.diags,r9.1.Kind,r9.1.Name,r9.1.N,r9.1.At,r9.1.Kids)) fun e10=>cond (roomB (List.length (e10.2.diags++[(⟨7,e10.1⟩:GDg)])) 16) (
   (g_p_reader_skip n (⟨e10.2.tokens,e10.2.pos,e10.2.length,[]⟩:GPr)).bind fun r11 =>
   some (false,r11.2.tokens,r11.2.pos,r11.2.length,e10.2.diags++[(⟨7,e10.1⟩:GDg)],0,[],0,0,[])) none)).bind fun (j8_1,j8_2,j8_3,j8_4,j8_5,j8_6,j8_7,j8_8,j8_9,j8_10) =>
  cond j8_1
   (cond (roomB (List.length (l4_1++[GNode.cs (⟨j8_6,j8_7,j8_8,j8_9,j8_10⟩:GNode)])) 64) (
    recl4 (l4_1++[GNode.cs (⟨j8_6,j8_7,j8_8,j8_9,j8_10⟩:GNode)],j8_2,j8_3,j8_4,j8_5)) none)
   (recl4 (l4_1,j8_2,j8_3,j8_4,j8_5)))
  (some (l4_1,l4_2,l4_3,l4_4,l4_5))
def g_p_Parse (n:Nat) (a0z:List UInt8):Option (GNode × (List GDg)) :=
 (g_x_Lex n a0z).bind fun r1 =>
 cond (!eqI r1.2.1 0)
  (some ((⟨0,[],0,0,[]⟩:GNode),[(⟨r1.2.1,r1.2.2⟩:GDg)]))
  (((loopN (fun recl4 (l4_1,l4_2,l4_3,l4_4,l4_5)=>g_p_Parse_l4 n recl4 l4_1 l4_2 l4_3 l4_4 l4_5) n ([],r1.1,0,lenI a0z,[])).bind fun (j3_1,j3_2,j3_3,j3_4,j3_5) =>
  cond (roomB (List.length ([]++j3_1)) 64) (
   some ([]++j3_1,j3_2,j3_3,j3_4,j3_5)) none).bind fun (j2_1,j2_2,j2_3,j2_4,j2_5) =>
  cond (ltI 0 (lenI (List.map GDg.cs j2_5)))
   (some ((⟨0,[],0,0,[]⟩:GNode),j2_5))
   ((g_p_count n (⟨1,[],0,0,j2_1⟩:GNode) 1500).bind fun r12 =>
   cond (ltI 1500 r12)
    (some ((⟨0,[],0,0,[]⟩:GNode),[(⟨2,0⟩:GDg)]))
    (some ((⟨1,[],0,0,j2_1⟩:GNode),[]))))
theorem g_p_Parse_ok (n:Nat) (a0z:List UInt8):∀ r,g_p_Parse n a0z=some r→PCall Tryd.prog 14 [S a0z] (.ret (.tup [ag (GNode.cs r.1), .p (.sl 2 (mDg r.2))])):=by
 refine pcall_sim (X:=fun r:GNode × (List GDg)=>AEnd.ret (.tup [ag (GNode.cs r.1), .p (.sl 2 (mDg r.2))])) Tryd.func14 rfl Tryd.ntmps14 rfl ?_
 unfold g_p_Parse
 refine sR Tryd.fm ⟨[0,2],[2],[],[]⟩ ⟨[(0,S a0z),(2, .ptr 2 0)],[(2, .box 33 [I 0,S [],I 0,I 0,zS])]⟩ krf (sS (sG (xR 1 krf ?_)))
 refine xC [] krf (g_x_Lex_ok n a0z) krf krf (fun _=>by kernel_rfl) (fun r1=>?_)
 refine xR 7 krf (xE (sN ⟨[0,2,4,5,6],[2],[],[]⟩ ⟨[(0,S a0z),(2, .ptr 2 0),(4, .p (.sl 4 (mTk r1.1))),(5,I r1.2.1),(6,I r1.2.2)],[(2, .box 33 [I 0,S [],I 0,I 0,zS])]⟩ krf (sS (sR Tryd.fm ⟨[0,2,4,5,6,16],[2],[],[]⟩ ⟨[(0,S a0z),(2, .ptr 2 0),(4, .p (.sl 4 (mTk r1.1))),(5,I r1.2.1),(6,I r1.2.2),(16,B (!eqI r1.2.1 0))],[(2, .box 33 [I 0,S [],I 0,I 0,zS])]⟩ krf (sC (!eqI r1.2.1 0) krf ?_ ?_)))))
 ·refine sR Tryd.fm ⟨[2,3],[2,21],[],[]⟩ ⟨[(2, .ptr 2 0),(3, .tsl 2 (mDg [(⟨r1.2.1,r1.2.2⟩:GDg)]) 21)],[(2, .box 33 [I 0,S [],I 0,I 0,zS]),(21, .arr 64 2 (mDg [(⟨r1.2.1,r1.2.2⟩:GDg)]).length)]⟩ krf (sT (sq_r ?_))
  exact qR (.agg [.agg [.id, .id, .id, .id, .sl 5], .sl 2]) krf krf krf
 ·refine sK (sN ⟨[0,2,4],[2],[],[]⟩ ⟨[(0,S a0z),(2, .ptr 2 0),(4, .p (.sl 4 (mTk r1.1)))],[(2, .box 33 [I 0,S [],I 0,I 0,zS])]⟩ krf (sR Tryd.fm ⟨[2,7],[2,26],[],[]⟩ ⟨[(2, .ptr 2 0),(7, .ptr 26 0)],[(2, .box 33 [I 0,S [],I 0,I 0,zS]),(26, .box 67 [.p (.sl 4 (mTk r1.1)),I 0,I (lenI a0z),zS])]⟩ krf (sS (sG (xR 4 krf (xs_inline [(1000, .box 67 [.p (.sl 4 (mTk r1.1)),I 0,I (lenI a0z),zS]),(1001, .box 69 [.fn (.func 27) [.ptr 1000 0] []])] [.agg [I 0,S [],I 0,I 0],I 1,S [],I 0, .bsl 1001 1] [(1000,26),(1001,30),(637,637)] [] [] krf Tryd.func26 rfl Tryd.ntmps26 rfl krf krf krf (sR Tryd.fm ⟨[1,2,3,4,5,10],[5,10,1000,1001],[],[]⟩ ⟨[(1,I 1),(2,S []),(3,I 0),(4, .bsl 1001 1),(5, .ptr 5 0),(10, .ptr 10 0)],[(5, .box 46 [I 0,S [],I 0,I 0]),(10, .box 33 [I 0,S [],I 0,I 0,zS]),(1000, .box 67 [.p (.sl 4 (mTk r1.1)),I 0,I (lenI a0z),zS]),(1001, .box 69 [.fn (.func 27) [.ptr 1000 0] []])]⟩ krf ?_)))))))
  refine sR Tryd.fm ⟨[4,10,11],[10,11,1000,1001],[],[]⟩ ⟨[(4, .bsl 1001 1),(10, .ptr 10 0),(11, .ptr 11 0)],[(10, .box 33 [I 0,S [],I 0,I 0,zS]),(11, .box 33 [I 1,S [],I 0,I 0,zS]),(1000, .box 67 [.p (.sl 4 (mTk r1.1)),I 0,I (lenI a0z),zS]),(1001, .box 69 [.fn (.func 27) [.ptr 1000 0] []])]⟩ krf (sim_bind (fun (j2_1,j2_2,j2_3,j2_4,j2_5)=>⟨[(10, .ptr 10 0),(11, .ptr 11 0)],[(10, .box 33 [I 0,S [],I 0,I 0,zS]),(11, .box 33 [I 1,S [],I 0,I 0, .tsl 5 (mI j2_1) 600]),(600, .arr 33 5 (mI j2_1).length),(637, .arr 64 2 (mDg j2_5).length),(1000, .box 67 [.p (.sl 4 (mTk j2_2)),I j2_3,I j2_4, .tsl 2 (mDg j2_5) 637]),(1001, .box 69 [.fn (.func 27) [.ptr 1000 0] []])]⟩:((List (List PV)) × (List GTk) × Int × Int × (List GDg))→St) ?_ ?_)
  ·refine sR Tryd.fm ⟨[10,11,20,21,22],[10,11,1000,1001],[],[]⟩ ⟨[(10, .ptr 10 0),(11, .ptr 11 0),(20, .bsl 1001 1),(21,I 1),(22,I 0)],[(10, .box 33 [I 0,S [],I 0,I 0,zS]),(11, .box 33 [I 1,S [],I 0,I 0,zS]),(1000, .box 67 [.p (.sl 4 (mTk r1.1)),I 0,I (lenI a0z),zS]),(1001, .box 69 [.fn (.func 27) [.ptr 1000 0] []])]⟩ krf (sB (sim_unroll 1 (sR Tryd.fm ⟨[10,11,20,21,22,23],[10,11,1000,1001],[],[]⟩ ⟨[(10, .ptr 10 0),(11, .ptr 11 0),(20, .bsl 1001 1),(21,I 1),(22,I 0),(23,B true)],[(10, .box 33 [I 0,S [],I 0,I 0,zS]),(11, .box 33 [I 1,S [],I 0,I 0,zS]),(1000, .box 67 [.p (.sl 4 (mTk r1.1)),I 0,I (lenI a0z),zS]),(1001, .box 69 [.fn (.func 27) [.ptr 1000 0] []])]⟩ krf (sS (sim_condT krf (sK (sN ⟨[10,11,20,21,22],[10,11,1000,1001],[],[]⟩ ⟨[(10, .ptr 10 0),(11, .ptr 11 0),(20, .bsl 1001 1),(21,I 1),(22,I 0)],[(10, .box 33 [I 0,S [],I 0,I 0,zS]),(11, .box 33 [I 1,S [],I 0,I 0,zS]),(1000, .box 67 [.p (.sl 4 (mTk r1.1)),I 0,I (lenI a0z),zS]),(1001, .box 69 [.fn (.func 27) [.ptr 1000 0] []])]⟩ krf ?_)))))))
   refine sS (sB (sR Tryd.fm ⟨[10,11,13,20,21,22],[10,11,1000,1001],[],[]⟩ ⟨[(10, .ptr 10 0),(11, .ptr 11 0),(13, .fn (.func 27) [.ptr 1000 0] []),(20, .bsl 1001 1),(21,I 1),(22,I 0)],[(10, .box 33 [I 0,S [],I 0,I 0,zS]),(11, .box 33 [I 1,S [],I 0,I 0,zS]),(1000, .box 67 [.p (.sl 4 (mTk r1.1)),I 0,I (lenI a0z),zS]),(1001, .box 69 [.fn (.func 27) [.ptr 1000 0] []])]⟩ krf (sP ⟨[10,11,13,20,21,22],[10,11,1000,1001],[],[]⟩ ⟨[(10, .ptr 10 0),(11, .ptr 11 0),(13, .fn (.func 27) [.ptr 1000 0] []),(20, .bsl 1001 1),(21,I 1),(22,I 0)],[(10, .box 33 [I 0,S [],I 0,I 0,zS]),(11, .box 33 [I 1,S [],I 0,I 0,zS]),(1000, .box 67 [.p (.sl 4 (mTk r1.1)),I 0,I (lenI a0z),zS]),(1001, .box 69 [.fn (.func 27) [.ptr 1000 0] []])]⟩ krf (sim_weak (weak_pn 33 5 600 [] [(11,4)] krf) (sim_hst [0,1,2] [0,1] [(3,[]),(4,[]),(5,[]),(6,[])] Tryd.fm rfl krf krf (h_enter (f:=27) (args:=[.ptr 1000 0]) (dst:=some 29) krf krf (sc_inline (hc:=[(1000, .box 67 [.p (.sl 4 (mTk r1.1)),I 0,I (lenI a0z),zS])]) (args':=[.ptr 1000 0]) [(1000,1000),(600,637)] [] [] Tryd.func27 rfl Tryd.ntmps27 rfl krf krf krf ?_)))))))
   refine sR Tryd.fm ⟨[1],[1,1000],[],[]⟩ ⟨[(1, .ptr 1 0)],[(1, .box 65 [.ptr 1000 0]),(1000, .box 67 [.p (.sl 4 (mTk r1.1)),I 0,I (lenI a0z),zS])]⟩ krf (sR Tryd.fm ⟨[1,3],[1,1000],[],[]⟩ ⟨[(1, .ptr 1 0),(3,zS)],[(1, .box 65 [.ptr 1000 0]),(1000, .box 67 [.p (.sl 4 (mTk r1.1)),I 0,I (lenI a0z),zS])]⟩ krf (sim_bind (fun (j3_1,j3_2,j3_3,j3_4,j3_5)=>⟨[(3, .tsl 5 (mI j3_1) 32)],[(32, .arr 33 5 (mI j3_1).length),(600, .arr 64 2 (mDg j3_5).length),(1000, .box 67 [.p (.sl 4 (mTk j3_2)),I j3_3,I j3_4, .tsl 2 (mDg j3_5) 600])]⟩:((List (List PV)) × (List GTk) × Int × Int × (List GDg))→St) ?_ ?_))
   ·refine sB (sP ⟨[1,3],[1,1000],[],[]⟩ ⟨[(1, .ptr 1 0),(3,zS)],[(1, .box 65 [.ptr 1000 0]),(1000, .box 67 [.p (.sl 4 (mTk r1.1)),I 0,I (lenI a0z),zS])]⟩ krf (sim_weak (Weak.trans (weak_pn 33 5 32 [3] [] krf) (weak_pn 64 2 600 [] [(1000,3)] krf)) (sim_loop (fun (l4_1,l4_2,l4_3,l4_4,l4_5)=>⟨[(1, .ptr 1 0),(3, .tsl 5 (mI l4_1) 32)],[(1, .box 65 [.ptr 1000 0]),(32, .arr 33 5 (mI l4_1).length),(600, .arr 64 2 (mDg l4_5).length),(1000, .box 67 [.p (.sl 4 (mTk l4_2)),I l4_3,I l4_4, .tsl 2 (mDg l4_5) 600])]⟩:((List (List PV)) × (List GTk) × Int × Int × (List GDg))→St) (weak_shr (K:=⟨[1,3],[1,32,600,1000],[],[]⟩) krf) ?_)))
    rintro recl4 ⟨l4_1,l4_2,l4_3,l4_4,l4_5⟩
    show SimE (g_p_Parse_l4 n recl4 l4_1 l4_2 l4_3 l4_4 l4_5) _ _ _ _ _ _
    unfold g_p_Parse_l4
    refine sS (sim_bind (fun j5=>⟨[(1, .ptr 1 0),(3, .tsl 5 (mI l4_1) 32),(21,B j5)],[(1, .box 65 [.ptr 1000 0]),(32, .arr 33 5 (mI l4_1).length),(600, .arr 64 2 (mDg l4_5).length),(1000, .box 67 [.p (.sl 4 (mTk l4_2)),I l4_3,I l4_4, .tsl 2 (mDg l4_5) 600])]⟩:Bool→St) ?_ ?_)
    ·refine sim_drw Tryd.fm rfl (xR 11 krf ?_)
     refine xS (ltI l4_3 (lenI (mTk l4_2))) (fun h6=>?_) (fun h6=>?_)
     ·refine xO (want_tt krf h6) krf (xs_seqL rfl krf krf ?_)
      refine xs_ro [.ro [.id, .id, .id, .sl 2]] krf (g_p_reader_full_ok n (⟨l4_2,l4_3,l4_4,l4_5⟩:GPr)) krf krf (fun _=>by kernel_rfl) (fun r7=>?_)
      refine xR 2 krf (xE ?_)
      exact nq_n (!r7) ⟨[1,3,21],[1,32,600,1000],[],[]⟩ krf
     ·refine xN (want_tf krf h6) krf (xR 3 krf (xs_endD krf ?_))
      exact nq_n false ⟨[1,3,21],[1,32,600,1000],[],[]⟩ krf
    ·rintro j5
     refine sC j5 krf ?_ ?_
     ·refine sK (sN ⟨[1,3],[1,32,600,1000],[],[]⟩ ⟨[(1, .ptr 1 0),(3, .tsl 5 (mI l4_1) 32)],[(1, .box 65 [.ptr 1000 0]),(32, .arr 33 5 (mI l4_1).length),(600, .arr 64 2 (mDg l4_5).length),(1000, .box 67 [.p (.sl 4 (mTk l4_2)),I l4_3,I l4_4, .tsl 2 (mDg l4_5) 600])]⟩ krf (sB (sR Tryd.fm ⟨[1,3,4],[1,4,32,600,1000],[],[]⟩ ⟨[(1, .ptr 1 0),(3, .tsl 5 (mI l4_1) 32),(4, .ptr 4 0)],[(1, .box 65 [.ptr 1000 0]),(4, .box 33 [I 0,S [],I 0,I 0,zS]),(32, .arr 33 5 (mI l4_1).length),(600, .arr 64 2 (mDg l4_5).length),(1000, .box 67 [.p (.sl 4 (mTk l4_2)),I l4_3,I l4_4, .tsl 2 (mDg l4_5) 600])]⟩ krf (sim_bind (fun (j8_1,j8_2,j8_3,j8_4,j8_5,j8_6,j8_7,j8_8,j8_9,j8_10)=>⟨[(1, .ptr 1 0),(3, .tsl 5 (mI l4_1) 32),(4, .ptr 4 0),(5,B j8_1)],[(1, .box 65 [.ptr 1000 0]),(4, .box 33 (bxc (GNode.cs ⟨j8_6,j8_7,j8_8,j8_9,j8_10⟩))),(32, .arr 33 5 (mI l4_1).length),(600, .arr 64 2 (mDg j8_5).length),(1000, .box 67 [.p (.sl 4 (mTk j8_2)),I j8_3,I j8_4, .tsl 2 (mDg j8_5) 600])]⟩:(Bool × (List GTk) × Int × Int × (List GDg) × Int × (List UInt8) × Int × Int × (List (List PV)))→St) ?_ ?_))))
      ·refine sG (xR 2 krf (xs_enter (f:=44) (args:=[.ptr 1000 0, .fn (.func 45) [] [.ptr 1 0, .ptr 4 0]]) krf krf krf ?_))
       refine sc_inlineD (hc:=[(1000, .box 65 [.ptr 1003 0]),(1001, .box 33 [I 0,S [],I 0,I 0,zS]),(1002, .arr 64 2 (mDg l4_5).length),(1003, .box 67 [.p (.sl 4 (mTk l4_2)),I l4_3,I l4_4, .tsl 2 (mDg l4_5) 1002])]) (args':=[.ptr 1003 0, .fn (.func 45) [] [.ptr 1000 0, .ptr 1001 0]]) [(1000,1),(1001,4),(1002,600),(1003,1000)] [] [] (⟨_,_,_,_,_,_,[2,4,5],6,_,rfl,rfl,rfl,rfl,rfl,rfl,rfl,rfl,by decide⟩:Deferrer2 Tryd.f44 51) [(2,1900),(4,1901),(5,1902)] Tryd.func44 Tryd.ntmps44 krf krf krf krf krf Tryd.fm rfl krf krf ?_
       refine sP ⟨[1,4,5],[1000,1001,1002,1003,1900,1901,1902],[],[]⟩ ⟨[(1, .fn (.func 45) [] [.ptr 1000 0, .ptr 1001 0]),(4, .ptr 1901 0),(5, .ptr 1902 0)],[(1000, .box 65 [.ptr 1003 0]),(1001, .box 33 [I 0,S [],I 0,I 0,zS]),(1002, .arr 64 2 (mDg l4_5).length),(1003, .box 67 [.p (.sl 4 (mTk l4_2)),I l4_3,I l4_4, .tsl 2 (mDg l4_5) 1002]),(1900, .box 65 [.ptr 1003 0]),(1901, .box 4 [B false]),(1902, .box 9 [S []])]⟩ krf (sS (sG (xR 1 krf (xs_inline [(1000, .box 65 [.ptr 1003 0]),(1001, .box 33 [I 0,S [],I 0,I 0,zS]),(1002, .arr 64 2 (mDg l4_5).length),(1003, .box 67 [.p (.sl 4 (mTk l4_2)),I l4_3,I l4_4, .tsl 2 (mDg l4_5) 1002])] [.ptr 1000 0, .ptr 1001 0] [(1000,1000),(1001,1001),(1002,1002),(1003,1003)] [] [] krf Tryd.func45 rfl Tryd.ntmps45 rfl krf krf krf (sG (xR 1 krf ?_))))))
       refine xs_heapE [(1000,1003),(1103,1002)] [] [] krf (g_p_reader_item_ok n (⟨l4_2,l4_3,l4_4,l4_5⟩:GPr)) krf krf krf (fun _=>by kernel_rfl) (fun _=>by kernel_rfl) (fun _=>by kernel_rfl) (fun _=>by kernel_rfl) (fun r9=>?_) (fun e10=>?_)
       ·refine xR 1 krf (xE (iq_n (.id) [1000,1001,1002,1003] [] (.tup []) krf krf (kr0 (xE (sN ⟨[4,5],[1000,1001,1002,1003,1900,1901,1902],[],[]⟩ ⟨[(4, .ptr 1901 0),(5, .ptr 1902 0)],[(1000, .box 65 [.ptr 1003 0]),(1001, .box 33 (bxc (GNode.cs r9.1))),(1002, .arr 64 2 (mDg r9.2.diags).length),(1003, .box 67 [.p (.sl 4 (mTk r9.2.tokens)),I r9.2.pos,I r9.2.length, .tsl 2 (mDg r9.2.diags) 1002]),(1900, .box 65 [.ptr 1003 0]),(1901, .box 4 [B false]),(1902, .box 9 [S []])]⟩ krf (sR Tryd.fm ⟨[4,5],[1000,1001,1002,1003,1900,1901,1902],[],[]⟩ ⟨[(4, .ptr 1901 0),(5, .ptr 1902 0)],[(1000, .box 65 [.ptr 1003 0]),(1001, .box 33 (bxc (GNode.cs r9.1))),(1002, .arr 64 2 (mDg r9.2.diags).length),(1003, .box 67 [.p (.sl 4 (mTk r9.2.tokens)),I r9.2.pos,I r9.2.length, .tsl 2 (mDg r9.2.diags) 1002]),(1900, .box 65 [.ptr 1003 0]),(1901, .box 4 [B true]),(1902, .box 9 [S []])]⟩ krf (sT ?_)))))))
        refine dI_end (⟨Tryd.f51,_,_,_,6,3,_,_,Tryd.func51,rfl,rfl,rfl,rfl,rfl,rfl,rfl,by decide,by decide⟩:Recoverer Tryd.prog 51) [(1000,1002),(1001,1003),(1002,1900),(1003,1901),(1004,1902)] [(1000, .arr 64 2 (mDg r9.2.diags).length),(1001, .box 67 [.p (.sl 4 (mTk r9.2.tokens)),I r9.2.pos,I r9.2.length, .tsl 2 (mDg r9.2.diags) 1000]),(1002, .box 65 [.ptr 1001 0]),(1003, .box 4 [B true]),(1004, .box 9 [S []])] (.p (.val (.nilIface))) [.ptr 1002 0, .ptr 1003 0, .ptr 1004 0] [] rfl krf krf krf krf ?_
        refine sS (sR Tryd.fm ⟨[0,1,2,3,8],[1000,1001,1002,1003,1004],[],[]⟩ ⟨[(0, .ptr 1002 0),(1, .ptr 1003 0),(2, .ptr 1004 0),(3, .p (.val (.nilIface))),(8,B true)],[(1000, .arr 64 2 (mDg r9.2.diags).length),(1001, .box 67 [.p (.sl 4 (mTk r9.2.tokens)),I r9.2.pos,I r9.2.length, .tsl 2 (mDg r9.2.diags) 1000]),(1002, .box 65 [.ptr 1001 0]),(1003, .box 4 [B true]),(1004, .box 9 [S []])]⟩ krf (sim_condT krf (sT (sq_r (cl_ret [1000,1001,1002,1003,1004] [] krf krf (iq_ret (.id) [1000,1001,1002,1003] [] (.tup [B true,S []]) krf krf (kr0 ?_)))))))
        refine xR 5 krf (xE ?_)
        exact nq_n (true,r9.2.tokens,r9.2.pos,r9.2.length,r9.2.diags,r9.1.Kind,r9.1.Name,r9.1.N,r9.1.At,r9.1.Kids) ⟨[1,3,4,5],[1,4,32,600,1000],[],[]⟩ krf
       ·refine iq_p [1000,1001,1002,1003] [] krf (sq_p ?_)
        refine dI_end (⟨Tryd.f51,_,_,_,6,3,_,_,Tryd.func51,rfl,rfl,rfl,rfl,rfl,rfl,rfl,by decide,by decide⟩:Recoverer Tryd.prog 51) [(1000,1002),(1001,1003),(1002,1900),(1003,1901),(1004,1902)] [(1000, .arr 64 2 (mDg e10.2.diags).length),(1001, .box 67 [.p (.sl 4 (mTk e10.2.tokens)),I e10.2.pos,I e10.2.length, .tsl 2 (mDg e10.2.diags) 1000]),(1002, .box 65 [.ptr 1001 0]),(1003, .box 4 [B false]),(1004, .box 9 [S []])] (.ifc 88 (.agg [I e10.1])) [.ptr 1002 0, .ptr 1003 0, .ptr 1004 0] [] rfl krf krf krf krf ?_
        refine sS (sR Tryd.fm ⟨[0,1,2,3,8],[1000,1001,1002,1003,1004],[],[]⟩ ⟨[(0, .ptr 1002 0),(1, .ptr 1003 0),(2, .ptr 1004 0),(3, .ifc 88 (.agg [I e10.1])),(8,B false)],[(1000, .arr 64 2 (mDg e10.2.diags).length),(1001, .box 67 [.p (.sl 4 (mTk e10.2.tokens)),I e10.2.pos,I e10.2.length, .tsl 2 (mDg e10.2.diags) 1000]),(1002, .box 65 [.ptr 1001 0]),(1003, .box 4 [B false]),(1004, .box 9 [S []])]⟩ krf (sim_condF krf (sK (sN ⟨[0,1,2,3],[1000,1001,1002,1003,1004],[],[]⟩ ⟨[(0, .ptr 1002 0),(1, .ptr 1003 0),(2, .ptr 1004 0),(3, .ifc 88 (.agg [I e10.1]))],[(1000, .arr 64 2 (mDg e10.2.diags).length),(1001, .box 67 [.p (.sl 4 (mTk e10.2.tokens)),I e10.2.pos,I e10.2.length, .tsl 2 (mDg e10.2.diags) 1000]),(1002, .box 65 [.ptr 1001 0]),(1003, .box 4 [B false]),(1004, .box 9 [S []])]⟩ krf (sR Tryd.fm ⟨[0,1,2,3,4,5],[4,1000,1001,1002,1003,1004],[],[]⟩ ⟨[(0, .ptr 1002 0),(1, .ptr 1003 0),(2, .ptr 1004 0),(3, .ifc 88 (.agg [I e10.1])),(4, .ptr 4 0),(5,B true)],[(4, .box 88 [I e10.1]),(1000, .arr 64 2 (mDg e10.2.diags).length),(1001, .box 67 [.p (.sl 4 (mTk e10.2.tokens)),I e10.2.pos,I e10.2.length, .tsl 2 (mDg e10.2.diags) 1000]),(1002, .box 65 [.ptr 1001 0]),(1003, .box 4 [B false]),(1004, .box 9 [S []])]⟩ krf (sS (sR Tryd.fm ⟨[0,1,2,3,4,15],[4,1000,1001,1002,1003,1004],[],[]⟩ ⟨[(0, .ptr 1002 0),(1, .ptr 1003 0),(2, .ptr 1004 0),(3, .ifc 88 (.agg [I e10.1])),(4, .ptr 4 0),(15,B false)],[(4, .box 88 [I e10.1]),(1000, .arr 64 2 (mDg e10.2.diags).length),(1001, .box 67 [.p (.sl 4 (mTk e10.2.tokens)),I e10.2.pos,I e10.2.length, .tsl 2 (mDg e10.2.diags) 1000]),(1002, .box 65 [.ptr 1001 0]),(1003, .box 4 [B false]),(1004, .box 9 [S []])]⟩ krf ?_)))))))
        refine sim_condF krf (sK (sN ⟨[0,1,2,4],[4,1000,1001,1002,1003,1004],[],[]⟩ ⟨[(0, .ptr 1002 0),(1, .ptr 1003 0),(2, .ptr 1004 0),(4, .ptr 4 0)],[(4, .box 88 [I e10.1]),(1000, .arr 64 2 (mDg e10.2.diags).length),(1001, .box 67 [.p (.sl 4 (mTk e10.2.tokens)),I e10.2.pos,I e10.2.length, .tsl 2 (mDg e10.2.diags) 1000]),(1002, .box 65 [.ptr 1001 0]),(1003, .box 4 [B false]),(1004, .box 9 [S []])]⟩ krf (sS (sim_drw Tryd.fm rfl (xR 9 krf (xF krf krf (aop_app (e:=64) (S:=2) (by_:=16) (enc:=GDg.cs) (tk:=1000) (l:=e10.2.diags) (l2:=[(⟨7,e10.1⟩:GDg)]) (xv:=.tsl 2 (mDg [(⟨7,e10.1⟩:GDg)]) 25) rfl krf krf rfl krf krf krf rfl krf) (xR 3 krf ?_)))))))
        refine xs_endD krf (sN ⟨[0,1,2],[1000,1001,1002,1003,1004],[],[]⟩ ⟨[(0, .ptr 1002 0),(1, .ptr 1003 0),(2, .ptr 1004 0)],[(1000, .arr 64 2 (mDg (e10.2.diags++[(⟨7,e10.1⟩:GDg)])).length),(1001, .box 67 [.p (.sl 4 (mTk e10.2.tokens)),I e10.2.pos,I e10.2.length, .tsl 2 (mDg (e10.2.diags++[(⟨7,e10.1⟩:GDg)])) 1000]),(1002, .box 65 [.ptr 1001 0]),(1003, .box 4 [B false]),(1004, .box 9 [S []])]⟩ krf (sG (xR 1 krf (xs_enter (f:=52) (args:=[.ptr 1001 0]) krf krf krf ?_))))
        refine sc_hold 1001 3 1000 64 2 (mDg (e10.2.diags++[(⟨7,e10.1⟩:GDg)])).length (mDg (e10.2.diags++[(⟨7,e10.1⟩:GDg)])) ⟨[0,1,2,29],[1001,1002,1003,1004],[],[]⟩ krf krf rfl (fun _ _ _=>by kernel_rfl) (fun hu11w hu11l hu11c=>?_)
        refine sc_heap [(1000,1001)] [] [] (g_p_reader_skip_ok n (⟨e10.2.tokens,e10.2.pos,e10.2.length,[]⟩:GPr) hu11w hu11l hu11c) krf krf krf (fun _=>by kernel_rfl) (fun _=>by kernel_rfl) (fun r11=>?_)
        refine k_hold _ rfl krf krf (kr0 (xR 2 krf (xE (cl_n [1000,1001,1002,1003,1004] [] krf krf (iq_ret (.id) [1000,1001,1002,1003] [] (.tup [B false,S r11.1]) krf krf (kr0 (xR 5 krf ?_)))))))
        refine xE ?_
        exact nq_n (false,r11.2.tokens,r11.2.pos,r11.2.length,e10.2.diags++[(⟨7,e10.1⟩:GDg)],0,[],0,0,[]) ⟨[1,3,4,5],[1,4,32,600,1000],[],[(4,[.id, .id, .id, .id, .sl 5])]⟩ krf
      ·rintro ⟨j8_1,j8_2,j8_3,j8_4,j8_5,j8_6,j8_7,j8_8,j8_9,j8_10⟩
       refine sR Tryd.fm ⟨[1,3,4,28],[1,4,32,600,1000],[],[]⟩ ⟨[(1, .ptr 1 0),(3, .tsl 5 (mI l4_1) 32),(4, .ptr 4 0),(28,B j8_1)],[(1, .box 65 [.ptr 1000 0]),(4, .box 33 (bxc (GNode.cs ⟨j8_6,j8_7,j8_8,j8_9,j8_10⟩))),(32, .arr 33 5 (mI l4_1).length),(600, .arr 64 2 (mDg j8_5).length),(1000, .box 67 [.p (.sl 4 (mTk j8_2)),I j8_3,I j8_4, .tsl 2 (mDg j8_5) 600])]⟩ krf (sC j8_1 krf ?_ ?_)
       ·refine sG (xR 3 krf (xF krf krf (aop_app (e:=33) (S:=5) (by_:=64) (enc:=idc) (tk:=32) (l:=l4_1) (l2:=[GNode.cs (⟨j8_6,j8_7,j8_8,j8_9,j8_10⟩:GNode)]) (xv:=.tsl 5 (mI [GNode.cs (⟨j8_6,j8_7,j8_8,j8_9,j8_10⟩:GNode)]) 31) rfl krf krf rfl krf krf krf rfl krf) (xR 1 krf (xE (bq_n ?_)))))
        exact kq_n (l4_1++[GNode.cs (⟨j8_6,j8_7,j8_8,j8_9,j8_10⟩:GNode)],j8_2,j8_3,j8_4,j8_5) ⟨[1,3],[1,32,600,1000],[],[]⟩ krf
       ·refine sK (bq_n ?_)
        exact kq_n (l4_1,j8_2,j8_3,j8_4,j8_5) ⟨[1,3],[1,32,600,1000],[],[]⟩ krf
     ·refine sim_exit (sq_x (kq_x (bq_hit ?_)))
      exact nq_n (l4_1,l4_2,l4_3,l4_4,l4_5) ⟨[3],[32,600,1000],[],[]⟩ krf
   ·rintro ⟨j3_1,j3_2,j3_3,j3_4,j3_5⟩
    refine sR Tryd.fm ⟨[2],[32,600,1000],[],[]⟩ ⟨[(2, .tsl 5 (mI j3_1) 32)],[(32, .arr 33 5 (mI j3_1).length),(600, .arr 64 2 (mDg j3_5).length),(1000, .box 67 [.p (.sl 4 (mTk j3_2)),I j3_3,I j3_4, .tsl 2 (mDg j3_5) 600])]⟩ krf (sT (iq_ret (.sl 5) [600,1000] [] (.p (.sl 5 (mI j3_1))) krf krf (kh [0,1] krf (lates_cons (late_read (.ptr 11 4) krf rfl) (lates_cons (late_tsl (S:=5) (t:=600) (ty:=33) (es:=mI []) krf krf rfl) (lates_nil))) krf (h_if [] rfl krf krf (aop_appL (e:=33) (S:=5) (by_:=64) (enc:=idc) (tk:=600) (l:=[]) (l2:=j3_1) (xv:=.p (.sl 5 (mI j3_1))) rfl krf krf rfl krf krf krf krf) (fun _=>lates_nil) (h_op [] krf krf (lates_nil) (h_op [] krf krf (lates_nil) (h_end ?_)))))))
    refine bq_n (sN ⟨[10,11,20,21,22],[10,11,600,637,1000,1001],[],[]⟩ ⟨[(10, .ptr 10 0),(11, .ptr 11 0),(20, .bsl 1001 1),(21,I 1),(22,I 0)],[(10, .box 33 [I 0,S [],I 0,I 0,zS]),(11, .box 33 [I 1,S [],I 0,I 0, .tsl 5 (mI ([]++j3_1)) 600]),(600, .arr 33 5 (mI ([]++j3_1)).length),(637, .arr 64 2 (mDg j3_5).length),(1000, .box 67 [.p (.sl 4 (mTk j3_2)),I j3_3,I j3_4, .tsl 2 (mDg j3_5) 637]),(1001, .box 69 [.fn (.func 27) [.ptr 1000 0] []])]⟩ krf (sL Tryd.fm krf (ru_n ⟨[10,11,20,21,22],[10,11,600,637,1000,1001],[],[]⟩ ⟨[(10, .ptr 10 0),(11, .ptr 11 0),(20, .bsl 1001 1),(21,I 1),(22,I 1)],[(10, .box 33 [I 0,S [],I 0,I 0,zS]),(11, .box 33 [I 1,S [],I 0,I 0, .tsl 5 (mI ([]++j3_1)) 600]),(600, .arr 33 5 (mI ([]++j3_1)).length),(637, .arr 64 2 (mDg j3_5).length),(1000, .box 67 [.p (.sl 4 (mTk j3_2)),I j3_3,I j3_4, .tsl 2 (mDg j3_5) 637]),(1001, .box 69 [.fn (.func 27) [.ptr 1000 0] []])]⟩ krf (sR Tryd.fm ⟨[10,11,20,21,22,23],[10,11,600,637,1000,1001],[],[]⟩ ⟨[(10, .ptr 10 0),(11, .ptr 11 0),(20, .bsl 1001 1),(21,I 1),(22,I 1),(23,B false)],[(10, .box 33 [I 0,S [],I 0,I 0,zS]),(11, .box 33 [I 1,S [],I 0,I 0, .tsl 5 (mI ([]++j3_1)) 600]),(600, .arr 33 5 (mI ([]++j3_1)).length),(637, .arr 64 2 (mDg j3_5).length),(1000, .box 67 [.p (.sl 4 (mTk j3_2)),I j3_3,I j3_4, .tsl 2 (mDg j3_5) 637]),(1001, .box 69 [.fn (.func 27) [.ptr 1000 0] []])]⟩ krf (sS (sim_condF krf (sim_exit ?_)))))))
    refine sq_x (ru_x (bq_hit ?_))
    exact nq_n ([]++j3_1,j3_2,j3_3,j3_4,j3_5) ⟨[10,11],[10,11,600,637,1000,1001],[],[]⟩ krf
  ·rintro ⟨j2_1,j2_2,j2_3,j2_4,j2_5⟩
   refine sR Tryd.fm ⟨[10],[10,600,637,1000,1001],[],[]⟩ ⟨[(10, .ptr 10 0)],[(10, .box 33 [I 1,S [],I 0,I 0, .tsl 5 (mI j2_1) 600]),(600, .arr 33 5 (mI j2_1).length),(637, .arr 64 2 (mDg j2_5).length),(1000, .box 67 [.p (.sl 4 (mTk j2_2)),I j2_3,I j2_4, .tsl 2 (mDg j2_5) 637]),(1001, .box 69 [.fn (.func 27) [.ptr 1000 0] []])]⟩ krf (sT (iq_ret (.agg [.id, .id, .id, .id, .sl 5]) [637,1000,1001] [] (.agg [I 1,S [],I 0,I 0, .p (.sl 5 (mI j2_1))]) krf krf (kr0 (xR 2 krf (xE (sN ⟨[2,7,8],[2,8,26,637],[],[]⟩ ⟨[(2, .ptr 2 0),(7, .ptr 26 0),(8, .ptr 8 0)],[(2, .box 33 [I 0,S [],I 0,I 0,zS]),(8, .box 33 (bxc (GNode.cs ⟨1,[],0,0,j2_1⟩))),(26, .box 67 [.p (.sl 4 (mTk j2_2)),I j2_3,I j2_4, .tsl 2 (mDg j2_5) 637]),(637, .arr 64 2 (mDg j2_5).length)]⟩ krf (sS ?_)))))))
   refine sR Tryd.fm ⟨[2,7,8,37],[2,8,26,637],[],[]⟩ ⟨[(2, .ptr 2 0),(7, .ptr 26 0),(8, .ptr 8 0),(37,B (ltI 0 (lenI (mDg j2_5))))],[(2, .box 33 [I 0,S [],I 0,I 0,zS]),(8, .box 33 (bxc (GNode.cs ⟨1,[],0,0,j2_1⟩))),(26, .box 67 [.p (.sl 4 (mTk j2_2)),I j2_3,I j2_4, .tsl 2 (mDg j2_5) 637]),(637, .arr 64 2 (mDg j2_5).length)]⟩ krf (sC (ltI 0 (lenI (mDg j2_5))) krf ?_ ?_)
   ·refine sR Tryd.fm ⟨[2,3],[2,637],[],[]⟩ ⟨[(2, .ptr 2 0),(3, .tsl 2 (mDg j2_5) 637)],[(2, .box 33 [I 0,S [],I 0,I 0,zS]),(637, .arr 64 2 (mDg j2_5).length)]⟩ krf (sT (sq_r ?_))
    exact qR (.agg [.agg [.id, .id, .id, .id, .sl 5], .sl 2]) krf krf krf
   ·refine sK (sN ⟨[2,8],[2,8],[],[]⟩ ⟨[(2, .ptr 2 0),(8, .ptr 8 0)],[(2, .box 33 [I 0,S [],I 0,I 0,zS]),(8, .box 33 (bxc (GNode.cs ⟨1,[],0,0,j2_1⟩)))]⟩ krf (sS (sS (sG (xR 1 krf ?_)))))
    refine xC [] krf (g_p_count_ok n (⟨1,[],0,0,j2_1⟩:GNode) 1500) krf krf (fun _=>by kernel_rfl) (fun r12=>?_)
    refine xR 1 krf (xE (sN ⟨[2,8,45],[2,8],[],[]⟩ ⟨[(2, .ptr 2 0),(8, .ptr 8 0),(45,B (ltI 1500 r12))],[(2, .box 33 [I 0,S [],I 0,I 0,zS]),(8, .box 33 (bxc (GNode.cs ⟨1,[],0,0,j2_1⟩)))]⟩ krf (sC (ltI 1500 r12) krf ?_ ?_)))
    ·refine sR Tryd.fm ⟨[2,3],[2,48],[],[]⟩ ⟨[(2, .ptr 2 0),(3, .tsl 2 (mDg [(⟨2,0⟩:GDg)]) 48)],[(2, .box 33 [I 0,S [],I 0,I 0,zS]),(48, .arr 64 2 (mDg [(⟨2,0⟩:GDg)]).length)]⟩ krf (sT (sq_r ?_))
     exact qR (.agg [.agg [.id, .id, .id, .id, .sl 5], .sl 2]) krf krf krf
    ·refine sK (sN ⟨[2,8],[2,8],[],[]⟩ ⟨[(2, .ptr 2 0),(8, .ptr 8 0)],[(2, .box 33 [I 0,S [],I 0,I 0,zS]),(8, .box 33 (bxc (GNode.cs ⟨1,[],0,0,j2_1⟩)))]⟩ krf (sR Tryd.fm ⟨[2,3],[2],[],[]⟩ ⟨[(2, .ptr 2 0),(3,zS)],[(2, .box 33 (bxc (GNode.cs ⟨1,[],0,0,j2_1⟩)))]⟩ krf (sT ?_)))
     exact qR (.agg [.id, .sl 2]) krf krf krf
def g_p_goodWord_l7 (a0text:List UInt8) (recl7:Int→Option Bool) (l7:Int):Option Bool :=
 cond (ltI l7 (lenI a0text))
  ((getI a0text l7).bind fun x8 =>
  (cond (leI 97 (b2i x8))
   (cond (leI (b2i x8) 122)
    (some false)
    (cond (leI 48 (b2i x8))
     (cond (leI (b2i x8) 57)
      (some false)
      (some (!(eqI (b2i x8) 95))))
     (some (!(eqI (b2i x8) 95)))))
   (cond (leI 48 (b2i x8))
    (cond (leI (b2i x8) 57)
     (some false)
     (some (!(eqI (b2i x8) 95))))
    (some (!(eqI (b2i x8) 95))))).bind fun j9 =>
  cond j9
   (some false)
   (recl7 (wi (l7+1))))
  (some true)
def g_p_goodWord (n:Nat) (a0text:List UInt8):Option Bool :=
 (cond (ltI (lenI a0text) 1)
  (some true)
  (cond (ltI 12 (lenI a0text))
   (some true)
   ((getI a0text 0).bind fun x4 =>
   cond (ltI (b2i x4) 97)
    (some true)
    ((getI a0text 0).bind fun x6 =>
    some (ltI 122 (b2i x6)))))).bind fun j1 =>
 cond j1
  (some false)
  (loopN (fun recl7 l7=>g_p_goodWord_l7 a0text recl7 l7) n 1)
theorem g_p_goodWord_ok (n:Nat) (a0text:List UInt8):∀ r,g_p_goodWord n a0text=some r→PCall Tryd.prog 63 [S a0text] (.ret (B r)):=by
 refine pcall_sim (X:=fun r:Bool=>AEnd.ret (B r)) Tryd.func63 rfl Tryd.ntmps63 rfl ?_
 unfold g_p_goodWord
 refine sR Tryd.fm ⟨[0],[],[],[]⟩ ⟨[(0,S a0text)],[]⟩ krf (sS (sim_bind (fun j1=>⟨[(0,S a0text),(22,B j1)],[]⟩:Bool→St) ?_ ?_))
 ·refine sG (xR 4 krf ?_)
  refine xS (ltI (lenI a0text) 1) (fun h2=>?_) (fun h2=>?_)
  ·refine xN (want_ft krf h2) krf (xR 13 krf (xE ?_))
   exact nq_n true ⟨[0,22],[],[],[]⟩ krf
  ·refine xO (want_ff krf h2) krf (xR 4 krf ?_)
   refine xS (ltI 12 (lenI a0text)) (fun h3=>?_) (fun h3=>?_)
   ·refine xN (want_ft krf h3) krf (xR 8 krf (xE ?_))
    exact nq_n true ⟨[0,22],[],[],[]⟩ krf
   ·refine xO (want_ff krf h3) krf ?_
    refine xG krf krf (aop_sidx (l:=a0text) (k:=.i64) (n:=0) rfl krf krf krf) (fun x4=>?_)
    refine xR 3 krf ?_
    refine xS (ltI (b2i x4) 97) (fun h5=>?_) (fun h5=>?_)
    ·refine xN (want_ft krf h5) krf (xR 3 krf (xE ?_))
     exact nq_n true ⟨[0,22],[],[],[]⟩ krf
    ·refine xO (want_ff krf h5) krf ?_
     refine xG krf krf (aop_sidx (l:=a0text) (k:=.i64) (n:=0) rfl krf krf krf) (fun x6=>?_)
     refine xR 2 krf (xE ?_)
     exact nq_n (ltI 122 (b2i x6)) ⟨[0,22],[],[],[]⟩ krf
 ·rintro j1
  refine sC j1 krf ?_ ?_
  ·refine sR Tryd.fm ⟨[2],[],[],[]⟩ ⟨[(2,B false)],[]⟩ krf (sT (sq_r ?_))
   exact qR (.id) krf krf krf
  ·refine sK (sN ⟨[0],[],[],[]⟩ ⟨[(0,S a0text)],[]⟩ krf (sS (sR Tryd.fm ⟨[0,3],[],[],[]⟩ ⟨[(0,S a0text),(3,I 1)],[]⟩ krf (sB (sim_loop (fun l7=>⟨[(0,S a0text),(3,I l7)],[]⟩:Int→St) (weak_shr (K:=⟨[0,3],[],[],[]⟩) krf) ?_)))))
   rintro recl7 l7
   show SimE (g_p_goodWord_l7 a0text recl7 l7) _ _ _ _ _ _
   unfold g_p_goodWord_l7
   refine sS (sR Tryd.fm ⟨[0,3,26],[],[],[]⟩ ⟨[(0,S a0text),(3,I l7),(26,B (ltI l7 (lenI a0text)))],[]⟩ krf (sC (ltI l7 (lenI a0text)) krf ?_ ?_))
   ·refine sK (sN ⟨[0,3],[],[],[]⟩ ⟨[(0,S a0text),(3,I l7)],[]⟩ krf (sS (sB (sS (sG (xR 2 krf ?_))))))
    refine xG krf krf (aop_sidx (l:=a0text) (k:=.i64) (n:=l7) rfl krf krf krf) (fun x8=>?_)
    refine xR 1 krf (xE (sN ⟨[0,3,4],[],[],[]⟩ ⟨[(0,S a0text),(3,I l7),(4,B8 (b2i x8))],[]⟩ krf (sim_bind (fun j9=>⟨[(0,S a0text),(3,I l7),(50,B j9)],[]⟩:Bool→St) ?_ ?_)))
    ·refine sG (xR 3 krf ?_)
     refine xS (leI 97 (b2i x8)) (fun h10=>?_) (fun h10=>?_)
     ·refine xO (want_tt krf h10) krf (xR 3 krf ?_)
      refine xS (leI (b2i x8) 122) (fun h11=>?_) (fun h11=>?_)
      ·refine xN (want_ft krf h11) krf (xR 11 krf (xE ?_))
       exact nq_n false ⟨[0,3,50],[],[],[]⟩ krf
      ·refine xO (want_ff krf h11) krf (xR 2 krf ?_)
       refine xS (leI 48 (b2i x8)) (fun h12=>?_) (fun h12=>?_)
       ·refine xO (want_tt krf h12) krf (xR 4 krf ?_)
        refine xS (leI (b2i x8) 57) (fun h13=>?_) (fun h13=>?_)
        ·refine xN (want_ft krf h13) krf (xR 3 krf (xE ?_))
         exact nq_n false ⟨[0,3,50],[],[],[]⟩ krf
        ·refine xO (want_ff krf h13) krf (xR 3 krf (xE ?_))
         exact nq_n (!(eqI (b2i x8) 95)) ⟨[0,3,50],[],[],[]⟩ krf
       ·refine xN (want_tf krf h12) krf (xR 8 krf (xE ?_))
        exact nq_n (!(eqI (b2i x8) 95)) ⟨[0,3,50],[],[],[]⟩ krf
     ·refine xN (want_tf krf h10) krf (xR 6 krf ?_)
      refine xS (leI 48 (b2i x8)) (fun h14=>?_) (fun h14=>?_)
      ·refine xO (want_tt krf h14) krf (xR 4 krf ?_)
       refine xS (leI (b2i x8) 57) (fun h15=>?_) (fun h15=>?_)
       ·refine xN (want_ft krf h15) krf (xR 3 krf (xE ?_))
        exact nq_n false ⟨[0,3,50],[],[],[]⟩ krf
       ·refine xO (want_ff krf h15) krf (xR 3 krf (xE ?_))
        exact nq_n (!(eqI (b2i x8) 95)) ⟨[0,3,50],[],[],[]⟩ krf
      ·refine xN (want_tf krf h14) krf (xR 8 krf (xE ?_))
       exact nq_n (!(eqI (b2i x8) 95)) ⟨[0,3,50],[],[],[]⟩ krf
    ·rintro j9
     refine sC j9 krf ?_ ?_
     ·refine sR Tryd.fm ⟨[2],[],[],[]⟩ ⟨[(2,B false)],[]⟩ krf (sT (bq_r (sq_r (kq_r (bq_r (sq_r ?_))))))
      exact qR (.id) krf krf krf
     ·refine sK (bq_n (sN ⟨[0,3],[],[],[]⟩ ⟨[(0,S a0text),(3,I l7)],[]⟩ krf (sL Tryd.fm krf ?_)))
      exact kq_n (wi (l7+1)) ⟨[0,3],[],[],[]⟩ krf
   ·refine sim_exit (sq_x (kq_x (bq_hit (sN ⟨[],[],[],[]⟩ ⟨[],[]⟩ krf (sR Tryd.fm ⟨[2],[],[],[]⟩ ⟨[(2,B true)],[]⟩ krf (sT ?_))))))
    exact qR (.id) krf krf krf
def g_p_goodName (n:Nat) (a0text:List UInt8):Option Bool :=
 (g_p_goodWord n a0text).bind fun r1 =>
 cond r1
  ((g_p_isKey n a0text).bind fun r3 =>
  some (!r3))
  (some false)
theorem g_p_goodName_ok (n:Nat) (a0text:List UInt8):∀ r,g_p_goodName n a0text=some r→PCall Tryd.prog 47 [S a0text] (.ret (B r)):=by
 refine pcall_sim (X:=fun r:Bool=>AEnd.ret (B r)) Tryd.func47 rfl Tryd.ntmps47 rfl ?_
 unfold g_p_goodName
 refine sR Tryd.fm ⟨[0],[],[],[]⟩ ⟨[(0,S a0text)],[]⟩ krf (sS (sG (xR 1 krf ?_)))
 refine xC [] krf (g_p_goodWord_ok n a0text) krf krf (fun _=>by kernel_rfl) (fun r1=>?_)
 refine xR 1 krf ?_
 refine xS r1 (fun h2=>?_) (fun h2=>?_)
 ·refine xO (want_tt krf h2) krf ?_
  refine xC [] krf (g_p_isKey_ok n a0text) krf krf (fun _=>by kernel_rfl) (fun r3=>?_)
  refine xR 3 krf (xE (sN ⟨[2],[],[],[]⟩ ⟨[(2,B (!r3))],[]⟩ krf (sT ?_)))
  exact qR (.id) krf krf krf
 ·refine xN (want_tf krf h2) krf (xR 4 krf (xE (sN ⟨[2],[],[],[]⟩ ⟨[(2,B false)],[]⟩ krf (sT ?_))))
  exact qR (.id) krf krf krf
def g_p_validValue (n:Nat) (a0n:GNode) (a1words:Bool):Option Bool :=
 cond (!eqI (lenI (List.map idc a0n.Kids)) 0)
  (some false)
  (cond (eqI a0n.Kind 5)
   (cond (eqI a0n.N 0)
    ((g_p_goodName n a0n.Name).bind fun r2 =>
    cond r2
     (some true)
     (cond a1words
      ((g_p_isWord n a0n.Name).bind fun r5 =>
      some r5)
      (some false)))
    (some false))
   (cond (eqI a0n.Kind 6)
    (cond (eqS a0n.Name [])
     (cond (leI 0 a0n.N)
      (some (leI a0n.N 1000000))
      (some false))
     (some false))
    (some false)))
theorem g_p_validValue_ok (n:Nat) (a0n:GNode) (a1words:Bool):∀ r,g_p_validValue n a0n a1words=some r→PCall Tryd.prog 67 [ag (GNode.cs a0n),B a1words] (.ret (B r)):=by
 refine pcall_sim (X:=fun r:Bool=>AEnd.ret (B r)) Tryd.func67 rfl Tryd.ntmps67 rfl ?_
 unfold g_p_validValue
 refine sR Tryd.fm ⟨[1,2],[2],[],[]⟩ ⟨[(1,B a1words),(2, .ptr 2 0)],[(2, .box 33 (bxc (GNode.cs a0n)))]⟩ krf (sS (sR Tryd.fm ⟨[1,2,8],[2],[],[]⟩ ⟨[(1,B a1words),(2, .ptr 2 0),(8,B (!eqI (lenI (mI a0n.Kids)) 0))],[(2, .box 33 (bxc (GNode.cs a0n)))]⟩ krf (sC (!eqI (lenI (mI a0n.Kids)) 0) krf ?_ ?_)))
 ·refine sR Tryd.fm ⟨[4],[],[],[]⟩ ⟨[(4,B false)],[]⟩ krf (sT (sq_r ?_))
  exact qR (.id) krf krf krf
 ·refine sK (sN ⟨[1,2],[2],[],[]⟩ ⟨[(1,B a1words),(2, .ptr 2 0)],[(2, .box 33 (bxc (GNode.cs a0n)))]⟩ krf (sS (sR Tryd.fm ⟨[1,2,10],[2],[],[]⟩ ⟨[(1,B a1words),(2, .ptr 2 0),(10,I a0n.Kind)],[(2, .box 33 (bxc (GNode.cs a0n)))]⟩ krf (sB (sR Tryd.fm ⟨[1,2,10,11],[2],[],[]⟩ ⟨[(1,B a1words),(2, .ptr 2 0),(10,I a0n.Kind),(11,B (eqI a0n.Kind 5))],[(2, .box 33 (bxc (GNode.cs a0n)))]⟩ krf (sC (eqI a0n.Kind 5) krf ?_ ?_))))))
  ·refine sS (sG (xR 4 krf ?_))
   refine xS (eqI a0n.N 0) (fun h1=>?_) (fun h1=>?_)
   ·refine xO (want_tt krf h1) krf (xR 1 krf ?_)
    refine xC [] krf (g_p_goodName_ok n a0n.Name) krf krf (fun _=>by kernel_rfl) (fun r2=>?_)
    refine xR 1 krf ?_
    refine xS r2 (fun h3=>?_) (fun h3=>?_)
    ·refine xN (want_ft krf h3) krf (xR 8 krf (xE (sN ⟨[4],[],[],[]⟩ ⟨[(4,B true)],[]⟩ krf (sT (bq_r (sq_r ?_))))))
     exact qR (.id) krf krf krf
    ·refine xO (want_ff krf h3) krf (xR 1 krf ?_)
     refine xS a1words (fun h4=>?_) (fun h4=>?_)
     ·refine xO (want_tt krf h4) krf (xR 1 krf ?_)
      refine xC [] krf (g_p_isWord_ok n a0n.Name) krf krf (fun _=>by kernel_rfl) (fun r5=>?_)
      refine xR 4 krf (xE (sN ⟨[4],[],[],[]⟩ ⟨[(4,B r5)],[]⟩ krf (sT (bq_r (sq_r ?_)))))
      exact qR (.id) krf krf krf
     ·refine xN (want_tf krf h4) krf (xR 6 krf (xE (sN ⟨[4],[],[],[]⟩ ⟨[(4,B false)],[]⟩ krf (sT (bq_r (sq_r ?_))))))
      exact qR (.id) krf krf krf
   ·refine xN (want_tf krf h1) krf (xR 12 krf (xE (sN ⟨[4],[],[],[]⟩ ⟨[(4,B false)],[]⟩ krf (sT (bq_r (sq_r ?_))))))
    exact qR (.id) krf krf krf
  ·refine sR Tryd.fm ⟨[2,29],[2],[],[]⟩ ⟨[(2, .ptr 2 0),(29,B (eqI a0n.Kind 6))],[(2, .box 33 (bxc (GNode.cs a0n)))]⟩ krf (sC (eqI a0n.Kind 6) krf ?_ ?_)
   ·refine sS (sG (xR 4 krf ?_))
    refine xS (eqS a0n.Name []) (fun h6=>?_) (fun h6=>?_)
    ·refine xO (want_tt krf h6) krf (xR 4 krf ?_)
     refine xS (leI 0 a0n.N) (fun h7=>?_) (fun h7=>?_)
     ·refine xO (want_tt krf h7) krf (xR 4 krf (xE (sN ⟨[4],[],[],[]⟩ ⟨[(4,B (leI a0n.N 1000000))],[]⟩ krf (sT (bq_r (sq_r ?_))))))
      exact qR (.id) krf krf krf
     ·refine xN (want_tf krf h7) krf (xR 4 krf (xE (sN ⟨[4],[],[],[]⟩ ⟨[(4,B false)],[]⟩ krf (sT (bq_r (sq_r ?_))))))
      exact qR (.id) krf krf krf
    ·refine xN (want_tf krf h6) krf (xR 9 krf (xE (sN ⟨[4],[],[],[]⟩ ⟨[(4,B false)],[]⟩ krf (sT (bq_r (sq_r ?_))))))
     exact qR (.id) krf krf krf
   ·refine sK (bq_n (sN ⟨[],[],[],[]⟩ ⟨[],[]⟩ krf (sR Tryd.fm ⟨[4],[],[],[]⟩ ⟨[(4,B false)],[]⟩ krf (sT ?_))))
    exact qR (.id) krf krf krf
def g_p_validPart_l9 (n:Nat) (a0n:GNode) (a1left:Int) (recl9:Int→Option (Bool × Int)) (l9:Int):Option (Bool × Int) :=
 cond (ltI l9 (lenI (List.map idc a0n.Kids)))
  ((Option.bind (getI a0n.Kids l9) GNode.of).bind fun x10 =>
  (g_p_validValue n x10 (eqI a0n.Kind 4)).bind fun r11 =>
  cond (!r11)
   (some (false,wi (a1left - (lenI (List.map idc a0n.Kids)))))
   (recl9 (wi (l9+1))))
  (some (true,wi (a1left - (lenI (List.map idc a0n.Kids)))))
def g_p_validPart (n:Nat) (a0n:GNode) (a1left:Int):Option (Bool × Int) :=
 cond (!eqI a0n.N 0)
  (some (false,a1left))
  ((cond (eqI a0n.Kind 3)
   ((g_p_isAttr n a0n.Name).bind fun r3 =>
   some (!r3))
   (some false)).bind fun j1 =>
  cond j1
   (some (false,a1left))
   ((cond (eqI a0n.Kind 4)
    ((g_p_isArticle n a0n.Name).bind fun r6 =>
    some (!r6))
    (some false)).bind fun j4 =>
   cond j4
    (some (false,a1left))
    ((cond (!eqI a0n.Kind 3)
     (some (!eqI a0n.Kind 4))
     (some false)).bind fun j7 =>
    cond j7
     (some (false,a1left))
     (cond (ltI (wi (a1left - (lenI (List.map idc a0n.Kids)))) 0)
      (some (false,wi (a1left - (lenI (List.map idc a0n.Kids)))))
      (loopN (fun recl9 l9=>g_p_validPart_l9 n a0n a1left recl9 l9) n 0)))))
theorem g_p_validPart_ok (n:Nat) (a0n:GNode) (a1left:Int):∀ r,g_p_validPart n a0n a1left=some r→ACall Tryd.prog 48 [ag (GNode.cs a0n), .ptr 1001 0] (Go.Abs.look [(1001, .box 3 [I a1left])]) (heapR (fun r:Bool × Int=>((.ret (B r.1),[(1001, .box 3 [I r.2])]):AEnd × List (Nat × Blk))) r):=by
 refine acall_sim (X:=fun r:Bool × Int=>((.ret (B r.1),[(1001, .box 3 [I r.2])]):AEnd × List (Nat × Blk))) [(1001, .box 3 [I a1left])] Tryd.func48 rfl Tryd.ntmps48 rfl ?_
 unfold g_p_validPart
 refine sR Tryd.fm ⟨[1,2],[2,1001],[],[]⟩ ⟨[(1, .ptr 1001 0),(2, .ptr 2 0)],[(2, .box 33 (bxc (GNode.cs a0n))),(1001, .box 3 [I a1left])]⟩ krf (sR Tryd.fm ⟨[1,2,5],[2,1001],[],[]⟩ ⟨[(1, .ptr 1001 0),(2, .ptr 2 0),(5,B (eqI a0n.Kind 4))],[(2, .box 33 (bxc (GNode.cs a0n))),(1001, .box 3 [I a1left])]⟩ krf (sS (sB (sR Tryd.fm ⟨[1,2,5,11],[2,1001],[],[]⟩ ⟨[(1, .ptr 1001 0),(2, .ptr 2 0),(5,B (eqI a0n.Kind 4)),(11,B (!eqI a0n.N 0))],[(2, .box 33 (bxc (GNode.cs a0n))),(1001, .box 3 [I a1left])]⟩ krf (sC (!eqI a0n.N 0) krf ?_ ?_)))))
 ·refine sR Tryd.fm ⟨[4],[1001],[],[]⟩ ⟨[(4,B false)],[(1001, .box 3 [I a1left])]⟩ krf (sT (bq_r (sq_r ?_)))
  exact hq_ret (.id) [1001] [] krf krf krf krf
 ·refine sim_bind (fun j1=>⟨[(1, .ptr 1001 0),(2, .ptr 2 0),(5,B (eqI a0n.Kind 4)),(15,B j1)],[(2, .box 33 (bxc (GNode.cs a0n))),(1001, .box 3 [I a1left])]⟩:Bool→St) ?_ ?_
  ·refine sG (xR 4 krf ?_)
   refine xS (eqI a0n.Kind 3) (fun h2=>?_) (fun h2=>?_)
   ·refine xO (want_tt krf h2) krf (xR 1 krf ?_)
    refine xC [] krf (g_p_isAttr_ok n a0n.Name) krf krf (fun _=>by kernel_rfl) (fun r3=>?_)
    refine xR 3 krf (xE ?_)
    exact nq_n (!r3) ⟨[1,2,5,15],[2,1001],[],[]⟩ krf
   ·refine xN (want_tf krf h2) krf (xR 5 krf (xE ?_))
    exact nq_n false ⟨[1,2,5,15],[2,1001],[],[]⟩ krf
  ·rintro j1
   refine sC j1 krf ?_ ?_
   ·refine sR Tryd.fm ⟨[4],[1001],[],[]⟩ ⟨[(4,B false)],[(1001, .box 3 [I a1left])]⟩ krf (sT (bq_r (sq_r ?_)))
    exact hq_ret (.id) [1001] [] krf krf krf krf
   ·refine sim_bind (fun j4=>⟨[(1, .ptr 1001 0),(2, .ptr 2 0),(5,B (eqI a0n.Kind 4)),(25,B j4)],[(2, .box 33 (bxc (GNode.cs a0n))),(1001, .box 3 [I a1left])]⟩:Bool→St) ?_ ?_
    ·refine sG (xR 4 krf ?_)
     refine xS (eqI a0n.Kind 4) (fun h5=>?_) (fun h5=>?_)
     ·refine xO (want_tt krf h5) krf (xR 1 krf ?_)
      refine xC [] krf (g_p_isArticle_ok n a0n.Name) krf krf (fun _=>by kernel_rfl) (fun r6=>?_)
      refine xR 3 krf (xE ?_)
      exact nq_n (!r6) ⟨[1,2,5,25],[2,1001],[],[]⟩ krf
     ·refine xN (want_tf krf h5) krf (xR 5 krf (xE ?_))
      exact nq_n false ⟨[1,2,5,25],[2,1001],[],[]⟩ krf
    ·rintro j4
     refine sC j4 krf ?_ ?_
     ·refine sR Tryd.fm ⟨[4],[1001],[],[]⟩ ⟨[(4,B false)],[(1001, .box 3 [I a1left])]⟩ krf (sT (bq_r (sq_r ?_)))
      exact hq_ret (.id) [1001] [] krf krf krf krf
     ·refine sim_bind (fun j7=>⟨[(1, .ptr 1001 0),(2, .ptr 2 0),(5,B (eqI a0n.Kind 4)),(35,B j7)],[(2, .box 33 (bxc (GNode.cs a0n))),(1001, .box 3 [I a1left])]⟩:Bool→St) ?_ ?_
      ·refine sG (xR 4 krf ?_)
       refine xS (!eqI a0n.Kind 3) (fun h8=>?_) (fun h8=>?_)
       ·refine xO (want_tt krf h8) krf (xR 4 krf (xE ?_))
        exact nq_n (!eqI a0n.Kind 4) ⟨[1,2,5,35],[2,1001],[],[]⟩ krf
       ·refine xN (want_tf krf h8) krf (xR 4 krf (xE ?_))
        exact nq_n false ⟨[1,2,5,35],[2,1001],[],[]⟩ krf
      ·rintro j7
       refine sC j7 krf ?_ ?_
       ·refine sR Tryd.fm ⟨[4],[1001],[],[]⟩ ⟨[(4,B false)],[(1001, .box 3 [I a1left])]⟩ krf (sT (bq_r (sq_r ?_)))
        exact hq_ret (.id) [1001] [] krf krf krf krf
       ·refine sK (bq_n (sN ⟨[1,2,5],[2,1001],[],[]⟩ ⟨[(1, .ptr 1001 0),(2, .ptr 2 0),(5,B (eqI a0n.Kind 4))],[(2, .box 33 (bxc (GNode.cs a0n))),(1001, .box 3 [I a1left])]⟩ krf (sR Tryd.fm ⟨[1,2,5],[2,1001],[],[]⟩ ⟨[(1, .ptr 1001 0),(2, .ptr 2 0),(5,B (eqI a0n.Kind 4))],[(2, .box 33 (bxc (GNode.cs a0n))),(1001, .box 3 [I (wi (a1left - (lenI (mI a0n.Kids))))])]⟩ krf (sS (sR Tryd.fm ⟨[2,5,55],[2,1001],[],[]⟩ ⟨[(2, .ptr 2 0),(5,B (eqI a0n.Kind 4)),(55,B (ltI (wi (a1left - (lenI (mI a0n.Kids)))) 0))],[(2, .box 33 (bxc (GNode.cs a0n))),(1001, .box 3 [I (wi (a1left - (lenI (mI a0n.Kids))))])]⟩ krf (sC (ltI (wi (a1left - (lenI (mI a0n.Kids)))) 0) krf ?_ ?_))))))
        ·refine sR Tryd.fm ⟨[4],[1001],[],[]⟩ ⟨[(4,B false)],[(1001, .box 3 [I (wi (a1left - (lenI (mI a0n.Kids))))])]⟩ krf (sT (sq_r ?_))
         exact hq_ret (.id) [1001] [] krf krf krf krf
        ·refine sK (sN ⟨[2,5],[2,1001],[],[]⟩ ⟨[(2, .ptr 2 0),(5,B (eqI a0n.Kind 4))],[(2, .box 33 (bxc (GNode.cs a0n))),(1001, .box 3 [I (wi (a1left - (lenI (mI a0n.Kids))))])]⟩ krf (sS (sR Tryd.fm ⟨[5,57,58,59],[1001],[],[]⟩ ⟨[(5,B (eqI a0n.Kind 4)),(57, .p (.sl 5 (mI a0n.Kids))),(58,I (lenI (mI a0n.Kids))),(59,I 0)],[(1001, .box 3 [I (wi (a1left - (lenI (mI a0n.Kids))))])]⟩ krf (sB (sim_loop (fun l9=>⟨[(5,B (eqI a0n.Kind 4)),(57, .p (.sl 5 (mI a0n.Kids))),(58,I (lenI (mI a0n.Kids))),(59,I l9)],[(1001, .box 3 [I (wi (a1left - (lenI (mI a0n.Kids))))])]⟩:Int→St) (weak_shr (K:=⟨[5,57,58,59],[1001],[],[]⟩) krf) ?_)))))
         rintro recl9 l9
         show SimE (g_p_validPart_l9 n a0n a1left recl9 l9) _ _ _ _ _ _
         unfold g_p_validPart_l9
         refine sR Tryd.fm ⟨[5,57,58,59,60],[1001],[],[]⟩ ⟨[(5,B (eqI a0n.Kind 4)),(57, .p (.sl 5 (mI a0n.Kids))),(58,I (lenI (mI a0n.Kids))),(59,I l9),(60,B (ltI l9 (lenI (mI a0n.Kids))))],[(1001, .box 3 [I (wi (a1left - (lenI (mI a0n.Kids))))])]⟩ krf (sS (sC (ltI l9 (lenI (mI a0n.Kids))) krf ?_ ?_))
         ·refine sK (sN ⟨[5,57,58,59],[1001],[],[]⟩ ⟨[(5,B (eqI a0n.Kind 4)),(57, .p (.sl 5 (mI a0n.Kids))),(58,I (lenI (mI a0n.Kids))),(59,I l9)],[(1001, .box 3 [I (wi (a1left - (lenI (mI a0n.Kids))))])]⟩ krf (sS (sB (sS (sG ?_)))))
          refine xG krf krf (aop_idxR (e:=33) (S:=5) (enc:=GNode.cs) (dec:=GNode.of) (l:=a0n.Kids) (k:=.i64) (n:=l9) (sv:=.p (.sl 5 (mI a0n.Kids))) GNode.of_cs rfl krf krf krf krf krf) (fun x10=>?_)
          refine xR 3 krf (xE (sN ⟨[5,7,57,58,59],[7,1001],[],[]⟩ ⟨[(5,B (eqI a0n.Kind 4)),(7, .ptr 7 0),(57, .p (.sl 5 (mI a0n.Kids))),(58,I (lenI (mI a0n.Kids))),(59,I l9)],[(7, .box 33 (bxc (GNode.cs x10))),(1001, .box 3 [I (wi (a1left - (lenI (mI a0n.Kids))))])]⟩ krf (sS (sG (xR 2 krf ?_)))))
          refine xC [] krf (g_p_validValue_ok n x10 (eqI a0n.Kind 4)) krf krf (fun _=>by kernel_rfl) (fun r11=>?_)
          refine xR 1 krf (xE (sN ⟨[5,57,58,59,66],[1001],[],[]⟩ ⟨[(5,B (eqI a0n.Kind 4)),(57, .p (.sl 5 (mI a0n.Kids))),(58,I (lenI (mI a0n.Kids))),(59,I l9),(66,B (!r11))],[(1001, .box 3 [I (wi (a1left - (lenI (mI a0n.Kids))))])]⟩ krf (sC (!r11) krf ?_ ?_)))
          ·refine sR Tryd.fm ⟨[4],[1001],[],[]⟩ ⟨[(4,B false)],[(1001, .box 3 [I (wi (a1left - (lenI (mI a0n.Kids))))])]⟩ krf (sT (bq_r (sq_r (kq_r (bq_r (sq_r ?_))))))
           exact hq_ret (.id) [1001] [] krf krf krf krf
          ·refine sK (bq_n (sN ⟨[5,57,58,59],[1001],[],[]⟩ ⟨[(5,B (eqI a0n.Kind 4)),(57, .p (.sl 5 (mI a0n.Kids))),(58,I (lenI (mI a0n.Kids))),(59,I l9)],[(1001, .box 3 [I (wi (a1left - (lenI (mI a0n.Kids))))])]⟩ krf (sL Tryd.fm krf ?_)))
           exact kq_n (wi (l9+1)) ⟨[5,57,58,59],[1001],[],[]⟩ krf
         ·refine sim_exit (sq_x (kq_x (bq_hit (sN ⟨[],[1001],[],[]⟩ ⟨[],[(1001, .box 3 [I (wi (a1left - (lenI (mI a0n.Kids))))])]⟩ krf (sR Tryd.fm ⟨[4],[1001],[],[]⟩ ⟨[(4,B true)],[(1001, .box 3 [I (wi (a1left - (lenI (mI a0n.Kids))))])]⟩ krf (sT ?_))))))
          exact hq_ret (.id) [1001] [] krf krf krf krf
def g_p_validItem_j6 (a0n:GNode) (j6_1:Bool) (j6_2:Int):Option (Bool × Int) :=
 cond (!j6_1)
  (some (true,j6_2))
  (some (eqI a0n.N 7,j6_2))
def g_p_validItem_j10 (n:Nat) (l8_2:Int) (l8_3:Int) (recl8:(Bool × Int × Int)→Option (Bool × Int)) (x9:GNode) (j10:Bool):Option (Bool × Int) :=
 (g_p_validPart n x9 l8_3).bind fun r11 =>
 cond (!r11.1)
  (some (false,r11.2))
  (recl8 (j10,wi (l8_2+1),r11.2))
def g_p_validItem_l8 (n:Nat) (a0n:GNode) (recl8:(Bool × Int × Int)→Option (Bool × Int)) (l8_1:Bool) (l8_2:Int) (l8_3:Int):Option (Bool × Int) :=
 cond (ltI l8_2 (lenI (List.map idc a0n.Kids)))
  ((Option.bind (getI a0n.Kids l8_2) GNode.of).bind fun x9 =>
  cond (eqI x9.Kind 4)
   (g_p_validItem_j10 n l8_2 l8_3 recl8 x9 true)
   (cond l8_1
    (some (false,l8_3))
    (g_p_validItem_j10 n l8_2 l8_3 recl8 x9 l8_1)))
  (g_p_validItem_j6 a0n l8_1 l8_3)
def g_p_validItem (n:Nat) (a0n:GNode) (a1left:Int):Option (Bool × Int) :=
 (cond (!eqI a0n.Kind 2)
  (some true)
  (cond (ltI a0n.N 1)
   (some true)
   (cond (ltI 7 a0n.N)
    (some true)
    ((g_p_goodName n a0n.Name).bind fun r5 =>
    some (!r5))))).bind fun j1 =>
 cond j1
  (some (false,a1left))
  (cond (ltI (wi (a1left - (lenI (List.map idc a0n.Kids)))) 0)
   (some (false,wi (a1left - (lenI (List.map idc a0n.Kids)))))
   (loopN (fun recl8 (l8_1,l8_2,l8_3)=>g_p_validItem_l8 n a0n recl8 l8_1 l8_2 l8_3) n (false,0,wi (a1left - (lenI (List.map idc a0n.Kids))))))
theorem g_p_validItem_ok (n:Nat) (a0n:GNode) (a1left:Int):∀ r,g_p_validItem n a0n a1left=some r→ACall Tryd.prog 36 [ag (GNode.cs a0n), .ptr 1001 0] (Go.Abs.look [(1001, .box 3 [I a1left])]) (heapR (fun r:Bool × Int=>((.ret (B r.1),[(1001, .box 3 [I r.2])]):AEnd × List (Nat × Blk))) r):=by
 refine acall_sim (X:=fun r:Bool × Int=>((.ret (B r.1),[(1001, .box 3 [I r.2])]):AEnd × List (Nat × Blk))) [(1001, .box 3 [I a1left])] Tryd.func36 rfl Tryd.ntmps36 rfl ?_
 unfold g_p_validItem
 refine sR Tryd.fm ⟨[1,2],[2,1001],[],[]⟩ ⟨[(1, .ptr 1001 0),(2, .ptr 2 0)],[(2, .box 33 (bxc (GNode.cs a0n))),(1001, .box 3 [I a1left])]⟩ krf (sS (sim_bind (fun j1=>⟨[(1, .ptr 1001 0),(2, .ptr 2 0),(26,B j1)],[(2, .box 33 (bxc (GNode.cs a0n))),(1001, .box 3 [I a1left])]⟩:Bool→St) ?_ ?_))
 ·refine sG (xR 4 krf ?_)
  refine xS (!eqI a0n.Kind 2) (fun h2=>?_) (fun h2=>?_)
  ·refine xN (want_ft krf h2) krf (xR 14 krf (xE ?_))
   exact nq_n true ⟨[1,2,26],[2,1001],[],[]⟩ krf
  ·refine xO (want_ff krf h2) krf (xR 4 krf ?_)
   refine xS (ltI a0n.N 1) (fun h3=>?_) (fun h3=>?_)
   ·refine xN (want_ft krf h3) krf (xR 9 krf (xE ?_))
    exact nq_n true ⟨[1,2,26],[2,1001],[],[]⟩ krf
   ·refine xO (want_ff krf h3) krf (xR 4 krf ?_)
    refine xS (ltI 7 a0n.N) (fun h4=>?_) (fun h4=>?_)
    ·refine xN (want_ft krf h4) krf (xR 4 krf (xE ?_))
     exact nq_n true ⟨[1,2,26],[2,1001],[],[]⟩ krf
    ·refine xO (want_ff krf h4) krf (xR 1 krf ?_)
     refine xC [] krf (g_p_goodName_ok n a0n.Name) krf krf (fun _=>by kernel_rfl) (fun r5=>?_)
     refine xR 2 krf (xE ?_)
     exact nq_n (!r5) ⟨[1,2,26],[2,1001],[],[]⟩ krf
 ·rintro j1
  refine sC j1 krf ?_ ?_
  ·refine sR Tryd.fm ⟨[4],[1001],[],[]⟩ ⟨[(4,B false)],[(1001, .box 3 [I a1left])]⟩ krf (sT (sq_r ?_))
   exact hq_ret (.id) [1001] [] krf krf krf krf
  ·refine sK (sN ⟨[1,2],[2,1001],[],[]⟩ ⟨[(1, .ptr 1001 0),(2, .ptr 2 0)],[(2, .box 33 (bxc (GNode.cs a0n))),(1001, .box 3 [I a1left])]⟩ krf (sR Tryd.fm ⟨[1,2],[2,1001],[],[]⟩ ⟨[(1, .ptr 1001 0),(2, .ptr 2 0)],[(2, .box 33 (bxc (GNode.cs a0n))),(1001, .box 3 [I (wi (a1left - (lenI (mI a0n.Kids))))])]⟩ krf (sS (sR Tryd.fm ⟨[1,2,38],[2,1001],[],[]⟩ ⟨[(1, .ptr 1001 0),(2, .ptr 2 0),(38,B (ltI (wi (a1left - (lenI (mI a0n.Kids)))) 0))],[(2, .box 33 (bxc (GNode.cs a0n))),(1001, .box 3 [I (wi (a1left - (lenI (mI a0n.Kids))))])]⟩ krf (sC (ltI (wi (a1left - (lenI (mI a0n.Kids)))) 0) krf ?_ ?_)))))
   ·refine sR Tryd.fm ⟨[4],[1001],[],[]⟩ ⟨[(4,B false)],[(1001, .box 3 [I (wi (a1left - (lenI (mI a0n.Kids))))])]⟩ krf (sT (sq_r ?_))
    exact hq_ret (.id) [1001] [] krf krf krf krf
   ·refine sK (sN ⟨[1,2],[2,1001],[],[]⟩ ⟨[(1, .ptr 1001 0),(2, .ptr 2 0)],[(2, .box 33 (bxc (GNode.cs a0n))),(1001, .box 3 [I (wi (a1left - (lenI (mI a0n.Kids))))])]⟩ krf (sR Tryd.fm ⟨[1,2,5],[2,1001],[],[]⟩ ⟨[(1, .ptr 1001 0),(2, .ptr 2 0),(5,B false)],[(2, .box 33 (bxc (GNode.cs a0n))),(1001, .box 3 [I (wi (a1left - (lenI (mI a0n.Kids))))])]⟩ krf (sim_cps (fun (j6_1,j6_2)=>⟨[(2, .ptr 2 0),(5,B j6_1)],[(2, .box 33 (bxc (GNode.cs a0n))),(1001, .box 3 [I j6_2])]⟩:(Bool × Int)→St) (fun (j6_1,j6_2)=>g_p_validItem_j6 a0n j6_1 j6_2) ?_ ?_)))
    ·rintro ⟨j6_1,j6_2⟩
     show SimE (g_p_validItem_j6 a0n j6_1 j6_2) _ _ _ _ _ _
     unfold g_p_validItem_j6
     refine sS (sG (xR 3 krf ?_))
     refine xS (!j6_1) (fun h7=>?_) (fun h7=>?_)
     ·refine xN (want_ft krf h7) krf (xR 4 krf (xE (sN ⟨[4],[1001],[],[]⟩ ⟨[(4,B true)],[(1001, .box 3 [I j6_2])]⟩ krf (sT ?_))))
      exact hq_ret (.id) [1001] [] krf krf krf krf
     ·refine xO (want_ff krf h7) krf (xR 4 krf (xE (sN ⟨[4],[1001],[],[]⟩ ⟨[(4,B (eqI a0n.N 7))],[(1001, .box 3 [I j6_2])]⟩ krf (sT ?_))))
      exact hq_ret (.id) [1001] [] krf krf krf krf
    ·refine sR Tryd.fm ⟨[1,2,5,40,41,42],[2,1001],[],[]⟩ ⟨[(1, .ptr 1001 0),(2, .ptr 2 0),(5,B false),(40, .p (.sl 5 (mI a0n.Kids))),(41,I (lenI (mI a0n.Kids))),(42,I 0)],[(2, .box 33 (bxc (GNode.cs a0n))),(1001, .box 3 [I (wi (a1left - (lenI (mI a0n.Kids))))])]⟩ krf (sB (sim_loop (fun (l8_1,l8_2,l8_3)=>⟨[(1, .ptr 1001 0),(2, .ptr 2 0),(5,B l8_1),(40, .p (.sl 5 (mI a0n.Kids))),(41,I (lenI (mI a0n.Kids))),(42,I l8_2)],[(2, .box 33 (bxc (GNode.cs a0n))),(1001, .box 3 [I l8_3])]⟩:(Bool × Int × Int)→St) (weak_shr (K:=⟨[1,2,5,40,41,42],[2,1001],[],[]⟩) krf) ?_))
     rintro recl8 ⟨l8_1,l8_2,l8_3⟩
     show SimE (g_p_validItem_l8 n a0n recl8 l8_1 l8_2 l8_3) _ _ _ _ _ _
     unfold g_p_validItem_l8
     refine sR Tryd.fm ⟨[1,2,5,40,41,42,43],[2,1001],[],[]⟩ ⟨[(1, .ptr 1001 0),(2, .ptr 2 0),(5,B l8_1),(40, .p (.sl 5 (mI a0n.Kids))),(41,I (lenI (mI a0n.Kids))),(42,I l8_2),(43,B (ltI l8_2 (lenI (mI a0n.Kids))))],[(2, .box 33 (bxc (GNode.cs a0n))),(1001, .box 3 [I l8_3])]⟩ krf (sS (sC (ltI l8_2 (lenI (mI a0n.Kids))) krf ?_ ?_))
     ·refine sK (sN ⟨[1,2,5,40,41,42],[2,1001],[],[]⟩ ⟨[(1, .ptr 1001 0),(2, .ptr 2 0),(5,B l8_1),(40, .p (.sl 5 (mI a0n.Kids))),(41,I (lenI (mI a0n.Kids))),(42,I l8_2)],[(2, .box 33 (bxc (GNode.cs a0n))),(1001, .box 3 [I l8_3])]⟩ krf (sS (sB (sS (sG ?_)))))
      refine xG krf krf (aop_idxR (e:=33) (S:=5) (enc:=GNode.cs) (dec:=GNode.of) (l:=a0n.Kids) (k:=.i64) (n:=l8_2) (sv:=.p (.sl 5 (mI a0n.Kids))) GNode.of_cs rfl krf krf krf krf krf) (fun x9=>?_)
      refine xR 3 krf (xE (sN ⟨[1,2,5,7,40,41,42],[2,7,1001],[],[]⟩ ⟨[(1, .ptr 1001 0),(2, .ptr 2 0),(5,B l8_1),(7, .ptr 7 0),(40, .p (.sl 5 (mI a0n.Kids))),(41,I (lenI (mI a0n.Kids))),(42,I l8_2)],[(2, .box 33 (bxc (GNode.cs a0n))),(7, .box 33 (bxc (GNode.cs x9))),(1001, .box 3 [I l8_3])]⟩ krf (sim_cps (fun j10=>⟨[(1, .ptr 1001 0),(2, .ptr 2 0),(5,B j10),(7, .ptr 7 0),(40, .p (.sl 5 (mI a0n.Kids))),(41,I (lenI (mI a0n.Kids))),(42,I l8_2)],[(2, .box 33 (bxc (GNode.cs a0n))),(7, .box 33 (bxc (GNode.cs x9))),(1001, .box 3 [I l8_3])]⟩:Bool→St) (fun j10=>g_p_validItem_j10 n l8_2 l8_3 recl8 x9 j10) ?_ ?_)))
      ·rintro j10
       show SimE (g_p_validItem_j10 n l8_2 l8_3 recl8 x9 j10) _ _ _ _ _ _
       unfold g_p_validItem_j10
       refine sS (sG (xR 2 krf ?_))
       refine xs_heap [(1001,1001)] [] [] krf (g_p_validPart_ok n x9 l8_3) krf krf krf (fun _=>by kernel_rfl) (fun _=>by kernel_rfl) (fun r11=>?_)
       refine xR 1 krf (xE (sN ⟨[1,2,5,40,41,42,53],[2,1001],[],[]⟩ ⟨[(1, .ptr 1001 0),(2, .ptr 2 0),(5,B j10),(40, .p (.sl 5 (mI a0n.Kids))),(41,I (lenI (mI a0n.Kids))),(42,I l8_2),(53,B (!r11.1))],[(2, .box 33 (bxc (GNode.cs a0n))),(1001, .box 3 [I r11.2])]⟩ krf (sC (!r11.1) krf ?_ ?_)))
       ·refine sR Tryd.fm ⟨[4],[1001],[],[]⟩ ⟨[(4,B false)],[(1001, .box 3 [I r11.2])]⟩ krf (sT (bq_r (sq_r (kq_r (bq_r (kq_r ?_))))))
        exact hq_ret (.id) [1001] [] krf krf krf krf
       ·refine sK (bq_n (sN ⟨[1,2,5,40,41,42],[2,1001],[],[]⟩ ⟨[(1, .ptr 1001 0),(2, .ptr 2 0),(5,B j10),(40, .p (.sl 5 (mI a0n.Kids))),(41,I (lenI (mI a0n.Kids))),(42,I l8_2)],[(2, .box 33 (bxc (GNode.cs a0n))),(1001, .box 3 [I r11.2])]⟩ krf (sL Tryd.fm krf ?_)))
        exact kq_n (j10,wi (l8_2+1),r11.2) ⟨[1,2,5,40,41,42],[2,1001],[],[]⟩ krf
      ·refine sR Tryd.fm ⟨[1,2,5,7,40,41,42,48],[2,7,1001],[],[]⟩ ⟨[(1, .ptr 1001 0),(2, .ptr 2 0),(5,B l8_1),(7, .ptr 7 0),(40, .p (.sl 5 (mI a0n.Kids))),(41,I (lenI (mI a0n.Kids))),(42,I l8_2),(48,B (eqI x9.Kind 4))],[(2, .box 33 (bxc (GNode.cs a0n))),(7, .box 33 (bxc (GNode.cs x9))),(1001, .box 3 [I l8_3])]⟩ krf (sC (eqI x9.Kind 4) krf ?_ ?_)
       ·refine sL Tryd.fm krf ?_
        exact kq_n (k:=fun j10=>g_p_validItem_j10 n l8_2 l8_3 recl8 x9 j10) true ⟨[1,2,5,7,40,41,42],[2,7,1001],[],[]⟩ krf
       ·refine sR Tryd.fm ⟨[1,2,5,7,40,41,42,49],[2,7,1001],[],[]⟩ ⟨[(1, .ptr 1001 0),(2, .ptr 2 0),(5,B l8_1),(7, .ptr 7 0),(40, .p (.sl 5 (mI a0n.Kids))),(41,I (lenI (mI a0n.Kids))),(42,I l8_2),(49,B l8_1)],[(2, .box 33 (bxc (GNode.cs a0n))),(7, .box 33 (bxc (GNode.cs x9))),(1001, .box 3 [I l8_3])]⟩ krf (sC l8_1 krf ?_ ?_)
        ·refine sR Tryd.fm ⟨[4],[1001],[],[]⟩ ⟨[(4,B false)],[(1001, .box 3 [I l8_3])]⟩ krf (sT (kq_r (bq_r (sq_r (kq_r (bq_r (kq_r ?_)))))))
         exact hq_ret (.id) [1001] [] krf krf krf krf
        ·refine sK ?_
         exact kq_n (k:=fun j10=>g_p_validItem_j10 n l8_2 l8_3 recl8 x9 j10) l8_1 ⟨[1,2,5,7,40,41,42],[2,7,1001],[],[]⟩ krf
     ·refine sim_exit (sq_x (kq_x (bq_hit ?_)))
      exact kq_n (k:=fun (j6_1,j6_2)=>g_p_validItem_j6 a0n j6_1 j6_2) (l8_1,l8_3) ⟨[2,5],[2,1001],[],[]⟩ krf
def g_p_Valid_l5 (n:Nat) (a0n:GNode) (recl5:(Int × Int)→Option Bool) (l5_1:Int) (l5_2:Int):Option Bool :=
 cond (ltI l5_1 (lenI (List.map idc a0n.Kids)))
  ((Option.bind (getI a0n.Kids l5_1) GNode.of).bind fun x6 =>
  (g_p_validItem n x6 l5_2).bind fun r7 =>
  cond (!r7.1)
   (some false)
   (recl5 (wi (l5_1+1),r7.2)))
  (some true)
def g_p_Valid (n:Nat) (a0n:GNode):Option Bool :=
 (cond (!eqI a0n.Kind 1)
  (some true)
  (cond (!eqS a0n.Name [])
   (some true)
   (cond (!eqI a0n.N 0)
    (some true)
    (some (ltI (wi (1499 - (lenI (List.map idc a0n.Kids)))) 0))))).bind fun j1 =>
 cond j1
  (some false)
  (loopN (fun recl5 (l5_1,l5_2)=>g_p_Valid_l5 n a0n recl5 l5_1 l5_2) n (0,wi (1499 - (lenI (List.map idc a0n.Kids)))))
theorem g_p_Valid_ok (n:Nat) (a0n:GNode):∀ r,g_p_Valid n a0n=some r→PCall Tryd.prog 21 [ag (GNode.cs a0n)] (.ret (B r)):=by
 refine pcall_sim (X:=fun r:Bool=>AEnd.ret (B r)) Tryd.func21 rfl Tryd.ntmps21 rfl ?_
 unfold g_p_Valid
 refine sR Tryd.fm ⟨[1],[1],[],[]⟩ ⟨[(1, .ptr 1 0)],[(1, .box 33 (bxc (GNode.cs a0n)))]⟩ krf (sR Tryd.fm ⟨[1,3],[1,3],[],[]⟩ ⟨[(1, .ptr 1 0),(3, .ptr 3 0)],[(1, .box 33 (bxc (GNode.cs a0n))),(3, .box 3 [I (wi (1499 - (lenI (mI a0n.Kids))))])]⟩ krf (sS (sim_bind (fun j1=>⟨[(1, .ptr 1 0),(3, .ptr 3 0),(26,B j1)],[(1, .box 33 (bxc (GNode.cs a0n))),(3, .box 3 [I (wi (1499 - (lenI (mI a0n.Kids))))])]⟩:Bool→St) ?_ ?_)))
 ·refine sG (xR 4 krf ?_)
  refine xS (!eqI a0n.Kind 1) (fun h2=>?_) (fun h2=>?_)
  ·refine xN (want_ft krf h2) krf (xR 12 krf (xE ?_))
   exact nq_n true ⟨[1,3,26],[1,3],[],[]⟩ krf
  ·refine xO (want_ff krf h2) krf (xR 4 krf ?_)
   refine xS (!eqS a0n.Name []) (fun h3=>?_) (fun h3=>?_)
   ·refine xN (want_ft krf h3) krf (xR 7 krf (xE ?_))
    exact nq_n true ⟨[1,3,26],[1,3],[],[]⟩ krf
   ·refine xO (want_ff krf h3) krf (xR 4 krf ?_)
    refine xS (!eqI a0n.N 0) (fun h4=>?_) (fun h4=>?_)
    ·refine xN (want_ft krf h4) krf (xR 2 krf (xE ?_))
     exact nq_n true ⟨[1,3,26],[1,3],[],[]⟩ krf
    ·refine xO (want_ff krf h4) krf (xR 2 krf (xE ?_))
     exact nq_n (ltI (wi (1499 - (lenI (mI a0n.Kids)))) 0) ⟨[1,3,26],[1,3],[],[]⟩ krf
 ·rintro j1
  refine sC j1 krf ?_ ?_
  ·refine sR Tryd.fm ⟨[2],[],[],[]⟩ ⟨[(2,B false)],[]⟩ krf (sT (sq_r ?_))
   exact qR (.id) krf krf krf
  ·refine sK (sN ⟨[1,3],[1,3],[],[]⟩ ⟨[(1, .ptr 1 0),(3, .ptr 3 0)],[(1, .box 33 (bxc (GNode.cs a0n))),(3, .box 3 [I (wi (1499 - (lenI (mI a0n.Kids))))])]⟩ krf (sS (sR Tryd.fm ⟨[3,28,29,30],[3],[],[]⟩ ⟨[(3, .ptr 3 0),(28, .p (.sl 5 (mI a0n.Kids))),(29,I (lenI (mI a0n.Kids))),(30,I 0)],[(3, .box 3 [I (wi (1499 - (lenI (mI a0n.Kids))))])]⟩ krf (sB (sim_loop (fun (l5_1,l5_2)=>⟨[(3, .ptr 3 0),(28, .p (.sl 5 (mI a0n.Kids))),(29,I (lenI (mI a0n.Kids))),(30,I l5_1)],[(3, .box 3 [I l5_2])]⟩:(Int × Int)→St) (weak_shr (K:=⟨[3,28,29,30],[3],[],[]⟩) krf) ?_)))))
   rintro recl5 ⟨l5_1,l5_2⟩
   show SimE (g_p_Valid_l5 n a0n recl5 l5_1 l5_2) _ _ _ _ _ _
   unfold g_p_Valid_l5
   refine sR Tryd.fm ⟨[3,28,29,30,31],[3],[],[]⟩ ⟨[(3, .ptr 3 0),(28, .p (.sl 5 (mI a0n.Kids))),(29,I (lenI (mI a0n.Kids))),(30,I l5_1),(31,B (ltI l5_1 (lenI (mI a0n.Kids))))],[(3, .box 3 [I l5_2])]⟩ krf (sS (sC (ltI l5_1 (lenI (mI a0n.Kids))) krf ?_ ?_))
   ·refine sK (sN ⟨[3,28,29,30],[3],[],[]⟩ ⟨[(3, .ptr 3 0),(28, .p (.sl 5 (mI a0n.Kids))),(29,I (lenI (mI a0n.Kids))),(30,I l5_1)],[(3, .box 3 [I l5_2])]⟩ krf (sS (sB (sS (sG ?_)))))
    refine xG krf krf (aop_idxR (e:=33) (S:=5) (enc:=GNode.cs) (dec:=GNode.of) (l:=a0n.Kids) (k:=.i64) (n:=l5_1) (sv:=.p (.sl 5 (mI a0n.Kids))) GNode.of_cs rfl krf krf krf krf krf) (fun x6=>?_)
    refine xR 3 krf (xE (sN ⟨[3,5,28,29,30],[3,5],[],[]⟩ ⟨[(3, .ptr 3 0),(5, .ptr 5 0),(28, .p (.sl 5 (mI a0n.Kids))),(29,I (lenI (mI a0n.Kids))),(30,I l5_1)],[(3, .box 3 [I l5_2]),(5, .box 33 (bxc (GNode.cs x6)))]⟩ krf (sS (sG (xR 1 krf ?_)))))
    refine xs_heap [(1001,3)] [] [] krf (g_p_validItem_ok n x6 l5_2) krf krf krf (fun _=>by kernel_rfl) (fun _=>by kernel_rfl) (fun r7=>?_)
    refine xR 1 krf (xE (sN ⟨[3,28,29,30,36],[3],[],[]⟩ ⟨[(3, .ptr 3 0),(28, .p (.sl 5 (mI a0n.Kids))),(29,I (lenI (mI a0n.Kids))),(30,I l5_1),(36,B (!r7.1))],[(3, .box 3 [I r7.2])]⟩ krf (sC (!r7.1) krf ?_ ?_)))
    ·refine sR Tryd.fm ⟨[2],[],[],[]⟩ ⟨[(2,B false)],[]⟩ krf (sT (bq_r (sq_r (kq_r (bq_r (sq_r ?_))))))
     exact qR (.id) krf krf krf
    ·refine sK (bq_n (sN ⟨[3,28,29,30],[3],[],[]⟩ ⟨[(3, .ptr 3 0),(28, .p (.sl 5 (mI a0n.Kids))),(29,I (lenI (mI a0n.Kids))),(30,I l5_1)],[(3, .box 3 [I r7.2])]⟩ krf (sL Tryd.fm krf ?_)))
     exact kq_n (wi (l5_1+1),r7.2) ⟨[3,28,29,30],[3],[],[]⟩ krf
   ·refine sim_exit (sq_x (kq_x (bq_hit (sN ⟨[],[],[],[]⟩ ⟨[],[]⟩ krf (sR Tryd.fm ⟨[2],[],[],[]⟩ ⟨[(2,B true)],[]⟩ krf (sT ?_))))))
    exact qR (.id) krf krf krf
def g_strconv_Itoa (n:Nat) (a0i:Int):Option (List UInt8) :=
 cond (leI (-9223372036854775808) a0i&&leI a0i 9223372036854775807) (some (Lib.itoa a0i)) none
theorem g_strconv_Itoa_ok (n:Nat) (a0i:Int):∀ r,g_strconv_Itoa n a0i=some r→PCall Tryd.prog 70 [I a0i] (.ret (S r)):=by
 intro r hr
 unfold g_strconv_Itoa at hr
 cases h:leI (-9223372036854775808) a0i&&leI a0i 9223372036854775807
 ·rw [h] at hr; cases hr
 ·rw [h] at hr; cases hr
  simp only [leI,bae,decide_eq_true_eq] at h
  exact itoa_at h.1 h.2
def g_printer_writer_value (n:Nat) (a0w:GPrinterWriter) (a1n:GNode):Option GPrinterWriter :=
 cond (roomB (List.length (a0w.text++[32])) 1) (
  cond (eqI a1n.Kind 6)
   ((g_strconv_Itoa n a1n.N).bind fun r2 =>
   cond (roomB (List.length ((a0w.text++[32])++r2)) 1&&!List.isEmpty r2) (
    some (⟨(a0w.text++[32])++r2⟩:GPrinterWriter)) none)
   (cond (roomB (List.length ((a0w.text++[32])++a1n.Name)) 1&&!List.isEmpty a1n.Name) (
    some (⟨(a0w.text++[32])++a1n.Name⟩:GPrinterWriter)) none)) none
theorem g_printer_writer_value_ok (n:Nat) (a0w:GPrinterWriter) (a1n:GNode):∀ r,g_printer_writer_value n a0w a1n=some r→ACall Tryd.prog 50 [.ptr 1000 0,ag (GNode.cs a1n)] (Go.Abs.look [(1000, .box 56 [.sfp 1000, .tsl 1 (List.map c8b a0w.text) 1101]),(1101, .arr 5 1 (List.map c8b a0w.text).length)]) (heapR (fun r:GPrinterWriter=>((.ret (.tup []),[(1000, .box 56 [.sfp 1000, .tsl 1 (List.map c8b r.text) 1101]),(1101, .arr 5 1 (List.map c8b r.text).length)]):AEnd × List (Nat × Blk))) r):=by
 refine acall_sim (X:=fun r:GPrinterWriter=>((.ret (.tup []),[(1000, .box 56 [.sfp 1000, .tsl 1 (List.map c8b r.text) 1101]),(1101, .arr 5 1 (List.map c8b r.text).length)]):AEnd × List (Nat × Blk))) [(1000, .box 56 [.sfp 1000, .tsl 1 (List.map c8b a0w.text) 1101]),(1101, .arr 5 1 (List.map c8b a0w.text).length)] Tryd.func50 rfl Tryd.ntmps50 rfl ?_
 unfold g_printer_writer_value
 refine sR Tryd.fm ⟨[0,3],[3,1000,1101],[],[]⟩ ⟨[(0, .ptr 1000 0),(3, .ptr 3 0)],[(3, .box 33 (bxc (GNode.cs a1n))),(1000, .box 56 [.sfp 1000, .tsl 1 (List.map c8b a0w.text) 1101]),(1101, .arr 5 1 (List.map c8b a0w.text).length)]⟩ krf (sS (sG (xR 3 krf (xs_inline [(1000, .box 56 [.sfp 1000, .tsl 1 (List.map c8b a0w.text) 1001]),(1001, .arr 5 1 (List.map c8b a0w.text).length)] [.ptr 1000 0,B8 32] [(1000,1000),(1001,1101)] [] [] krf Tryd.func69 rfl Tryd.ntmps69 rfl krf krf krf (sR Tryd.fm ⟨[0,1],[1000,1001],[],[]⟩ ⟨[(0, .ptr 1000 0),(1,B8 32)],[(1000, .box 56 [.sfp 1000, .tsl 1 (List.map c8b a0w.text) 1001]),(1001, .arr 5 1 (List.map c8b a0w.text).length)]⟩ krf (sS (sG ?_)))))))
 refine xR 1 krf (xs_one1 (xs_enter (f:=49) (args:=[.ptr 1000 0]) krf krf krf ?_))
 refine sc_hold 1000 1 1001 5 1 (List.map c8b a0w.text).length (List.map c8b a0w.text) ⟨[0,1,5],[1000],[],[]⟩ krf krf rfl (fun _ _ _=>by kernel_rfl) (fun hu1w hu1l hu1c=>?_)
 refine sc_heap [(1000,1000)] [] [] (copy_ok hu1w hu1l hu1c) krf krf krf (fun _=>by kernel_rfl) (fun _=>by kernel_rfl) (fun _=>?_)
 refine k_hold _ rfl krf krf (kr0 (xE (sN ⟨[0,1],[1000,1001],[],[]⟩ ⟨[(0, .ptr 1000 0),(1,B8 32)],[(1000, .box 56 [.sfp 1000, .tsl 1 (List.map c8b a0w.text) 1001]),(1001, .arr 5 1 (List.map c8b a0w.text).length)]⟩ krf (sS (sG (xR 7 krf (xF krf krf (aop_app (e:=5) (S:=1) (by_:=1) (enc:=c8b) (tk:=1001) (l:=a0w.text) (l2:=[32]) (xv:=.tsl 1 (List.map c8 [32]) 13) rfl krf krf rfl krf krf krf rfl krf) ?_)))))))
 refine xR 3 krf (xE (sN ⟨[],[1000,1001],[],[]⟩ ⟨[],[(1000, .box 56 [.sfp 1000, .tsl 1 (List.map c8b (a0w.text++[32])) 1001]),(1001, .arr 5 1 (List.map c8b (a0w.text++[32])).length)]⟩ krf (sR Tryd.fm ⟨[4],[1000,1001],[],[]⟩ ⟨[(4, .p (.val (.nilIface)))],[(1000, .box 56 [.sfp 1000, .tsl 1 (List.map c8b (a0w.text++[32])) 1001]),(1001, .arr 5 1 (List.map c8b (a0w.text++[32])).length)]⟩ krf (sT (iq_ret (.id) [1000,1001] [] (.p (.val (.nilIface))) krf krf (kr0 (xE ?_)))))))
 refine sN ⟨[0,3],[3,1000,1101],[],[]⟩ ⟨[(0, .ptr 1000 0),(3, .ptr 3 0)],[(3, .box 33 (bxc (GNode.cs a1n))),(1000, .box 56 [.sfp 1000, .tsl 1 (List.map c8b (a0w.text++[32])) 1101]),(1101, .arr 5 1 (List.map c8b (a0w.text++[32])).length)]⟩ krf (sS (sR Tryd.fm ⟨[0,3,10],[3,1000,1101],[],[]⟩ ⟨[(0, .ptr 1000 0),(3, .ptr 3 0),(10,B (eqI a1n.Kind 6))],[(3, .box 33 (bxc (GNode.cs a1n))),(1000, .box 56 [.sfp 1000, .tsl 1 (List.map c8b (a0w.text++[32])) 1101]),(1101, .arr 5 1 (List.map c8b (a0w.text++[32])).length)]⟩ krf (sC (eqI a1n.Kind 6) krf ?_ ?_)))
 ·refine sS (sim_drw Tryd.fm rfl (xR 5 krf ?_))
  refine xC [] krf (g_strconv_Itoa_ok n a1n.N) krf krf (fun _=>by kernel_rfl) (fun r2=>?_)
  refine xs_inlineL [(1000, .box 56 [.sfp 1000, .tsl 1 (List.map c8b (a0w.text++[32])) 1001]),(1001, .arr 5 1 (List.map c8b (a0w.text++[32])).length)] [.ptr 1000 0,S r2] [(1000,1000),(1001,1101)] [] [] krf Tryd.func38 rfl Tryd.ntmps38 rfl krf krf krf (sR Tryd.fm ⟨[0,1],[1000,1001],[],[]⟩ ⟨[(0, .ptr 1000 0),(1,S r2)],[(1000, .box 56 [.sfp 1000, .tsl 1 (List.map c8b (a0w.text++[32])) 1001]),(1001, .arr 5 1 (List.map c8b (a0w.text++[32])).length)]⟩ krf (sS (sG (xR 1 krf (xs_one1 (xs_enter (f:=49) (args:=[.ptr 1000 0]) krf krf krf ?_))))))
  refine sc_hold 1000 1 1001 5 1 (List.map c8b (a0w.text++[32])).length (List.map c8b (a0w.text++[32])) ⟨[0,1,6],[1000],[],[]⟩ krf krf rfl (fun _ _ _=>by kernel_rfl) (fun hu3w hu3l hu3c=>?_)
  refine sc_heap [(1000,1000)] [] [] (copy_ok hu3w hu3l hu3c) krf krf krf (fun _=>by kernel_rfl) (fun _=>by kernel_rfl) (fun _=>?_)
  refine k_hold _ rfl krf krf (kr0 (xE (sN ⟨[0,1],[1000,1001],[],[]⟩ ⟨[(0, .ptr 1000 0),(1,S r2)],[(1000, .box 56 [.sfp 1000, .tsl 1 (List.map c8b (a0w.text++[32])) 1001]),(1001, .arr 5 1 (List.map c8b (a0w.text++[32])).length)]⟩ krf (sS (sG (xR 6 krf ?_))))))
  refine xS (roomB (List.length ((a0w.text++[32])++r2)) 1&&!List.isEmpty r2) (fun h4=>?_) (fun _=>xs_none)
  refine xs_apps (t:=52) (u:=9) (ty:=5) (bs:=a0w.text++[32]) (b:=r2) (tk:=1001) krf rfl krf Tryd.underlying52 Tryd.underlying9 krf krf krf krf h4 (xR 3 krf (xE (sN ⟨[1],[1000,1001],[],[]⟩ ⟨[(1,S r2)],[(1000, .box 56 [.sfp 1000, .tsl 1 (List.map c8b ((a0w.text++[32])++r2)) 1001]),(1001, .arr 5 1 (List.map c8b ((a0w.text++[32])++r2)).length)]⟩ krf (sR Tryd.fm ⟨[4,5],[1000,1001],[],[]⟩ ⟨[(4,I (lenI r2)),(5, .p (.val (.nilIface)))],[(1000, .box 56 [.sfp 1000, .tsl 1 (List.map c8b ((a0w.text++[32])++r2)) 1001]),(1001, .arr 5 1 (List.map c8b ((a0w.text++[32])++r2)).length)]⟩ krf (sT (iq_ret (.id) [1000,1001] [] (.tup [I (lenI r2), .p (.val (.nilIface))]) krf krf (kqn ?_)))))))
  refine sN ⟨[],[1000,1101],[],[]⟩ ⟨[],[(1000, .box 56 [.sfp 1000, .tsl 1 (List.map c8b ((a0w.text++[32])++r2)) 1101]),(1101, .arr 5 1 (List.map c8b ((a0w.text++[32])++r2)).length)]⟩ krf (sT (sq_r ?_))
  exact hq_ret (.id) [1000,1101] [] krf krf krf krf
 ·refine sK (sN ⟨[0,3],[3,1000,1101],[],[]⟩ ⟨[(0, .ptr 1000 0),(3, .ptr 3 0)],[(3, .box 33 (bxc (GNode.cs a1n))),(1000, .box 56 [.sfp 1000, .tsl 1 (List.map c8b (a0w.text++[32])) 1101]),(1101, .arr 5 1 (List.map c8b (a0w.text++[32])).length)]⟩ krf (sim_drw Tryd.fm rfl (xR 5 krf (xs_inlineL [(1000, .box 56 [.sfp 1000, .tsl 1 (List.map c8b (a0w.text++[32])) 1001]),(1001, .arr 5 1 (List.map c8b (a0w.text++[32])).length)] [.ptr 1000 0,S a1n.Name] [(1000,1000),(1001,1101)] [] [] krf Tryd.func38 rfl Tryd.ntmps38 rfl krf krf krf (sR Tryd.fm ⟨[0,1],[1000,1001],[],[]⟩ ⟨[(0, .ptr 1000 0),(1,S a1n.Name)],[(1000, .box 56 [.sfp 1000, .tsl 1 (List.map c8b (a0w.text++[32])) 1001]),(1001, .arr 5 1 (List.map c8b (a0w.text++[32])).length)]⟩ krf (sS (sG ?_)))))))
  refine xR 1 krf (xs_one1 (xs_enter (f:=49) (args:=[.ptr 1000 0]) krf krf krf ?_))
  refine sc_hold 1000 1 1001 5 1 (List.map c8b (a0w.text++[32])).length (List.map c8b (a0w.text++[32])) ⟨[0,1,6],[1000],[],[]⟩ krf krf rfl (fun _ _ _=>by kernel_rfl) (fun hu5w hu5l hu5c=>?_)
  refine sc_heap [(1000,1000)] [] [] (copy_ok hu5w hu5l hu5c) krf krf krf (fun _=>by kernel_rfl) (fun _=>by kernel_rfl) (fun _=>?_)
  refine k_hold _ rfl krf krf (kr0 (xE (sN ⟨[0,1],[1000,1001],[],[]⟩ ⟨[(0, .ptr 1000 0),(1,S a1n.Name)],[(1000, .box 56 [.sfp 1000, .tsl 1 (List.map c8b (a0w.text++[32])) 1001]),(1001, .arr 5 1 (List.map c8b (a0w.text++[32])).length)]⟩ krf (sS (sG (xR 6 krf ?_))))))
  refine xS (roomB (List.length ((a0w.text++[32])++a1n.Name)) 1&&!List.isEmpty a1n.Name) (fun h6=>?_) (fun _=>xs_none)
  refine xs_apps (t:=52) (u:=9) (ty:=5) (bs:=a0w.text++[32]) (b:=a1n.Name) (tk:=1001) krf rfl krf Tryd.underlying52 Tryd.underlying9 krf krf krf krf h6 (xR 3 krf (xE (sN ⟨[1],[1000,1001],[],[]⟩ ⟨[(1,S a1n.Name)],[(1000, .box 56 [.sfp 1000, .tsl 1 (List.map c8b ((a0w.text++[32])++a1n.Name)) 1001]),(1001, .arr 5 1 (List.map c8b ((a0w.text++[32])++a1n.Name)).length)]⟩ krf (sR Tryd.fm ⟨[4,5],[1000,1001],[],[]⟩ ⟨[(4,I (lenI a1n.Name)),(5, .p (.val (.nilIface)))],[(1000, .box 56 [.sfp 1000, .tsl 1 (List.map c8b ((a0w.text++[32])++a1n.Name)) 1001]),(1001, .arr 5 1 (List.map c8b ((a0w.text++[32])++a1n.Name)).length)]⟩ krf (sT (iq_ret (.id) [1000,1001] [] (.tup [I (lenI a1n.Name), .p (.val (.nilIface))]) krf krf (kqn ?_)))))))
  exact hq_n (.id) [1000,1101] [] krf krf krf krf
def g_printer_writer_attr_l4 (n:Nat) (a1n:GNode) (recl4:(Int × (List UInt8))→Option (List UInt8)) (l4_1:Int) (l4_2:List UInt8):Option (List UInt8) :=
 cond (ltI l4_1 (lenI (List.map idc a1n.Kids)))
  ((Option.bind (getI a1n.Kids l4_1) GNode.of).bind fun x5 =>
  (g_printer_writer_value n (⟨l4_2⟩:GPrinterWriter) x5).bind fun r6 =>
  recl4 (wi (l4_1+1),r6.text))
  (some l4_2)
def g_printer_writer_attr (n:Nat) (a0w:GPrinterWriter) (a1n:GNode):Option GPrinterWriter :=
 cond (!eqI a1n.Kind 3)
  (some a0w)
  (cond (sumB [32] a1n.Name) (
   cond (roomB (List.length (a0w.text++([32]++a1n.Name))) 1&&!List.isEmpty ([32]++a1n.Name)) (
    (loopN (fun recl4 (l4_1,l4_2)=>g_printer_writer_attr_l4 n a1n recl4 l4_1 l4_2) n (0,a0w.text++([32]++a1n.Name))).bind fun j3 =>
    some (⟨j3⟩:GPrinterWriter)) none) none)
theorem g_printer_writer_attr_ok (n:Nat) (a0w:GPrinterWriter) (a1n:GNode):∀ r,g_printer_writer_attr n a0w a1n=some r→ACall Tryd.prog 40 [.ptr 1000 0,ag (GNode.cs a1n)] (Go.Abs.look [(1000, .box 56 [.sfp 1000, .tsl 1 (List.map c8b a0w.text) 1101]),(1101, .arr 5 1 (List.map c8b a0w.text).length)]) (heapR (fun r:GPrinterWriter=>((.ret (.tup []),[(1000, .box 56 [.sfp 1000, .tsl 1 (List.map c8b r.text) 1101]),(1101, .arr 5 1 (List.map c8b r.text).length)]):AEnd × List (Nat × Blk))) r):=by
 refine acall_sim (X:=fun r:GPrinterWriter=>((.ret (.tup []),[(1000, .box 56 [.sfp 1000, .tsl 1 (List.map c8b r.text) 1101]),(1101, .arr 5 1 (List.map c8b r.text).length)]):AEnd × List (Nat × Blk))) [(1000, .box 56 [.sfp 1000, .tsl 1 (List.map c8b a0w.text) 1101]),(1101, .arr 5 1 (List.map c8b a0w.text).length)] Tryd.func40 rfl Tryd.ntmps40 rfl ?_
 unfold g_printer_writer_attr
 refine sR Tryd.fm ⟨[0,3],[3,1000,1101],[],[]⟩ ⟨[(0, .ptr 1000 0),(3, .ptr 3 0)],[(3, .box 33 (bxc (GNode.cs a1n))),(1000, .box 56 [.sfp 1000, .tsl 1 (List.map c8b a0w.text) 1101]),(1101, .arr 5 1 (List.map c8b a0w.text).length)]⟩ krf (sS (sR Tryd.fm ⟨[0,3,6],[3,1000,1101],[],[]⟩ ⟨[(0, .ptr 1000 0),(3, .ptr 3 0),(6,B (!eqI a1n.Kind 3))],[(3, .box 33 (bxc (GNode.cs a1n))),(1000, .box 56 [.sfp 1000, .tsl 1 (List.map c8b a0w.text) 1101]),(1101, .arr 5 1 (List.map c8b a0w.text).length)]⟩ krf (sC (!eqI a1n.Kind 3) krf ?_ ?_)))
 ·refine sT (sq_r ?_)
  exact hq_ret (.id) [1000,1101] [] krf krf krf krf
 ·refine sK (sN ⟨[0,3],[3,1000,1101],[],[]⟩ ⟨[(0, .ptr 1000 0),(3, .ptr 3 0)],[(3, .box 33 (bxc (GNode.cs a1n))),(1000, .box 56 [.sfp 1000, .tsl 1 (List.map c8b a0w.text) 1101]),(1101, .arr 5 1 (List.map c8b a0w.text).length)]⟩ krf (sS (sim_drw Tryd.fm rfl (xR 5 krf (xF krf krf (aop_sadd (a:=[32]) (b:=a1n.Name) rfl krf krf) (xs_inlineL [(1000, .box 56 [.sfp 1000, .tsl 1 (List.map c8b a0w.text) 1001]),(1001, .arr 5 1 (List.map c8b a0w.text).length)] [.ptr 1000 0,S ([32]++a1n.Name)] [(1000,1000),(1001,1101)] [] [] krf Tryd.func38 rfl Tryd.ntmps38 rfl krf krf krf (sR Tryd.fm ⟨[0,1],[1000,1001],[],[]⟩ ⟨[(0, .ptr 1000 0),(1,S ([32]++a1n.Name))],[(1000, .box 56 [.sfp 1000, .tsl 1 (List.map c8b a0w.text) 1001]),(1001, .arr 5 1 (List.map c8b a0w.text).length)]⟩ krf ?_)))))))
  refine sS (sG (xR 1 krf (xs_one1 (xs_enter (f:=49) (args:=[.ptr 1000 0]) krf krf krf ?_))))
  refine sc_hold 1000 1 1001 5 1 (List.map c8b a0w.text).length (List.map c8b a0w.text) ⟨[0,1,6],[1000],[],[]⟩ krf krf rfl (fun _ _ _=>by kernel_rfl) (fun hu1w hu1l hu1c=>?_)
  refine sc_heap [(1000,1000)] [] [] (copy_ok hu1w hu1l hu1c) krf krf krf (fun _=>by kernel_rfl) (fun _=>by kernel_rfl) (fun _=>?_)
  refine k_hold _ rfl krf krf (kr0 (xE (sN ⟨[0,1],[1000,1001],[],[]⟩ ⟨[(0, .ptr 1000 0),(1,S ([32]++a1n.Name))],[(1000, .box 56 [.sfp 1000, .tsl 1 (List.map c8b a0w.text) 1001]),(1001, .arr 5 1 (List.map c8b a0w.text).length)]⟩ krf (sS (sG (xR 6 krf ?_))))))
  refine xS (roomB (List.length (a0w.text++([32]++a1n.Name))) 1&&!List.isEmpty ([32]++a1n.Name)) (fun h2=>?_) (fun _=>xs_none)
  refine xs_apps (t:=52) (u:=9) (ty:=5) (bs:=a0w.text) (b:=[32]++a1n.Name) (tk:=1001) krf rfl krf Tryd.underlying52 Tryd.underlying9 krf krf krf krf h2 (xR 3 krf (xE (sN ⟨[1],[1000,1001],[],[]⟩ ⟨[(1,S ([32]++a1n.Name))],[(1000, .box 56 [.sfp 1000, .tsl 1 (List.map c8b (a0w.text++([32]++a1n.Name))) 1001]),(1001, .arr 5 1 (List.map c8b (a0w.text++([32]++a1n.Name))).length)]⟩ krf (sR Tryd.fm ⟨[4,5],[1000,1001],[],[]⟩ ⟨[(4,I (lenI ([32]++a1n.Name))),(5, .p (.val (.nilIface)))],[(1000, .box 56 [.sfp 1000, .tsl 1 (List.map c8b (a0w.text++([32]++a1n.Name))) 1001]),(1001, .arr 5 1 (List.map c8b (a0w.text++([32]++a1n.Name))).length)]⟩ krf (sT (iq_ret (.id) [1000,1001] [] (.tup [I (lenI ([32]++a1n.Name)), .p (.val (.nilIface))]) krf krf (kqn ?_)))))))
  refine sN ⟨[0,3],[3,1000,1101],[],[]⟩ ⟨[(0, .ptr 1000 0),(3, .ptr 3 0)],[(3, .box 33 (bxc (GNode.cs a1n))),(1000, .box 56 [.sfp 1000, .tsl 1 (List.map c8b (a0w.text++([32]++a1n.Name))) 1101]),(1101, .arr 5 1 (List.map c8b (a0w.text++([32]++a1n.Name))).length)]⟩ krf (sG (xR 6 krf (xs_inline [(1000, .box 60 [.fn (.func 50) [.ptr 1001 0] []]),(1001, .box 56 [.sfp 1001, .tsl 1 (List.map c8b (a0w.text++([32]++a1n.Name))) 1002]),(1002, .arr 5 1 (List.map c8b (a0w.text++([32]++a1n.Name))).length)] [.ptr 1001 0, .p (.sl 5 (mI a1n.Kids)), .bsl 1000 1] [(1000,19),(1001,1000),(1002,1101)] [] [] krf Tryd.func39 rfl Tryd.ntmps39 rfl krf krf krf (sR Tryd.fm ⟨[1,10,11,12],[1000,1001,1002],[],[]⟩ ⟨[(1, .p (.sl 5 (mI a1n.Kids))),(10, .bsl 1000 1),(11,I 1),(12,I 0)],[(1000, .box 60 [.fn (.func 50) [.ptr 1001 0] []]),(1001, .box 56 [.sfp 1001, .tsl 1 (List.map c8b (a0w.text++([32]++a1n.Name))) 1002]),(1002, .arr 5 1 (List.map c8b (a0w.text++([32]++a1n.Name))).length)]⟩ krf (sB (sim_unroll 1 (sR Tryd.fm ⟨[1,10,11,12,13],[1000,1001,1002],[],[]⟩ ⟨[(1, .p (.sl 5 (mI a1n.Kids))),(10, .bsl 1000 1),(11,I 1),(12,I 0),(13,B true)],[(1000, .box 60 [.fn (.func 50) [.ptr 1001 0] []]),(1001, .box 56 [.sfp 1001, .tsl 1 (List.map c8b (a0w.text++([32]++a1n.Name))) 1002]),(1002, .arr 5 1 (List.map c8b (a0w.text++([32]++a1n.Name))).length)]⟩ krf ?_)))))))
  refine sS (sim_condT krf (sK (sN ⟨[1,10,11,12],[1000,1001,1002],[],[]⟩ ⟨[(1, .p (.sl 5 (mI a1n.Kids))),(10, .bsl 1000 1),(11,I 1),(12,I 0)],[(1000, .box 60 [.fn (.func 50) [.ptr 1001 0] []]),(1001, .box 56 [.sfp 1001, .tsl 1 (List.map c8b (a0w.text++([32]++a1n.Name))) 1002]),(1002, .arr 5 1 (List.map c8b (a0w.text++([32]++a1n.Name))).length)]⟩ krf (sim_bind (fun j3=>⟨[(1, .p (.sl 5 (mI a1n.Kids))),(10, .bsl 1000 1),(11,I 1),(12,I 0)],[(1000, .box 60 [.fn (.func 50) [.ptr 1001 0] []]),(1001, .box 56 [.sfp 1001, .tsl 1 (List.map c8b j3) 1002]),(1002, .arr 5 1 (List.map c8b j3).length)]⟩:(List UInt8)→St) ?_ ?_))))
  ·refine sB (sR Tryd.fm ⟨[1,7,10,11,12],[1000,1001,1002],[],[]⟩ ⟨[(1, .p (.sl 5 (mI a1n.Kids))),(7, .fn (.func 50) [.ptr 1001 0] []),(10, .bsl 1000 1),(11,I 1),(12,I 0)],[(1000, .box 60 [.fn (.func 50) [.ptr 1001 0] []]),(1001, .box 56 [.sfp 1001, .tsl 1 (List.map c8b (a0w.text++([32]++a1n.Name))) 1002]),(1002, .arr 5 1 (List.map c8b (a0w.text++([32]++a1n.Name))).length)]⟩ krf (sR Tryd.fm ⟨[1,7,10,11,12,16,17,18],[1000,1001,1002],[],[]⟩ ⟨[(1, .p (.sl 5 (mI a1n.Kids))),(7, .fn (.func 50) [.ptr 1001 0] []),(10, .bsl 1000 1),(11,I 1),(12,I 0),(16, .p (.sl 5 (mI a1n.Kids))),(17,I (lenI (mI a1n.Kids))),(18,I 0)],[(1000, .box 60 [.fn (.func 50) [.ptr 1001 0] []]),(1001, .box 56 [.sfp 1001, .tsl 1 (List.map c8b (a0w.text++([32]++a1n.Name))) 1002]),(1002, .arr 5 1 (List.map c8b (a0w.text++([32]++a1n.Name))).length)]⟩ krf (sB (sim_loop (fun (l4_1,l4_2)=>⟨[(1, .p (.sl 5 (mI a1n.Kids))),(7, .fn (.func 50) [.ptr 1001 0] []),(10, .bsl 1000 1),(11,I 1),(12,I 0),(16, .p (.sl 5 (mI a1n.Kids))),(17,I (lenI (mI a1n.Kids))),(18,I l4_1)],[(1000, .box 60 [.fn (.func 50) [.ptr 1001 0] []]),(1001, .box 56 [.sfp 1001, .tsl 1 (List.map c8b l4_2) 1002]),(1002, .arr 5 1 (List.map c8b l4_2).length)]⟩:(Int × (List UInt8))→St) (weak_shr (K:=⟨[1,7,10,11,12,16,17,18],[1000,1001,1002],[],[]⟩) krf) ?_))))
   rintro recl4 ⟨l4_1,l4_2⟩
   show SimE (g_printer_writer_attr_l4 n a1n recl4 l4_1 l4_2) _ _ _ _ _ _
   unfold g_printer_writer_attr_l4
   refine sR Tryd.fm ⟨[1,7,10,11,12,16,17,18,19],[1000,1001,1002],[],[]⟩ ⟨[(1, .p (.sl 5 (mI a1n.Kids))),(7, .fn (.func 50) [.ptr 1001 0] []),(10, .bsl 1000 1),(11,I 1),(12,I 0),(16, .p (.sl 5 (mI a1n.Kids))),(17,I (lenI (mI a1n.Kids))),(18,I l4_1),(19,B (ltI l4_1 (lenI (mI a1n.Kids))))],[(1000, .box 60 [.fn (.func 50) [.ptr 1001 0] []]),(1001, .box 56 [.sfp 1001, .tsl 1 (List.map c8b l4_2) 1002]),(1002, .arr 5 1 (List.map c8b l4_2).length)]⟩ krf (sS (sC (ltI l4_1 (lenI (mI a1n.Kids))) krf ?_ ?_))
   ·refine sK (sN ⟨[1,7,10,11,12,16,17,18],[1000,1001,1002],[],[]⟩ ⟨[(1, .p (.sl 5 (mI a1n.Kids))),(7, .fn (.func 50) [.ptr 1001 0] []),(10, .bsl 1000 1),(11,I 1),(12,I 0),(16, .p (.sl 5 (mI a1n.Kids))),(17,I (lenI (mI a1n.Kids))),(18,I l4_1)],[(1000, .box 60 [.fn (.func 50) [.ptr 1001 0] []]),(1001, .box 56 [.sfp 1001, .tsl 1 (List.map c8b l4_2) 1002]),(1002, .arr 5 1 (List.map c8b l4_2).length)]⟩ krf (sS (sB (sS (sG ?_)))))
    refine xG krf krf (aop_idxR (e:=33) (S:=5) (enc:=GNode.cs) (dec:=GNode.of) (l:=a1n.Kids) (k:=.i64) (n:=l4_1) (sv:=.p (.sl 5 (mI a1n.Kids))) GNode.of_cs rfl krf krf krf krf krf) (fun x5=>?_)
    refine xR 3 krf (xE (sN ⟨[1,7,9,10,11,12,16,17,18],[9,1000,1001,1002],[],[]⟩ ⟨[(1, .p (.sl 5 (mI a1n.Kids))),(7, .fn (.func 50) [.ptr 1001 0] []),(9, .ptr 9 0),(10, .bsl 1000 1),(11,I 1),(12,I 0),(16, .p (.sl 5 (mI a1n.Kids))),(17,I (lenI (mI a1n.Kids))),(18,I l4_1)],[(9, .box 33 (bxc (GNode.cs x5))),(1000, .box 60 [.fn (.func 50) [.ptr 1001 0] []]),(1001, .box 56 [.sfp 1001, .tsl 1 (List.map c8b l4_2) 1002]),(1002, .arr 5 1 (List.map c8b l4_2).length)]⟩ krf (sG (xR 2 krf ?_))))
    refine xs_heap [(1000,1001),(1101,1002)] [] [] krf (g_printer_writer_value_ok n (⟨l4_2⟩:GPrinterWriter) x5) krf krf krf (fun _=>by kernel_rfl) (fun _=>by kernel_rfl) (fun r6=>?_)
    refine xE (bq_n (sN ⟨[1,7,10,11,12,16,17,18],[1000,1001,1002],[],[]⟩ ⟨[(1, .p (.sl 5 (mI a1n.Kids))),(7, .fn (.func 50) [.ptr 1001 0] []),(10, .bsl 1000 1),(11,I 1),(12,I 0),(16, .p (.sl 5 (mI a1n.Kids))),(17,I (lenI (mI a1n.Kids))),(18,I l4_1)],[(1000, .box 60 [.fn (.func 50) [.ptr 1001 0] []]),(1001, .box 56 [.sfp 1001, .tsl 1 (List.map c8b r6.text) 1002]),(1002, .arr 5 1 (List.map c8b r6.text).length)]⟩ krf (sL Tryd.fm krf ?_)))
    exact kq_n (wi (l4_1+1),r6.text) ⟨[1,7,10,11,12,16,17,18],[1000,1001,1002],[],[]⟩ krf
   ·refine sim_exit (sq_x (kq_x (bq_hit (bq_n ?_))))
    exact nq_n l4_2 ⟨[1,10,11,12],[1000,1001,1002],[],[]⟩ krf
  ·rintro j3
   refine sL Tryd.fm krf (ru_n ⟨[1,10,11,12],[1000,1001,1002],[],[]⟩ ⟨[(1, .p (.sl 5 (mI a1n.Kids))),(10, .bsl 1000 1),(11,I 1),(12,I 1)],[(1000, .box 60 [.fn (.func 50) [.ptr 1001 0] []]),(1001, .box 56 [.sfp 1001, .tsl 1 (List.map c8b j3) 1002]),(1002, .arr 5 1 (List.map c8b j3).length)]⟩ krf (sR Tryd.fm ⟨[1,10,11,12,13],[1000,1001,1002],[],[]⟩ ⟨[(1, .p (.sl 5 (mI a1n.Kids))),(10, .bsl 1000 1),(11,I 1),(12,I 1),(13,B false)],[(1000, .box 60 [.fn (.func 50) [.ptr 1001 0] []]),(1001, .box 56 [.sfp 1001, .tsl 1 (List.map c8b j3) 1002]),(1002, .arr 5 1 (List.map c8b j3).length)]⟩ krf (sS (sim_condF krf (sim_exit (sq_x (ru_x ?_)))))))
   refine bq_hit (iq_n (.id) [1000,1001,1002] [] (.tup []) krf krf (kr0 (xE ?_)))
   exact hq_n (.id) [1000,1101] [] krf krf krf krf
def g_printer_writer_article_l4 (n:Nat) (a1n:GNode) (recl4:(Int × (List UInt8))→Option (List UInt8)) (l4_1:Int) (l4_2:List UInt8):Option (List UInt8) :=
 cond (ltI l4_1 (lenI (List.map idc a1n.Kids)))
  ((Option.bind (getI a1n.Kids l4_1) GNode.of).bind fun x5 =>
  (g_printer_writer_value n (⟨l4_2⟩:GPrinterWriter) x5).bind fun r6 =>
  recl4 (wi (l4_1+1),r6.text))
  (some l4_2)
def g_printer_writer_article (n:Nat) (a0w:GPrinterWriter) (a1n:GNode):Option GPrinterWriter :=
 cond (!eqI a1n.Kind 4)
  (some a0w)
  (cond (sumB [32,32] a1n.Name) (
   cond (roomB (List.length (a0w.text++([32,32]++a1n.Name))) 1&&!List.isEmpty ([32,32]++a1n.Name)) (
    (loopN (fun recl4 (l4_1,l4_2)=>g_printer_writer_article_l4 n a1n recl4 l4_1 l4_2) n (0,a0w.text++([32,32]++a1n.Name))).bind fun j3 =>
    cond (roomB (List.length (j3++[59,10])) 1&&!List.isEmpty [59,10]) (
     some (⟨j3++[59,10]⟩:GPrinterWriter)) none) none) none)
theorem g_printer_writer_article_ok (n:Nat) (a0w:GPrinterWriter) (a1n:GNode):∀ r,g_printer_writer_article n a0w a1n=some r→ACall Tryd.prog 42 [.ptr 1000 0,ag (GNode.cs a1n)] (Go.Abs.look [(1000, .box 56 [.sfp 1000, .tsl 1 (List.map c8b a0w.text) 1101]),(1101, .arr 5 1 (List.map c8b a0w.text).length)]) (heapR (fun r:GPrinterWriter=>((.ret (.tup []),[(1000, .box 56 [.sfp 1000, .tsl 1 (List.map c8b r.text) 1101]),(1101, .arr 5 1 (List.map c8b r.text).length)]):AEnd × List (Nat × Blk))) r):=by
 refine acall_sim (X:=fun r:GPrinterWriter=>((.ret (.tup []),[(1000, .box 56 [.sfp 1000, .tsl 1 (List.map c8b r.text) 1101]),(1101, .arr 5 1 (List.map c8b r.text).length)]):AEnd × List (Nat × Blk))) [(1000, .box 56 [.sfp 1000, .tsl 1 (List.map c8b a0w.text) 1101]),(1101, .arr 5 1 (List.map c8b a0w.text).length)] Tryd.func42 rfl Tryd.ntmps42 rfl ?_
 unfold g_printer_writer_article
 refine sR Tryd.fm ⟨[0,3],[3,1000,1101],[],[]⟩ ⟨[(0, .ptr 1000 0),(3, .ptr 3 0)],[(3, .box 33 (bxc (GNode.cs a1n))),(1000, .box 56 [.sfp 1000, .tsl 1 (List.map c8b a0w.text) 1101]),(1101, .arr 5 1 (List.map c8b a0w.text).length)]⟩ krf (sS (sR Tryd.fm ⟨[0,3,6],[3,1000,1101],[],[]⟩ ⟨[(0, .ptr 1000 0),(3, .ptr 3 0),(6,B (!eqI a1n.Kind 4))],[(3, .box 33 (bxc (GNode.cs a1n))),(1000, .box 56 [.sfp 1000, .tsl 1 (List.map c8b a0w.text) 1101]),(1101, .arr 5 1 (List.map c8b a0w.text).length)]⟩ krf (sC (!eqI a1n.Kind 4) krf ?_ ?_)))
 ·refine sT (sq_r ?_)
  exact hq_ret (.id) [1000,1101] [] krf krf krf krf
 ·refine sK (sN ⟨[0,3],[3,1000,1101],[],[]⟩ ⟨[(0, .ptr 1000 0),(3, .ptr 3 0)],[(3, .box 33 (bxc (GNode.cs a1n))),(1000, .box 56 [.sfp 1000, .tsl 1 (List.map c8b a0w.text) 1101]),(1101, .arr 5 1 (List.map c8b a0w.text).length)]⟩ krf (sS (sim_drw Tryd.fm rfl (xR 5 krf (xF krf krf (aop_sadd (a:=[32,32]) (b:=a1n.Name) rfl krf krf) (xs_inlineL [(1000, .box 56 [.sfp 1000, .tsl 1 (List.map c8b a0w.text) 1001]),(1001, .arr 5 1 (List.map c8b a0w.text).length)] [.ptr 1000 0,S ([32,32]++a1n.Name)] [(1000,1000),(1001,1101)] [] [] krf Tryd.func38 rfl Tryd.ntmps38 rfl krf krf krf (sR Tryd.fm ⟨[0,1],[1000,1001],[],[]⟩ ⟨[(0, .ptr 1000 0),(1,S ([32,32]++a1n.Name))],[(1000, .box 56 [.sfp 1000, .tsl 1 (List.map c8b a0w.text) 1001]),(1001, .arr 5 1 (List.map c8b a0w.text).length)]⟩ krf ?_)))))))
  refine sS (sG (xR 1 krf (xs_one1 (xs_enter (f:=49) (args:=[.ptr 1000 0]) krf krf krf ?_))))
  refine sc_hold 1000 1 1001 5 1 (List.map c8b a0w.text).length (List.map c8b a0w.text) ⟨[0,1,6],[1000],[],[]⟩ krf krf rfl (fun _ _ _=>by kernel_rfl) (fun hu1w hu1l hu1c=>?_)
  refine sc_heap [(1000,1000)] [] [] (copy_ok hu1w hu1l hu1c) krf krf krf (fun _=>by kernel_rfl) (fun _=>by kernel_rfl) (fun _=>?_)
  refine k_hold _ rfl krf krf (kr0 (xE (sN ⟨[0,1],[1000,1001],[],[]⟩ ⟨[(0, .ptr 1000 0),(1,S ([32,32]++a1n.Name))],[(1000, .box 56 [.sfp 1000, .tsl 1 (List.map c8b a0w.text) 1001]),(1001, .arr 5 1 (List.map c8b a0w.text).length)]⟩ krf (sS (sG (xR 6 krf ?_))))))
  refine xS (roomB (List.length (a0w.text++([32,32]++a1n.Name))) 1&&!List.isEmpty ([32,32]++a1n.Name)) (fun h2=>?_) (fun _=>xs_none)
  refine xs_apps (t:=52) (u:=9) (ty:=5) (bs:=a0w.text) (b:=[32,32]++a1n.Name) (tk:=1001) krf rfl krf Tryd.underlying52 Tryd.underlying9 krf krf krf krf h2 (xR 3 krf (xE (sN ⟨[1],[1000,1001],[],[]⟩ ⟨[(1,S ([32,32]++a1n.Name))],[(1000, .box 56 [.sfp 1000, .tsl 1 (List.map c8b (a0w.text++([32,32]++a1n.Name))) 1001]),(1001, .arr 5 1 (List.map c8b (a0w.text++([32,32]++a1n.Name))).length)]⟩ krf (sR Tryd.fm ⟨[4,5],[1000,1001],[],[]⟩ ⟨[(4,I (lenI ([32,32]++a1n.Name))),(5, .p (.val (.nilIface)))],[(1000, .box 56 [.sfp 1000, .tsl 1 (List.map c8b (a0w.text++([32,32]++a1n.Name))) 1001]),(1001, .arr 5 1 (List.map c8b (a0w.text++([32,32]++a1n.Name))).length)]⟩ krf (sT (iq_ret (.id) [1000,1001] [] (.tup [I (lenI ([32,32]++a1n.Name)), .p (.val (.nilIface))]) krf krf (kqn ?_)))))))
  refine sN ⟨[0,3],[3,1000,1101],[],[]⟩ ⟨[(0, .ptr 1000 0),(3, .ptr 3 0)],[(3, .box 33 (bxc (GNode.cs a1n))),(1000, .box 56 [.sfp 1000, .tsl 1 (List.map c8b (a0w.text++([32,32]++a1n.Name))) 1101]),(1101, .arr 5 1 (List.map c8b (a0w.text++([32,32]++a1n.Name))).length)]⟩ krf (sS (sG (xR 6 krf (xs_inline [(1000, .box 60 [.fn (.func 50) [.ptr 1001 0] []]),(1001, .box 56 [.sfp 1001, .tsl 1 (List.map c8b (a0w.text++([32,32]++a1n.Name))) 1002]),(1002, .arr 5 1 (List.map c8b (a0w.text++([32,32]++a1n.Name))).length)] [.ptr 1001 0, .p (.sl 5 (mI a1n.Kids)), .bsl 1000 1] [(1000,19),(1001,1000),(1002,1101)] [] [] krf Tryd.func39 rfl Tryd.ntmps39 rfl krf krf krf (sR Tryd.fm ⟨[1,10,11,12],[1000,1001,1002],[],[]⟩ ⟨[(1, .p (.sl 5 (mI a1n.Kids))),(10, .bsl 1000 1),(11,I 1),(12,I 0)],[(1000, .box 60 [.fn (.func 50) [.ptr 1001 0] []]),(1001, .box 56 [.sfp 1001, .tsl 1 (List.map c8b (a0w.text++([32,32]++a1n.Name))) 1002]),(1002, .arr 5 1 (List.map c8b (a0w.text++([32,32]++a1n.Name))).length)]⟩ krf (sB (sim_unroll 1 ?_)))))))
  refine sR Tryd.fm ⟨[1,10,11,12,13],[1000,1001,1002],[],[]⟩ ⟨[(1, .p (.sl 5 (mI a1n.Kids))),(10, .bsl 1000 1),(11,I 1),(12,I 0),(13,B true)],[(1000, .box 60 [.fn (.func 50) [.ptr 1001 0] []]),(1001, .box 56 [.sfp 1001, .tsl 1 (List.map c8b (a0w.text++([32,32]++a1n.Name))) 1002]),(1002, .arr 5 1 (List.map c8b (a0w.text++([32,32]++a1n.Name))).length)]⟩ krf (sS (sim_condT krf (sK (sN ⟨[1,10,11,12],[1000,1001,1002],[],[]⟩ ⟨[(1, .p (.sl 5 (mI a1n.Kids))),(10, .bsl 1000 1),(11,I 1),(12,I 0)],[(1000, .box 60 [.fn (.func 50) [.ptr 1001 0] []]),(1001, .box 56 [.sfp 1001, .tsl 1 (List.map c8b (a0w.text++([32,32]++a1n.Name))) 1002]),(1002, .arr 5 1 (List.map c8b (a0w.text++([32,32]++a1n.Name))).length)]⟩ krf (sim_bind (fun j3=>⟨[(1, .p (.sl 5 (mI a1n.Kids))),(10, .bsl 1000 1),(11,I 1),(12,I 0)],[(1000, .box 60 [.fn (.func 50) [.ptr 1001 0] []]),(1001, .box 56 [.sfp 1001, .tsl 1 (List.map c8b j3) 1002]),(1002, .arr 5 1 (List.map c8b j3).length)]⟩:(List UInt8)→St) ?_ ?_)))))
  ·refine sB (sR Tryd.fm ⟨[1,7,10,11,12],[1000,1001,1002],[],[]⟩ ⟨[(1, .p (.sl 5 (mI a1n.Kids))),(7, .fn (.func 50) [.ptr 1001 0] []),(10, .bsl 1000 1),(11,I 1),(12,I 0)],[(1000, .box 60 [.fn (.func 50) [.ptr 1001 0] []]),(1001, .box 56 [.sfp 1001, .tsl 1 (List.map c8b (a0w.text++([32,32]++a1n.Name))) 1002]),(1002, .arr 5 1 (List.map c8b (a0w.text++([32,32]++a1n.Name))).length)]⟩ krf (sR Tryd.fm ⟨[1,7,10,11,12,16,17,18],[1000,1001,1002],[],[]⟩ ⟨[(1, .p (.sl 5 (mI a1n.Kids))),(7, .fn (.func 50) [.ptr 1001 0] []),(10, .bsl 1000 1),(11,I 1),(12,I 0),(16, .p (.sl 5 (mI a1n.Kids))),(17,I (lenI (mI a1n.Kids))),(18,I 0)],[(1000, .box 60 [.fn (.func 50) [.ptr 1001 0] []]),(1001, .box 56 [.sfp 1001, .tsl 1 (List.map c8b (a0w.text++([32,32]++a1n.Name))) 1002]),(1002, .arr 5 1 (List.map c8b (a0w.text++([32,32]++a1n.Name))).length)]⟩ krf (sB (sim_loop (fun (l4_1,l4_2)=>⟨[(1, .p (.sl 5 (mI a1n.Kids))),(7, .fn (.func 50) [.ptr 1001 0] []),(10, .bsl 1000 1),(11,I 1),(12,I 0),(16, .p (.sl 5 (mI a1n.Kids))),(17,I (lenI (mI a1n.Kids))),(18,I l4_1)],[(1000, .box 60 [.fn (.func 50) [.ptr 1001 0] []]),(1001, .box 56 [.sfp 1001, .tsl 1 (List.map c8b l4_2) 1002]),(1002, .arr 5 1 (List.map c8b l4_2).length)]⟩:(Int × (List UInt8))→St) (weak_shr (K:=⟨[1,7,10,11,12,16,17,18],[1000,1001,1002],[],[]⟩) krf) ?_))))
   rintro recl4 ⟨l4_1,l4_2⟩
   show SimE (g_printer_writer_article_l4 n a1n recl4 l4_1 l4_2) _ _ _ _ _ _
   unfold g_printer_writer_article_l4
   refine sR Tryd.fm ⟨[1,7,10,11,12,16,17,18,19],[1000,1001,1002],[],[]⟩ ⟨[(1, .p (.sl 5 (mI a1n.Kids))),(7, .fn (.func 50) [.ptr 1001 0] []),(10, .bsl 1000 1),(11,I 1),(12,I 0),(16, .p (.sl 5 (mI a1n.Kids))),(17,I (lenI (mI a1n.Kids))),(18,I l4_1),(19,B (ltI l4_1 (lenI (mI a1n.Kids))))],[(1000, .box 60 [.fn (.func 50) [.ptr 1001 0] []]),(1001, .box 56 [.sfp 1001, .tsl 1 (List.map c8b l4_2) 1002]),(1002, .arr 5 1 (List.map c8b l4_2).length)]⟩ krf (sS (sC (ltI l4_1 (lenI (mI a1n.Kids))) krf ?_ ?_))
   ·refine sK (sN ⟨[1,7,10,11,12,16,17,18],[1000,1001,1002],[],[]⟩ ⟨[(1, .p (.sl 5 (mI a1n.Kids))),(7, .fn (.func 50) [.ptr 1001 0] []),(10, .bsl 1000 1),(11,I 1),(12,I 0),(16, .p (.sl 5 (mI a1n.Kids))),(17,I (lenI (mI a1n.Kids))),(18,I l4_1)],[(1000, .box 60 [.fn (.func 50) [.ptr 1001 0] []]),(1001, .box 56 [.sfp 1001, .tsl 1 (List.map c8b l4_2) 1002]),(1002, .arr 5 1 (List.map c8b l4_2).length)]⟩ krf (sS (sB (sS (sG ?_)))))
    refine xG krf krf (aop_idxR (e:=33) (S:=5) (enc:=GNode.cs) (dec:=GNode.of) (l:=a1n.Kids) (k:=.i64) (n:=l4_1) (sv:=.p (.sl 5 (mI a1n.Kids))) GNode.of_cs rfl krf krf krf krf krf) (fun x5=>?_)
    refine xR 3 krf (xE (sN ⟨[1,7,9,10,11,12,16,17,18],[9,1000,1001,1002],[],[]⟩ ⟨[(1, .p (.sl 5 (mI a1n.Kids))),(7, .fn (.func 50) [.ptr 1001 0] []),(9, .ptr 9 0),(10, .bsl 1000 1),(11,I 1),(12,I 0),(16, .p (.sl 5 (mI a1n.Kids))),(17,I (lenI (mI a1n.Kids))),(18,I l4_1)],[(9, .box 33 (bxc (GNode.cs x5))),(1000, .box 60 [.fn (.func 50) [.ptr 1001 0] []]),(1001, .box 56 [.sfp 1001, .tsl 1 (List.map c8b l4_2) 1002]),(1002, .arr 5 1 (List.map c8b l4_2).length)]⟩ krf (sG (xR 2 krf ?_))))
    refine xs_heap [(1000,1001),(1101,1002)] [] [] krf (g_printer_writer_value_ok n (⟨l4_2⟩:GPrinterWriter) x5) krf krf krf (fun _=>by kernel_rfl) (fun _=>by kernel_rfl) (fun r6=>?_)
    refine xE (bq_n (sN ⟨[1,7,10,11,12,16,17,18],[1000,1001,1002],[],[]⟩ ⟨[(1, .p (.sl 5 (mI a1n.Kids))),(7, .fn (.func 50) [.ptr 1001 0] []),(10, .bsl 1000 1),(11,I 1),(12,I 0),(16, .p (.sl 5 (mI a1n.Kids))),(17,I (lenI (mI a1n.Kids))),(18,I l4_1)],[(1000, .box 60 [.fn (.func 50) [.ptr 1001 0] []]),(1001, .box 56 [.sfp 1001, .tsl 1 (List.map c8b r6.text) 1002]),(1002, .arr 5 1 (List.map c8b r6.text).length)]⟩ krf (sL Tryd.fm krf ?_)))
    exact kq_n (wi (l4_1+1),r6.text) ⟨[1,7,10,11,12,16,17,18],[1000,1001,1002],[],[]⟩ krf
   ·refine sim_exit (sq_x (kq_x (bq_hit (bq_n ?_))))
    exact nq_n l4_2 ⟨[1,10,11,12],[1000,1001,1002],[],[]⟩ krf
  ·rintro j3
   refine sL Tryd.fm krf (ru_n ⟨[1,10,11,12],[1000,1001,1002],[],[]⟩ ⟨[(1, .p (.sl 5 (mI a1n.Kids))),(10, .bsl 1000 1),(11,I 1),(12,I 1)],[(1000, .box 60 [.fn (.func 50) [.ptr 1001 0] []]),(1001, .box 56 [.sfp 1001, .tsl 1 (List.map c8b j3) 1002]),(1002, .arr 5 1 (List.map c8b j3).length)]⟩ krf (sR Tryd.fm ⟨[1,10,11,12,13],[1000,1001,1002],[],[]⟩ ⟨[(1, .p (.sl 5 (mI a1n.Kids))),(10, .bsl 1000 1),(11,I 1),(12,I 1),(13,B false)],[(1000, .box 60 [.fn (.func 50) [.ptr 1001 0] []]),(1001, .box 56 [.sfp 1001, .tsl 1 (List.map c8b j3) 1002]),(1002, .arr 5 1 (List.map c8b j3).length)]⟩ krf (sS (sim_condF krf (sim_exit (sq_x (ru_x ?_)))))))
   refine bq_hit (iq_n (.id) [1000,1001,1002] [] (.tup []) krf krf (kr0 (xE (sN ⟨[0],[1000,1101],[],[]⟩ ⟨[(0, .ptr 1000 0)],[(1000, .box 56 [.sfp 1000, .tsl 1 (List.map c8b j3) 1101]),(1101, .arr 5 1 (List.map c8b j3).length)]⟩ krf (sG (xR 3 krf (xs_inline [(1000, .box 56 [.sfp 1000, .tsl 1 (List.map c8b j3) 1001]),(1001, .arr 5 1 (List.map c8b j3).length)] [.ptr 1000 0,S [59,10]] [(1000,1000),(1001,1101)] [] [] krf Tryd.func38 rfl Tryd.ntmps38 rfl krf krf krf ?_)))))))
   refine sR Tryd.fm ⟨[0,1],[1000,1001],[],[]⟩ ⟨[(0, .ptr 1000 0),(1,S [59,10])],[(1000, .box 56 [.sfp 1000, .tsl 1 (List.map c8b j3) 1001]),(1001, .arr 5 1 (List.map c8b j3).length)]⟩ krf (sS (sG (xR 1 krf (xs_one1 (xs_enter (f:=49) (args:=[.ptr 1000 0]) krf krf krf ?_)))))
   refine sc_hold 1000 1 1001 5 1 (List.map c8b j3).length (List.map c8b j3) ⟨[0,1,6],[1000],[],[]⟩ krf krf rfl (fun _ _ _=>by kernel_rfl) (fun hu7w hu7l hu7c=>?_)
   refine sc_heap [(1000,1000)] [] [] (copy_ok hu7w hu7l hu7c) krf krf krf (fun _=>by kernel_rfl) (fun _=>by kernel_rfl) (fun _=>?_)
   refine k_hold _ rfl krf krf (kr0 (xE (sN ⟨[0,1],[1000,1001],[],[]⟩ ⟨[(0, .ptr 1000 0),(1,S [59,10])],[(1000, .box 56 [.sfp 1000, .tsl 1 (List.map c8b j3) 1001]),(1001, .arr 5 1 (List.map c8b j3).length)]⟩ krf (sS (sG (xR 6 krf ?_))))))
   refine xS (roomB (List.length (j3++[59,10])) 1&&!List.isEmpty [59,10]) (fun h8=>?_) (fun _=>xs_none)
   refine xs_apps (t:=52) (u:=9) (ty:=5) (bs:=j3) (b:=[59,10]) (tk:=1001) krf rfl krf Tryd.underlying52 Tryd.underlying9 krf krf krf krf h8 (xR 3 krf (xE (sN ⟨[1],[1000,1001],[],[]⟩ ⟨[(1,S [59,10])],[(1000, .box 56 [.sfp 1000, .tsl 1 (List.map c8b (j3++[59,10])) 1001]),(1001, .arr 5 1 (List.map c8b (j3++[59,10])).length)]⟩ krf (sR Tryd.fm ⟨[4,5],[1000,1001],[],[]⟩ ⟨[(4,I (lenI [59,10])),(5, .p (.val (.nilIface)))],[(1000, .box 56 [.sfp 1000, .tsl 1 (List.map c8b (j3++[59,10])) 1001]),(1001, .arr 5 1 (List.map c8b (j3++[59,10])).length)]⟩ krf (sT (iq_ret (.id) [1000,1001] [] (.tup [I (lenI [59,10]), .p (.val (.nilIface))]) krf krf (kr0 ?_)))))))
   refine xE ?_
   exact hq_n (.id) [1000,1101] [] krf krf krf krf
def g_printer_writer_item_l5 (n:Nat) (a1n:GNode) (recl5:(Int × (List UInt8))→Option (List UInt8)) (l5_1:Int) (l5_2:List UInt8):Option (List UInt8) :=
 cond (ltI l5_1 (lenI (List.map idc a1n.Kids)))
  ((Option.bind (getI a1n.Kids l5_1) GNode.of).bind fun x6 =>
  (g_printer_writer_attr n (⟨l5_2⟩:GPrinterWriter) x6).bind fun r7 =>
  recl5 (wi (l5_1+1),r7.text))
  (some l5_2)
def g_printer_writer_item_l11 (n:Nat) (a1n:GNode) (recl11:(Int × (List UInt8))→Option (List UInt8)) (l11_1:Int) (l11_2:List UInt8):Option (List UInt8) :=
 cond (ltI l11_1 (lenI (List.map idc a1n.Kids)))
  ((Option.bind (getI a1n.Kids l11_1) GNode.of).bind fun x12 =>
  (g_printer_writer_attr n (⟨l11_2⟩:GPrinterWriter) x12).bind fun r13 =>
  recl11 (wi (l11_1+1),r13.text))
  (some l11_2)
def g_printer_writer_item_l15 (a1n:GNode) (recl15:(Int × (List UInt8))→Option (List UInt8)) (l15_1:Int) (l15_2:List UInt8):Option (List UInt8) :=
 cond (ltI l15_1 (lenI (List.map idc [GNode.cs a1n])))
  ((Option.bind (getI [GNode.cs a1n] l15_1) GNode.of).bind fun x16 =>
  cond (roomB (List.length (l15_2++[32,123,10])) 1&&!List.isEmpty [32,123,10]) (
   recl15 (wi (l15_1+1),l15_2++[32,123,10])) none)
  (some l15_2)
def g_printer_writer_item_l20 (n:Nat) (a1n:GNode) (recl20:(Int × (List UInt8))→Option (List UInt8)) (l20_1:Int) (l20_2:List UInt8):Option (List UInt8) :=
 cond (ltI l20_1 (lenI (List.map idc a1n.Kids)))
  ((Option.bind (getI a1n.Kids l20_1) GNode.of).bind fun x21 =>
  (g_printer_writer_article n (⟨l20_2⟩:GPrinterWriter) x21).bind fun r22 =>
  recl20 (wi (l20_1+1),r22.text))
  (some l20_2)
def g_printer_writer_item (n:Nat) (a0w:GPrinterWriter) (a1n:GNode):Option GPrinterWriter :=
 (getI kindsTab a1n.N).bind fun x1 =>
 cond (sumB x1 [32]) (
  cond (sumB (x1++[32]) a1n.Name) (
   cond (roomB (List.length (a0w.text++((x1++[32])++a1n.Name))) 1&&!List.isEmpty ((x1++[32])++a1n.Name)) (
    cond (!eqI a1n.N 7)
     ((loopN (fun recl5 (l5_1,l5_2)=>g_printer_writer_item_l5 n a1n recl5 l5_1 l5_2) n (0,a0w.text++((x1++[32])++a1n.Name))).bind fun j4 =>
     cond (roomB (List.length (j4++[59,10])) 1&&!List.isEmpty [59,10]) (
      some (⟨j4++[59,10]⟩:GPrinterWriter)) none)
     ((loopN (fun recl11 (l11_1,l11_2)=>g_printer_writer_item_l11 n a1n recl11 l11_1 l11_2) n (0,a0w.text++((x1++[32])++a1n.Name))).bind fun j10 =>
     (loopN (fun recl15 (l15_1,l15_2)=>g_printer_writer_item_l15 a1n recl15 l15_1 l15_2) n (0,j10)).bind fun j14 =>
     (loopN (fun recl20 (l20_1,l20_2)=>g_printer_writer_item_l20 n a1n recl20 l20_1 l20_2) n (0,j14)).bind fun j19 =>
     cond (roomB (List.length (j19++[125,10])) 1&&!List.isEmpty [125,10]) (
      some (⟨j19++[125,10]⟩:GPrinterWriter)) none)) none) none) none
end Go.Proofs
