/-
  A part of the proof of a statement of the seat YthplnakbbehpiaaGreatDoor.
-/
import Derived.Test.YthplnakbbehpiaaGreatDoorPli03
set_option linter.unusedVariables false
namespace Go.Proofs
open Go Go.Abs
set_option maxRecDepth 100000
theorem g_p_isWord_ok (n:Nat) (a0w:List UInt8):∀ r,g_p_isWord n a0w=some r→PCall Tryz.prog 127 [S a0w] (.ret (B r)):=by
 refine pcall_sim (X:=fun r:Bool=>AEnd.ret (B r)) Tryz.func127 rfl Tryz.ntmps127 rfl ?_
 unfold g_p_isWord
 refine sR tfm ⟨[0],[],[],[]⟩ ⟨[(0,S a0w)],[]⟩ krf (sS (sR tfm ⟨[3],[],[],[]⟩ ⟨[(3,S a0w)],[]⟩ krf (sB (sim_bind (fun j1=>⟨[(4,B j1)],[]⟩:Bool→St) ?_ ?_))))
 ·refine sR tfm ⟨[3,4],[],[],[]⟩ ⟨[(3,S a0w),(4,B (eqS a0w [111,110]))],[]⟩ krf (sC (eqS a0w [111,110]) krf ?_ ?_)
  ·refine sK ?_
   exact nq_n (eqS a0w [111,110]) ⟨[4],[],[],[]⟩ krf
  ·refine sR tfm ⟨[3,4],[],[],[]⟩ ⟨[(3,S a0w),(4,B (eqS a0w [119,111,114,107]))],[]⟩ krf (sC (eqS a0w [119,111,114,107]) krf ?_ ?_)
   ·refine sK ?_
    exact nq_n (eqS a0w [119,111,114,107]) ⟨[4],[],[],[]⟩ krf
   ·refine sR tfm ⟨[3,4],[],[],[]⟩ ⟨[(3,S a0w),(4,B (eqS a0w [115,97,116,117,114,100,97,121]))],[]⟩ krf (sC (eqS a0w [115,97,116,117,114,100,97,121]) krf ?_ ?_)
    ·refine sK ?_
     exact nq_n (eqS a0w [115,97,116,117,114,100,97,121]) ⟨[4],[],[],[]⟩ krf
    ·refine sR tfm ⟨[3,4],[],[],[]⟩ ⟨[(3,S a0w),(4,B (eqS a0w [115,117,110,100,97,121]))],[]⟩ krf (sC (eqS a0w [115,117,110,100,97,121]) krf ?_ ?_)
     ·refine sK ?_
      exact nq_n (eqS a0w [115,117,110,100,97,121]) ⟨[4],[],[],[]⟩ krf
     ·refine sR tfm ⟨[3,4],[],[],[]⟩ ⟨[(3,S a0w),(4,B (eqS a0w [98,101,116,119,101,101,110]))],[]⟩ krf (sC (eqS a0w [98,101,116,119,101,101,110]) krf ?_ ?_)
      ·refine sK ?_
       exact nq_n (eqS a0w [98,101,116,119,101,101,110]) ⟨[4],[],[],[]⟩ krf
      ·refine sR tfm ⟨[3,4],[],[],[]⟩ ⟨[(3,S a0w),(4,B (eqS a0w [112,101,114]))],[]⟩ krf (sC (eqS a0w [112,101,114]) krf ?_ ?_)
       ·refine sK ?_
        exact nq_n (eqS a0w [112,101,114]) ⟨[4],[],[],[]⟩ krf
       ·refine sL tfm krf ?_
        exact nq_n (eqS a0w [102,114,101,101]) ⟨[4],[],[],[]⟩ krf
 ·rintro j1
  refine sC j1 krf ?_ ?_
  ·refine sR tfm ⟨[2],[],[],[]⟩ ⟨[(2,B true)],[]⟩ krf (sT (bq_r (sq_r ?_)))
   exact qR (.id) krf krf krf
  ·refine sK (bq_n (sN ⟨[],[],[],[]⟩ ⟨[],[]⟩ krf (sR tfm ⟨[2],[],[],[]⟩ ⟨[(2,B false)],[]⟩ krf (sT ?_))))
   exact qR (.id) krf krf krf
def g_p_isKey (n:Nat) (a0w:List UInt8):Option Bool :=
 (g_p_kindOf n a0w).bind fun r1 =>
 cond (!eqI r1 0)
  (some true)
  ((g_p_isAttr n a0w).bind fun r3 =>
  cond r3
   (some true)
   ((g_p_isArticle n a0w).bind fun r5 =>
   cond r5
    (some true)
    ((g_p_isWord n a0w).bind fun r7 =>
    some r7)))
theorem g_p_isKey_ok (n:Nat) (a0w:List UInt8):∀ r,g_p_isKey n a0w=some r→PCall Tryz.prog 109 [S a0w] (.ret (B r)):=by
 refine pcall_sim (X:=fun r:Bool=>AEnd.ret (B r)) Tryz.func109 rfl Tryz.ntmps109 rfl ?_
 unfold g_p_isKey
 refine sR tfm ⟨[0],[],[],[]⟩ ⟨[(0,S a0w)],[]⟩ krf (sS (sG (xR 1 krf ?_)))
 refine xC [] krf (g_p_kindOf_ok n a0w) krf krf kff (fun r1=>?_)
 refine xR 2 krf ?_
 refine xS (!eqI r1 0) (fun h2=>?_) (fun h2=>?_)
 ·refine xN (want_ft krf h2) krf (xR 11 krf (xE (sN ⟨[2],[],[],[]⟩ ⟨[(2,B true)],[]⟩ krf (sT ?_))))
  exact qR (.id) krf krf krf
 ·refine xO (want_ff krf h2) krf ?_
  refine xC [] krf (g_p_isAttr_ok n a0w) krf krf kff (fun r3=>?_)
  refine xR 2 krf ?_
  refine xS r3 (fun h4=>?_) (fun h4=>?_)
  ·refine xN (want_ft krf h4) krf (xR 7 krf (xE (sN ⟨[2],[],[],[]⟩ ⟨[(2,B true)],[]⟩ krf (sT ?_))))
   exact qR (.id) krf krf krf
  ·refine xO (want_ff krf h4) krf ?_
   refine xC [] krf (g_p_isArticle_ok n a0w) krf krf kff (fun r5=>?_)
   refine xR 2 krf ?_
   refine xS r5 (fun h6=>?_) (fun h6=>?_)
   ·refine xN (want_ft krf h6) krf (xR 3 krf (xE (sN ⟨[2],[],[],[]⟩ ⟨[(2,B true)],[]⟩ krf (sT ?_))))
    exact qR (.id) krf krf krf
   ·refine xO (want_ff krf h6) krf ?_
    refine xC [] krf (g_p_isWord_ok n a0w) krf krf kff (fun r7=>?_)
    refine xR 2 krf (xE (sN ⟨[2],[],[],[]⟩ ⟨[(2,B r7)],[]⟩ krf (sT ?_)))
    exact qR (.id) krf krf krf
def g_p_notKey (n:Nat) (a0text:List UInt8):Option Bool :=
 (g_p_isKey n a0text).bind fun r1 =>
 some (!r1)
theorem g_p_notKey_ok (n:Nat) (a0text:List UInt8):∀ r,g_p_notKey n a0text=some r→PCall Tryz.prog 97 [S a0text] (.ret (B r)):=by
 refine pcall_sim (X:=fun r:Bool=>AEnd.ret (B r)) Tryz.func97 rfl Tryz.ntmps97 rfl ?_
 unfold g_p_notKey
 refine sR tfm ⟨[0],[],[],[]⟩ ⟨[(0,S a0text)],[]⟩ krf (sS (sG (xR 1 krf ?_)))
 refine xC [] krf (g_p_isKey_ok n a0text) krf krf kff (fun r1=>?_)
 refine xR 2 krf (xE (sN ⟨[2],[],[],[]⟩ ⟨[(2,B (!r1))],[]⟩ krf (sT ?_)))
 exact qR (.id) krf krf krf
def g_r_values_l1 (n:Nat) (a0r:GPr) (recl1:((List (List PV)) × Int)→Option ((List (List PV)) × GPr)) (l1_1:List (List PV)) (l1_2:Int):Option ((List (List PV)) × GPr) :=
 (g_r_peek n (⟨a0r.tks,l1_2,a0r.length,[]⟩:GPr)).bind fun r2 =>
 cond (eqI r2.Kind 2)
  ((some ()).bind fun _ =>
  cond (roomB (List.length (l1_1++[GN.cs (⟨6,[],r2.N,r2.At,[]⟩:GN)])) 64) (
   recl1 (l1_1++[GN.cs (⟨6,[],r2.N,r2.At,[]⟩:GN)],wi (l1_2+1))) none)
  ((cond (eqI r2.Kind 1)
   ((g_p_notKey n r2.Text).bind fun r6 =>
   some r6)
   (some false)).bind fun j4 =>
  cond j4
   ((some ()).bind fun _ =>
   cond (roomB (List.length (l1_1++[GN.cs (⟨5,r2.Text,0,r2.At,[]⟩:GN)])) 64) (
    recl1 (l1_1++[GN.cs (⟨5,r2.Text,0,r2.At,[]⟩:GN)],wi (l1_2+1))) none)
   (some (l1_1,(⟨a0r.tks,l1_2,a0r.length,[]⟩:GPr))))
def g_r_values (n:Nat) (a0r:GPr):Option ((List (List PV)) × GPr) :=
 loopN (fun recl1 (l1_1,l1_2)=>g_r_values_l1 n a0r recl1 l1_1 l1_2) n ([],a0r.pos)
abbrev amI24 (x:List (List PV)):Go.Abs.Blk:=.arr 24 5 (mI x).length
theorem g_r_values_ok (n:Nat) (a0r:GPr) (h03w:Option Addr) (h03l h03c:Nat):∀ r,g_r_values n a0r=some r→ACall Tryz.prog 121 [pZ0, .p (.val (.func (.func 97) #[] #[]))] (Go.Abs.look [(1000, .box 70 [.p (.sl 4 (mTk a0r.tks)),I a0r.pos,I a0r.length,hS h03w h03l h03c])]) (heapR (fun r:(List (List PV)) × GPr=>((.ret (.p (.sl 5 (mI r.1))),[(1000, .box 70 [.p (.sl 4 (mTk r.2.tks)),I r.2.pos,I r.2.length,hS h03w h03l h03c])]):AEnd × List (Nat × Blk))) r):=by
 refine acall_sim (X:=fun r:(List (List PV)) × GPr=>((.ret (.p (.sl 5 (mI r.1))),[(1000, .box 70 [.p (.sl 4 (mTk r.2.tks)),I r.2.pos,I r.2.length,hS h03w h03l h03c])]):AEnd × List (Nat × Blk))) [(1000, .box 70 [.p (.sl 4 (mTk a0r.tks)),I a0r.pos,I a0r.length,hS h03w h03l h03c])] Tryz.func121 rfl Tryz.ntmps121 rfl ?_
 unfold g_r_values
 refine sR tfm ⟨[0,1],[1000],[],[]⟩ ⟨[(0,pZ0),(1, .p (.val (.func (.func 97) #[] #[])))],[(1000, .box 70 [.p (.sl 4 (mTk a0r.tks)),I a0r.pos,I a0r.length,hS h03w h03l h03c])]⟩ krf (sR tfm ⟨[0,1,5],[1000],[],[]⟩ ⟨[(0,pZ0),(1, .p (.val (.func (.func 97) #[] #[]))),(5,zS)],[(1000, .box 70 [.p (.sl 4 (mTk a0r.tks)),I a0r.pos,I a0r.length,hS h03w h03l h03c])]⟩ krf (sB (sP ⟨[0,1,5],[1000],[],[]⟩ ⟨[(0,pZ0),(1, .p (.val (.func (.func 97) #[] #[]))),(5,zS)],[(1000, .box 70 [.p (.sl 4 (mTk a0r.tks)),I a0r.pos,I a0r.length,hS h03w h03l h03c])]⟩ krf (sim_weak (weak_pn 24 5 600 [5] [] krf) (sim_loop (fun (l1_1,l1_2)=>⟨[(0,pZ0),(1, .p (.val (.func (.func 97) #[] #[]))),(5, .tsl 5 (mI l1_1) 600)],[(600,amI24 l1_1),(1000, .box 70 [.p (.sl 4 (mTk a0r.tks)),I l1_2,I a0r.length,hS h03w h03l h03c])]⟩:((List (List PV)) × Int)→St) (weak_shr (K:=⟨[0,1,5],[600,1000],[],[]⟩) krf) ?_)))))
 rintro recl1 ⟨l1_1,l1_2⟩
 show SimE (g_r_values_l1 n a0r recl1 l1_1 l1_2) _ _ _ _ _ _
 unfold g_r_values_l1
 refine sB (sS (sG (xR 1 krf ?_)))
 refine xs_ro [.ro []] krf (g_r_peek_ok n (⟨a0r.tks,l1_2,a0r.length,[]⟩:GPr) h03w h03l h03c) krf krf kff (fun r2=>?_)
 refine xR 2 krf (xE (sN ⟨[0,1,5,6],[6,600,1000],[],[]⟩ ⟨[(0,pZ0),(1, .p (.val (.func (.func 97) #[] #[]))),(5, .tsl 5 (mI l1_1) 600),qq 6],[(6,bGTk63 r2),(600,amI24 l1_1),(1000, .box 70 [.p (.sl 4 (mTk a0r.tks)),I l1_2,I a0r.length,hS h03w h03l h03c])]⟩ krf (sS (sB (sR tfm ⟨[0,1,5,6,10],[6,600,1000],[],[]⟩ ⟨[(0,pZ0),(1, .p (.val (.func (.func 97) #[] #[]))),(5, .tsl 5 (mI l1_1) 600),qq 6,(10,B (eqI r2.Kind 2))],[(6,bGTk63 r2),(600,amI24 l1_1),(1000, .box 70 [.p (.sl 4 (mTk a0r.tks)),I l1_2,I a0r.length,hS h03w h03l h03c])]⟩ krf (sC (eqI r2.Kind 2) krf ?_ ?_))))))
 ·refine sG (xR 4 krf (xs_inline [] [.agg [I r2.Kind,S r2.Text,I r2.N,I r2.At],I 6,S [],I r2.N,zS] [] [] [] krf Tryz.func40 rfl Tryz.ntmps40 rfl krf krf krf (sR tfm ⟨[1,2,3,4,5,10],[5,10],[],[]⟩ ⟨[(1,I 6),(2,S []),(3,I r2.N),(4,zS),qq 5,qq 10],[(5,bGTk63 r2),(10, .box 24 zN)]⟩ krf (sR tfm ⟨[4,10,11],[10,11],[],[]⟩ ⟨[(4,zS),qq 10,qq 11],[(10, .box 24 zN),(11, .box 24 [I 6,S [],I r2.N,I r2.At,zS])]⟩ krf (sim_bind (fun _=>⟨[qq 10,qq 11],[(10, .box 24 zN),(11, .box 24 [I 6,S [],I r2.N,I r2.At,zS])]⟩:Unit→St) ?_ ?_)))))
  ·refine sR tfm ⟨[10,11,20,21,22],[10,11],[],[]⟩ ⟨[qq 10,qq 11,(20,zS),(21,I 0),(22,I 0)],[(10, .box 24 zN),(11, .box 24 [I 6,S [],I r2.N,I r2.At,zS])]⟩ krf (sB (sim_unroll 0 (sR tfm ⟨[10,11,20,21,22,23],[10,11],[],[]⟩ ⟨[qq 10,qq 11,(20,zS),(21,I 0),(22,I 0),(23,B false)],[(10, .box 24 zN),(11, .box 24 [I 6,S [],I r2.N,I r2.At,zS])]⟩ krf (sS (sim_condF krf (sim_exit (sq_x ?_)))))))
   refine ru_x (bq_hit ?_)
   exact nq_n () ⟨[10,11],[10,11],[],[]⟩ krf
  ·rintro _
   refine sR tfm ⟨[10],[10],[],[]⟩ ⟨[qq 10],[(10, .box 24 [I 6,S [],I r2.N,I r2.At,zS])]⟩ krf (sT (iq_ret (.agg [.id, .id, .id, .id, .sl 5]) [] [] (.agg [I 6,S [],I r2.N,I r2.At, .p (.sl 5 (mI []))]) krf krf (kr0 (xR 1 krf (xF krf krf (aop_app (e:=24) (S:=5) (by_:=64) (enc:=idc) (tk:=600) (l:=l1_1) (l2:=[GN.cs (⟨6,[],r2.N,r2.At,[]⟩:GN)]) (xv:=.tsl 5 (mI [GN.cs (⟨6,[],r2.N,r2.At,[]⟩:GN)]) 19) rfl krf krf rfl krf krf krf rfl krf) (xR 1 krf (xE ?_)))))))
   refine bq_n (sN ⟨[0,1,5],[600,1000],[],[]⟩ ⟨[(0,pZ0),(1, .p (.val (.func (.func 97) #[] #[]))),(5, .tsl 5 (mI (l1_1++[GN.cs (⟨6,[],r2.N,r2.At,[]⟩:GN)])) 600)],[(600,amI24 (l1_1++[GN.cs (⟨6,[],r2.N,r2.At,[]⟩:GN)])),(1000, .box 70 [.p (.sl 4 (mTk a0r.tks)),I l1_2,I a0r.length,hS h03w h03l h03c])]⟩ krf (sL tfm krf (bq_n ?_)))
   exact kq_n (l1_1++[GN.cs (⟨6,[],r2.N,r2.At,[]⟩:GN)],wi (l1_2+1)) ⟨[0,1,5],[600,1000],[],[]⟩ krf
 ·refine sim_bind (fun j4=>⟨[(0,pZ0),(1, .p (.val (.func (.func 97) #[] #[]))),(5, .tsl 5 (mI l1_1) 600),qq 6,(21,B j4)],[(6,bGTk63 r2),(600,amI24 l1_1),(1000, .box 70 [.p (.sl 4 (mTk a0r.tks)),I l1_2,I a0r.length,hS h03w h03l h03c])]⟩:Bool→St) ?_ ?_
  ·refine sG (xR 4 krf ?_)
   refine xS (eqI r2.Kind 1) (fun h5=>?_) (fun h5=>?_)
   ·refine xO (want_tt krf h5) krf (xR 2 krf ?_)
    refine xC [] krf (g_p_notKey_ok n r2.Text) krf krf kff (fun r6=>?_)
    refine xR 2 krf (xE ?_)
    exact nq_n r6 ⟨[0,1,5,6,21],[6,600,1000],[],[]⟩ krf
   ·refine xN (want_tf krf h5) krf (xR 5 krf (xE ?_))
    exact nq_n false ⟨[0,1,5,6,21],[6,600,1000],[],[]⟩ krf
  ·rintro j4
   refine sC j4 krf ?_ ?_
   ·refine sG (xR 4 krf (xs_inline [] [.agg [I r2.Kind,S r2.Text,I r2.N,I r2.At],I 5,S r2.Text,I 0,zS] [] [] [] krf Tryz.func40 rfl Tryz.ntmps40 rfl krf krf krf (sR tfm ⟨[1,2,3,4,5,10],[5,10],[],[]⟩ ⟨[(1,I 5),(2,S r2.Text),(3,I 0),(4,zS),qq 5,qq 10],[(5,bGTk63 r2),(10, .box 24 zN)]⟩ krf (sR tfm ⟨[4,10,11],[10,11],[],[]⟩ ⟨[(4,zS),qq 10,qq 11],[(10, .box 24 zN),(11, .box 24 [I 5,S r2.Text,I 0,I r2.At,zS])]⟩ krf (sim_bind (fun _=>⟨[qq 10,qq 11],[(10, .box 24 zN),(11, .box 24 [I 5,S r2.Text,I 0,I r2.At,zS])]⟩:Unit→St) ?_ ?_)))))
    ·refine sR tfm ⟨[10,11,20,21,22],[10,11],[],[]⟩ ⟨[qq 10,qq 11,(20,zS),(21,I 0),(22,I 0)],[(10, .box 24 zN),(11, .box 24 [I 5,S r2.Text,I 0,I r2.At,zS])]⟩ krf (sB (sim_unroll 0 (sR tfm ⟨[10,11,20,21,22,23],[10,11],[],[]⟩ ⟨[qq 10,qq 11,(20,zS),(21,I 0),(22,I 0),(23,B false)],[(10, .box 24 zN),(11, .box 24 [I 5,S r2.Text,I 0,I r2.At,zS])]⟩ krf (sS (sim_condF krf (sim_exit (sq_x ?_)))))))
     refine ru_x (bq_hit ?_)
     exact nq_n () ⟨[10,11],[10,11],[],[]⟩ krf
    ·rintro _
     refine sR tfm ⟨[10],[10],[],[]⟩ ⟨[qq 10],[(10, .box 24 [I 5,S r2.Text,I 0,I r2.At,zS])]⟩ krf (sT (iq_ret (.agg [.id, .id, .id, .id, .sl 5]) [] [] (.agg [I 5,S r2.Text,I 0,I r2.At, .p (.sl 5 (mI []))]) krf krf (kr0 (xR 1 krf (xF krf krf (aop_app (e:=24) (S:=5) (by_:=64) (enc:=idc) (tk:=600) (l:=l1_1) (l2:=[GN.cs (⟨5,r2.Text,0,r2.At,[]⟩:GN)]) (xv:=.tsl 5 (mI [GN.cs (⟨5,r2.Text,0,r2.At,[]⟩:GN)]) 36) rfl krf krf rfl krf krf krf rfl krf) (xR 1 krf (xE ?_)))))))
     refine bq_n (sN ⟨[0,1,5],[600,1000],[],[]⟩ ⟨[(0,pZ0),(1, .p (.val (.func (.func 97) #[] #[]))),(5, .tsl 5 (mI (l1_1++[GN.cs (⟨5,r2.Text,0,r2.At,[]⟩:GN)])) 600)],[(600,amI24 (l1_1++[GN.cs (⟨5,r2.Text,0,r2.At,[]⟩:GN)])),(1000, .box 70 [.p (.sl 4 (mTk a0r.tks)),I l1_2,I a0r.length,hS h03w h03l h03c])]⟩ krf (sL tfm krf (bq_n ?_)))
     exact kq_n (l1_1++[GN.cs (⟨5,r2.Text,0,r2.At,[]⟩:GN)],wi (l1_2+1)) ⟨[0,1,5],[600,1000],[],[]⟩ krf
   ·refine sR tfm ⟨[4],[600,1000],[],[]⟩ ⟨[(4, .tsl 5 (mI l1_1) 600)],[(600,amI24 l1_1),(1000, .box 70 [.p (.sl 4 (mTk a0r.tks)),I l1_2,I a0r.length,hS h03w h03l h03c])]⟩ krf (sT (bq_r (sq_r (bq_r (kq_r (bq_r ?_))))))
    exact hq_ret (.sl 5) [1000] [] krf krf krf krf
def g_r_peek_2 (n:Nat) (a0r:GPr):Option GTk :=
 cond (ltI a0r.pos (lenI (List.map GTk.cs a0r.tks)))
  ((getI a0r.tks a0r.pos).bind fun x1 =>
  some x1)
  (some (⟨0,[],0,a0r.length⟩:GTk))
theorem g_r_peek_2_ok (n:Nat) (a0r:GPr):∀ r,g_r_peek_2 n a0r=some r→PCall Tryz.prog 116 [.eptr (GPr.cs a0r)] (.ret (ag (GTk.cs r))):=by
 refine pcall_sim (X:=fun r:GTk=>AEnd.ret (ag (GTk.cs r))) Tryz.func116 rfl Tryz.ntmps116 rfl ?_
 unfold g_r_peek_2
 refine sR tfm ⟨[0,2],[2],[],[]⟩ ⟨[(0, .eptr (GPr.cs a0r)),qq 2],[(2, .box 63 [I 0,S [],I 0,I 0])]⟩ krf (sS (sR tfm ⟨[0,2,12],[2],[],[]⟩ ⟨[(0, .eptr (GPr.cs a0r)),qq 2,(12,B (ltI a0r.pos (lenI (mTk a0r.tks))))],[(2, .box 63 [I 0,S [],I 0,I 0])]⟩ krf (sC (ltI a0r.pos (lenI (mTk a0r.tks))) krf ?_ ?_)))
 ·refine sS (sim_drw tfm rfl (xR 8 krf ?_))
  refine xG krf krf (aop_idx (e:=63) (S:=4) (enc:=GTk.cs) (l:=a0r.tks) (k:=.i64) (n:=a0r.pos) (sv:=.p (.sl 4 (mTk a0r.tks))) rfl krf krf krf krf krf) (fun x1=>?_)
  refine xR 2 krf (xs_endD krf (sN ⟨[2],[2],[],[]⟩ ⟨[qq 2],[(2,bGTk63 x1)]⟩ krf (sT (sq_r ?_))))
  exact qR (.id) krf krf krf
 ·refine sK (sN ⟨[0,2],[2],[],[]⟩ ⟨[(0, .eptr (GPr.cs a0r)),qq 2],[(2, .box 63 [I 0,S [],I 0,I 0])]⟩ krf (sR tfm ⟨[2],[2],[],[]⟩ ⟨[qq 2],[(2, .box 63 [I 0,S [],I 0,I a0r.length])]⟩ krf (sT ?_)))
  exact qR (.id) krf krf krf
def g_r_fail_2 (n:Nat) (a0r:GPr):Option (Except Int Unit) :=
 (g_r_peek_2 n a0r).bind fun r1 =>
 some (.error r1.At)
theorem g_r_fail_2_ok (n:Nat) (a0r:GPr):∀ r,g_r_fail_2 n a0r=some r→PCall Tryz.prog 117 [.eptr (GPr.cs a0r)] (excE (fun r:Unit=>(.tup []:AV)) (fun e:Int=>(.ifc 105 (.agg [I e]):AV)) r):=by
 refine pcall_sim (X:=excE (fun r:Unit=>(.tup []:AV)) (fun e:Int=>(.ifc 105 (.agg [I e]):AV))) Tryz.func117 rfl Tryz.ntmps117 rfl ?_
 unfold g_r_fail_2
 refine sG (xR 1 krf ?_)
 refine xC [] krf (g_r_peek_2_ok n a0r) krf krf kff (fun r1=>?_)
 refine xR 3 krf (xs_panic 105 (.agg [I r1.At]) krf rfl krf ?_)
 exact rq_p krf krf
def g_r_article_1_1 (n:Nat) (a0text:List UInt8):Option Bool :=
 (g_p_notKey n a0text).bind fun r1 =>
 cond r1
  (some true)
  ((g_p_isWord n a0text).bind fun r3 =>
  some r3)
theorem g_r_article_1_1_ok (n:Nat) (a0text:List UInt8):∀ r,g_r_article_1_1 n a0text=some r→PCall Tryz.prog 130 [S a0text] (.ret (B r)):=by
 refine pcall_sim (X:=fun r:Bool=>AEnd.ret (B r)) Tryz.func130 rfl Tryz.ntmps130 rfl ?_
 unfold g_r_article_1_1
 refine sR tfm ⟨[0],[],[],[]⟩ ⟨[(0,S a0text)],[]⟩ krf (sS (sG (xR 1 krf ?_)))
 refine xC [] krf (g_p_notKey_ok n a0text) krf krf kff (fun r1=>?_)
 refine xR 1 krf ?_
 refine xS r1 (fun h2=>?_) (fun h2=>?_)
 ·refine xN (want_ft krf h2) krf (xR 3 krf (xE (sN ⟨[2],[],[],[]⟩ ⟨[(2,B true)],[]⟩ krf (sT ?_))))
  exact qR (.id) krf krf krf
 ·refine xO (want_ff krf h2) krf ?_
  refine xC [] krf (g_p_isWord_ok n a0text) krf krf kff (fun r3=>?_)
  refine xR 2 krf (xE (sN ⟨[2],[],[],[]⟩ ⟨[(2,B r3)],[]⟩ krf (sT ?_)))
  exact qR (.id) krf krf krf
def g_r_values_2_l1 (n:Nat) (a0r:GPr) (recl1:((List (List PV)) × Int)→Option ((List (List PV)) × GPr)) (l1_1:List (List PV)) (l1_2:Int):Option ((List (List PV)) × GPr) :=
 (g_r_peek n (⟨a0r.tks,l1_2,a0r.length,[]⟩:GPr)).bind fun r2 =>
 cond (eqI r2.Kind 2)
  ((some ()).bind fun _ =>
  cond (roomB (List.length (l1_1++[GN.cs (⟨6,[],r2.N,r2.At,[]⟩:GN)])) 64) (
   recl1 (l1_1++[GN.cs (⟨6,[],r2.N,r2.At,[]⟩:GN)],wi (l1_2+1))) none)
  ((cond (eqI r2.Kind 1)
   ((g_r_article_1_1 n r2.Text).bind fun r6 =>
   some r6)
   (some false)).bind fun j4 =>
  cond j4
   ((some ()).bind fun _ =>
   cond (roomB (List.length (l1_1++[GN.cs (⟨5,r2.Text,0,r2.At,[]⟩:GN)])) 64) (
    recl1 (l1_1++[GN.cs (⟨5,r2.Text,0,r2.At,[]⟩:GN)],wi (l1_2+1))) none)
   (some (l1_1,(⟨a0r.tks,l1_2,a0r.length,[]⟩:GPr))))
def g_r_values_2 (n:Nat) (a0r:GPr):Option ((List (List PV)) × GPr) :=
 loopN (fun recl1 (l1_1,l1_2)=>g_r_values_2_l1 n a0r recl1 l1_1 l1_2) n ([],a0r.pos)
theorem g_r_values_2_ok (n:Nat) (a0r:GPr) (h03w:Option Addr) (h03l h03c:Nat):∀ r,g_r_values_2 n a0r=some r→ACall Tryz.prog 121 [pZ0, .p (.val (.func (.func 130) #[] #[]))] (Go.Abs.look [(1000, .box 70 [.p (.sl 4 (mTk a0r.tks)),I a0r.pos,I a0r.length,hS h03w h03l h03c])]) (heapR (fun r:(List (List PV)) × GPr=>((.ret (.p (.sl 5 (mI r.1))),[(1000, .box 70 [.p (.sl 4 (mTk r.2.tks)),I r.2.pos,I r.2.length,hS h03w h03l h03c])]):AEnd × List (Nat × Blk))) r):=by
 refine acall_sim (X:=fun r:(List (List PV)) × GPr=>((.ret (.p (.sl 5 (mI r.1))),[(1000, .box 70 [.p (.sl 4 (mTk r.2.tks)),I r.2.pos,I r.2.length,hS h03w h03l h03c])]):AEnd × List (Nat × Blk))) [(1000, .box 70 [.p (.sl 4 (mTk a0r.tks)),I a0r.pos,I a0r.length,hS h03w h03l h03c])] Tryz.func121 rfl Tryz.ntmps121 rfl ?_
 unfold g_r_values_2
 refine sR tfm ⟨[0,1],[1000],[],[]⟩ ⟨[(0,pZ0),(1, .p (.val (.func (.func 130) #[] #[])))],[(1000, .box 70 [.p (.sl 4 (mTk a0r.tks)),I a0r.pos,I a0r.length,hS h03w h03l h03c])]⟩ krf (sR tfm ⟨[0,1,5],[1000],[],[]⟩ ⟨[(0,pZ0),(1, .p (.val (.func (.func 130) #[] #[]))),(5,zS)],[(1000, .box 70 [.p (.sl 4 (mTk a0r.tks)),I a0r.pos,I a0r.length,hS h03w h03l h03c])]⟩ krf (sB (sP ⟨[0,1,5],[1000],[],[]⟩ ⟨[(0,pZ0),(1, .p (.val (.func (.func 130) #[] #[]))),(5,zS)],[(1000, .box 70 [.p (.sl 4 (mTk a0r.tks)),I a0r.pos,I a0r.length,hS h03w h03l h03c])]⟩ krf (sim_weak (weak_pn 24 5 600 [5] [] krf) (sim_loop (fun (l1_1,l1_2)=>⟨[(0,pZ0),(1, .p (.val (.func (.func 130) #[] #[]))),(5, .tsl 5 (mI l1_1) 600)],[(600,amI24 l1_1),(1000, .box 70 [.p (.sl 4 (mTk a0r.tks)),I l1_2,I a0r.length,hS h03w h03l h03c])]⟩:((List (List PV)) × Int)→St) (weak_shr (K:=⟨[0,1,5],[600,1000],[],[]⟩) krf) ?_)))))
 rintro recl1 ⟨l1_1,l1_2⟩
 show SimE (g_r_values_2_l1 n a0r recl1 l1_1 l1_2) _ _ _ _ _ _
 unfold g_r_values_2_l1
 refine sB (sS (sG (xR 1 krf ?_)))
 refine xs_ro [.ro []] krf (g_r_peek_ok n (⟨a0r.tks,l1_2,a0r.length,[]⟩:GPr) h03w h03l h03c) krf krf kff (fun r2=>?_)
 refine xR 2 krf (xE (sN ⟨[0,1,5,6],[6,600,1000],[],[]⟩ ⟨[(0,pZ0),(1, .p (.val (.func (.func 130) #[] #[]))),(5, .tsl 5 (mI l1_1) 600),qq 6],[(6,bGTk63 r2),(600,amI24 l1_1),(1000, .box 70 [.p (.sl 4 (mTk a0r.tks)),I l1_2,I a0r.length,hS h03w h03l h03c])]⟩ krf (sS (sB (sR tfm ⟨[0,1,5,6,10],[6,600,1000],[],[]⟩ ⟨[(0,pZ0),(1, .p (.val (.func (.func 130) #[] #[]))),(5, .tsl 5 (mI l1_1) 600),qq 6,(10,B (eqI r2.Kind 2))],[(6,bGTk63 r2),(600,amI24 l1_1),(1000, .box 70 [.p (.sl 4 (mTk a0r.tks)),I l1_2,I a0r.length,hS h03w h03l h03c])]⟩ krf (sC (eqI r2.Kind 2) krf ?_ ?_))))))
 ·refine sG (xR 4 krf (xs_inline [] [.agg [I r2.Kind,S r2.Text,I r2.N,I r2.At],I 6,S [],I r2.N,zS] [] [] [] krf Tryz.func40 rfl Tryz.ntmps40 rfl krf krf krf (sR tfm ⟨[1,2,3,4,5,10],[5,10],[],[]⟩ ⟨[(1,I 6),(2,S []),(3,I r2.N),(4,zS),qq 5,qq 10],[(5,bGTk63 r2),(10, .box 24 zN)]⟩ krf (sR tfm ⟨[4,10,11],[10,11],[],[]⟩ ⟨[(4,zS),qq 10,qq 11],[(10, .box 24 zN),(11, .box 24 [I 6,S [],I r2.N,I r2.At,zS])]⟩ krf (sim_bind (fun _=>⟨[qq 10,qq 11],[(10, .box 24 zN),(11, .box 24 [I 6,S [],I r2.N,I r2.At,zS])]⟩:Unit→St) ?_ ?_)))))
  ·refine sR tfm ⟨[10,11,20,21,22],[10,11],[],[]⟩ ⟨[qq 10,qq 11,(20,zS),(21,I 0),(22,I 0)],[(10, .box 24 zN),(11, .box 24 [I 6,S [],I r2.N,I r2.At,zS])]⟩ krf (sB (sim_unroll 0 (sR tfm ⟨[10,11,20,21,22,23],[10,11],[],[]⟩ ⟨[qq 10,qq 11,(20,zS),(21,I 0),(22,I 0),(23,B false)],[(10, .box 24 zN),(11, .box 24 [I 6,S [],I r2.N,I r2.At,zS])]⟩ krf (sS (sim_condF krf (sim_exit (sq_x ?_)))))))
   refine ru_x (bq_hit ?_)
   exact nq_n () ⟨[10,11],[10,11],[],[]⟩ krf
  ·rintro _
   refine sR tfm ⟨[10],[10],[],[]⟩ ⟨[qq 10],[(10, .box 24 [I 6,S [],I r2.N,I r2.At,zS])]⟩ krf (sT (iq_ret (.agg [.id, .id, .id, .id, .sl 5]) [] [] (.agg [I 6,S [],I r2.N,I r2.At, .p (.sl 5 (mI []))]) krf krf (kr0 (xR 1 krf (xF krf krf (aop_app (e:=24) (S:=5) (by_:=64) (enc:=idc) (tk:=600) (l:=l1_1) (l2:=[GN.cs (⟨6,[],r2.N,r2.At,[]⟩:GN)]) (xv:=.tsl 5 (mI [GN.cs (⟨6,[],r2.N,r2.At,[]⟩:GN)]) 19) rfl krf krf rfl krf krf krf rfl krf) (xR 1 krf (xE ?_)))))))
   refine bq_n (sN ⟨[0,1,5],[600,1000],[],[]⟩ ⟨[(0,pZ0),(1, .p (.val (.func (.func 130) #[] #[]))),(5, .tsl 5 (mI (l1_1++[GN.cs (⟨6,[],r2.N,r2.At,[]⟩:GN)])) 600)],[(600,amI24 (l1_1++[GN.cs (⟨6,[],r2.N,r2.At,[]⟩:GN)])),(1000, .box 70 [.p (.sl 4 (mTk a0r.tks)),I l1_2,I a0r.length,hS h03w h03l h03c])]⟩ krf (sL tfm krf (bq_n ?_)))
   exact kq_n (l1_1++[GN.cs (⟨6,[],r2.N,r2.At,[]⟩:GN)],wi (l1_2+1)) ⟨[0,1,5],[600,1000],[],[]⟩ krf
 ·refine sim_bind (fun j4=>⟨[(0,pZ0),(1, .p (.val (.func (.func 130) #[] #[]))),(5, .tsl 5 (mI l1_1) 600),qq 6,(21,B j4)],[(6,bGTk63 r2),(600,amI24 l1_1),(1000, .box 70 [.p (.sl 4 (mTk a0r.tks)),I l1_2,I a0r.length,hS h03w h03l h03c])]⟩:Bool→St) ?_ ?_
  ·refine sG (xR 4 krf ?_)
   refine xS (eqI r2.Kind 1) (fun h5=>?_) (fun h5=>?_)
   ·refine xO (want_tt krf h5) krf (xR 2 krf ?_)
    refine xC [] krf (g_r_article_1_1_ok n r2.Text) krf krf kff (fun r6=>?_)
    refine xR 2 krf (xE ?_)
    exact nq_n r6 ⟨[0,1,5,6,21],[6,600,1000],[],[]⟩ krf
   ·refine xN (want_tf krf h5) krf (xR 5 krf (xE ?_))
    exact nq_n false ⟨[0,1,5,6,21],[6,600,1000],[],[]⟩ krf
  ·rintro j4
   refine sC j4 krf ?_ ?_
   ·refine sG (xR 4 krf (xs_inline [] [.agg [I r2.Kind,S r2.Text,I r2.N,I r2.At],I 5,S r2.Text,I 0,zS] [] [] [] krf Tryz.func40 rfl Tryz.ntmps40 rfl krf krf krf (sR tfm ⟨[1,2,3,4,5,10],[5,10],[],[]⟩ ⟨[(1,I 5),(2,S r2.Text),(3,I 0),(4,zS),qq 5,qq 10],[(5,bGTk63 r2),(10, .box 24 zN)]⟩ krf (sR tfm ⟨[4,10,11],[10,11],[],[]⟩ ⟨[(4,zS),qq 10,qq 11],[(10, .box 24 zN),(11, .box 24 [I 5,S r2.Text,I 0,I r2.At,zS])]⟩ krf (sim_bind (fun _=>⟨[qq 10,qq 11],[(10, .box 24 zN),(11, .box 24 [I 5,S r2.Text,I 0,I r2.At,zS])]⟩:Unit→St) ?_ ?_)))))
    ·refine sR tfm ⟨[10,11,20,21,22],[10,11],[],[]⟩ ⟨[qq 10,qq 11,(20,zS),(21,I 0),(22,I 0)],[(10, .box 24 zN),(11, .box 24 [I 5,S r2.Text,I 0,I r2.At,zS])]⟩ krf (sB (sim_unroll 0 (sR tfm ⟨[10,11,20,21,22,23],[10,11],[],[]⟩ ⟨[qq 10,qq 11,(20,zS),(21,I 0),(22,I 0),(23,B false)],[(10, .box 24 zN),(11, .box 24 [I 5,S r2.Text,I 0,I r2.At,zS])]⟩ krf (sS (sim_condF krf (sim_exit (sq_x ?_)))))))
     refine ru_x (bq_hit ?_)
     exact nq_n () ⟨[10,11],[10,11],[],[]⟩ krf
    ·rintro _
     refine sR tfm ⟨[10],[10],[],[]⟩ ⟨[qq 10],[(10, .box 24 [I 5,S r2.Text,I 0,I r2.At,zS])]⟩ krf (sT (iq_ret (.agg [.id, .id, .id, .id, .sl 5]) [] [] (.agg [I 5,S r2.Text,I 0,I r2.At, .p (.sl 5 (mI []))]) krf krf (kr0 (xR 1 krf (xF krf krf (aop_app (e:=24) (S:=5) (by_:=64) (enc:=idc) (tk:=600) (l:=l1_1) (l2:=[GN.cs (⟨5,r2.Text,0,r2.At,[]⟩:GN)]) (xv:=.tsl 5 (mI [GN.cs (⟨5,r2.Text,0,r2.At,[]⟩:GN)]) 36) rfl krf krf rfl krf krf krf rfl krf) (xR 1 krf (xE ?_)))))))
     refine bq_n (sN ⟨[0,1,5],[600,1000],[],[]⟩ ⟨[(0,pZ0),(1, .p (.val (.func (.func 130) #[] #[]))),(5, .tsl 5 (mI (l1_1++[GN.cs (⟨5,r2.Text,0,r2.At,[]⟩:GN)])) 600)],[(600,amI24 (l1_1++[GN.cs (⟨5,r2.Text,0,r2.At,[]⟩:GN)])),(1000, .box 70 [.p (.sl 4 (mTk a0r.tks)),I l1_2,I a0r.length,hS h03w h03l h03c])]⟩ krf (sL tfm krf (bq_n ?_)))
     exact kq_n (l1_1++[GN.cs (⟨5,r2.Text,0,r2.At,[]⟩:GN)],wi (l1_2+1)) ⟨[0,1,5],[600,1000],[],[]⟩ krf
   ·refine sR tfm ⟨[4],[600,1000],[],[]⟩ ⟨[(4, .tsl 5 (mI l1_1) 600)],[(600,amI24 l1_1),(1000, .box 70 [.p (.sl 4 (mTk a0r.tks)),I l1_2,I a0r.length,hS h03w h03l h03c])]⟩ krf (sT (bq_r (sq_r (bq_r (kq_r (bq_r ?_))))))
    exact hq_ret (.sl 5) [1000] [] krf krf krf krf
def g_r_article_j6 (r1:GTk) (j3_1:List (List PV)) (j3_2:List GTk) (j3_3:Int) (j3_4:Int):Option (Except (Int × GPr) (GN × GPr)) :=
 some (.ok ((⟨4,r1.Text,0,r1.At,j3_1⟩:GN),(⟨j3_2,wi (j3_3+1),j3_4,[]⟩:GPr)))
def g_r_article_j2 (n:Nat) (a0r:GPr) (r1:GTk):Option (Except (Int × GPr) (GN × GPr)) :=
 ((g_r_values_2 n (⟨a0r.tks,wi (a0r.pos+1),a0r.length,[]⟩:GPr)).bind fun r4 =>
 cond (roomB (List.length ([]++r4.1)) 64) (
  some ([]++r4.1,r4.2.tks,r4.2.pos,r4.2.length)) none).bind fun (j3_1,j3_2,j3_3,j3_4) =>
 (g_r_peek n (⟨j3_2,j3_3,j3_4,[]⟩:GPr)).bind fun r5 =>
 (cond (eqI r5.Kind 0)
  (some true)
  ((cond (eqI r5.Kind 3)
   (some (eqS r5.Text [59]))
   (some false)).bind fun j9 =>
  some (!j9))).bind fun j7 =>
 cond j7
  ((g_r_fail n (⟨j3_2,j3_3,j3_4,[]⟩:GPr)).bind (exc (fun r11 =>
   g_r_article_j6 r1 j3_1 j3_2 j3_3 j3_4) fun e12=>some (.error (e12,(⟨j3_2,j3_3,j3_4,[]⟩:GPr)))))
  (g_r_article_j6 r1 j3_1 j3_2 j3_3 j3_4)
def g_r_article (n:Nat) (a0r:GPr):Option (Except (Int × GPr) (GN × GPr)) :=
 (g_r_peek n (⟨a0r.tks,a0r.pos,a0r.length,[]⟩:GPr)).bind fun r1 =>
 (cond (eqI r1.Kind 0)
  (some true)
  ((cond (eqI r1.Kind 1)
   ((g_p_isArticle n r1.Text).bind fun r17 =>
   some r17)
   (some false)).bind fun j15 =>
  some (!j15))).bind fun j13 =>
 cond j13
  ((g_r_fail n (⟨a0r.tks,a0r.pos,a0r.length,[]⟩:GPr)).bind (exc (fun r18 =>
   g_r_article_j2 n a0r r1) fun e19=>some (.error (e19,(⟨a0r.tks,a0r.pos,a0r.length,[]⟩:GPr)))))
  (g_r_article_j2 n a0r r1)
theorem g_r_article_ok (n:Nat) (a0r:GPr) (h03w:Option Addr) (h03l h03c:Nat):∀ r,g_r_article n a0r=some r→ACall Tryz.prog 123 [pZ0] (Go.Abs.look [(1000, .box 70 [.p (.sl 4 (mTk a0r.tks)),I a0r.pos,I a0r.length,hS h03w h03l h03c])]) (heapR (excX (fun r:GN × GPr=>((.ret (ag (GN.cs r.1)),[(1000, .box 70 [.p (.sl 4 (mTk r.2.tks)),I r.2.pos,I r.2.length,hS h03w h03l h03c])]):AEnd × List (Nat × Blk))) (fun e:Int × GPr=>((.panic (.ifc 105 (.agg [I e.1])),[(1000, .box 70 [.p (.sl 4 (mTk e.2.tks)),I e.2.pos,I e.2.length,hS h03w h03l h03c])]):AEnd × List (Nat × Blk)))) r):=by
 refine acall_sim (X:=excX (fun r:GN × GPr=>((.ret (ag (GN.cs r.1)),[(1000, .box 70 [.p (.sl 4 (mTk r.2.tks)),I r.2.pos,I r.2.length,hS h03w h03l h03c])]):AEnd × List (Nat × Blk))) (fun e:Int × GPr=>((.panic (.ifc 105 (.agg [I e.1])),[(1000, .box 70 [.p (.sl 4 (mTk e.2.tks)),I e.2.pos,I e.2.length,hS h03w h03l h03c])]):AEnd × List (Nat × Blk)))) [(1000, .box 70 [.p (.sl 4 (mTk a0r.tks)),I a0r.pos,I a0r.length,hS h03w h03l h03c])] Tryz.func123 rfl Tryz.ntmps123 rfl ?_
 unfold g_r_article
 refine sR tfm ⟨[1,2],[1,2,1000],[],[]⟩ ⟨[qq 1,qq 2],[(1, .box 68 [pZ0]),(2, .box 24 zN),(1000, .box 70 [.p (.sl 4 (mTk a0r.tks)),I a0r.pos,I a0r.length,hS h03w h03l h03c])]⟩ krf (sS (sP ⟨[1,2],[1,2,1000],[],[]⟩ ⟨[qq 1,qq 2],[(1, .box 68 [pZ0]),(2, .box 24 zN),(1000, .box 70 [.p (.sl 4 (mTk a0r.tks)),I a0r.pos,I a0r.length,hS h03w h03l h03c])]⟩ krf (sim_hstF [0] 3 3 [1,2,3,4] tfm rfl krf krf (lates_cons (late_read pZ0 krf rfl) (lates_nil)) krf (f_enter (f:=94) (args:=[.p (.val (.func (.func 111) #[] #[]))]) (dst:=some 6) krf krf rfl (sc_inline (hc:=[]) (args':=[.p (.val (.func (.func 111) #[] #[]))]) [(1,401)] [] [] Tryz.func94 rfl Tryz.ntmps94 rfl krf krf krf (sR tfm ⟨[1],[1],[],[]⟩ ⟨[qq 1],[(1, .box 87 [.p (.val (.func (.func 111) #[] #[]))])]⟩ krf (sR tfm ⟨[2],[1],[],[]⟩ ⟨[(2, .fn (.func 118) [] [.ptr 1 0])],[(1, .box 87 [.p (.val (.func (.func 111) #[] #[]))])]⟩ krf ?_)))))))
 refine sT (iq_ret (.id) [1] [] (.fn (.func 118) [] [.ptr 1 0]) krf krf (kf [0] krf (lates_cons (late_read pZ0 krf rfl) (lates_nil)) krf (f_enter (f:=93) (args:=[pZ0, .fn (.func 118) [] [.ptr 401 0]]) (dst:=some 7) krf krf rfl (sc_inline (hc:=[(1000, .box 87 [.p (.val (.func (.func 111) #[] #[]))]),(1001, .box 70 [.p (.sl 4 (mTk a0r.tks)),I a0r.pos,I a0r.length,hS h03w h03l h03c])]) (args':=[pZ1, .fn (.func 118) [] [pZ0]]) [(1000,401),(1001,1000)] [] [] Tryz.func93 rfl Tryz.ntmps93 rfl krf krf krf (sR tfm ⟨[0,1,4],[4,1000,1001],[],[]⟩ ⟨[(0,pZ1),(1, .fn (.func 118) [] [pZ0]),qq 4],[(4, .box 63 [I 0,S [],I 0,I 0]),(1000, .box 87 [.p (.val (.func (.func 111) #[] #[]))]),(1001, .box 70 [.p (.sl 4 (mTk a0r.tks)),I a0r.pos,I a0r.length,hS h03w h03l h03c])]⟩ krf (sS (sG ?_)))))))
 refine xR 1 krf ?_
 refine xs_ro [.ro []] krf (g_r_peek_ok n (⟨a0r.tks,a0r.pos,a0r.length,[]⟩:GPr) h03w h03l h03c) krf krf kff (fun r1=>?_)
 refine xR 2 krf (xE (sN ⟨[0,1,4,5],[4,5,1000,1001],[],[]⟩ ⟨[(0,pZ1),(1, .fn (.func 118) [] [pZ0]),qq 4,qq 5],[(4, .box 63 [I 0,S [],I 0,I 0]),(5,bGTk63 r1),(1000, .box 87 [.p (.val (.func (.func 111) #[] #[]))]),(1001, .box 70 [.p (.sl 4 (mTk a0r.tks)),I a0r.pos,I a0r.length,hS h03w h03l h03c])]⟩ krf (sim_cps (fun _=>⟨[(0,pZ1),qq 4,qq 5],[(4, .box 63 [I 0,S [],I 0,I 0]),(5,bGTk63 r1),(1000, .box 87 [.p (.val (.func (.func 111) #[] #[]))]),(1001, .box 70 [.p (.sl 4 (mTk a0r.tks)),I a0r.pos,I a0r.length,hS h03w h03l h03c])]⟩:Unit→St) (fun _=>g_r_article_j2 n a0r r1) ?_ ?_)))
 ·rintro _
  show SimE (g_r_article_j2 n a0r r1) _ _ _ _ _ _
  unfold g_r_article_j2
  refine sR tfm ⟨[4,5],[4,5,1000,1001],[],[]⟩ ⟨[qq 4,qq 5],[(4, .box 63 [I 0,S [],I 0,I 0]),(5,bGTk63 r1),(1000, .box 87 [.p (.val (.func (.func 111) #[] #[]))]),(1001, .box 70 [.p (.sl 4 (mTk a0r.tks)),I (wi (a0r.pos+1)),I a0r.length,hS h03w h03l h03c])]⟩ krf (sR tfm ⟨[4],[4,1000,1001],[],[]⟩ ⟨[qq 4],[(4,bGTk63 r1),(1000, .box 87 [.p (.val (.func (.func 111) #[] #[]))]),(1001, .box 70 [.p (.sl 4 (mTk a0r.tks)),I (wi (a0r.pos+1)),I a0r.length,hS h03w h03l h03c])]⟩ krf (sT (iq_ret (.id) [1000,1001] [] (.agg [I r1.Kind,S r1.Text,I r1.N,I r1.At]) krf krf (kf [] krf (lates_nil) krf (f_q [0] krf krf (lates_cons (late_read pZ0 krf rfl) (lates_nil)) (f_op [] rfl krf krf (lates_nil) krf (f_end ?_)))))))
  refine sN ⟨[1,2,3],[1,2,3,1000],[],[]⟩ ⟨[qq 1,qq 2,qq 3],[(1, .box 68 [pZ0]),(2, .box 24 zN),(3,bGTk63 r1),(1000, .box 70 [.p (.sl 4 (mTk a0r.tks)),I (wi (a0r.pos+1)),I a0r.length,hS h03w h03l h03c])]⟩ krf (sS (sG (xR 5 krf (xs_inline [(1000, .box 68 [pZ2]),(1001, .box 72 [.fn (.func 129) [] [pZ0]]),(1002, .box 70 [.p (.sl 4 (mTk a0r.tks)),I (wi (a0r.pos+1)),I a0r.length,hS h03w h03l h03c])] [.agg [I r1.Kind,S r1.Text,I r1.N,I r1.At],I 4,S r1.Text,I 0, .bsl 1001 1] [(1000,1),(1001,12),(1002,1000)] [] [] krf Tryz.func40 rfl Tryz.ntmps40 rfl krf krf krf (sR tfm ⟨[1,2,3,4,5,10],[5,10,1000,1001,1002],[],[]⟩ ⟨[(1,I 4),(2,S r1.Text),(3,I 0),(4, .bsl 1001 1),qq 5,qq 10],[(5,bGTk63 r1),(10, .box 24 zN),(1000, .box 68 [pZ2]),(1001, .box 72 [.fn (.func 129) [] [pZ0]]),(1002, .box 70 [.p (.sl 4 (mTk a0r.tks)),I (wi (a0r.pos+1)),I a0r.length,hS h03w h03l h03c])]⟩ krf (sR tfm ⟨[4,10,11],[10,11,1000,1001,1002],[],[]⟩ ⟨[(4, .bsl 1001 1),qq 10,qq 11],[(10, .box 24 zN),(11, .box 24 [I 4,S r1.Text,I 0,I r1.At,zS]),(1000, .box 68 [pZ2]),(1001, .box 72 [.fn (.func 129) [] [pZ0]]),(1002, .box 70 [.p (.sl 4 (mTk a0r.tks)),I (wi (a0r.pos+1)),I a0r.length,hS h03w h03l h03c])]⟩ krf (sim_bind (fun (j3_1,j3_2,j3_3,j3_4)=>⟨[qq 10,qq 11],[(10, .box 24 zN),(11, .box 24 [I 4,S r1.Text,I 0,I r1.At, .tsl 5 (mI j3_1) 600]),(600,amI24 j3_1),(1000, .box 68 [pZ2]),(1001, .box 72 [.fn (.func 129) [] [pZ0]]),(1002, .box 70 [.p (.sl 4 (mTk j3_2)),I j3_3,I j3_4,hS h03w h03l h03c])]⟩:((List (List PV)) × (List GTk) × Int × Int)→St) ?_ ?_)))))))
  ·refine sR tfm ⟨[10,11,20,21,22],[10,11,1000,1001,1002],[],[]⟩ ⟨[qq 10,qq 11,(20, .bsl 1001 1),(21,I 1),(22,I 0)],[(10, .box 24 zN),(11, .box 24 [I 4,S r1.Text,I 0,I r1.At,zS]),(1000, .box 68 [pZ2]),(1001, .box 72 [.fn (.func 129) [] [pZ0]]),(1002, .box 70 [.p (.sl 4 (mTk a0r.tks)),I (wi (a0r.pos+1)),I a0r.length,hS h03w h03l h03c])]⟩ krf (sB (sim_unroll 1 (sR tfm ⟨[10,11,20,21,22,23],[10,11,1000,1001,1002],[],[]⟩ ⟨[qq 10,qq 11,(20, .bsl 1001 1),(21,I 1),(22,I 0),(23,B true)],[(10, .box 24 zN),(11, .box 24 [I 4,S r1.Text,I 0,I r1.At,zS]),(1000, .box 68 [pZ2]),(1001, .box 72 [.fn (.func 129) [] [pZ0]]),(1002, .box 70 [.p (.sl 4 (mTk a0r.tks)),I (wi (a0r.pos+1)),I a0r.length,hS h03w h03l h03c])]⟩ krf (sS (sim_condT krf (sK (sN ⟨[10,11,20,21,22],[10,11,1000,1001,1002],[],[]⟩ ⟨[qq 10,qq 11,(20, .bsl 1001 1),(21,I 1),(22,I 0)],[(10, .box 24 zN),(11, .box 24 [I 4,S r1.Text,I 0,I r1.At,zS]),(1000, .box 68 [pZ2]),(1001, .box 72 [.fn (.func 129) [] [pZ0]]),(1002, .box 70 [.p (.sl 4 (mTk a0r.tks)),I (wi (a0r.pos+1)),I a0r.length,hS h03w h03l h03c])]⟩ krf ?_)))))))
   refine sS (sB (sR tfm ⟨[10,11,13,20,21,22],[10,11,1000,1001,1002],[],[]⟩ ⟨[qq 10,qq 11,(13, .fn (.func 129) [] [pZ0]),(20, .bsl 1001 1),(21,I 1),(22,I 0)],[(10, .box 24 zN),(11, .box 24 [I 4,S r1.Text,I 0,I r1.At,zS]),(1000, .box 68 [pZ2]),(1001, .box 72 [.fn (.func 129) [] [pZ0]]),(1002, .box 70 [.p (.sl 4 (mTk a0r.tks)),I (wi (a0r.pos+1)),I a0r.length,hS h03w h03l h03c])]⟩ krf (sP ⟨[10,11,13,20,21,22],[10,11,1000,1001,1002],[],[]⟩ ⟨[qq 10,qq 11,(13, .fn (.func 129) [] [pZ0]),(20, .bsl 1001 1),(21,I 1),(22,I 0)],[(10, .box 24 zN),(11, .box 24 [I 4,S r1.Text,I 0,I r1.At,zS]),(1000, .box 68 [pZ2]),(1001, .box 72 [.fn (.func 129) [] [pZ0]]),(1002, .box 70 [.p (.sl 4 (mTk a0r.tks)),I (wi (a0r.pos+1)),I a0r.length,hS h03w h03l h03c])]⟩ krf (sim_weak (weak_pn 24 5 600 [] [(11,4)] krf) (sim_hst [0,1,2] [0,1] [(3,[]),(4,[]),(5,[]),(6,[])] tfm rfl krf krf (h_enter (f:=129) (args:=[pZ0]) (dst:=some 29) krf krf (sc_inline (hc:=[(1000, .box 68 [pZ1]),(1001, .box 70 [.p (.sl 4 (mTk a0r.tks)),I (wi (a0r.pos+1)),I a0r.length,hS h03w h03l h03c])]) (args':=[pZ0]) [(1000,1000),(1001,1002)] [] [] Tryz.func129 rfl Tryz.ntmps129 rfl krf krf krf ?_)))))))
   refine sR tfm ⟨[0],[1000,1001],[],[]⟩ ⟨[(0,pZ0)],[(1000, .box 68 [pZ1]),(1001, .box 70 [.p (.sl 4 (mTk a0r.tks)),I (wi (a0r.pos+1)),I a0r.length,hS h03w h03l h03c])]⟩ krf (sS (sG (xR 1 krf ?_)))
   refine xs_heap [(1000,1001)] [] [] krf (g_r_values_2_ok n (⟨a0r.tks,wi (a0r.pos+1),a0r.length,[]⟩:GPr) h03w h03l h03c) krf krf krf kff kff (fun r4=>?_)
   refine xR 1 krf (xE (sN ⟨[1],[1000,1001],[],[]⟩ ⟨[(1, .p (.sl 5 (mI r4.1)))],[(1000, .box 68 [pZ1]),(1001, .box 70 [.p (.sl 4 (mTk r4.2.tks)),I r4.2.pos,I r4.2.length,hS h03w h03l h03c])]⟩ krf (sT (iq_ret (.id) [1000,1001] [] (.p (.sl 5 (mI r4.1))) krf krf (kh [0,1] krf (lates_cons (late_read (.ptr 11 4) krf rfl) (lates_cons (late_tsl (S:=5) (t:=600) (ty:=24) (es:=mI []) krf krf rfl) (lates_nil))) krf (h_if [] rfl krf krf (aop_appL (e:=24) (S:=5) (by_:=64) (enc:=idc) (tk:=600) (l:=[]) (l2:=r4.1) (xv:=.p (.sl 5 (mI r4.1))) rfl krf krf rfl krf krf krf krf) (fun _=>lates_nil) (h_op [] krf krf (lates_nil) ?_)))))))
   refine h_op [] krf krf (lates_nil) (h_end (bq_n (sN ⟨[10,11,20,21,22],[10,11,600,1000,1001,1002],[],[]⟩ ⟨[qq 10,qq 11,(20, .bsl 1001 1),(21,I 1),(22,I 0)],[(10, .box 24 zN),(11, .box 24 [I 4,S r1.Text,I 0,I r1.At, .tsl 5 (mI ([]++r4.1)) 600]),(600,amI24 ([]++r4.1)),(1000, .box 68 [pZ2]),(1001, .box 72 [.fn (.func 129) [] [pZ0]]),(1002, .box 70 [.p (.sl 4 (mTk r4.2.tks)),I r4.2.pos,I r4.2.length,hS h03w h03l h03c])]⟩ krf (sL tfm krf (ru_n ⟨[10,11,20,21,22],[10,11,600,1000,1001,1002],[],[]⟩ ⟨[qq 10,qq 11,(20, .bsl 1001 1),(21,I 1),(22,I 1)],[(10, .box 24 zN),(11, .box 24 [I 4,S r1.Text,I 0,I r1.At, .tsl 5 (mI ([]++r4.1)) 600]),(600,amI24 ([]++r4.1)),(1000, .box 68 [pZ2]),(1001, .box 72 [.fn (.func 129) [] [pZ0]]),(1002, .box 70 [.p (.sl 4 (mTk r4.2.tks)),I r4.2.pos,I r4.2.length,hS h03w h03l h03c])]⟩ krf (sR tfm ⟨[10,11,20,21,22,23],[10,11,600,1000,1001,1002],[],[]⟩ ⟨[qq 10,qq 11,(20, .bsl 1001 1),(21,I 1),(22,I 1),(23,B false)],[(10, .box 24 zN),(11, .box 24 [I 4,S r1.Text,I 0,I r1.At, .tsl 5 (mI ([]++r4.1)) 600]),(600,amI24 ([]++r4.1)),(1000, .box 68 [pZ2]),(1001, .box 72 [.fn (.func 129) [] [pZ0]]),(1002, .box 70 [.p (.sl 4 (mTk r4.2.tks)),I r4.2.pos,I r4.2.length,hS h03w h03l h03c])]⟩ krf (sS ?_)))))))
   refine sim_condF krf (sim_exit (sq_x (ru_x (bq_hit ?_))))
   exact nq_n ([]++r4.1,r4.2.tks,r4.2.pos,r4.2.length) ⟨[10,11],[10,11,600,1000,1001,1002],[],[]⟩ krf
  ·rintro ⟨j3_1,j3_2,j3_3,j3_4⟩
   refine sR tfm ⟨[10],[10,600,1000,1001,1002],[],[]⟩ ⟨[qq 10],[(10, .box 24 [I 4,S r1.Text,I 0,I r1.At, .tsl 5 (mI j3_1) 600]),(600,amI24 j3_1),(1000, .box 68 [pZ2]),(1001, .box 72 [.fn (.func 129) [] [pZ0]]),(1002, .box 70 [.p (.sl 4 (mTk j3_2)),I j3_3,I j3_4,hS h03w h03l h03c])]⟩ krf (sT (iq_ret (.agg [.id, .id, .id, .id, .sl 5]) [1000,1001,1002] [] (.agg [I 4,S r1.Text,I 0,I r1.At, .p (.sl 5 (mI j3_1))]) krf krf (kr0 (xR 2 krf (xE (sN ⟨[1,2,4],[1,2,4,1000],[],[]⟩ ⟨[qq 1,qq 2,qq 4],[(1, .box 68 [pZ0]),(2, .box 24 zN),(4, .box 24 (bxc (GN.cs ⟨4,r1.Text,0,r1.At,j3_1⟩))),(1000, .box 70 [.p (.sl 4 (mTk j3_2)),I j3_3,I j3_4,hS h03w h03l h03c])]⟩ krf (sS ?_)))))))
   refine sim_hst [0] [0] [(1,[]),(2,[])] tfm rfl krf krf (h_enter (f:=99) (args:=[S [59]]) (dst:=some 15) krf krf (sc_inline (hc:=[]) (args':=[S [59]]) [(1,401)] [] [] Tryz.func99 rfl Tryz.ntmps99 rfl krf krf krf (sR tfm ⟨[1],[1],[],[]⟩ ⟨[qq 1],[(1, .box 9 [S [59]])]⟩ krf (sR tfm ⟨[2],[1],[],[]⟩ ⟨[(2, .fn (.func 119) [] [.ptr 1 0])],[(1, .box 9 [S [59]])]⟩ krf (sT (iq_ret (.id) [1] [] (.fn (.func 119) [] [.ptr 1 0]) krf krf (kh [0] krf (lates_cons (late_read pZ0 krf rfl) (lates_nil)) krf ?_)))))))
   refine h_enter (f:=93) (args:=[pZ0, .fn (.func 119) [] [.ptr 401 0]]) (dst:=some 16) krf krf (sc_inline (hc:=[(1000, .box 9 [S [59]]),(1001, .box 70 [.p (.sl 4 (mTk j3_2)),I j3_3,I j3_4,hS h03w h03l h03c])]) (args':=[pZ1, .fn (.func 119) [] [pZ0]]) [(1000,401),(1001,1000)] [] [] Tryz.func93 rfl Tryz.ntmps93 rfl krf krf krf (sR tfm ⟨[0,1,4],[4,1000,1001],[],[]⟩ ⟨[(0,pZ1),(1, .fn (.func 119) [] [pZ0]),qq 4],[(4, .box 63 [I 0,S [],I 0,I 0]),(1000, .box 9 [S [59]]),(1001, .box 70 [.p (.sl 4 (mTk j3_2)),I j3_3,I j3_4,hS h03w h03l h03c])]⟩ krf (sS (sG (xR 1 krf ?_)))))
   refine xs_ro [.ro []] krf (g_r_peek_ok n (⟨j3_2,j3_3,j3_4,[]⟩:GPr) h03w h03l h03c) krf krf kff (fun r5=>?_)
   refine xR 2 krf (xE (sN ⟨[0,1,4,5],[4,5,1000,1001],[],[]⟩ ⟨[(0,pZ1),(1, .fn (.func 119) [] [pZ0]),qq 4,qq 5],[(4, .box 63 [I 0,S [],I 0,I 0]),(5,bGTk63 r5),(1000, .box 9 [S [59]]),(1001, .box 70 [.p (.sl 4 (mTk j3_2)),I j3_3,I j3_4,hS h03w h03l h03c])]⟩ krf (sim_cps (fun _=>⟨[(0,pZ1),qq 4,qq 5],[(4, .box 63 [I 0,S [],I 0,I 0]),(5,bGTk63 r5),(1000, .box 9 [S [59]]),(1001, .box 70 [.p (.sl 4 (mTk j3_2)),I j3_3,I j3_4,hS h03w h03l h03c])]⟩:Unit→St) (fun _=>g_r_article_j6 r1 j3_1 j3_2 j3_3 j3_4) ?_ ?_)))
   ·rintro _
    show SimE (g_r_article_j6 r1 j3_1 j3_2 j3_3 j3_4) _ _ _ _ _ _
    unfold g_r_article_j6
    refine sR tfm ⟨[4,5],[4,5,1000,1001],[],[]⟩ ⟨[qq 4,qq 5],[(4, .box 63 [I 0,S [],I 0,I 0]),(5,bGTk63 r5),(1000, .box 9 [S [59]]),(1001, .box 70 [.p (.sl 4 (mTk j3_2)),I (wi (j3_3+1)),I j3_4,hS h03w h03l h03c])]⟩ krf (sR tfm ⟨[4],[4,1000,1001],[],[]⟩ ⟨[qq 4],[(4,bGTk63 r5),(1000, .box 9 [S [59]]),(1001, .box 70 [.p (.sl 4 (mTk j3_2)),I (wi (j3_3+1)),I j3_4,hS h03w h03l h03c])]⟩ krf (sT (iq_ret (.id) [1000,1001] [] (.agg [I r5.Kind,S r5.Text,I r5.N,I r5.At]) krf krf (kh [] krf (lates_nil) krf (h_end (sN ⟨[2,4],[2,4,1000],[],[]⟩ ⟨[qq 2,qq 4],[(2, .box 24 zN),(4, .box 24 (bxc (GN.cs ⟨4,r1.Text,0,r1.At,j3_1⟩))),(1000, .box 70 [.p (.sl 4 (mTk j3_2)),I (wi (j3_3+1)),I j3_4,hS h03w h03l h03c])]⟩ krf (sR tfm ⟨[2],[2,1000],[],[]⟩ ⟨[qq 2],[(2, .box 24 (bxc (GN.cs ⟨4,r1.Text,0,r1.At,j3_1⟩))),(1000, .box 70 [.p (.sl 4 (mTk j3_2)),I (wi (j3_3+1)),I j3_4,hS h03w h03l h03c])]⟩ krf ?_)))))))
    refine sT ?_
    exact hq_ret (.id) [1000] [] krf krf krf krf
   ·refine sim_bind (fun j7=>⟨[(0,pZ1),qq 4,qq 5,(16,B j7)],[(4, .box 63 [I 0,S [],I 0,I 0]),(5,bGTk63 r5),(1000, .box 9 [S [59]]),(1001, .box 70 [.p (.sl 4 (mTk j3_2)),I j3_3,I j3_4,hS h03w h03l h03c])]⟩:Bool→St) ?_ ?_
    ·refine sG (xR 4 krf ?_)
     refine xS (eqI r5.Kind 0) (fun h8=>?_) (fun h8=>?_)
     ·refine xN (want_ft krf h8) krf (xR 4 krf (xE ?_))
      exact nq_n true ⟨[0,4,5,16],[4,5,1000,1001],[],[]⟩ krf
     ·refine xO (want_ff krf h8) krf (xR 1 krf (xs_inline [(1000, .box 9 [S [59]])] [.agg [I r5.Kind,S r5.Text,I r5.N,I r5.At],pZ0] [(1000,1000)] [] [] krf Tryz.func119 rfl Tryz.ntmps119 rfl krf krf krf (sR tfm ⟨[1,2],[2,1000],[],[]⟩ ⟨[(1,pZ0),qq 2],[(2,bGTk63 r5),(1000, .box 9 [S [59]])]⟩ krf (sim_bind (fun j9=>⟨[(3,B j9)],[(1000, .box 9 [S [59]])]⟩:Bool→St) ?_ ?_))))
      ·refine sG (xR 4 krf ?_)
       refine xS (eqI r5.Kind 3) (fun h10=>?_) (fun h10=>?_)
       ·refine xO (want_tt krf h10) krf (xR 5 krf (xE ?_))
        exact nq_n (eqS r5.Text [59]) ⟨[3],[1000],[],[]⟩ krf
       ·refine xN (want_tf krf h10) krf (xR 5 krf (xE ?_))
        exact nq_n false ⟨[3],[1000],[],[]⟩ krf
      ·rintro j9
       refine sT (iq_ret (.id) [1000] [] (B j9) krf krf (kr0 (xR 2 krf (xE ?_))))
       exact nq_n (!j9) ⟨[0,4,5,16],[4,5,1000,1001],[],[]⟩ krf
    ·rintro j7
     refine sC j7 krf ?_ ?_
     ·refine sG (xR 1 krf ?_)
      refine xs_roE [.ro []] krf (g_r_fail_ok n (⟨j3_2,j3_3,j3_4,[]⟩:GPr) h03w h03l h03c) krf krf kff kff (fun r11=>?_) (fun e12=>?_)
      ·refine xE ?_
       exact kq_n (k:=fun _=>g_r_article_j6 r1 j3_1 j3_2 j3_3 j3_4) () ⟨[0,4,5],[4,5,1000,1001],[],[]⟩ krf
      ·refine kq_p (iq_p [1000,1001] [] krf (qh_p _ rfl (sq_p ?_)))
       exact hq_p [1000] [] krf krf krf
     ·refine sK ?_
      exact kq_n (k:=fun _=>g_r_article_j6 r1 j3_1 j3_2 j3_3 j3_4) () ⟨[0,4,5],[4,5,1000,1001],[],[]⟩ krf
 ·refine sim_bind (fun j13=>⟨[(0,pZ1),qq 4,qq 5,(16,B j13)],[(4, .box 63 [I 0,S [],I 0,I 0]),(5,bGTk63 r1),(1000, .box 87 [.p (.val (.func (.func 111) #[] #[]))]),(1001, .box 70 [.p (.sl 4 (mTk a0r.tks)),I a0r.pos,I a0r.length,hS h03w h03l h03c])]⟩:Bool→St) ?_ ?_
  ·refine sG (xR 4 krf ?_)
   refine xS (eqI r1.Kind 0) (fun h14=>?_) (fun h14=>?_)
   ·refine xN (want_ft krf h14) krf (xR 4 krf (xE ?_))
    exact nq_n true ⟨[0,4,5,16],[4,5,1000,1001],[],[]⟩ krf
   ·refine xO (want_ff krf h14) krf (xR 1 krf (xs_inline [(1000, .box 87 [.p (.val (.func (.func 111) #[] #[]))])] [.agg [I r1.Kind,S r1.Text,I r1.N,I r1.At],pZ0] [(1000,1000)] [] [] krf Tryz.func118 rfl Tryz.ntmps118 rfl krf krf krf (sR tfm ⟨[1,2],[2,1000],[],[]⟩ ⟨[(1,pZ0),qq 2],[(2,bGTk63 r1),(1000, .box 87 [.p (.val (.func (.func 111) #[] #[]))])]⟩ krf (sim_bind (fun j15=>⟨[(3,B j15)],[(1000, .box 87 [.p (.val (.func (.func 111) #[] #[]))])]⟩:Bool→St) ?_ ?_))))
    ·refine sG (xR 4 krf ?_)
     refine xS (eqI r1.Kind 1) (fun h16=>?_) (fun h16=>?_)
     ·refine xO (want_tt krf h16) krf (xR 2 krf ?_)
      refine xC [] krf (g_p_isArticle_ok n r1.Text) krf krf kff (fun r17=>?_)
      refine xR 2 krf (xE ?_)
      exact nq_n r17 ⟨[3],[1000],[],[]⟩ krf
     ·refine xN (want_tf krf h16) krf (xR 5 krf (xE ?_))
      exact nq_n false ⟨[3],[1000],[],[]⟩ krf
    ·rintro j15
     refine sT (iq_ret (.id) [1000] [] (B j15) krf krf (kr0 (xR 2 krf (xE ?_))))
     exact nq_n (!j15) ⟨[0,4,5,16],[4,5,1000,1001],[],[]⟩ krf
  ·rintro j13
   refine sC j13 krf ?_ ?_
   ·refine sG (xR 1 krf ?_)
    refine xs_roE [.ro []] krf (g_r_fail_ok n (⟨a0r.tks,a0r.pos,a0r.length,[]⟩:GPr) h03w h03l h03c) krf krf kff kff (fun r18=>?_) (fun e19=>?_)
    ·refine xE ?_
     exact kq_n (k:=fun _=>g_r_article_j2 n a0r r1) () ⟨[0,4,5],[4,5,1000,1001],[],[]⟩ krf
    ·refine kq_p (iq_p [1000,1001] [] krf (qh_p _ rfl (sq_p ?_)))
     exact hq_p [1000] [] krf krf krf
   ·refine sK ?_
    exact kq_n (k:=fun _=>g_r_article_j2 n a0r r1) () ⟨[0,4,5],[4,5,1000,1001],[],[]⟩ krf
def g_r_skip_l1 (a0r:GPr) (recl1:Int→Option ((List UInt8) × GPr)) (l1:Int):Option ((List UInt8) × GPr) :=
 cond (ltI l1 (lenI (List.map GTk.cs a0r.tks)))
  ((getI a0r.tks l1).bind fun x2 =>
  (cond (eqI x2.Kind 3)
   (some (!eqS x2.Text [123]))
   (some false)).bind fun j3 =>
  cond j3
   (some (x2.Text,(⟨a0r.tks,wi (l1+1),a0r.length,[]⟩:GPr)))
   (recl1 (wi (l1+1))))
  (some ([],(⟨a0r.tks,l1,a0r.length,[]⟩:GPr)))
def g_r_skip (n:Nat) (a0r:GPr):Option ((List UInt8) × GPr) :=
 loopN (fun recl1 l1=>g_r_skip_l1 a0r recl1 l1) n a0r.pos
theorem g_r_skip_ok (n:Nat) (a0r:GPr) (h03w:Option Addr) (h03l h03c:Nat):∀ r,g_r_skip n a0r=some r→ACall Tryz.prog 92 [pZ0] (Go.Abs.look [(1000, .box 70 [.p (.sl 4 (mTk a0r.tks)),I a0r.pos,I a0r.length,hS h03w h03l h03c])]) (heapR (fun r:(List UInt8) × GPr=>((.ret (S r.1),[(1000, .box 70 [.p (.sl 4 (mTk r.2.tks)),I r.2.pos,I r.2.length,hS h03w h03l h03c])]):AEnd × List (Nat × Blk))) r):=by
 refine acall_sim (X:=fun r:(List UInt8) × GPr=>((.ret (S r.1),[(1000, .box 70 [.p (.sl 4 (mTk r.2.tks)),I r.2.pos,I r.2.length,hS h03w h03l h03c])]):AEnd × List (Nat × Blk))) [(1000, .box 70 [.p (.sl 4 (mTk a0r.tks)),I a0r.pos,I a0r.length,hS h03w h03l h03c])] Tryz.func92 rfl Tryz.ntmps92 rfl ?_
 unfold g_r_skip
 refine sR tfm ⟨[0],[1000],[],[]⟩ ⟨[(0,pZ0)],[(1000, .box 70 [.p (.sl 4 (mTk a0r.tks)),I a0r.pos,I a0r.length,hS h03w h03l h03c])]⟩ krf (sS (sB (sim_loop (fun l1=>⟨[(0,pZ0)],[(1000, .box 70 [.p (.sl 4 (mTk a0r.tks)),I l1,I a0r.length,hS h03w h03l h03c])]⟩:Int→St) (weak_shr (K:=⟨[0],[1000],[],[]⟩) krf) ?_)))
 rintro recl1 l1
 show SimE (g_r_skip_l1 a0r recl1 l1) _ _ _ _ _ _
 unfold g_r_skip_l1
 refine sS (sR tfm ⟨[0,13],[1000],[],[]⟩ ⟨[(0,pZ0),(13,B (ltI l1 (lenI (mTk a0r.tks))))],[(1000, .box 70 [.p (.sl 4 (mTk a0r.tks)),I l1,I a0r.length,hS h03w h03l h03c])]⟩ krf (sC (ltI l1 (lenI (mTk a0r.tks))) krf ?_ ?_))
 ·refine sK (sN ⟨[0],[1000],[],[]⟩ ⟨[(0,pZ0)],[(1000, .box 70 [.p (.sl 4 (mTk a0r.tks)),I l1,I a0r.length,hS h03w h03l h03c])]⟩ krf (sB (sS (sim_drw tfm rfl (xR 8 krf ?_)))))
  refine xG krf krf (aop_idx (e:=63) (S:=4) (enc:=GTk.cs) (l:=a0r.tks) (k:=.i64) (n:=l1) (sv:=.p (.sl 4 (mTk a0r.tks))) rfl krf krf krf krf krf) (fun x2=>?_)
  refine xR 3 krf (xs_endD krf (sN ⟨[0,3],[3,1000],[],[]⟩ ⟨[(0,pZ0),qq 3],[(3,bGTk63 x2),(1000, .box 70 [.p (.sl 4 (mTk a0r.tks)),I l1,I a0r.length,hS h03w h03l h03c])]⟩ krf (sR tfm ⟨[0,3],[3,1000],[],[]⟩ ⟨[(0,pZ0),qq 3],[(3,bGTk63 x2),(1000, .box 70 [.p (.sl 4 (mTk a0r.tks)),I (wi (l1+1)),I a0r.length,hS h03w h03l h03c])]⟩ krf (sim_bind (fun j3=>⟨[(0,pZ0),qq 3,(38,B j3)],[(3,bGTk63 x2),(1000, .box 70 [.p (.sl 4 (mTk a0r.tks)),I (wi (l1+1)),I a0r.length,hS h03w h03l h03c])]⟩:Bool→St) ?_ ?_))))
  ·refine sG (xR 4 krf ?_)
   refine xS (eqI x2.Kind 3) (fun h4=>?_) (fun h4=>?_)
   ·refine xO (want_tt krf h4) krf (xR 3 krf (xE ?_))
    exact nq_n (!eqS x2.Text [123]) ⟨[0,3,38],[3,1000],[],[]⟩ krf
   ·refine xN (want_tf krf h4) krf (xR 3 krf (xE ?_))
    exact nq_n false ⟨[0,3,38],[3,1000],[],[]⟩ krf
  ·rintro j3
   refine sC j3 krf ?_ ?_
   ·refine sR tfm ⟨[2],[1000],[],[]⟩ ⟨[(2,S x2.Text)],[(1000, .box 70 [.p (.sl 4 (mTk a0r.tks)),I (wi (l1+1)),I a0r.length,hS h03w h03l h03c])]⟩ krf (sT (bq_r (kq_r (bq_r (sq_r ?_)))))
    exact hq_ret (.id) [1000] [] krf krf krf krf
   ·refine sK (bq_n ?_)
    exact kq_n (wi (l1+1)) ⟨[0],[1000],[],[]⟩ krf
 ·refine sim_exit (sq_x (kq_x (bq_hit (sN ⟨[],[1000],[],[]⟩ ⟨[],[(1000, .box 70 [.p (.sl 4 (mTk a0r.tks)),I l1,I a0r.length,hS h03w h03l h03c])]⟩ krf (sR tfm ⟨[2],[1000],[],[]⟩ ⟨[(2,S [])],[(1000, .box 70 [.p (.sl 4 (mTk a0r.tks)),I l1,I a0r.length,hS h03w h03l h03c])]⟩ krf (sT ?_))))))
  exact hq_ret (.id) [1000] [] krf krf krf krf
def g_r_item_j6 (r1:GTk) (r3:GTk) (r5:Int) (j6_1:List (List PV)) (j6_2:List GTk) (j6_3:Int) (j6_4:Int) (j6_5:List GDg):Option (Except (Int × GPr) (GN × GPr)) :=
 some (.ok ((⟨2,r3.Text,r5,r1.At,j6_1⟩:GN),(⟨j6_2,j6_3,j6_4,j6_5⟩:GPr)))
def g_r_item_l9 (n:Nat) (a0r:GPr) (recl9:((List (List PV)) × (List GTk) × Int × Int × Int × (List UInt8) × Int × Int)→Option ((List (List PV)) × (List GTk) × Int × Int)) (l9_1:List (List PV)) (l9_2:List GTk) (l9_3:Int) (l9_4:Int) (l9_5:Int) (l9_6:List UInt8) (l9_7:Int) (l9_8:Int):Option ((List (List PV)) × (List GTk) × Int × Int) :=
 (cond (eqI l9_5 1)
  ((g_p_isAttr n l9_6).bind fun r12 =>
  some r12)
  (some false)).bind fun j10 =>
 cond j10
  (((g_r_values n (⟨l9_2,wi (l9_3+1),l9_4,[]⟩:GPr)).bind fun r14 =>
  cond (roomB (List.length ([]++r14.1)) 64) (
   some ([]++r14.1,r14.2.tks,r14.2.pos,r14.2.length)) none).bind fun (j13_1,j13_2,j13_3,j13_4) =>
  cond (roomB (List.length (l9_1++[GN.cs (⟨3,l9_6,0,l9_8,j13_1⟩:GN)])) 64) (
   (g_r_peek_2 n (⟨j13_2,j13_3,j13_4,a0r.dg⟩:GPr)).bind fun r15 =>
   recl9 (l9_1++[GN.cs (⟨3,l9_6,0,l9_8,j13_1⟩:GN)],j13_2,j13_3,j13_4,r15.Kind,r15.Text,r15.N,r15.At)) none)
  (some (l9_1,l9_2,l9_3,l9_4))
def g_r_item_j19 (j7_1:List (List PV)) (j19_1:List (List PV)) (j19_2:List GTk) (j19_3:Int) (j19_4:Int) (j19_5:List GDg):Option ((List (List PV)) × (List GTk) × Int × Int × (List GDg)) :=
 cond (roomB (List.length ((([]++j7_1)++[])++j19_1)) 64) (
  some ((([]++j7_1)++[])++j19_1,j19_2,j19_3,j19_4,j19_5)) none
def g_r_item_l20 (n:Nat) (j7_1:List (List PV)) (recl20:((List (List PV)) × (List GTk) × Int × Int × (List GDg))→Option ((List (List PV)) × (List GTk) × Int × Int × (List GDg))) (l20_1:List (List PV)) (l20_2:List GTk) (l20_3:Int) (l20_4:Int) (l20_5:List GDg):Option ((List (List PV)) × (List GTk) × Int × Int × (List GDg)) :=
 (g_r_full n (⟨l20_2,l20_3,l20_4,l20_5⟩:GPr)).bind fun r21 =>
 cond (!r21)
  ((g_r_peek_2 n (⟨l20_2,l20_3,l20_4,l20_5⟩:GPr)).bind fun r22 =>
  (cond (eqI r22.Kind 3)
   (some (eqS r22.Text [125]))
   (some false)).bind fun j23 =>
  cond j23
   (cond (roomB (List.length ((([]++j7_1)++[])++l20_1)) 64) (
    some ((([]++j7_1)++[])++l20_1,l20_2,wi (l20_3+1),l20_4,l20_5)) none)
   (((g_r_article n (⟨l20_2,l20_3,l20_4,[]⟩:GPr)).bind (exc (fun r26 =>
    some (true,[],r26.2.tks,r26.2.pos,r26.2.length,l20_5,r26.1.Kind,r26.1.Name,r26.1.N,r26.1.At,r26.1.Kids)) fun e27=>cond (roomB (List.length (l20_5++[(⟨7,e27.1⟩:GDg)])) 16) (
    (g_r_skip n (⟨e27.2.tks,e27.2.pos,e27.2.length,[]⟩:GPr)).bind fun r28 =>
    some (false,r28.1,r28.2.tks,r28.2.pos,r28.2.length,l20_5++[(⟨7,e27.1⟩:GDg)],0,[],0,0,[])) none)).bind fun (j25_1,j25_2,j25_3,j25_4,j25_5,j25_6,j25_7,j25_8,j25_9,j25_10,j25_11) =>
   cond j25_1
    (cond (roomB (List.length (l20_1++[GN.cs (⟨j25_7,j25_8,j25_9,j25_10,j25_11⟩:GN)])) 64) (
     recl20 (l20_1++[GN.cs (⟨j25_7,j25_8,j25_9,j25_10,j25_11⟩:GN)],j25_3,j25_4,j25_5,j25_6)) none)
    (cond (!eqS j25_2 [59])
     (cond (roomB (List.length ((([]++j7_1)++[])++l20_1)) 64) (
      some ((([]++j7_1)++[])++l20_1,j25_3,j25_4,j25_5,j25_6)) none)
     (recl20 (l20_1,j25_3,j25_4,j25_5,j25_6)))))
  (g_r_item_j19 j7_1 l20_1 l20_2 l20_3 l20_4 l20_5)
def g_r_item_j17 (n:Nat) (a0r:GPr) (r1:GTk) (r3:GTk) (r5:Int) (j7_1:List (List PV)) (j7_2:List GTk) (j7_3:Int) (j7_4:Int):Option (Except (Int × GPr) (GN × GPr)) :=
 cond (roomB (List.length (([]++j7_1)++[])) 64) (
  (loopN (fun recl20 (l20_1,l20_2,l20_3,l20_4,l20_5)=>g_r_item_l20 n j7_1 recl20 l20_1 l20_2 l20_3 l20_4 l20_5) n ([],j7_2,wi (j7_3+1),j7_4,a0r.dg)).bind fun (j18_1,j18_2,j18_3,j18_4,j18_5) =>
  g_r_item_j6 r1 r3 r5 j18_1 j18_2 j18_3 j18_4 j18_5) none
def g_r_item_j35 (a0r:GPr) (r1:GTk) (r3:GTk) (r5:Int) (j35_1:List (List PV)) (j35_2:List GTk) (j35_3:Int) (j35_4:Int):Option (Except (Int × GPr) (GN × GPr)) :=
 some (.ok ((⟨2,r3.Text,r5,r1.At,j35_1⟩:GN),(⟨j35_2,j35_3,j35_4,a0r.dg⟩:GPr)))
def g_r_item_l38 (n:Nat) (a0r:GPr) (recl38:((List (List PV)) × (List GTk) × Int × Int × Int × (List UInt8) × Int × Int)→Option ((List (List PV)) × (List GTk) × Int × Int)) (l38_1:List (List PV)) (l38_2:List GTk) (l38_3:Int) (l38_4:Int) (l38_5:Int) (l38_6:List UInt8) (l38_7:Int) (l38_8:Int):Option ((List (List PV)) × (List GTk) × Int × Int) :=
 (cond (eqI l38_5 1)
  ((g_p_isAttr n l38_6).bind fun r41 =>
  some r41)
  (some false)).bind fun j39 =>
 cond j39
  (((g_r_values n (⟨l38_2,wi (l38_3+1),l38_4,[]⟩:GPr)).bind fun r43 =>
  cond (roomB (List.length ([]++r43.1)) 64) (
   some ([]++r43.1,r43.2.tks,r43.2.pos,r43.2.length)) none).bind fun (j42_1,j42_2,j42_3,j42_4) =>
  cond (roomB (List.length (l38_1++[GN.cs (⟨3,l38_6,0,l38_8,j42_1⟩:GN)])) 64) (
   (g_r_peek_2 n (⟨j42_2,j42_3,j42_4,a0r.dg⟩:GPr)).bind fun r44 =>
   recl38 (l38_1++[GN.cs (⟨3,l38_6,0,l38_8,j42_1⟩:GN)],j42_2,j42_3,j42_4,r44.Kind,r44.Text,r44.N,r44.At)) none)
  (some (l38_1,l38_2,l38_3,l38_4))
def g_r_item_j46 (a0r:GPr) (r1:GTk) (r3:GTk) (r5:Int) (j36_1:List (List PV)) (j36_2:List GTk) (j36_3:Int) (j36_4:Int):Option (Except (Int × GPr) (GN × GPr)) :=
 cond (roomB (List.length (([]++j36_1)++[])) 64) (
  g_r_item_j35 a0r r1 r3 r5 (([]++j36_1)++[]) j36_2 (wi (j36_3+1)) j36_4) none
def g_r_item_j4 (n:Nat) (a0r:GPr) (r1:GTk) (r3:GTk):Option (Except (Int × GPr) (GN × GPr)) :=
 (g_p_kindOf n r1.Text).bind fun r5 =>
 cond (eqI r5 7)
  (((g_r_peek_2 n (⟨a0r.tks,wi ((wi (a0r.pos+1))+1),a0r.length,a0r.dg⟩:GPr)).bind fun r8 =>
  loopN (fun recl9 (l9_1,l9_2,l9_3,l9_4,l9_5,l9_6,l9_7,l9_8)=>g_r_item_l9 n a0r recl9 l9_1 l9_2 l9_3 l9_4 l9_5 l9_6 l9_7 l9_8) n ([],a0r.tks,wi ((wi (a0r.pos+1))+1),a0r.length,r8.Kind,r8.Text,r8.N,r8.At)).bind fun (j7_1,j7_2,j7_3,j7_4) =>
  cond (roomB (List.length ([]++j7_1)) 64) (
   (g_r_peek_2 n (⟨j7_2,j7_3,j7_4,a0r.dg⟩:GPr)).bind fun r16 =>
   (cond (eqI r16.Kind 0)
    (some true)
    ((cond (eqI r16.Kind 3)
     (some (eqS r16.Text [123]))
     (some false)).bind fun j31 =>
    some (!j31))).bind fun j29 =>
   cond j29
    ((g_r_fail_2 n (⟨j7_2,j7_3,j7_4,a0r.dg⟩:GPr)).bind (exc (fun r33 =>
     g_r_item_j17 n a0r r1 r3 r5 j7_1 j7_2 j7_3 j7_4) fun e34=>some (.error (e34,(⟨j7_2,j7_3,j7_4,a0r.dg⟩:GPr)))))
    (g_r_item_j17 n a0r r1 r3 r5 j7_1 j7_2 j7_3 j7_4)) none)
  (((g_r_peek_2 n (⟨a0r.tks,wi ((wi (a0r.pos+1))+1),a0r.length,a0r.dg⟩:GPr)).bind fun r37 =>
  loopN (fun recl38 (l38_1,l38_2,l38_3,l38_4,l38_5,l38_6,l38_7,l38_8)=>g_r_item_l38 n a0r recl38 l38_1 l38_2 l38_3 l38_4 l38_5 l38_6 l38_7 l38_8) n ([],a0r.tks,wi ((wi (a0r.pos+1))+1),a0r.length,r37.Kind,r37.Text,r37.N,r37.At)).bind fun (j36_1,j36_2,j36_3,j36_4) =>
  cond (roomB (List.length ([]++j36_1)) 64) (
   (g_r_peek_2 n (⟨j36_2,j36_3,j36_4,a0r.dg⟩:GPr)).bind fun r45 =>
   (cond (eqI r45.Kind 0)
    (some true)
    ((cond (eqI r45.Kind 3)
     (some (eqS r45.Text [59]))
     (some false)).bind fun j49 =>
    some (!j49))).bind fun j47 =>
   cond j47
    ((g_r_fail_2 n (⟨j36_2,j36_3,j36_4,a0r.dg⟩:GPr)).bind (exc (fun r51 =>
     g_r_item_j46 a0r r1 r3 r5 j36_1 j36_2 j36_3 j36_4) fun e52=>some (.error (e52,(⟨j36_2,j36_3,j36_4,a0r.dg⟩:GPr)))))
    (g_r_item_j46 a0r r1 r3 r5 j36_1 j36_2 j36_3 j36_4)) none)
def g_r_item_j2 (n:Nat) (a0r:GPr) (r1:GTk):Option (Except (Int × GPr) (GN × GPr)) :=
 (g_r_peek_2 n (⟨a0r.tks,wi (a0r.pos+1),a0r.length,a0r.dg⟩:GPr)).bind fun r3 =>
 (cond (eqI r3.Kind 0)
  (some true)
  ((cond (eqI r3.Kind 1)
   ((g_p_notKey n r3.Text).bind fun r57 =>
   some r57)
   (some false)).bind fun j55 =>
  some (!j55))).bind fun j53 =>
 cond j53
  ((g_r_fail_2 n (⟨a0r.tks,wi (a0r.pos+1),a0r.length,a0r.dg⟩:GPr)).bind (exc (fun r58 =>
   g_r_item_j4 n a0r r1 r3) fun e59=>some (.error (e59,(⟨a0r.tks,wi (a0r.pos+1),a0r.length,a0r.dg⟩:GPr)))))
  (g_r_item_j4 n a0r r1 r3)
def g_r_item (n:Nat) (a0r:GPr):Option (Except (Int × GPr) (GN × GPr)) :=
 (g_r_peek_2 n a0r).bind fun r1 =>
 (cond (eqI r1.Kind 0)
  (some true)
  ((cond (eqI r1.Kind 1)
   ((g_r_item_1 n r1.Text).bind fun r64 =>
   some r64)
   (some false)).bind fun j62 =>
  some (!j62))).bind fun j60 =>
 cond j60
  ((g_r_fail_2 n a0r).bind (exc (fun r65 =>
   g_r_item_j2 n a0r r1) fun e66=>some (.error (e66,a0r))))
  (g_r_item_j2 n a0r r1)
abbrev bGN24 (x:GN):Go.Abs.Blk:=.box 24 (bxc (GN.cs x))
abbrev amDg67 (x:List GDg):Go.Abs.Blk:=.arr 67 2 (mDg x).length
theorem g_r_item_ok (n:Nat) (a0r:GPr):∀ r,g_r_item n a0r=some r→ACall Tryz.prog 73 [pZ0] (Go.Abs.look [(1000, .box 70 [.p (.sl 4 (mTk a0r.tks)),I a0r.pos,I a0r.length, .tsl 2 (mDg a0r.dg) 1103]),(1103,amDg67 a0r.dg)]) (heapR (excX (fun r:GN × GPr=>((.ret (ag (GN.cs r.1)),[(1000, .box 70 [.p (.sl 4 (mTk r.2.tks)),I r.2.pos,I r.2.length, .tsl 2 (mDg r.2.dg) 1103]),(1103,amDg67 r.2.dg)]):AEnd × List (Nat × Blk))) (fun e:Int × GPr=>((.panic (.ifc 105 (.agg [I e.1])),[(1000, .box 70 [.p (.sl 4 (mTk e.2.tks)),I e.2.pos,I e.2.length, .tsl 2 (mDg e.2.dg) 1103]),(1103,amDg67 e.2.dg)]):AEnd × List (Nat × Blk)))) r):=by
 refine acall_sim (X:=excX (fun r:GN × GPr=>((.ret (ag (GN.cs r.1)),[(1000, .box 70 [.p (.sl 4 (mTk r.2.tks)),I r.2.pos,I r.2.length, .tsl 2 (mDg r.2.dg) 1103]),(1103,amDg67 r.2.dg)]):AEnd × List (Nat × Blk))) (fun e:Int × GPr=>((.panic (.ifc 105 (.agg [I e.1])),[(1000, .box 70 [.p (.sl 4 (mTk e.2.tks)),I e.2.pos,I e.2.length, .tsl 2 (mDg e.2.dg) 1103]),(1103,amDg67 e.2.dg)]):AEnd × List (Nat × Blk)))) [(1000, .box 70 [.p (.sl 4 (mTk a0r.tks)),I a0r.pos,I a0r.length, .tsl 2 (mDg a0r.dg) 1103]),(1103,amDg67 a0r.dg)] Tryz.func73 rfl Tryz.ntmps73 rfl ?_
 unfold g_r_item
 refine sR tfm ⟨[1,2],[1,2,1000,1103],[],[]⟩ ⟨[qq 1,qq 2],[(1, .box 68 [pZ0]),(2, .box 24 zN),(1000, .box 70 [.p (.sl 4 (mTk a0r.tks)),I a0r.pos,I a0r.length, .tsl 2 (mDg a0r.dg) 1103]),(1103,amDg67 a0r.dg)]⟩ krf (sS (sP ⟨[1,2],[1,2,1000,1103],[],[]⟩ ⟨[qq 1,qq 2],[(1, .box 68 [pZ0]),(2, .box 24 zN),(1000, .box 70 [.p (.sl 4 (mTk a0r.tks)),I a0r.pos,I a0r.length, .tsl 2 (mDg a0r.dg) 1103]),(1103,amDg67 a0r.dg)]⟩ krf (sim_hstF [0] 3 3 [1,2,3,4] tfm rfl krf krf (lates_cons (late_read pZ0 krf rfl) (lates_nil)) krf (f_enter (f:=94) (args:=[.p (.val (.func (.func 95) #[] #[]))]) (dst:=some 9) krf krf rfl (sc_inline (hc:=[]) (args':=[.p (.val (.func (.func 95) #[] #[]))]) [(1,401)] [] [] Tryz.func94 rfl Tryz.ntmps94 rfl krf krf krf (sR tfm ⟨[1],[1],[],[]⟩ ⟨[qq 1],[(1, .box 87 [.p (.val (.func (.func 95) #[] #[]))])]⟩ krf (sR tfm ⟨[2],[1],[],[]⟩ ⟨[(2, .fn (.func 118) [] [.ptr 1 0])],[(1, .box 87 [.p (.val (.func (.func 95) #[] #[]))])]⟩ krf ?_)))))))
 refine sT (iq_ret (.id) [1] [] (.fn (.func 118) [] [.ptr 1 0]) krf krf (kf [0] krf (lates_cons (late_read pZ0 krf rfl) (lates_nil)) krf (f_enter (f:=93) (args:=[pZ0, .fn (.func 118) [] [.ptr 401 0]]) (dst:=some 10) krf krf rfl (sc_inline (hc:=[(1000, .box 87 [.p (.val (.func (.func 95) #[] #[]))]),(1001, .box 70 [.p (.sl 4 (mTk a0r.tks)),I a0r.pos,I a0r.length, .tsl 2 (mDg a0r.dg) 1002]),(1002,amDg67 a0r.dg)]) (args':=[pZ1, .fn (.func 118) [] [pZ0]]) [(1000,401),(1001,1000),(1002,1103)] [] [] Tryz.func93 rfl Tryz.ntmps93 rfl krf krf krf (sR tfm ⟨[0,1,4],[4,1000,1001,1002],[],[]⟩ ⟨[(0,pZ1),(1, .fn (.func 118) [] [pZ0]),qq 4],[(4, .box 63 [I 0,S [],I 0,I 0]),(1000, .box 87 [.p (.val (.func (.func 95) #[] #[]))]),(1001, .box 70 [.p (.sl 4 (mTk a0r.tks)),I a0r.pos,I a0r.length, .tsl 2 (mDg a0r.dg) 1002]),(1002,amDg67 a0r.dg)]⟩ krf (sS (sG ?_)))))))
 refine xR 1 krf ?_
 refine xs_ro [.ro [.id, .id, .id, .sl 2]] krf (g_r_peek_2_ok n a0r) krf krf kff (fun r1=>?_)
 refine xR 2 krf (xE (sN ⟨[0,1,4,5],[4,5,1000,1001,1002],[],[]⟩ ⟨[(0,pZ1),(1, .fn (.func 118) [] [pZ0]),qq 4,qq 5],[(4, .box 63 [I 0,S [],I 0,I 0]),(5,bGTk63 r1),(1000, .box 87 [.p (.val (.func (.func 95) #[] #[]))]),(1001, .box 70 [.p (.sl 4 (mTk a0r.tks)),I a0r.pos,I a0r.length, .tsl 2 (mDg a0r.dg) 1002]),(1002,amDg67 a0r.dg)]⟩ krf (sim_cps (fun _=>⟨[(0,pZ1),qq 4,qq 5],[(4, .box 63 [I 0,S [],I 0,I 0]),(5,bGTk63 r1),(1000, .box 87 [.p (.val (.func (.func 95) #[] #[]))]),(1001, .box 70 [.p (.sl 4 (mTk a0r.tks)),I a0r.pos,I a0r.length, .tsl 2 (mDg a0r.dg) 1002]),(1002,amDg67 a0r.dg)]⟩:Unit→St) (fun _=>g_r_item_j2 n a0r r1) ?_ ?_)))
 ·rintro _
  show SimE (g_r_item_j2 n a0r r1) _ _ _ _ _ _
  unfold g_r_item_j2
  refine sR tfm ⟨[4,5],[4,5,1000,1001,1002],[],[]⟩ ⟨[qq 4,qq 5],[(4, .box 63 [I 0,S [],I 0,I 0]),(5,bGTk63 r1),(1000, .box 87 [.p (.val (.func (.func 95) #[] #[]))]),(1001, .box 70 [.p (.sl 4 (mTk a0r.tks)),I (wi (a0r.pos+1)),I a0r.length, .tsl 2 (mDg a0r.dg) 1002]),(1002,amDg67 a0r.dg)]⟩ krf (sR tfm ⟨[4],[4,1000,1001,1002],[],[]⟩ ⟨[qq 4],[(4,bGTk63 r1),(1000, .box 87 [.p (.val (.func (.func 95) #[] #[]))]),(1001, .box 70 [.p (.sl 4 (mTk a0r.tks)),I (wi (a0r.pos+1)),I a0r.length, .tsl 2 (mDg a0r.dg) 1002]),(1002,amDg67 a0r.dg)]⟩ krf (sT (iq_ret (.id) [1000,1001,1002] [] (.agg [I r1.Kind,S r1.Text,I r1.N,I r1.At]) krf krf (kf [] krf (lates_nil) krf (f_q [0] krf krf (lates_cons (late_read pZ0 krf rfl) (lates_nil)) (f_op [] rfl krf krf (lates_nil) krf (f_end ?_)))))))
  refine sN ⟨[1,2,3],[1,2,3,1000,1103],[],[]⟩ ⟨[qq 1,qq 2,qq 3],[(1, .box 68 [pZ0]),(2, .box 24 zN),(3,bGTk63 r1),(1000, .box 70 [.p (.sl 4 (mTk a0r.tks)),I (wi (a0r.pos+1)),I a0r.length, .tsl 2 (mDg a0r.dg) 1103]),(1103,amDg67 a0r.dg)]⟩ krf (sS (sim_hst [0] [0] [(1,[]),(2,[]),(3,[]),(4,[])] tfm rfl krf krf (h_enter (f:=94) (args:=[.p (.val (.func (.func 97) #[] #[]))]) (dst:=some 12) krf krf (sc_inline (hc:=[]) (args':=[.p (.val (.func (.func 97) #[] #[]))]) [(1,401)] [] [] Tryz.func94 rfl Tryz.ntmps94 rfl krf krf krf (sR tfm ⟨[1],[1],[],[]⟩ ⟨[qq 1],[(1, .box 87 [.p (.val (.func (.func 97) #[] #[]))])]⟩ krf (sR tfm ⟨[2],[1],[],[]⟩ ⟨[(2, .fn (.func 118) [] [.ptr 1 0])],[(1, .box 87 [.p (.val (.func (.func 97) #[] #[]))])]⟩ krf (sT ?_)))))))
  refine iq_ret (.id) [1] [] (.fn (.func 118) [] [.ptr 1 0]) krf krf (kh [0] krf (lates_cons (late_read pZ0 krf rfl) (lates_nil)) krf (h_enter (f:=93) (args:=[pZ0, .fn (.func 118) [] [.ptr 401 0]]) (dst:=some 13) krf krf (sc_inline (hc:=[(1000, .box 87 [.p (.val (.func (.func 97) #[] #[]))]),(1001, .box 70 [.p (.sl 4 (mTk a0r.tks)),I (wi (a0r.pos+1)),I a0r.length, .tsl 2 (mDg a0r.dg) 1002]),(1002,amDg67 a0r.dg)]) (args':=[pZ1, .fn (.func 118) [] [pZ0]]) [(1000,401),(1001,1000),(1002,1103)] [] [] Tryz.func93 rfl Tryz.ntmps93 rfl krf krf krf (sR tfm ⟨[0,1,4],[4,1000,1001,1002],[],[]⟩ ⟨[(0,pZ1),(1, .fn (.func 118) [] [pZ0]),qq 4],[(4, .box 63 [I 0,S [],I 0,I 0]),(1000, .box 87 [.p (.val (.func (.func 97) #[] #[]))]),(1001, .box 70 [.p (.sl 4 (mTk a0r.tks)),I (wi (a0r.pos+1)),I a0r.length, .tsl 2 (mDg a0r.dg) 1002]),(1002,amDg67 a0r.dg)]⟩ krf (sS (sG (xR 1 krf ?_)))))))
  refine xs_ro [.ro [.id, .id, .id, .sl 2]] krf (g_r_peek_2_ok n (⟨a0r.tks,wi (a0r.pos+1),a0r.length,a0r.dg⟩:GPr)) krf krf kff (fun r3=>?_)
  refine xR 2 krf (xE (sN ⟨[0,1,4,5],[4,5,1000,1001,1002],[],[]⟩ ⟨[(0,pZ1),(1, .fn (.func 118) [] [pZ0]),qq 4,qq 5],[(4, .box 63 [I 0,S [],I 0,I 0]),(5,bGTk63 r3),(1000, .box 87 [.p (.val (.func (.func 97) #[] #[]))]),(1001, .box 70 [.p (.sl 4 (mTk a0r.tks)),I (wi (a0r.pos+1)),I a0r.length, .tsl 2 (mDg a0r.dg) 1002]),(1002,amDg67 a0r.dg)]⟩ krf (sim_cps (fun _=>⟨[(0,pZ1),qq 4,qq 5],[(4, .box 63 [I 0,S [],I 0,I 0]),(5,bGTk63 r3),(1000, .box 87 [.p (.val (.func (.func 97) #[] #[]))]),(1001, .box 70 [.p (.sl 4 (mTk a0r.tks)),I (wi (a0r.pos+1)),I a0r.length, .tsl 2 (mDg a0r.dg) 1002]),(1002,amDg67 a0r.dg)]⟩:Unit→St) (fun _=>g_r_item_j4 n a0r r1 r3) ?_ ?_)))
  ·rintro _
   show SimE (g_r_item_j4 n a0r r1 r3) _ _ _ _ _ _
   unfold g_r_item_j4
   refine sR tfm ⟨[4,5],[4,5,1000,1001,1002],[],[]⟩ ⟨[qq 4,qq 5],[(4, .box 63 [I 0,S [],I 0,I 0]),(5,bGTk63 r3),(1000, .box 87 [.p (.val (.func (.func 97) #[] #[]))]),(1001, .box 70 [.p (.sl 4 (mTk a0r.tks)),I (wi ((wi (a0r.pos+1))+1)),I a0r.length, .tsl 2 (mDg a0r.dg) 1002]),(1002,amDg67 a0r.dg)]⟩ krf (sR tfm ⟨[4],[4,1000,1001,1002],[],[]⟩ ⟨[qq 4],[(4,bGTk63 r3),(1000, .box 87 [.p (.val (.func (.func 97) #[] #[]))]),(1001, .box 70 [.p (.sl 4 (mTk a0r.tks)),I (wi ((wi (a0r.pos+1))+1)),I a0r.length, .tsl 2 (mDg a0r.dg) 1002]),(1002,amDg67 a0r.dg)]⟩ krf (sT (iq_ret (.id) [1000,1001,1002] [] (.agg [I r3.Kind,S r3.Text,I r3.N,I r3.At]) krf krf (kh [] krf (lates_nil) krf (h_op [] krf krf (lates_nil) (h_op [] krf krf (lates_nil) (h_end ?_)))))))
   refine sN ⟨[1,2,3,4],[1,2,3,1000,1103],[],[]⟩ ⟨[qq 1,qq 2,qq 3,(4,S r3.Text)],[(1, .box 68 [pZ0]),(2, .box 24 zN),(3,bGTk63 r1),(1000, .box 70 [.p (.sl 4 (mTk a0r.tks)),I (wi ((wi (a0r.pos+1))+1)),I a0r.length, .tsl 2 (mDg a0r.dg) 1103]),(1103,amDg67 a0r.dg)]⟩ krf (sS (sG (xR 2 krf ?_)))
   refine xC [] krf (g_p_kindOf_ok n r1.Text) krf krf kff (fun r5=>?_)
   refine xR 1 krf (xE (sN ⟨[1,2,3,4,5],[1,2,3,1000,1103],[],[]⟩ ⟨[qq 1,qq 2,qq 3,(4,S r3.Text),(5,I r5)],[(1, .box 68 [pZ0]),(2, .box 24 zN),(3,bGTk63 r1),(1000, .box 70 [.p (.sl 4 (mTk a0r.tks)),I (wi ((wi (a0r.pos+1))+1)),I a0r.length, .tsl 2 (mDg a0r.dg) 1103]),(1103,amDg67 a0r.dg)]⟩ krf (sS (sR tfm ⟨[1,2,3,4,5,19],[1,2,3,1000,1103],[],[]⟩ ⟨[qq 1,qq 2,qq 3,(4,S r3.Text),(5,I r5),(19,B (eqI r5 7))],[(1, .box 68 [pZ0]),(2, .box 24 zN),(3,bGTk63 r1),(1000, .box 70 [.p (.sl 4 (mTk a0r.tks)),I (wi ((wi (a0r.pos+1))+1)),I a0r.length, .tsl 2 (mDg a0r.dg) 1103]),(1103,amDg67 a0r.dg)]⟩ krf (sC (eqI r5 7) krf ?_ ?_)))))
   ·refine sR tfm ⟨[1,2,3,4,5,6],[1,2,3,1000,1103],[],[]⟩ ⟨[qq 1,qq 2,qq 3,(4,S r3.Text),(5,I r5),(6, .fn (.func 98) [] [.ptr 1 0])],[(1, .box 68 [pZ0]),(2, .box 24 zN),(3,bGTk63 r1),(1000, .box 70 [.p (.sl 4 (mTk a0r.tks)),I (wi ((wi (a0r.pos+1))+1)),I a0r.length, .tsl 2 (mDg a0r.dg) 1103]),(1103,amDg67 a0r.dg)]⟩ krf (sS (sG (xR 9 krf (xs_inline [(1000, .box 68 [pZ2]),(1001, .box 72 [.fn (.func 100) [pZ2] [], .fn (.func 98) [] [pZ0], .fn (.func 101) [pZ2] []]),(1002, .box 70 [.p (.sl 4 (mTk a0r.tks)),I (wi ((wi (a0r.pos+1))+1)),I a0r.length, .tsl 2 (mDg a0r.dg) 1003]),(1003,amDg67 a0r.dg)] [.agg [I r1.Kind,S r1.Text,I r1.N,I r1.At],I 2,S r3.Text,I r5, .bsl 1001 3] [(1000,1),(1001,29),(1002,1000),(1003,1103)] [] [] krf Tryz.func40 rfl Tryz.ntmps40 rfl krf krf krf (sR tfm ⟨[1,2,3,4,5,10],[5,10,1000,1001,1002,1003],[],[]⟩ ⟨[(1,I 2),(2,S r3.Text),(3,I r5),(4, .bsl 1001 3),qq 5,qq 10],[(5,bGTk63 r1),(10, .box 24 zN),(1000, .box 68 [pZ2]),(1001, .box 72 [.fn (.func 100) [pZ2] [], .fn (.func 98) [] [pZ0], .fn (.func 101) [pZ2] []]),(1002, .box 70 [.p (.sl 4 (mTk a0r.tks)),I (wi ((wi (a0r.pos+1))+1)),I a0r.length, .tsl 2 (mDg a0r.dg) 1003]),(1003,amDg67 a0r.dg)]⟩ krf (sR tfm ⟨[4,10,11],[10,11,1000,1001,1002,1003],[],[]⟩ ⟨[(4, .bsl 1001 3),qq 10,qq 11],[(10, .box 24 zN),(11, .box 24 [I 2,S r3.Text,I r5,I r1.At,zS]),(1000, .box 68 [pZ2]),(1001, .box 72 [.fn (.func 100) [pZ2] [], .fn (.func 98) [] [pZ0], .fn (.func 101) [pZ2] []]),(1002, .box 70 [.p (.sl 4 (mTk a0r.tks)),I (wi ((wi (a0r.pos+1))+1)),I a0r.length, .tsl 2 (mDg a0r.dg) 1003]),(1003,amDg67 a0r.dg)]⟩ krf (sim_cps (fun (j6_1,j6_2,j6_3,j6_4,j6_5)=>⟨[qq 10,qq 11],[(10, .box 24 zN),(11, .box 24 [I 2,S r3.Text,I r5,I r1.At, .tsl 5 (mI j6_1) 600]),(600,amI24 j6_1),(1000, .box 68 [pZ2]),(1001, .box 72 [.fn (.func 100) [pZ2] [], .fn (.func 98) [] [pZ0], .fn (.func 101) [pZ2] []]),(1002, .box 70 [.p (.sl 4 (mTk j6_2)),I j6_3,I j6_4, .tsl 2 (mDg j6_5) 1003]),(1003,amDg67 j6_5)]⟩:((List (List PV)) × (List GTk) × Int × Int × (List GDg))→St) (fun (j6_1,j6_2,j6_3,j6_4,j6_5)=>g_r_item_j6 r1 r3 r5 j6_1 j6_2 j6_3 j6_4 j6_5) ?_ ?_)))))))
    ·rintro ⟨j6_1,j6_2,j6_3,j6_4,j6_5⟩
     show SimE (g_r_item_j6 r1 r3 r5 j6_1 j6_2 j6_3 j6_4 j6_5) _ _ _ _ _ _
     unfold g_r_item_j6
     refine sR tfm ⟨[10],[10,600,1000,1001,1002,1003],[],[]⟩ ⟨[qq 10],[(10, .box 24 [I 2,S r3.Text,I r5,I r1.At, .tsl 5 (mI j6_1) 600]),(600,amI24 j6_1),(1000, .box 68 [pZ2]),(1001, .box 72 [.fn (.func 100) [pZ2] [], .fn (.func 98) [] [pZ0], .fn (.func 101) [pZ2] []]),(1002, .box 70 [.p (.sl 4 (mTk j6_2)),I j6_3,I j6_4, .tsl 2 (mDg j6_5) 1003]),(1003,amDg67 j6_5)]⟩ krf (sT (iq_ret (.agg [.id, .id, .id, .id, .sl 5]) [1000,1001,1002,1003] [] (.agg [I 2,S r3.Text,I r5,I r1.At, .p (.sl 5 (mI j6_1))]) krf krf (kr0 (xR 1 krf (xE (sN ⟨[2],[2,1000,1103],[],[]⟩ ⟨[qq 2],[(2, .box 24 (bxc (GN.cs ⟨2,r3.Text,r5,r1.At,j6_1⟩))),(1000, .box 70 [.p (.sl 4 (mTk j6_2)),I j6_3,I j6_4, .tsl 2 (mDg j6_5) 1103]),(1103,amDg67 j6_5)]⟩ krf (sT ?_)))))))
     refine sq_r ?_
     exact hq_ret (.id) [1000,1103] [] krf krf krf krf
    ·refine sR tfm ⟨[10,11,20,21,22],[10,11,1000,1001,1002,1003],[],[]⟩ ⟨[qq 10,qq 11,(20, .bsl 1001 3),(21,I 3),(22,I 0)],[(10, .box 24 zN),(11, .box 24 [I 2,S r3.Text,I r5,I r1.At,zS]),(1000, .box 68 [pZ2]),(1001, .box 72 [.fn (.func 100) [pZ2] [], .fn (.func 98) [] [pZ0], .fn (.func 101) [pZ2] []]),(1002, .box 70 [.p (.sl 4 (mTk a0r.tks)),I (wi ((wi (a0r.pos+1))+1)),I a0r.length, .tsl 2 (mDg a0r.dg) 1003]),(1003,amDg67 a0r.dg)]⟩ krf (sB (sim_unroll 3 (sR tfm ⟨[10,11,20,21,22,23],[10,11,1000,1001,1002,1003],[],[]⟩ ⟨[qq 10,qq 11,(20, .bsl 1001 3),(21,I 3),(22,I 0),(23,B true)],[(10, .box 24 zN),(11, .box 24 [I 2,S r3.Text,I r5,I r1.At,zS]),(1000, .box 68 [pZ2]),(1001, .box 72 [.fn (.func 100) [pZ2] [], .fn (.func 98) [] [pZ0], .fn (.func 101) [pZ2] []]),(1002, .box 70 [.p (.sl 4 (mTk a0r.tks)),I (wi ((wi (a0r.pos+1))+1)),I a0r.length, .tsl 2 (mDg a0r.dg) 1003]),(1003,amDg67 a0r.dg)]⟩ krf (sS (sim_condT krf (sK (sN ⟨[10,11,20,21,22],[10,11,1000,1001,1002,1003],[],[]⟩ ⟨[qq 10,qq 11,(20, .bsl 1001 3),(21,I 3),(22,I 0)],[(10, .box 24 zN),(11, .box 24 [I 2,S r3.Text,I r5,I r1.At,zS]),(1000, .box 68 [pZ2]),(1001, .box 72 [.fn (.func 100) [pZ2] [], .fn (.func 98) [] [pZ0], .fn (.func 101) [pZ2] []]),(1002, .box 70 [.p (.sl 4 (mTk a0r.tks)),I (wi ((wi (a0r.pos+1))+1)),I a0r.length, .tsl 2 (mDg a0r.dg) 1003]),(1003,amDg67 a0r.dg)]⟩ krf ?_)))))))
     refine sS (sB (sR tfm ⟨[10,11,13,20,21,22],[10,11,1000,1001,1002,1003],[],[]⟩ ⟨[qq 10,qq 11,(13, .fn (.func 100) [pZ2] []),(20, .bsl 1001 3),(21,I 3),(22,I 0)],[(10, .box 24 zN),(11, .box 24 [I 2,S r3.Text,I r5,I r1.At,zS]),(1000, .box 68 [pZ2]),(1001, .box 72 [.fn (.func 100) [pZ2] [], .fn (.func 98) [] [pZ0], .fn (.func 101) [pZ2] []]),(1002, .box 70 [.p (.sl 4 (mTk a0r.tks)),I (wi ((wi (a0r.pos+1))+1)),I a0r.length, .tsl 2 (mDg a0r.dg) 1003]),(1003,amDg67 a0r.dg)]⟩ krf (sP ⟨[10,11,13,20,21,22],[10,11,1000,1001,1002,1003],[],[]⟩ ⟨[qq 10,qq 11,(13, .fn (.func 100) [pZ2] []),(20, .bsl 1001 3),(21,I 3),(22,I 0)],[(10, .box 24 zN),(11, .box 24 [I 2,S r3.Text,I r5,I r1.At,zS]),(1000, .box 68 [pZ2]),(1001, .box 72 [.fn (.func 100) [pZ2] [], .fn (.func 98) [] [pZ0], .fn (.func 101) [pZ2] []]),(1002, .box 70 [.p (.sl 4 (mTk a0r.tks)),I (wi ((wi (a0r.pos+1))+1)),I a0r.length, .tsl 2 (mDg a0r.dg) 1003]),(1003,amDg67 a0r.dg)]⟩ krf (sim_weak (weak_pn 24 5 600 [] [(11,4)] krf) (sim_hst [0,1,2] [0,1] [(3,[]),(4,[]),(5,[]),(6,[])] tfm rfl krf krf (h_enter (f:=100) (args:=[pZ2]) (dst:=some 29) krf krf (sc_inline (hc:=[(1000, .box 70 [.p (.sl 4 (mTk a0r.tks)),I (wi ((wi (a0r.pos+1))+1)),I a0r.length, .tsl 2 (mDg a0r.dg) 1001]),(1001,amDg67 a0r.dg)]) (args':=[pZ0]) [(1000,1002),(1001,1003)] [] [] Tryz.func100 rfl Tryz.ntmps100 rfl krf krf krf ?_)))))))
     refine sR tfm ⟨[1],[1,1000,1001],[],[]⟩ ⟨[qq 1],[(1, .box 68 [pZ0]),(1000, .box 70 [.p (.sl 4 (mTk a0r.tks)),I (wi ((wi (a0r.pos+1))+1)),I a0r.length, .tsl 2 (mDg a0r.dg) 1001]),(1001,amDg67 a0r.dg)]⟩ krf (sR tfm ⟨[1,3],[1,1000,1001],[],[]⟩ ⟨[qq 1,(3,zS)],[(1, .box 68 [pZ0]),(1000, .box 70 [.p (.sl 4 (mTk a0r.tks)),I (wi ((wi (a0r.pos+1))+1)),I a0r.length, .tsl 2 (mDg a0r.dg) 1001]),(1001,amDg67 a0r.dg)]⟩ krf (sim_bind (fun (j7_1,j7_2,j7_3,j7_4)=>⟨[(3, .tsl 5 (mI j7_1) 600)],[(600,amI24 j7_1),(1000, .box 70 [.p (.sl 4 (mTk j7_2)),I j7_3,I j7_4, .tsl 2 (mDg a0r.dg) 1001]),(1001,amDg67 a0r.dg)]⟩:((List (List PV)) × (List GTk) × Int × Int)→St) ?_ ?_))
     ·refine sS (sG (xR 1 krf ?_))
      refine xs_ro [.ro [.id, .id, .id, .sl 2]] krf (g_r_peek_2_ok n (⟨a0r.tks,wi ((wi (a0r.pos+1))+1),a0r.length,a0r.dg⟩:GPr)) krf krf kff (fun r8=>?_)
      refine xR 2 krf (xE (sN ⟨[1,3,4],[1,4,1000,1001],[],[]⟩ ⟨[qq 1,(3,zS),qq 4],[(1, .box 68 [pZ0]),(4,bGTk63 r8),(1000, .box 70 [.p (.sl 4 (mTk a0r.tks)),I (wi ((wi (a0r.pos+1))+1)),I a0r.length, .tsl 2 (mDg a0r.dg) 1001]),(1001,amDg67 a0r.dg)]⟩ krf (sB (sP ⟨[1,3,4],[1,4,1000,1001],[],[]⟩ ⟨[qq 1,(3,zS),qq 4],[(1, .box 68 [pZ0]),(4,bGTk63 r8),(1000, .box 70 [.p (.sl 4 (mTk a0r.tks)),I (wi ((wi (a0r.pos+1))+1)),I a0r.length, .tsl 2 (mDg a0r.dg) 1001]),(1001,amDg67 a0r.dg)]⟩ krf (sim_weak (weak_pn 24 5 600 [3] [] krf) (sim_loop (fun (l9_1,l9_2,l9_3,l9_4,l9_5,l9_6,l9_7,l9_8)=>⟨[qq 1,(3, .tsl 5 (mI l9_1) 600),qq 4],[(1, .box 68 [pZ0]),(4, .box 63 [I l9_5,S l9_6,I l9_7,I l9_8]),(600,amI24 l9_1),(1000, .box 70 [.p (.sl 4 (mTk l9_2)),I l9_3,I l9_4, .tsl 2 (mDg a0r.dg) 1001]),(1001,amDg67 a0r.dg)]⟩:((List (List PV)) × (List GTk) × Int × Int × Int × (List UInt8) × Int × Int)→St) (weak_shr (K:=⟨[1,3,4],[1,4,600,1000,1001],[],[]⟩) krf) ?_))))))
      rintro recl9 ⟨l9_1,l9_2,l9_3,l9_4,l9_5,l9_6,l9_7,l9_8⟩
      show SimE (g_r_item_l9 n a0r recl9 l9_1 l9_2 l9_3 l9_4 l9_5 l9_6 l9_7 l9_8) _ _ _ _ _ _
      unfold g_r_item_l9
      refine sS (sim_bind (fun j10=>⟨[qq 1,(3, .tsl 5 (mI l9_1) 600),qq 4,(14,B j10)],[(1, .box 68 [pZ0]),(4, .box 63 [I l9_5,S l9_6,I l9_7,I l9_8]),(600,amI24 l9_1),(1000, .box 70 [.p (.sl 4 (mTk l9_2)),I l9_3,I l9_4, .tsl 2 (mDg a0r.dg) 1001]),(1001,amDg67 a0r.dg)]⟩:Bool→St) ?_ ?_)
      ·refine sG (xR 4 krf ?_)
       refine xS (eqI l9_5 1) (fun h11=>?_) (fun h11=>?_)
       ·refine xO (want_tt krf h11) krf (xR 1 krf ?_)
        refine xC [] krf (g_p_isAttr_ok n l9_6) krf krf kff (fun r12=>?_)
        refine xR 1 krf (xE ?_)
        exact nq_n r12 ⟨[1,3,4,14],[1,4,600,1000,1001],[],[]⟩ krf
       ·refine xN (want_tf krf h11) krf (xR 3 krf (xE ?_))
        exact nq_n false ⟨[1,3,4,14],[1,4,600,1000,1001],[],[]⟩ krf
      ·rintro j10
       refine sC j10 krf ?_ ?_
       ·refine sK (sN ⟨[1,3,4],[1,4,600,1000,1001],[],[]⟩ ⟨[qq 1,(3, .tsl 5 (mI l9_1) 600),qq 4],[(1, .box 68 [pZ0]),(4, .box 63 [I l9_5,S l9_6,I l9_7,I l9_8]),(600,amI24 l9_1),(1000, .box 70 [.p (.sl 4 (mTk l9_2)),I l9_3,I l9_4, .tsl 2 (mDg a0r.dg) 1001]),(1001,amDg67 a0r.dg)]⟩ krf (sS (sB (sR tfm ⟨[1,3,4],[1,4,600,1000,1001],[],[]⟩ ⟨[qq 1,(3, .tsl 5 (mI l9_1) 600),qq 4],[(1, .box 68 [pZ0]),(4, .box 63 [I l9_5,S l9_6,I l9_7,I l9_8]),(600,amI24 l9_1),(1000, .box 70 [.p (.sl 4 (mTk l9_2)),I (wi (l9_3+1)),I l9_4, .tsl 2 (mDg a0r.dg) 1001]),(1001,amDg67 a0r.dg)]⟩ krf (sG (xR 6 krf (xs_inline [(1000, .box 68 [pZ2]),(1001, .box 72 [.fn (.func 120) [] [pZ0]]),(1002, .box 70 [.p (.sl 4 (mTk l9_2)),I (wi (l9_3+1)),I l9_4, .tsl 2 (mDg a0r.dg) 1003]),(1003,amDg67 a0r.dg)] [.agg [I l9_5,S l9_6,I l9_7,I l9_8],I 3,S l9_6,I 0, .bsl 1001 1] [(1000,1),(1001,29),(1002,1000),(1003,1001)] [] [] krf Tryz.func40 rfl Tryz.ntmps40 rfl krf krf krf ?_)))))))
        refine sR tfm ⟨[1,2,3,4,5,10],[5,10,1000,1001,1002,1003],[],[]⟩ ⟨[(1,I 3),(2,S l9_6),(3,I 0),(4, .bsl 1001 1),qq 5,qq 10],[(5, .box 63 [I l9_5,S l9_6,I l9_7,I l9_8]),(10, .box 24 zN),(1000, .box 68 [pZ2]),(1001, .box 72 [.fn (.func 120) [] [pZ0]]),(1002, .box 70 [.p (.sl 4 (mTk l9_2)),I (wi (l9_3+1)),I l9_4, .tsl 2 (mDg a0r.dg) 1003]),(1003,amDg67 a0r.dg)]⟩ krf (sR tfm ⟨[4,10,11],[10,11,1000,1001,1002,1003],[],[]⟩ ⟨[(4, .bsl 1001 1),qq 10,qq 11],[(10, .box 24 zN),(11, .box 24 [I 3,S l9_6,I 0,I l9_8,zS]),(1000, .box 68 [pZ2]),(1001, .box 72 [.fn (.func 120) [] [pZ0]]),(1002, .box 70 [.p (.sl 4 (mTk l9_2)),I (wi (l9_3+1)),I l9_4, .tsl 2 (mDg a0r.dg) 1003]),(1003,amDg67 a0r.dg)]⟩ krf (sim_bind (fun (j13_1,j13_2,j13_3,j13_4)=>⟨[qq 10,qq 11],[(10, .box 24 zN),(11, .box 24 [I 3,S l9_6,I 0,I l9_8, .tsl 5 (mI j13_1) 600]),(600,amI24 j13_1),(1000, .box 68 [pZ2]),(1001, .box 72 [.fn (.func 120) [] [pZ0]]),(1002, .box 70 [.p (.sl 4 (mTk j13_2)),I j13_3,I j13_4, .tsl 2 (mDg a0r.dg) 1003]),(1003,amDg67 a0r.dg)]⟩:((List (List PV)) × (List GTk) × Int × Int)→St) ?_ ?_))
        ·refine sR tfm ⟨[10,11,20,21,22],[10,11,1000,1001,1002,1003],[],[]⟩ ⟨[qq 10,qq 11,(20, .bsl 1001 1),(21,I 1),(22,I 0)],[(10, .box 24 zN),(11, .box 24 [I 3,S l9_6,I 0,I l9_8,zS]),(1000, .box 68 [pZ2]),(1001, .box 72 [.fn (.func 120) [] [pZ0]]),(1002, .box 70 [.p (.sl 4 (mTk l9_2)),I (wi (l9_3+1)),I l9_4, .tsl 2 (mDg a0r.dg) 1003]),(1003,amDg67 a0r.dg)]⟩ krf (sB (sim_unroll 1 (sR tfm ⟨[10,11,20,21,22,23],[10,11,1000,1001,1002,1003],[],[]⟩ ⟨[qq 10,qq 11,(20, .bsl 1001 1),(21,I 1),(22,I 0),(23,B true)],[(10, .box 24 zN),(11, .box 24 [I 3,S l9_6,I 0,I l9_8,zS]),(1000, .box 68 [pZ2]),(1001, .box 72 [.fn (.func 120) [] [pZ0]]),(1002, .box 70 [.p (.sl 4 (mTk l9_2)),I (wi (l9_3+1)),I l9_4, .tsl 2 (mDg a0r.dg) 1003]),(1003,amDg67 a0r.dg)]⟩ krf (sS (sim_condT krf (sK (sN ⟨[10,11,20,21,22],[10,11,1000,1001,1002,1003],[],[]⟩ ⟨[qq 10,qq 11,(20, .bsl 1001 1),(21,I 1),(22,I 0)],[(10, .box 24 zN),(11, .box 24 [I 3,S l9_6,I 0,I l9_8,zS]),(1000, .box 68 [pZ2]),(1001, .box 72 [.fn (.func 120) [] [pZ0]]),(1002, .box 70 [.p (.sl 4 (mTk l9_2)),I (wi (l9_3+1)),I l9_4, .tsl 2 (mDg a0r.dg) 1003]),(1003,amDg67 a0r.dg)]⟩ krf ?_)))))))
         refine sS (sB (sR tfm ⟨[10,11,13,20,21,22],[10,11,1000,1001,1002,1003],[],[]⟩ ⟨[qq 10,qq 11,(13, .fn (.func 120) [] [pZ0]),(20, .bsl 1001 1),(21,I 1),(22,I 0)],[(10, .box 24 zN),(11, .box 24 [I 3,S l9_6,I 0,I l9_8,zS]),(1000, .box 68 [pZ2]),(1001, .box 72 [.fn (.func 120) [] [pZ0]]),(1002, .box 70 [.p (.sl 4 (mTk l9_2)),I (wi (l9_3+1)),I l9_4, .tsl 2 (mDg a0r.dg) 1003]),(1003,amDg67 a0r.dg)]⟩ krf (sP ⟨[10,11,13,20,21,22],[10,11,1000,1001,1002,1003],[],[]⟩ ⟨[qq 10,qq 11,(13, .fn (.func 120) [] [pZ0]),(20, .bsl 1001 1),(21,I 1),(22,I 0)],[(10, .box 24 zN),(11, .box 24 [I 3,S l9_6,I 0,I l9_8,zS]),(1000, .box 68 [pZ2]),(1001, .box 72 [.fn (.func 120) [] [pZ0]]),(1002, .box 70 [.p (.sl 4 (mTk l9_2)),I (wi (l9_3+1)),I l9_4, .tsl 2 (mDg a0r.dg) 1003]),(1003,amDg67 a0r.dg)]⟩ krf (sim_weak (weak_pn 24 5 600 [] [(11,4)] krf) (sim_hst [0,1,2] [0,1] [(3,[]),(4,[]),(5,[]),(6,[])] tfm rfl krf krf (h_enter (f:=120) (args:=[pZ0]) (dst:=some 29) krf krf (sc_inline (hc:=[(1000, .box 68 [pZ1]),(1001, .box 70 [.p (.sl 4 (mTk l9_2)),I (wi (l9_3+1)),I l9_4, .tsl 2 (mDg a0r.dg) 1002]),(1002,amDg67 a0r.dg)]) (args':=[pZ0]) [(1000,1000),(1001,1002),(1002,1003)] [] [] Tryz.func120 rfl Tryz.ntmps120 rfl krf krf krf ?_)))))))
         refine sR tfm ⟨[0],[1000,1001,1002],[],[]⟩ ⟨[(0,pZ0)],[(1000, .box 68 [pZ1]),(1001, .box 70 [.p (.sl 4 (mTk l9_2)),I (wi (l9_3+1)),I l9_4, .tsl 2 (mDg a0r.dg) 1002]),(1002,amDg67 a0r.dg)]⟩ krf (sS (sG (xR 1 krf (xs_enter (f:=121) (args:=[pZ1, .p (.val (.func (.func 97) #[] #[]))]) krf krf krf ?_))))
         refine sc_hold 1001 3 1002 67 2 (mDg a0r.dg).length (mDg a0r.dg) ⟨[0,2],[1000,1001],[],[]⟩ krf krf rfl (fun _ _ _=>by kernel_rfl) (fun hu14w hu14l hu14c=>?_)
         refine sc_heap [(1000,1001)] [] [] (g_r_values_ok n (⟨l9_2,wi (l9_3+1),l9_4,[]⟩:GPr) hu14w hu14l hu14c) krf krf krf kff kff (fun r14=>?_)
         refine k_hold _ rfl krf krf (kr0 (xR 1 krf (xE (sN ⟨[1],[1000,1001,1002],[],[]⟩ ⟨[(1, .p (.sl 5 (mI r14.1)))],[(1000, .box 68 [pZ1]),(1001, .box 70 [.p (.sl 4 (mTk r14.2.tks)),I r14.2.pos,I r14.2.length, .tsl 2 (mDg a0r.dg) 1002]),(1002,amDg67 a0r.dg)]⟩ krf (sT (iq_ret (.id) [1000,1001,1002] [] (.p (.sl 5 (mI r14.1))) krf krf (kh [0,1] krf (lates_cons (late_read (.ptr 11 4) krf rfl) (lates_cons (late_tsl (S:=5) (t:=600) (ty:=24) (es:=mI []) krf krf rfl) (lates_nil))) krf ?_)))))))
         refine h_if [] rfl krf krf (aop_appL (e:=24) (S:=5) (by_:=64) (enc:=idc) (tk:=600) (l:=[]) (l2:=r14.1) (xv:=.p (.sl 5 (mI r14.1))) rfl krf krf rfl krf krf krf krf) (fun _=>lates_nil) (h_op [] krf krf (lates_nil) (h_op [] krf krf (lates_nil) (h_end (bq_n (sN ⟨[10,11,20,21,22],[10,11,600,1000,1001,1002,1003],[],[]⟩ ⟨[qq 10,qq 11,(20, .bsl 1001 1),(21,I 1),(22,I 0)],[(10, .box 24 zN),(11, .box 24 [I 3,S l9_6,I 0,I l9_8, .tsl 5 (mI ([]++r14.1)) 600]),(600,amI24 ([]++r14.1)),(1000, .box 68 [pZ2]),(1001, .box 72 [.fn (.func 120) [] [pZ0]]),(1002, .box 70 [.p (.sl 4 (mTk r14.2.tks)),I r14.2.pos,I r14.2.length, .tsl 2 (mDg a0r.dg) 1003]),(1003,amDg67 a0r.dg)]⟩ krf (sL tfm krf (ru_n ⟨[10,11,20,21,22],[10,11,600,1000,1001,1002,1003],[],[]⟩ ⟨[qq 10,qq 11,(20, .bsl 1001 1),(21,I 1),(22,I 1)],[(10, .box 24 zN),(11, .box 24 [I 3,S l9_6,I 0,I l9_8, .tsl 5 (mI ([]++r14.1)) 600]),(600,amI24 ([]++r14.1)),(1000, .box 68 [pZ2]),(1001, .box 72 [.fn (.func 120) [] [pZ0]]),(1002, .box 70 [.p (.sl 4 (mTk r14.2.tks)),I r14.2.pos,I r14.2.length, .tsl 2 (mDg a0r.dg) 1003]),(1003,amDg67 a0r.dg)]⟩ krf ?_)))))))
         refine sR tfm ⟨[10,11,20,21,22,23],[10,11,600,1000,1001,1002,1003],[],[]⟩ ⟨[qq 10,qq 11,(20, .bsl 1001 1),(21,I 1),(22,I 1),(23,B false)],[(10, .box 24 zN),(11, .box 24 [I 3,S l9_6,I 0,I l9_8, .tsl 5 (mI ([]++r14.1)) 600]),(600,amI24 ([]++r14.1)),(1000, .box 68 [pZ2]),(1001, .box 72 [.fn (.func 120) [] [pZ0]]),(1002, .box 70 [.p (.sl 4 (mTk r14.2.tks)),I r14.2.pos,I r14.2.length, .tsl 2 (mDg a0r.dg) 1003]),(1003,amDg67 a0r.dg)]⟩ krf (sS (sim_condF krf (sim_exit (sq_x (ru_x (bq_hit ?_))))))
         exact nq_n ([]++r14.1,r14.2.tks,r14.2.pos,r14.2.length) ⟨[10,11],[10,11,600,1000,1001,1002,1003],[],[]⟩ krf
        ·rintro ⟨j13_1,j13_2,j13_3,j13_4⟩
         refine sR tfm ⟨[10],[10,600,1000,1001,1002,1003],[],[]⟩ ⟨[qq 10],[(10, .box 24 [I 3,S l9_6,I 0,I l9_8, .tsl 5 (mI j13_1) 600]),(600,amI24 j13_1),(1000, .box 68 [pZ2]),(1001, .box 72 [.fn (.func 120) [] [pZ0]]),(1002, .box 70 [.p (.sl 4 (mTk j13_2)),I j13_3,I j13_4, .tsl 2 (mDg a0r.dg) 1003]),(1003,amDg67 a0r.dg)]⟩ krf (sT (iq_ret (.agg [.id, .id, .id, .id, .sl 5]) [1000,1001,1002,1003] [] (.agg [I 3,S l9_6,I 0,I l9_8, .p (.sl 5 (mI j13_1))]) krf krf (kr0 (xR 1 krf (xF krf krf (aop_app (e:=24) (S:=5) (by_:=64) (enc:=idc) (tk:=600) (l:=l9_1) (l2:=[GN.cs (⟨3,l9_6,0,l9_8,j13_1⟩:GN)]) (xv:=.tsl 5 (mI [GN.cs (⟨3,l9_6,0,l9_8,j13_1⟩:GN)]) 31) rfl krf krf rfl krf krf krf rfl krf) (xR 1 krf (xE ?_)))))))
         refine bq_n (sN ⟨[1,3,4],[1,4,600,1000,1001],[],[]⟩ ⟨[qq 1,(3, .tsl 5 (mI (l9_1++[GN.cs (⟨3,l9_6,0,l9_8,j13_1⟩:GN)])) 600),qq 4],[(1, .box 68 [pZ0]),(4, .box 63 [I l9_5,S l9_6,I l9_7,I l9_8]),(600,amI24 (l9_1++[GN.cs (⟨3,l9_6,0,l9_8,j13_1⟩:GN)])),(1000, .box 70 [.p (.sl 4 (mTk j13_2)),I j13_3,I j13_4, .tsl 2 (mDg a0r.dg) 1001]),(1001,amDg67 a0r.dg)]⟩ krf (sS (sR tfm ⟨[1,3,33],[1,600,1000,1001],[],[]⟩ ⟨[qq 1,(3, .tsl 5 (mI (l9_1++[GN.cs (⟨3,l9_6,0,l9_8,j13_1⟩:GN)])) 600),(33, .agg [I l9_5,S l9_6,I l9_7,I l9_8])],[(1, .box 68 [pZ0]),(600,amI24 (l9_1++[GN.cs (⟨3,l9_6,0,l9_8,j13_1⟩:GN)])),(1000, .box 70 [.p (.sl 4 (mTk j13_2)),I j13_3,I j13_4, .tsl 2 (mDg a0r.dg) 1001]),(1001,amDg67 a0r.dg)]⟩ krf (sL tfm krf (sN ⟨[1,3,4],[1,4,600,1000,1001],[],[]⟩ ⟨[qq 1,(3, .tsl 5 (mI (l9_1++[GN.cs (⟨3,l9_6,0,l9_8,j13_1⟩:GN)])) 600),qq 4],[(1, .box 68 [pZ0]),(4, .box 63 [I l9_5,S l9_6,I l9_7,I l9_8]),(600,amI24 (l9_1++[GN.cs (⟨3,l9_6,0,l9_8,j13_1⟩:GN)])),(1000, .box 70 [.p (.sl 4 (mTk j13_2)),I j13_3,I j13_4, .tsl 2 (mDg a0r.dg) 1001]),(1001,amDg67 a0r.dg)]⟩ krf (sG (xR 1 krf ?_)))))))
         refine xs_ro [.ro [.id, .id, .id, .sl 2]] krf (g_r_peek_2_ok n (⟨j13_2,j13_3,j13_4,a0r.dg⟩:GPr)) krf krf kff (fun r15=>?_)
         refine xR 1 krf (xE ?_)
         exact kq_n (l9_1++[GN.cs (⟨3,l9_6,0,l9_8,j13_1⟩:GN)],j13_2,j13_3,j13_4,r15.Kind,r15.Text,r15.N,r15.At) ⟨[1,3,4],[1,4,600,1000,1001],[],[]⟩ krf
       ·refine sim_exit (sq_x (kq_x (bq_hit ?_)))
        exact nq_n (l9_1,l9_2,l9_3,l9_4) ⟨[3],[600,1000,1001],[],[]⟩ krf
     ·rintro ⟨j7_1,j7_2,j7_3,j7_4⟩
      refine sR tfm ⟨[2],[600,1000,1001],[],[]⟩ ⟨[(2, .tsl 5 (mI j7_1) 600)],[(600,amI24 j7_1),(1000, .box 70 [.p (.sl 4 (mTk j7_2)),I j7_3,I j7_4, .tsl 2 (mDg a0r.dg) 1001]),(1001,amDg67 a0r.dg)]⟩ krf (sT (iq_ret (.sl 5) [1000,1001] [] (.p (.sl 5 (mI j7_1))) krf krf (kh [0,1] krf (lates_cons (late_read (.ptr 11 4) krf rfl) (lates_cons (late_tsl (S:=5) (t:=600) (ty:=24) (es:=mI []) krf krf rfl) (lates_nil))) krf (h_if [] rfl krf krf (aop_appL (e:=24) (S:=5) (by_:=64) (enc:=idc) (tk:=600) (l:=[]) (l2:=j7_1) (xv:=.p (.sl 5 (mI j7_1))) rfl krf krf rfl krf krf krf krf) (fun _=>lates_nil) (h_op [] krf krf (lates_nil) (h_op [] krf krf (lates_nil) (h_end ?_)))))))
      refine bq_n (sN ⟨[10,11,20,21,22],[10,11,600,1000,1001,1002,1003],[],[]⟩ ⟨[qq 10,qq 11,(20, .bsl 1001 3),(21,I 3),(22,I 0)],[(10, .box 24 zN),(11, .box 24 [I 2,S r3.Text,I r5,I r1.At, .tsl 5 (mI ([]++j7_1)) 600]),(600,amI24 ([]++j7_1)),(1000, .box 68 [pZ2]),(1001, .box 72 [.fn (.func 100) [pZ2] [], .fn (.func 98) [] [pZ0], .fn (.func 101) [pZ2] []]),(1002, .box 70 [.p (.sl 4 (mTk j7_2)),I j7_3,I j7_4, .tsl 2 (mDg a0r.dg) 1003]),(1003,amDg67 a0r.dg)]⟩ krf (sL tfm krf (ru_n ⟨[10,11,20,21,22],[10,11,600,1000,1001,1002,1003],[],[]⟩ ⟨[qq 10,qq 11,(20, .bsl 1001 3),(21,I 3),(22,I 1)],[(10, .box 24 zN),(11, .box 24 [I 2,S r3.Text,I r5,I r1.At, .tsl 5 (mI ([]++j7_1)) 600]),(600,amI24 ([]++j7_1)),(1000, .box 68 [pZ2]),(1001, .box 72 [.fn (.func 100) [pZ2] [], .fn (.func 98) [] [pZ0], .fn (.func 101) [pZ2] []]),(1002, .box 70 [.p (.sl 4 (mTk j7_2)),I j7_3,I j7_4, .tsl 2 (mDg a0r.dg) 1003]),(1003,amDg67 a0r.dg)]⟩ krf (sR tfm ⟨[10,11,20,21,22,23],[10,11,600,1000,1001,1002,1003],[],[]⟩ ⟨[qq 10,qq 11,(20, .bsl 1001 3),(21,I 3),(22,I 1),(23,B true)],[(10, .box 24 zN),(11, .box 24 [I 2,S r3.Text,I r5,I r1.At, .tsl 5 (mI ([]++j7_1)) 600]),(600,amI24 ([]++j7_1)),(1000, .box 68 [pZ2]),(1001, .box 72 [.fn (.func 100) [pZ2] [], .fn (.func 98) [] [pZ0], .fn (.func 101) [pZ2] []]),(1002, .box 70 [.p (.sl 4 (mTk j7_2)),I j7_3,I j7_4, .tsl 2 (mDg a0r.dg) 1003]),(1003,amDg67 a0r.dg)]⟩ krf (sS (sim_condT krf (sK ?_)))))))
      refine sN ⟨[10,11,20,21,22],[10,11,600,1000,1001,1002,1003],[],[]⟩ ⟨[qq 10,qq 11,(20, .bsl 1001 3),(21,I 3),(22,I 1)],[(10, .box 24 zN),(11, .box 24 [I 2,S r3.Text,I r5,I r1.At, .tsl 5 (mI ([]++j7_1)) 600]),(600,amI24 ([]++j7_1)),(1000, .box 68 [pZ2]),(1001, .box 72 [.fn (.func 100) [pZ2] [], .fn (.func 98) [] [pZ0], .fn (.func 101) [pZ2] []]),(1002, .box 70 [.p (.sl 4 (mTk j7_2)),I j7_3,I j7_4, .tsl 2 (mDg a0r.dg) 1003]),(1003,amDg67 a0r.dg)]⟩ krf (sS (sB (sR tfm ⟨[10,11,13,20,21,22],[10,11,600,1000,1001,1002,1003],[],[]⟩ ⟨[qq 10,qq 11,(13, .fn (.func 98) [] [pZ0]),(20, .bsl 1001 3),(21,I 3),(22,I 1)],[(10, .box 24 zN),(11, .box 24 [I 2,S r3.Text,I r5,I r1.At, .tsl 5 (mI ([]++j7_1)) 600]),(600,amI24 ([]++j7_1)),(1000, .box 68 [pZ2]),(1001, .box 72 [.fn (.func 100) [pZ2] [], .fn (.func 98) [] [pZ0], .fn (.func 101) [pZ2] []]),(1002, .box 70 [.p (.sl 4 (mTk j7_2)),I j7_3,I j7_4, .tsl 2 (mDg a0r.dg) 1003]),(1003,amDg67 a0r.dg)]⟩ krf (sim_hst [0,1,2] [0,1] [(3,[]),(4,[]),(5,[]),(6,[])] tfm rfl krf krf (h_enter (f:=98) (args:=[pZ0]) (dst:=some 29) krf krf (sc_inline (hc:=[(1000, .box 68 [pZ1]),(1001, .box 70 [.p (.sl 4 (mTk j7_2)),I j7_3,I j7_4, .tsl 2 (mDg a0r.dg) 1002]),(1002,amDg67 a0r.dg)]) (args':=[pZ0]) [(1000,1000),(1001,1002),(1002,1003)] [] [] Tryz.func98 rfl Tryz.ntmps98 rfl krf krf krf (sR tfm ⟨[0],[1000,1001,1002],[],[]⟩ ⟨[(0,pZ0)],[(1000, .box 68 [pZ1]),(1001, .box 70 [.p (.sl 4 (mTk j7_2)),I j7_3,I j7_4, .tsl 2 (mDg a0r.dg) 1002]),(1002,amDg67 a0r.dg)]⟩ krf ?_)))))))
      refine sS (sim_hst [0] [0] [(1,[]),(2,[])] tfm rfl krf krf (h_enter (f:=99) (args:=[S [123]]) (dst:=some 3) krf krf (sc_inline (hc:=[]) (args':=[S [123]]) [(1,401)] [] [] Tryz.func99 rfl Tryz.ntmps99 rfl krf krf krf (sR tfm ⟨[1],[1],[],[]⟩ ⟨[qq 1],[(1, .box 9 [S [123]])]⟩ krf (sR tfm ⟨[2],[1],[],[]⟩ ⟨[(2, .fn (.func 119) [] [.ptr 1 0])],[(1, .box 9 [S [123]])]⟩ krf (sT (iq_ret (.id) [1] [] (.fn (.func 119) [] [.ptr 1 0]) krf krf ?_)))))))
      refine kh [0] krf (lates_cons (late_read pZ1 krf rfl) (lates_nil)) krf (h_enter (f:=93) (args:=[pZ1, .fn (.func 119) [] [.ptr 401 0]]) (dst:=some 4) krf krf (sc_inline (hc:=[(1000, .box 9 [S [123]]),(1001, .box 70 [.p (.sl 4 (mTk j7_2)),I j7_3,I j7_4, .tsl 2 (mDg a0r.dg) 1002]),(1002,amDg67 a0r.dg)]) (args':=[pZ1, .fn (.func 119) [] [pZ0]]) [(1000,401),(1001,1001),(1002,1002)] [] [] Tryz.func93 rfl Tryz.ntmps93 rfl krf krf krf (sR tfm ⟨[0,1,4],[4,1000,1001,1002],[],[]⟩ ⟨[(0,pZ1),(1, .fn (.func 119) [] [pZ0]),qq 4],[(4, .box 63 [I 0,S [],I 0,I 0]),(1000, .box 9 [S [123]]),(1001, .box 70 [.p (.sl 4 (mTk j7_2)),I j7_3,I j7_4, .tsl 2 (mDg a0r.dg) 1002]),(1002,amDg67 a0r.dg)]⟩ krf (sS (sG (xR 1 krf ?_))))))
      refine xs_ro [.ro [.id, .id, .id, .sl 2]] krf (g_r_peek_2_ok n (⟨j7_2,j7_3,j7_4,a0r.dg⟩:GPr)) krf krf kff (fun r16=>?_)
      refine xR 2 krf (xE (sN ⟨[0,1,4,5],[4,5,1000,1001,1002],[],[]⟩ ⟨[(0,pZ1),(1, .fn (.func 119) [] [pZ0]),qq 4,qq 5],[(4, .box 63 [I 0,S [],I 0,I 0]),(5,bGTk63 r16),(1000, .box 9 [S [123]]),(1001, .box 70 [.p (.sl 4 (mTk j7_2)),I j7_3,I j7_4, .tsl 2 (mDg a0r.dg) 1002]),(1002,amDg67 a0r.dg)]⟩ krf (sim_cps (fun _=>⟨[(0,pZ1),qq 4,qq 5],[(4, .box 63 [I 0,S [],I 0,I 0]),(5,bGTk63 r16),(1000, .box 9 [S [123]]),(1001, .box 70 [.p (.sl 4 (mTk j7_2)),I j7_3,I j7_4, .tsl 2 (mDg a0r.dg) 1002]),(1002,amDg67 a0r.dg)]⟩:Unit→St) (fun _=>g_r_item_j17 n a0r r1 r3 r5 j7_1 j7_2 j7_3 j7_4) ?_ ?_)))
      ·rintro _
       show SimE (g_r_item_j17 n a0r r1 r3 r5 j7_1 j7_2 j7_3 j7_4) _ _ _ _ _ _
       unfold g_r_item_j17
       refine sR tfm ⟨[4,5],[4,5,1000,1001,1002],[],[]⟩ ⟨[qq 4,qq 5],[(4, .box 63 [I 0,S [],I 0,I 0]),(5,bGTk63 r16),(1000, .box 9 [S [123]]),(1001, .box 70 [.p (.sl 4 (mTk j7_2)),I (wi (j7_3+1)),I j7_4, .tsl 2 (mDg a0r.dg) 1002]),(1002,amDg67 a0r.dg)]⟩ krf (sR tfm ⟨[4],[4,1000,1001,1002],[],[]⟩ ⟨[qq 4],[(4,bGTk63 r16),(1000, .box 9 [S [123]]),(1001, .box 70 [.p (.sl 4 (mTk j7_2)),I (wi (j7_3+1)),I j7_4, .tsl 2 (mDg a0r.dg) 1002]),(1002,amDg67 a0r.dg)]⟩ krf (sT (iq_ret (.id) [1000,1001,1002] [] (.agg [I r16.Kind,S r16.Text,I r16.N,I r16.At]) krf krf (kh [] krf (lates_nil) krf (h_end (sN ⟨[],[1000,1001,1002],[],[]⟩ ⟨[],[(1000, .box 68 [pZ1]),(1001, .box 70 [.p (.sl 4 (mTk j7_2)),I (wi (j7_3+1)),I j7_4, .tsl 2 (mDg a0r.dg) 1002]),(1002,amDg67 a0r.dg)]⟩ krf (sR tfm ⟨[1],[1000,1001,1002],[],[]⟩ ⟨[(1,zS)],[(1000, .box 68 [pZ1]),(1001, .box 70 [.p (.sl 4 (mTk j7_2)),I (wi (j7_3+1)),I j7_4, .tsl 2 (mDg a0r.dg) 1002]),(1002,amDg67 a0r.dg)]⟩ krf ?_)))))))
       refine sT (iq_ret (.sl 5) [1000,1001,1002] [] (.p (.sl 5 (mI []))) krf krf (kh [0,1] krf (lates_cons (late_read (.ptr 11 4) krf rfl) (lates_cons (late_tsl (S:=5) (t:=600) (ty:=24) (es:=mI ([]++j7_1)) krf krf rfl) (lates_nil))) krf (h_if [] rfl krf krf (aop_appL (e:=24) (S:=5) (by_:=64) (enc:=idc) (tk:=600) (l:=[]++j7_1) (l2:=[]) (xv:=.p (.sl 5 (mI []))) rfl krf krf rfl krf krf krf krf) (fun _=>lates_nil) (h_op [] krf krf (lates_nil) (h_op [] krf krf (lates_nil) (h_end (bq_n ?_)))))))
       refine sN ⟨[10,11,20,21,22],[10,11,600,1000,1001,1002,1003],[],[]⟩ ⟨[qq 10,qq 11,(20, .bsl 1001 3),(21,I 3),(22,I 1)],[(10, .box 24 zN),(11, .box 24 [I 2,S r3.Text,I r5,I r1.At, .tsl 5 (mI (([]++j7_1)++[])) 600]),(600,amI24 (([]++j7_1)++[])),(1000, .box 68 [pZ2]),(1001, .box 72 [.fn (.func 100) [pZ2] [], .fn (.func 98) [] [pZ0], .fn (.func 101) [pZ2] []]),(1002, .box 70 [.p (.sl 4 (mTk j7_2)),I (wi (j7_3+1)),I j7_4, .tsl 2 (mDg a0r.dg) 1003]),(1003,amDg67 a0r.dg)]⟩ krf (sL tfm krf (ru_n ⟨[10,11,20,21,22],[10,11,600,1000,1001,1002,1003],[],[]⟩ ⟨[qq 10,qq 11,(20, .bsl 1001 3),(21,I 3),(22,I 2)],[(10, .box 24 zN),(11, .box 24 [I 2,S r3.Text,I r5,I r1.At, .tsl 5 (mI (([]++j7_1)++[])) 600]),(600,amI24 (([]++j7_1)++[])),(1000, .box 68 [pZ2]),(1001, .box 72 [.fn (.func 100) [pZ2] [], .fn (.func 98) [] [pZ0], .fn (.func 101) [pZ2] []]),(1002, .box 70 [.p (.sl 4 (mTk j7_2)),I (wi (j7_3+1)),I j7_4, .tsl 2 (mDg a0r.dg) 1003]),(1003,amDg67 a0r.dg)]⟩ krf (sR tfm ⟨[10,11,20,21,22,23],[10,11,600,1000,1001,1002,1003],[],[]⟩ ⟨[qq 10,qq 11,(20, .bsl 1001 3),(21,I 3),(22,I 2),(23,B true)],[(10, .box 24 zN),(11, .box 24 [I 2,S r3.Text,I r5,I r1.At, .tsl 5 (mI (([]++j7_1)++[])) 600]),(600,amI24 (([]++j7_1)++[])),(1000, .box 68 [pZ2]),(1001, .box 72 [.fn (.func 100) [pZ2] [], .fn (.func 98) [] [pZ0], .fn (.func 101) [pZ2] []]),(1002, .box 70 [.p (.sl 4 (mTk j7_2)),I (wi (j7_3+1)),I j7_4, .tsl 2 (mDg a0r.dg) 1003]),(1003,amDg67 a0r.dg)]⟩ krf (sS (sim_condT krf (sK (sN ⟨[10,11,20,21,22],[10,11,600,1000,1001,1002,1003],[],[]⟩ ⟨[qq 10,qq 11,(20, .bsl 1001 3),(21,I 3),(22,I 2)],[(10, .box 24 zN),(11, .box 24 [I 2,S r3.Text,I r5,I r1.At, .tsl 5 (mI (([]++j7_1)++[])) 600]),(600,amI24 (([]++j7_1)++[])),(1000, .box 68 [pZ2]),(1001, .box 72 [.fn (.func 100) [pZ2] [], .fn (.func 98) [] [pZ0], .fn (.func 101) [pZ2] []]),(1002, .box 70 [.p (.sl 4 (mTk j7_2)),I (wi (j7_3+1)),I j7_4, .tsl 2 (mDg a0r.dg) 1003]),(1003,amDg67 a0r.dg)]⟩ krf ?_)))))))
       refine sim_bind (fun (j18_1,j18_2,j18_3,j18_4,j18_5)=>⟨[qq 10,qq 11,(20, .bsl 1001 3),(21,I 3),(22,I 2)],[(10, .box 24 zN),(11, .box 24 [I 2,S r3.Text,I r5,I r1.At, .tsl 5 (mI j18_1) 600]),(600,amI24 j18_1),(1000, .box 68 [pZ2]),(1001, .box 72 [.fn (.func 100) [pZ2] [], .fn (.func 98) [] [pZ0], .fn (.func 101) [pZ2] []]),(1002, .box 70 [.p (.sl 4 (mTk j18_2)),I j18_3,I j18_4, .tsl 2 (mDg j18_5) 1003]),(1003,amDg67 j18_5)]⟩:((List (List PV)) × (List GTk) × Int × Int × (List GDg))→St) ?_ ?_
       ·refine sB (sR tfm ⟨[10,11,13,20,21,22],[10,11,600,1000,1001,1002,1003],[],[]⟩ ⟨[qq 10,qq 11,(13, .fn (.func 101) [pZ2] []),(20, .bsl 1001 3),(21,I 3),(22,I 2)],[(10, .box 24 zN),(11, .box 24 [I 2,S r3.Text,I r5,I r1.At, .tsl 5 (mI (([]++j7_1)++[])) 600]),(600,amI24 (([]++j7_1)++[])),(1000, .box 68 [pZ2]),(1001, .box 72 [.fn (.func 100) [pZ2] [], .fn (.func 98) [] [pZ0], .fn (.func 101) [pZ2] []]),(1002, .box 70 [.p (.sl 4 (mTk j7_2)),I (wi (j7_3+1)),I j7_4, .tsl 2 (mDg a0r.dg) 1003]),(1003,amDg67 a0r.dg)]⟩ krf (sim_hst [0,1,2] [0,1] [(3,[]),(4,[]),(5,[]),(6,[])] tfm rfl krf krf (h_enter (f:=101) (args:=[pZ2]) (dst:=some 29) krf krf (sc_inline (hc:=[(1000, .box 70 [.p (.sl 4 (mTk j7_2)),I (wi (j7_3+1)),I j7_4, .tsl 2 (mDg a0r.dg) 1001]),(1001,amDg67 a0r.dg)]) (args':=[pZ0]) [(1000,1002),(1001,1003)] [] [] Tryz.func101 rfl Tryz.ntmps101 rfl krf krf krf (sR tfm ⟨[1],[1,1000,1001],[],[]⟩ ⟨[qq 1],[(1, .box 68 [pZ0]),(1000, .box 70 [.p (.sl 4 (mTk j7_2)),I (wi (j7_3+1)),I j7_4, .tsl 2 (mDg a0r.dg) 1001]),(1001,amDg67 a0r.dg)]⟩ krf (sR tfm ⟨[1,3],[1,1000,1001],[],[]⟩ ⟨[qq 1,(3,zS)],[(1, .box 68 [pZ0]),(1000, .box 70 [.p (.sl 4 (mTk j7_2)),I (wi (j7_3+1)),I j7_4, .tsl 2 (mDg a0r.dg) 1001]),(1001,amDg67 a0r.dg)]⟩ krf (sim_cps (fun (j19_1,j19_2,j19_3,j19_4,j19_5)=>⟨[(3, .tsl 5 (mI j19_1) 32)],[(32,amI24 j19_1),(1000, .box 70 [.p (.sl 4 (mTk j19_2)),I j19_3,I j19_4, .tsl 2 (mDg j19_5) 1001]),(1001,amDg67 j19_5)]⟩:((List (List PV)) × (List GTk) × Int × Int × (List GDg))→St) (fun (j19_1,j19_2,j19_3,j19_4,j19_5)=>g_r_item_j19 j7_1 j19_1 j19_2 j19_3 j19_4 j19_5) ?_ ?_)))))))
        ·rintro ⟨j19_1,j19_2,j19_3,j19_4,j19_5⟩
         show SimE (g_r_item_j19 j7_1 j19_1 j19_2 j19_3 j19_4 j19_5) _ _ _ _ _ _
         unfold g_r_item_j19
         refine sR tfm ⟨[2],[32,1000,1001],[],[]⟩ ⟨[(2, .tsl 5 (mI j19_1) 32)],[(32,amI24 j19_1),(1000, .box 70 [.p (.sl 4 (mTk j19_2)),I j19_3,I j19_4, .tsl 2 (mDg j19_5) 1001]),(1001,amDg67 j19_5)]⟩ krf (sT (iq_ret (.sl 5) [1000,1001] [] (.p (.sl 5 (mI j19_1))) krf krf (kh [0,1] krf (lates_cons (late_read (.ptr 11 4) krf rfl) (lates_cons (late_tsl (S:=5) (t:=600) (ty:=24) (es:=mI (([]++j7_1)++[])) krf krf rfl) (lates_nil))) krf (h_if [] rfl krf krf (aop_appL (e:=24) (S:=5) (by_:=64) (enc:=idc) (tk:=600) (l:=([]++j7_1)++[]) (l2:=j19_1) (xv:=.p (.sl 5 (mI j19_1))) rfl krf krf rfl krf krf krf krf) (fun _=>lates_nil) (h_op [] krf krf (lates_nil) (h_op [] krf krf (lates_nil) (h_end ?_)))))))
         refine bq_n ?_
         exact nq_n ((([]++j7_1)++[])++j19_1,j19_2,j19_3,j19_4,j19_5) ⟨[10,11,20,21,22],[10,11,600,1000,1001,1002,1003],[],[]⟩ krf
        ·refine sB (sP ⟨[1,3],[1,1000,1001],[],[]⟩ ⟨[qq 1,(3,zS)],[(1, .box 68 [pZ0]),(1000, .box 70 [.p (.sl 4 (mTk j7_2)),I (wi (j7_3+1)),I j7_4, .tsl 2 (mDg a0r.dg) 1001]),(1001,amDg67 a0r.dg)]⟩ krf (sim_weak (weak_pn 24 5 32 [3] [] krf) (sim_loop (fun (l20_1,l20_2,l20_3,l20_4,l20_5)=>⟨[qq 1,(3, .tsl 5 (mI l20_1) 32)],[(1, .box 68 [pZ0]),(32,amI24 l20_1),(1000, .box 70 [.p (.sl 4 (mTk l20_2)),I l20_3,I l20_4, .tsl 2 (mDg l20_5) 1001]),(1001,amDg67 l20_5)]⟩:((List (List PV)) × (List GTk) × Int × Int × (List GDg))→St) (weak_shr (K:=⟨[1,3],[1,32,1000,1001],[],[]⟩) krf) ?_)))
         rintro recl20 ⟨l20_1,l20_2,l20_3,l20_4,l20_5⟩
         show SimE (g_r_item_l20 n j7_1 recl20 l20_1 l20_2 l20_3 l20_4 l20_5) _ _ _ _ _ _
         unfold g_r_item_l20
         refine sS (sS (sG (xR 1 krf ?_)))
         refine xs_ro [.ro [.id, .id, .id, .sl 2]] krf (g_r_full_ok n (⟨l20_2,l20_3,l20_4,l20_5⟩:GPr)) krf krf kff (fun r21=>?_)
         refine xR 1 krf (xE (sN ⟨[1,3,9],[1,32,1000,1001],[],[]⟩ ⟨[qq 1,(3, .tsl 5 (mI l20_1) 32),(9,B (!r21))],[(1, .box 68 [pZ0]),(32,amI24 l20_1),(1000, .box 70 [.p (.sl 4 (mTk l20_2)),I l20_3,I l20_4, .tsl 2 (mDg l20_5) 1001]),(1001,amDg67 l20_5)]⟩ krf (sC (!r21) krf ?_ ?_)))
         ·refine sK (sN ⟨[1,3],[1,32,1000,1001],[],[]⟩ ⟨[qq 1,(3, .tsl 5 (mI l20_1) 32)],[(1, .box 68 [pZ0]),(32,amI24 l20_1),(1000, .box 70 [.p (.sl 4 (mTk l20_2)),I l20_3,I l20_4, .tsl 2 (mDg l20_5) 1001]),(1001,amDg67 l20_5)]⟩ krf (sB (sS (sS (sim_hst [1] [1] [(0,[]),(2,[]),(3,[])] tfm rfl krf krf (h_enter (f:=99) (args:=[S [125]]) (dst:=some 10) krf krf (sc_inline (hc:=[]) (args':=[S [125]]) [(1,401)] [] [] Tryz.func99 rfl Tryz.ntmps99 rfl krf krf krf ?_)))))))
          refine sR tfm ⟨[1],[1],[],[]⟩ ⟨[qq 1],[(1, .box 9 [S [125]])]⟩ krf (sR tfm ⟨[2],[1],[],[]⟩ ⟨[(2, .fn (.func 119) [] [.ptr 1 0])],[(1, .box 9 [S [125]])]⟩ krf (sT (iq_ret (.id) [1] [] (.fn (.func 119) [] [.ptr 1 0]) krf krf (kh [1] krf (lates_cons (late_read pZ0 krf rfl) (lates_nil)) krf (h_enter (f:=116) (args:=[pZ0]) (dst:=some 12) krf krf ?_)))))
          refine sc_ro [.ro [.id, .id, .id, .sl 2]] (g_r_peek_2_ok n (⟨l20_2,l20_3,l20_4,l20_5⟩:GPr)) krf krf kff (fun r22=>?_)
          refine kh [] krf (lates_nil) krf (h_enter (f:=119) (args:=[.agg [I r22.Kind,S r22.Text,I r22.N,I r22.At], .ptr 401 0]) (dst:=some 13) krf krf (sc_inline (hc:=[(1000, .box 9 [S [125]])]) (args':=[.agg [I r22.Kind,S r22.Text,I r22.N,I r22.At],pZ0]) [(1000,401)] [] [] Tryz.func119 rfl Tryz.ntmps119 rfl krf krf krf (sR tfm ⟨[1,2],[2,1000],[],[]⟩ ⟨[(1,pZ0),qq 2],[(2,bGTk63 r22),(1000, .box 9 [S [125]])]⟩ krf (sim_bind (fun j23=>⟨[(3,B j23)],[(1000, .box 9 [S [125]])]⟩:Bool→St) ?_ ?_))))
          ·refine sG (xR 4 krf ?_)
           refine xS (eqI r22.Kind 3) (fun h24=>?_) (fun h24=>?_)
           ·refine xO (want_tt krf h24) krf (xR 5 krf (xE ?_))
            exact nq_n (eqS r22.Text [125]) ⟨[3],[1000],[],[]⟩ krf
           ·refine xN (want_tf krf h24) krf (xR 5 krf (xE ?_))
            exact nq_n false ⟨[3],[1000],[],[]⟩ krf
          ·rintro j23
           refine sT (iq_ret (.id) [1000] [] (B j23) krf krf (kh [] krf (lates_nil) krf (h_end (sN ⟨[1,3,13],[1,32,1000,1001],[],[]⟩ ⟨[qq 1,(3, .tsl 5 (mI l20_1) 32),(13,B j23)],[(1, .box 68 [pZ0]),(32,amI24 l20_1),(1000, .box 70 [.p (.sl 4 (mTk l20_2)),I l20_3,I l20_4, .tsl 2 (mDg l20_5) 1001]),(1001,amDg67 l20_5)]⟩ krf (sC j23 krf ?_ ?_)))))
           ·refine sR tfm ⟨[3],[32,1000,1001],[],[]⟩ ⟨[(3, .tsl 5 (mI l20_1) 32)],[(32,amI24 l20_1),(1000, .box 70 [.p (.sl 4 (mTk l20_2)),I (wi (l20_3+1)),I l20_4, .tsl 2 (mDg l20_5) 1001]),(1001,amDg67 l20_5)]⟩ krf (sR tfm ⟨[2],[32,1000,1001],[],[]⟩ ⟨[(2, .tsl 5 (mI l20_1) 32)],[(32,amI24 l20_1),(1000, .box 70 [.p (.sl 4 (mTk l20_2)),I (wi (l20_3+1)),I l20_4, .tsl 2 (mDg l20_5) 1001]),(1001,amDg67 l20_5)]⟩ krf (sT (sq_r (bq_r (kq_r (bq_r (kq_r ?_)))))))
            refine iq_ret (.sl 5) [1000,1001] [] (.p (.sl 5 (mI l20_1))) krf krf (kh [0,1] krf (lates_cons (late_read (.ptr 11 4) krf rfl) (lates_cons (late_tsl (S:=5) (t:=600) (ty:=24) (es:=mI (([]++j7_1)++[])) krf krf rfl) (lates_nil))) krf (h_if [] rfl krf krf (aop_appL (e:=24) (S:=5) (by_:=64) (enc:=idc) (tk:=600) (l:=([]++j7_1)++[]) (l2:=l20_1) (xv:=.p (.sl 5 (mI l20_1))) rfl krf krf rfl krf krf krf krf) (fun _=>lates_nil) (h_op [] krf krf (lates_nil) (h_op [] krf krf (lates_nil) (h_end (bq_n ?_))))))
            exact nq_n ((([]++j7_1)++[])++l20_1,l20_2,wi (l20_3+1),l20_4,l20_5) ⟨[10,11,20,21,22],[10,11,600,1000,1001,1002,1003],[],[]⟩ krf
           ·refine sK (sN ⟨[1,3],[1,32,1000,1001],[],[]⟩ ⟨[qq 1,(3, .tsl 5 (mI l20_1) 32)],[(1, .box 68 [pZ0]),(32,amI24 l20_1),(1000, .box 70 [.p (.sl 4 (mTk l20_2)),I l20_3,I l20_4, .tsl 2 (mDg l20_5) 1001]),(1001,amDg67 l20_5)]⟩ krf (sR tfm ⟨[1,3,4],[1,4,32,1000,1001],[],[]⟩ ⟨[qq 1,(3, .tsl 5 (mI l20_1) 32),qq 4],[(1, .box 68 [pZ0]),(4, .box 24 zN),(32,amI24 l20_1),(1000, .box 70 [.p (.sl 4 (mTk l20_2)),I l20_3,I l20_4, .tsl 2 (mDg l20_5) 1001]),(1001,amDg67 l20_5)]⟩ krf (sim_bind (fun (j25_1,j25_2,j25_3,j25_4,j25_5,j25_6,j25_7,j25_8,j25_9,j25_10,j25_11)=>⟨[qq 1,(3, .tsl 5 (mI l20_1) 32),qq 4,(5,B j25_1),(6,S j25_2)],[(1, .box 68 [pZ0]),(4, .box 24 (bxc (GN.cs ⟨j25_7,j25_8,j25_9,j25_10,j25_11⟩))),(32,amI24 l20_1),(1000, .box 70 [.p (.sl 4 (mTk j25_3)),I j25_4,I j25_5, .tsl 2 (mDg j25_6) 1001]),(1001,amDg67 j25_6)]⟩:(Bool × (List UInt8) × (List GTk) × Int × Int × (List GDg) × Int × (List UInt8) × Int × Int × (List (List PV)))→St) ?_ ?_)))
            ·refine sG (xR 2 krf (xs_enter (f:=71) (args:=[pZ0, .fn (.func 122) [] [.ptr 1 0, .ptr 4 0]]) krf krf krf ?_))
             refine sc_inlineD (hc:=[(1000, .box 68 [pZ2]),(1001, .box 24 zN),(1002, .box 70 [.p (.sl 4 (mTk l20_2)),I l20_3,I l20_4, .tsl 2 (mDg l20_5) 1003]),(1003,amDg67 l20_5)]) (args':=[pZ2, .fn (.func 122) [] [pZ0,pZ1]]) [(1000,1),(1001,4),(1002,1000),(1003,1001)] [] [] (⟨_,_,_,_,_,_,[2,4,5],6,_,rfl,rfl,rfl,rfl,rfl,rfl,rfl,rfl,by decide⟩:Deferrer2 Tryz.f71 91) [(2,1900),(4,1901),(5,1902)] Tryz.func71 Tryz.ntmps71 krf krf krf krf krf tfm rfl krf krf ?_
             refine sP ⟨[1,4,5],[1000,1001,1002,1003,1900,1901,1902],[],[]⟩ ⟨[(1, .fn (.func 122) [] [pZ0,pZ1]),(4, .ptr 1901 0),(5, .ptr 1902 0)],[(1000, .box 68 [pZ2]),(1001, .box 24 zN),(1002, .box 70 [.p (.sl 4 (mTk l20_2)),I l20_3,I l20_4, .tsl 2 (mDg l20_5) 1003]),(1003,amDg67 l20_5),(1900, .box 68 [pZ2]),(1901, .box 4 [B false]),(1902, .box 9 [S []])]⟩ krf (sS (sG (xR 1 krf (xs_inline [(1000, .box 68 [pZ2]),(1001, .box 24 zN),(1002, .box 70 [.p (.sl 4 (mTk l20_2)),I l20_3,I l20_4, .tsl 2 (mDg l20_5) 1003]),(1003,amDg67 l20_5)] [pZ0,pZ1] [(1000,1000),(1001,1001),(1002,1002),(1003,1003)] [] [] krf Tryz.func122 rfl Tryz.ntmps122 rfl krf krf krf (sG (xR 1 krf (xs_enter (f:=123) (args:=[pZ2]) krf krf krf ?_)))))))
             refine sc_hold 1002 3 1003 67 2 (mDg l20_5).length (mDg l20_5) ⟨[0,1,2],[1000,1001,1002],[],[]⟩ krf krf rfl (fun _ _ _=>by kernel_rfl) (fun hu26w hu26l hu26c=>?_)
             refine sc_heapE [(1000,1002)] [] [] (g_r_article_ok n (⟨l20_2,l20_3,l20_4,[]⟩:GPr) hu26w hu26l hu26c) krf krf krf kff kff kff kff (fun r26=>?_) (fun e27=>?_)
             ·refine k_hold _ rfl krf krf (kr0 (xR 1 krf (xE (iq_n (.id) [1000,1001,1002,1003] [] (.tup []) krf krf (kr0 (xE (sN ⟨[4,5],[1000,1001,1002,1003,1900,1901,1902],[],[]⟩ ⟨[(4, .ptr 1901 0),(5, .ptr 1902 0)],[(1000, .box 68 [pZ2]),(1001,bGN24 r26.1),(1002, .box 70 [.p (.sl 4 (mTk r26.2.tks)),I r26.2.pos,I r26.2.length, .tsl 2 (mDg l20_5) 1003]),(1003,amDg67 l20_5),(1900, .box 68 [pZ2]),(1901, .box 4 [B false]),(1902, .box 9 [S []])]⟩ krf ?_)))))))
              refine sR tfm ⟨[4,5],[1000,1001,1002,1003,1900,1901,1902],[],[]⟩ ⟨[(4, .ptr 1901 0),(5, .ptr 1902 0)],[(1000, .box 68 [pZ2]),(1001,bGN24 r26.1),(1002, .box 70 [.p (.sl 4 (mTk r26.2.tks)),I r26.2.pos,I r26.2.length, .tsl 2 (mDg l20_5) 1003]),(1003,amDg67 l20_5),(1900, .box 68 [pZ2]),(1901, .box 4 [B true]),(1902, .box 9 [S []])]⟩ krf (sT ?_)
              refine dI_end (⟨Tryz.f91,_,_,_,6,3,_,_,Tryz.func91,rfl,rfl,rfl,rfl,rfl,rfl,rfl,by decide,by decide⟩:Recoverer Tryz.prog 91) [(1000,1002),(1001,1003),(1002,1900),(1003,1901),(1004,1902)] [(1000, .box 70 [.p (.sl 4 (mTk r26.2.tks)),I r26.2.pos,I r26.2.length, .tsl 2 (mDg l20_5) 1001]),(1001,amDg67 l20_5),(1002, .box 68 [pZ0]),(1003, .box 4 [B true]),(1004, .box 9 [S []])] (.p (.val (.nilIface))) [pZ2,pZ3, .ptr 1004 0] [] rfl krf krf krf krf ?_
              refine sS (sR tfm ⟨[0,1,2,3,8],[1000,1001,1002,1003,1004],[],[]⟩ ⟨[(0,pZ2),(1,pZ3),(2, .ptr 1004 0),(3, .p (.val (.nilIface))),(8,B true)],[(1000, .box 70 [.p (.sl 4 (mTk r26.2.tks)),I r26.2.pos,I r26.2.length, .tsl 2 (mDg l20_5) 1001]),(1001,amDg67 l20_5),(1002, .box 68 [pZ0]),(1003, .box 4 [B true]),(1004, .box 9 [S []])]⟩ krf (sim_condT krf (sT (sq_r (cl_ret [1000,1001,1002,1003,1004] [] krf krf (iq_ret (.id) [1000,1001,1002,1003] [] (.tup [B true,S []]) krf krf (kr0 ?_)))))))
              refine xR 5 krf (xE ?_)
              exact nq_n (true,[],r26.2.tks,r26.2.pos,r26.2.length,l20_5,r26.1.Kind,r26.1.Name,r26.1.N,r26.1.At,r26.1.Kids) ⟨[1,3,4,5,6],[1,4,32,1000,1001],[],[]⟩ krf
             ·refine q_hold _ rfl krf krf (iq_p [1000,1001,1002,1003] [] krf (sq_p ?_))
              refine dI_end (⟨Tryz.f91,_,_,_,6,3,_,_,Tryz.func91,rfl,rfl,rfl,rfl,rfl,rfl,rfl,by decide,by decide⟩:Recoverer Tryz.prog 91) [(1000,1002),(1001,1003),(1002,1900),(1003,1901),(1004,1902)] [(1000, .box 70 [.p (.sl 4 (mTk e27.2.tks)),I e27.2.pos,I e27.2.length, .tsl 2 (mDg l20_5) 1001]),(1001,amDg67 l20_5),(1002, .box 68 [pZ0]),(1003, .box 4 [B false]),(1004, .box 9 [S []])] (.ifc 105 (.agg [I e27.1])) [pZ2,pZ3, .ptr 1004 0] [] rfl krf krf krf krf ?_
              refine sS (sR tfm ⟨[0,1,2,3,8],[1000,1001,1002,1003,1004],[],[]⟩ ⟨[(0,pZ2),(1,pZ3),(2, .ptr 1004 0),(3, .ifc 105 (.agg [I e27.1])),(8,B false)],[(1000, .box 70 [.p (.sl 4 (mTk e27.2.tks)),I e27.2.pos,I e27.2.length, .tsl 2 (mDg l20_5) 1001]),(1001,amDg67 l20_5),(1002, .box 68 [pZ0]),(1003, .box 4 [B false]),(1004, .box 9 [S []])]⟩ krf (sim_condF krf (sK (sN ⟨[0,1,2,3],[1000,1001,1002,1003,1004],[],[]⟩ ⟨[(0,pZ2),(1,pZ3),(2, .ptr 1004 0),(3, .ifc 105 (.agg [I e27.1]))],[(1000, .box 70 [.p (.sl 4 (mTk e27.2.tks)),I e27.2.pos,I e27.2.length, .tsl 2 (mDg l20_5) 1001]),(1001,amDg67 l20_5),(1002, .box 68 [pZ0]),(1003, .box 4 [B false]),(1004, .box 9 [S []])]⟩ krf (sR tfm ⟨[0,1,2,3,4,5],[4,1000,1001,1002,1003,1004],[],[]⟩ ⟨[(0,pZ2),(1,pZ3),(2, .ptr 1004 0),(3, .ifc 105 (.agg [I e27.1])),qq 4,(5,B true)],[(4, .box 105 [I e27.1]),(1000, .box 70 [.p (.sl 4 (mTk e27.2.tks)),I e27.2.pos,I e27.2.length, .tsl 2 (mDg l20_5) 1001]),(1001,amDg67 l20_5),(1002, .box 68 [pZ0]),(1003, .box 4 [B false]),(1004, .box 9 [S []])]⟩ krf (sS (sR tfm ⟨[0,1,2,3,4,15],[4,1000,1001,1002,1003,1004],[],[]⟩ ⟨[(0,pZ2),(1,pZ3),(2, .ptr 1004 0),(3, .ifc 105 (.agg [I e27.1])),qq 4,(15,B false)],[(4, .box 105 [I e27.1]),(1000, .box 70 [.p (.sl 4 (mTk e27.2.tks)),I e27.2.pos,I e27.2.length, .tsl 2 (mDg l20_5) 1001]),(1001,amDg67 l20_5),(1002, .box 68 [pZ0]),(1003, .box 4 [B false]),(1004, .box 9 [S []])]⟩ krf ?_)))))))
              refine sim_condF krf (sK (sN ⟨[0,1,2,4],[4,1000,1001,1002,1003,1004],[],[]⟩ ⟨[(0,pZ2),(1,pZ3),(2, .ptr 1004 0),qq 4],[(4, .box 105 [I e27.1]),(1000, .box 70 [.p (.sl 4 (mTk e27.2.tks)),I e27.2.pos,I e27.2.length, .tsl 2 (mDg l20_5) 1001]),(1001,amDg67 l20_5),(1002, .box 68 [pZ0]),(1003, .box 4 [B false]),(1004, .box 9 [S []])]⟩ krf (sS (sim_drw tfm rfl (xR 9 krf (xF krf krf (aop_app (e:=67) (S:=2) (by_:=16) (enc:=GDg.cs) (tk:=1001) (l:=l20_5) (l2:=[(⟨7,e27.1⟩:GDg)]) (xv:=.tsl 2 (mDg [(⟨7,e27.1⟩:GDg)]) 25) rfl krf krf rfl krf krf krf rfl krf) (xR 3 krf ?_)))))))
              refine xs_endD krf (sN ⟨[0,1,2],[1000,1001,1002,1003,1004],[],[]⟩ ⟨[(0,pZ2),(1,pZ3),(2, .ptr 1004 0)],[(1000, .box 70 [.p (.sl 4 (mTk e27.2.tks)),I e27.2.pos,I e27.2.length, .tsl 2 (mDg (l20_5++[(⟨7,e27.1⟩:GDg)])) 1001]),(1001,amDg67 (l20_5++[(⟨7,e27.1⟩:GDg)])),(1002, .box 68 [pZ0]),(1003, .box 4 [B false]),(1004, .box 9 [S []])]⟩ krf (sG (xR 1 krf (xs_enter (f:=92) (args:=[pZ0]) krf krf krf ?_))))
              refine sc_hold 1000 3 1001 67 2 (mDg (l20_5++[(⟨7,e27.1⟩:GDg)])).length (mDg (l20_5++[(⟨7,e27.1⟩:GDg)])) ⟨[0,1,2,29],[1000,1002,1003,1004],[],[]⟩ krf krf rfl (fun _ _ _=>by kernel_rfl) (fun hu28w hu28l hu28c=>?_)
              refine sc_heap [(1000,1000)] [] [] (g_r_skip_ok n (⟨e27.2.tks,e27.2.pos,e27.2.length,[]⟩:GPr) hu28w hu28l hu28c) krf krf krf kff kff (fun r28=>?_)
              refine k_hold _ rfl krf krf (kr0 (xR 2 krf (xE (cl_n [1000,1001,1002,1003,1004] [] krf krf (iq_ret (.id) [1000,1001,1002,1003] [] (.tup [B false,S r28.1]) krf krf (kr0 (xR 5 krf ?_)))))))
              refine xE ?_
              exact nq_n (false,r28.1,r28.2.tks,r28.2.pos,r28.2.length,l20_5++[(⟨7,e27.1⟩:GDg)],0,[],0,0,[]) ⟨[1,3,4,5,6],[1,4,32,1000,1001],[],[(4,[.id, .id, .id, .id, .sl 5])]⟩ krf
            ·rintro ⟨j25_1,j25_2,j25_3,j25_4,j25_5,j25_6,j25_7,j25_8,j25_9,j25_10,j25_11⟩
             refine sR tfm ⟨[1,3,4,6,28],[1,4,32,1000,1001],[],[]⟩ ⟨[qq 1,(3, .tsl 5 (mI l20_1) 32),qq 4,(6,S j25_2),(28,B j25_1)],[(1, .box 68 [pZ0]),(4, .box 24 (bxc (GN.cs ⟨j25_7,j25_8,j25_9,j25_10,j25_11⟩))),(32,amI24 l20_1),(1000, .box 70 [.p (.sl 4 (mTk j25_3)),I j25_4,I j25_5, .tsl 2 (mDg j25_6) 1001]),(1001,amDg67 j25_6)]⟩ krf (sC j25_1 krf ?_ ?_)
             ·refine sG (xR 3 krf (xF krf krf (aop_app (e:=24) (S:=5) (by_:=64) (enc:=idc) (tk:=32) (l:=l20_1) (l2:=[GN.cs (⟨j25_7,j25_8,j25_9,j25_10,j25_11⟩:GN)]) (xv:=.tsl 5 (mI [GN.cs (⟨j25_7,j25_8,j25_9,j25_10,j25_11⟩:GN)]) 31) rfl krf krf rfl krf krf krf rfl krf) (xR 1 krf (xE (bq_n ?_)))))
              exact kq_n (l20_1++[GN.cs (⟨j25_7,j25_8,j25_9,j25_10,j25_11⟩:GN)],j25_3,j25_4,j25_5,j25_6) ⟨[1,3],[1,32,1000,1001],[],[]⟩ krf
             ·refine sR tfm ⟨[1,3,34],[1,32,1000,1001],[],[]⟩ ⟨[qq 1,(3, .tsl 5 (mI l20_1) 32),(34,B (!eqS j25_2 [59]))],[(1, .box 68 [pZ0]),(32,amI24 l20_1),(1000, .box 70 [.p (.sl 4 (mTk j25_3)),I j25_4,I j25_5, .tsl 2 (mDg j25_6) 1001]),(1001,amDg67 j25_6)]⟩ krf (sC (!eqS j25_2 [59]) krf ?_ ?_)
              ·refine sR tfm ⟨[2],[32,1000,1001],[],[]⟩ ⟨[(2, .tsl 5 (mI l20_1) 32)],[(32,amI24 l20_1),(1000, .box 70 [.p (.sl 4 (mTk j25_3)),I j25_4,I j25_5, .tsl 2 (mDg j25_6) 1001]),(1001,amDg67 j25_6)]⟩ krf (sT (bq_r (kq_r (bq_r (kq_r (iq_ret (.sl 5) [1000,1001] [] (.p (.sl 5 (mI l20_1))) krf krf (kh [0,1] krf (lates_cons (late_read (.ptr 11 4) krf rfl) (lates_cons (late_tsl (S:=5) (t:=600) (ty:=24) (es:=mI (([]++j7_1)++[])) krf krf rfl) (lates_nil))) krf ?_)))))))
               refine h_if [] rfl krf krf (aop_appL (e:=24) (S:=5) (by_:=64) (enc:=idc) (tk:=600) (l:=([]++j7_1)++[]) (l2:=l20_1) (xv:=.p (.sl 5 (mI l20_1))) rfl krf krf rfl krf krf krf krf) (fun _=>lates_nil) (h_op [] krf krf (lates_nil) (h_op [] krf krf (lates_nil) (h_end (bq_n ?_))))
               exact nq_n ((([]++j7_1)++[])++l20_1,j25_3,j25_4,j25_5,j25_6) ⟨[10,11,20,21,22],[10,11,600,1000,1001,1002,1003],[],[]⟩ krf
              ·refine sK (bq_n ?_)
               exact kq_n (l20_1,j25_3,j25_4,j25_5,j25_6) ⟨[1,3],[1,32,1000,1001],[],[]⟩ krf
         ·refine sim_exit (sq_x (kq_x (bq_hit ?_)))
          exact kq_n (k:=fun (j19_1,j19_2,j19_3,j19_4,j19_5)=>g_r_item_j19 j7_1 j19_1 j19_2 j19_3 j19_4 j19_5) (l20_1,l20_2,l20_3,l20_4,l20_5) ⟨[3],[32,1000,1001],[],[]⟩ krf
       ·rintro ⟨j18_1,j18_2,j18_3,j18_4,j18_5⟩
        refine sL tfm krf (ru_n ⟨[10,11,20,21,22],[10,11,600,1000,1001,1002,1003],[],[]⟩ ⟨[qq 10,qq 11,(20, .bsl 1001 3),(21,I 3),(22,I 3)],[(10, .box 24 zN),(11, .box 24 [I 2,S r3.Text,I r5,I r1.At, .tsl 5 (mI j18_1) 600]),(600,amI24 j18_1),(1000, .box 68 [pZ2]),(1001, .box 72 [.fn (.func 100) [pZ2] [], .fn (.func 98) [] [pZ0], .fn (.func 101) [pZ2] []]),(1002, .box 70 [.p (.sl 4 (mTk j18_2)),I j18_3,I j18_4, .tsl 2 (mDg j18_5) 1003]),(1003,amDg67 j18_5)]⟩ krf (sR tfm ⟨[10,11,20,21,22,23],[10,11,600,1000,1001,1002,1003],[],[]⟩ ⟨[qq 10,qq 11,(20, .bsl 1001 3),(21,I 3),(22,I 3),(23,B false)],[(10, .box 24 zN),(11, .box 24 [I 2,S r3.Text,I r5,I r1.At, .tsl 5 (mI j18_1) 600]),(600,amI24 j18_1),(1000, .box 68 [pZ2]),(1001, .box 72 [.fn (.func 100) [pZ2] [], .fn (.func 98) [] [pZ0], .fn (.func 101) [pZ2] []]),(1002, .box 70 [.p (.sl 4 (mTk j18_2)),I j18_3,I j18_4, .tsl 2 (mDg j18_5) 1003]),(1003,amDg67 j18_5)]⟩ krf (sS (sim_condF krf (sim_exit (sq_x (ru_x ?_)))))))
        refine bq_hit ?_
        exact kq_n (k:=fun (j6_1,j6_2,j6_3,j6_4,j6_5)=>g_r_item_j6 r1 r3 r5 j6_1 j6_2 j6_3 j6_4 j6_5) (j18_1,j18_2,j18_3,j18_4,j18_5) ⟨[10,11],[10,11,600,1000,1001,1002,1003],[],[]⟩ krf
      ·refine sim_bind (fun j29=>⟨[(0,pZ1),qq 4,qq 5,(16,B j29)],[(4, .box 63 [I 0,S [],I 0,I 0]),(5,bGTk63 r16),(1000, .box 9 [S [123]]),(1001, .box 70 [.p (.sl 4 (mTk j7_2)),I j7_3,I j7_4, .tsl 2 (mDg a0r.dg) 1002]),(1002,amDg67 a0r.dg)]⟩:Bool→St) ?_ ?_
       ·refine sG (xR 4 krf ?_)
        refine xS (eqI r16.Kind 0) (fun h30=>?_) (fun h30=>?_)
        ·refine xN (want_ft krf h30) krf (xR 4 krf (xE ?_))
         exact nq_n true ⟨[0,4,5,16],[4,5,1000,1001,1002],[],[]⟩ krf
        ·refine xO (want_ff krf h30) krf (xR 1 krf (xs_inline [(1000, .box 9 [S [123]])] [.agg [I r16.Kind,S r16.Text,I r16.N,I r16.At],pZ0] [(1000,1000)] [] [] krf Tryz.func119 rfl Tryz.ntmps119 rfl krf krf krf (sR tfm ⟨[1,2],[2,1000],[],[]⟩ ⟨[(1,pZ0),qq 2],[(2,bGTk63 r16),(1000, .box 9 [S [123]])]⟩ krf (sim_bind (fun j31=>⟨[(3,B j31)],[(1000, .box 9 [S [123]])]⟩:Bool→St) ?_ ?_))))
         ·refine sG (xR 4 krf ?_)
          refine xS (eqI r16.Kind 3) (fun h32=>?_) (fun h32=>?_)
          ·refine xO (want_tt krf h32) krf (xR 5 krf (xE ?_))
           exact nq_n (eqS r16.Text [123]) ⟨[3],[1000],[],[]⟩ krf
          ·refine xN (want_tf krf h32) krf (xR 5 krf (xE ?_))
           exact nq_n false ⟨[3],[1000],[],[]⟩ krf
         ·rintro j31
          refine sT (iq_ret (.id) [1000] [] (B j31) krf krf (kr0 (xR 2 krf (xE ?_))))
          exact nq_n (!j31) ⟨[0,4,5,16],[4,5,1000,1001,1002],[],[]⟩ krf
       ·rintro j29
        refine sC j29 krf ?_ ?_
        ·refine sG (xR 1 krf ?_)
         refine xs_roE [.ro [.id, .id, .id, .sl 2]] krf (g_r_fail_2_ok n (⟨j7_2,j7_3,j7_4,a0r.dg⟩:GPr)) krf krf kff kff (fun r33=>?_) (fun e34=>?_)
         ·refine xE ?_
          exact kq_n (k:=fun _=>g_r_item_j17 n a0r r1 r3 r5 j7_1 j7_2 j7_3 j7_4) () ⟨[0,4,5],[4,5,1000,1001,1002],[],[]⟩ krf
         ·refine kq_p (iq_p [1000,1001,1002] [] krf (qh_p _ rfl (sq_p (iq_p [1000,1001,1002] [] krf (qh_p _ rfl (bq_p (sq_p ?_)))))))
          refine ru_p (bq_p (kq_p (iq_p [1000,1001,1002,1003] [] krf (sq_p (sq_p ?_)))))
          exact hq_p [1000,1103] [] krf krf krf
        ·refine sK ?_
         exact kq_n (k:=fun _=>g_r_item_j17 n a0r r1 r3 r5 j7_1 j7_2 j7_3 j7_4) () ⟨[0,4,5],[4,5,1000,1001,1002],[],[]⟩ krf
   ·refine sK (sN ⟨[1,2,3,4,5],[1,2,3,1000,1103],[],[]⟩ ⟨[qq 1,qq 2,qq 3,(4,S r3.Text),(5,I r5)],[(1, .box 68 [pZ0]),(2, .box 24 zN),(3,bGTk63 r1),(1000, .box 70 [.p (.sl 4 (mTk a0r.tks)),I (wi ((wi (a0r.pos+1))+1)),I a0r.length, .tsl 2 (mDg a0r.dg) 1103]),(1103,amDg67 a0r.dg)]⟩ krf (sR tfm ⟨[1,2,3,4,5,7],[1,2,3,1000,1103],[],[]⟩ ⟨[qq 1,qq 2,qq 3,(4,S r3.Text),(5,I r5),(7, .fn (.func 102) [] [.ptr 1 0])],[(1, .box 68 [pZ0]),(2, .box 24 zN),(3,bGTk63 r1),(1000, .box 70 [.p (.sl 4 (mTk a0r.tks)),I (wi ((wi (a0r.pos+1))+1)),I a0r.length, .tsl 2 (mDg a0r.dg) 1103]),(1103,amDg67 a0r.dg)]⟩ krf (sS (sG (xR 7 krf (xs_inline [(1000, .box 68 [pZ2]),(1001, .box 72 [.fn (.func 100) [pZ2] [], .fn (.func 102) [] [pZ0]]),(1002, .box 70 [.p (.sl 4 (mTk a0r.tks)),I (wi ((wi (a0r.pos+1))+1)),I a0r.length, .tsl 2 (mDg a0r.dg) 1003]),(1003,amDg67 a0r.dg)] [.agg [I r1.Kind,S r1.Text,I r1.N,I r1.At],I 2,S r3.Text,I r5, .bsl 1001 2] [(1000,1),(1001,38),(1002,1000),(1003,1103)] [] [] krf Tryz.func40 rfl Tryz.ntmps40 rfl krf krf krf (sR tfm ⟨[1,2,3,4,5,10],[5,10,1000,1001,1002,1003],[],[]⟩ ⟨[(1,I 2),(2,S r3.Text),(3,I r5),(4, .bsl 1001 2),qq 5,qq 10],[(5,bGTk63 r1),(10, .box 24 zN),(1000, .box 68 [pZ2]),(1001, .box 72 [.fn (.func 100) [pZ2] [], .fn (.func 102) [] [pZ0]]),(1002, .box 70 [.p (.sl 4 (mTk a0r.tks)),I (wi ((wi (a0r.pos+1))+1)),I a0r.length, .tsl 2 (mDg a0r.dg) 1003]),(1003,amDg67 a0r.dg)]⟩ krf ?_)))))))
    refine sR tfm ⟨[4,10,11],[10,11,1000,1001,1002,1003],[],[]⟩ ⟨[(4, .bsl 1001 2),qq 10,qq 11],[(10, .box 24 zN),(11, .box 24 [I 2,S r3.Text,I r5,I r1.At,zS]),(1000, .box 68 [pZ2]),(1001, .box 72 [.fn (.func 100) [pZ2] [], .fn (.func 102) [] [pZ0]]),(1002, .box 70 [.p (.sl 4 (mTk a0r.tks)),I (wi ((wi (a0r.pos+1))+1)),I a0r.length, .tsl 2 (mDg a0r.dg) 1003]),(1003,amDg67 a0r.dg)]⟩ krf (sim_cps (fun (j35_1,j35_2,j35_3,j35_4)=>⟨[qq 10,qq 11],[(10, .box 24 zN),(11, .box 24 [I 2,S r3.Text,I r5,I r1.At, .tsl 5 (mI j35_1) 600]),(600,amI24 j35_1),(1000, .box 68 [pZ2]),(1001, .box 72 [.fn (.func 100) [pZ2] [], .fn (.func 102) [] [pZ0]]),(1002, .box 70 [.p (.sl 4 (mTk j35_2)),I j35_3,I j35_4, .tsl 2 (mDg a0r.dg) 1003]),(1003,amDg67 a0r.dg)]⟩:((List (List PV)) × (List GTk) × Int × Int)→St) (fun (j35_1,j35_2,j35_3,j35_4)=>g_r_item_j35 a0r r1 r3 r5 j35_1 j35_2 j35_3 j35_4) ?_ ?_)
    ·rintro ⟨j35_1,j35_2,j35_3,j35_4⟩
     show SimE (g_r_item_j35 a0r r1 r3 r5 j35_1 j35_2 j35_3 j35_4) _ _ _ _ _ _
     unfold g_r_item_j35
     refine sR tfm ⟨[10],[10,600,1000,1001,1002,1003],[],[]⟩ ⟨[qq 10],[(10, .box 24 [I 2,S r3.Text,I r5,I r1.At, .tsl 5 (mI j35_1) 600]),(600,amI24 j35_1),(1000, .box 68 [pZ2]),(1001, .box 72 [.fn (.func 100) [pZ2] [], .fn (.func 102) [] [pZ0]]),(1002, .box 70 [.p (.sl 4 (mTk j35_2)),I j35_3,I j35_4, .tsl 2 (mDg a0r.dg) 1003]),(1003,amDg67 a0r.dg)]⟩ krf (sT (iq_ret (.agg [.id, .id, .id, .id, .sl 5]) [1000,1001,1002,1003] [] (.agg [I 2,S r3.Text,I r5,I r1.At, .p (.sl 5 (mI j35_1))]) krf krf (kr0 (xR 1 krf (xE (sN ⟨[2],[2,1000,1103],[],[]⟩ ⟨[qq 2],[(2, .box 24 (bxc (GN.cs ⟨2,r3.Text,r5,r1.At,j35_1⟩))),(1000, .box 70 [.p (.sl 4 (mTk j35_2)),I j35_3,I j35_4, .tsl 2 (mDg a0r.dg) 1103]),(1103,amDg67 a0r.dg)]⟩ krf (sT ?_)))))))
     exact hq_ret (.id) [1000,1103] [] krf krf krf krf
    ·refine sR tfm ⟨[10,11,20,21,22],[10,11,1000,1001,1002,1003],[],[]⟩ ⟨[qq 10,qq 11,(20, .bsl 1001 2),(21,I 2),(22,I 0)],[(10, .box 24 zN),(11, .box 24 [I 2,S r3.Text,I r5,I r1.At,zS]),(1000, .box 68 [pZ2]),(1001, .box 72 [.fn (.func 100) [pZ2] [], .fn (.func 102) [] [pZ0]]),(1002, .box 70 [.p (.sl 4 (mTk a0r.tks)),I (wi ((wi (a0r.pos+1))+1)),I a0r.length, .tsl 2 (mDg a0r.dg) 1003]),(1003,amDg67 a0r.dg)]⟩ krf (sB (sim_unroll 2 (sR tfm ⟨[10,11,20,21,22,23],[10,11,1000,1001,1002,1003],[],[]⟩ ⟨[qq 10,qq 11,(20, .bsl 1001 2),(21,I 2),(22,I 0),(23,B true)],[(10, .box 24 zN),(11, .box 24 [I 2,S r3.Text,I r5,I r1.At,zS]),(1000, .box 68 [pZ2]),(1001, .box 72 [.fn (.func 100) [pZ2] [], .fn (.func 102) [] [pZ0]]),(1002, .box 70 [.p (.sl 4 (mTk a0r.tks)),I (wi ((wi (a0r.pos+1))+1)),I a0r.length, .tsl 2 (mDg a0r.dg) 1003]),(1003,amDg67 a0r.dg)]⟩ krf (sS (sim_condT krf (sK (sN ⟨[10,11,20,21,22],[10,11,1000,1001,1002,1003],[],[]⟩ ⟨[qq 10,qq 11,(20, .bsl 1001 2),(21,I 2),(22,I 0)],[(10, .box 24 zN),(11, .box 24 [I 2,S r3.Text,I r5,I r1.At,zS]),(1000, .box 68 [pZ2]),(1001, .box 72 [.fn (.func 100) [pZ2] [], .fn (.func 102) [] [pZ0]]),(1002, .box 70 [.p (.sl 4 (mTk a0r.tks)),I (wi ((wi (a0r.pos+1))+1)),I a0r.length, .tsl 2 (mDg a0r.dg) 1003]),(1003,amDg67 a0r.dg)]⟩ krf ?_)))))))
     refine sS (sB (sR tfm ⟨[10,11,13,20,21,22],[10,11,1000,1001,1002,1003],[],[]⟩ ⟨[qq 10,qq 11,(13, .fn (.func 100) [pZ2] []),(20, .bsl 1001 2),(21,I 2),(22,I 0)],[(10, .box 24 zN),(11, .box 24 [I 2,S r3.Text,I r5,I r1.At,zS]),(1000, .box 68 [pZ2]),(1001, .box 72 [.fn (.func 100) [pZ2] [], .fn (.func 102) [] [pZ0]]),(1002, .box 70 [.p (.sl 4 (mTk a0r.tks)),I (wi ((wi (a0r.pos+1))+1)),I a0r.length, .tsl 2 (mDg a0r.dg) 1003]),(1003,amDg67 a0r.dg)]⟩ krf (sP ⟨[10,11,13,20,21,22],[10,11,1000,1001,1002,1003],[],[]⟩ ⟨[qq 10,qq 11,(13, .fn (.func 100) [pZ2] []),(20, .bsl 1001 2),(21,I 2),(22,I 0)],[(10, .box 24 zN),(11, .box 24 [I 2,S r3.Text,I r5,I r1.At,zS]),(1000, .box 68 [pZ2]),(1001, .box 72 [.fn (.func 100) [pZ2] [], .fn (.func 102) [] [pZ0]]),(1002, .box 70 [.p (.sl 4 (mTk a0r.tks)),I (wi ((wi (a0r.pos+1))+1)),I a0r.length, .tsl 2 (mDg a0r.dg) 1003]),(1003,amDg67 a0r.dg)]⟩ krf (sim_weak (weak_pn 24 5 600 [] [(11,4)] krf) (sim_hst [0,1,2] [0,1] [(3,[]),(4,[]),(5,[]),(6,[])] tfm rfl krf krf (h_enter (f:=100) (args:=[pZ2]) (dst:=some 29) krf krf (sc_inline (hc:=[(1000, .box 70 [.p (.sl 4 (mTk a0r.tks)),I (wi ((wi (a0r.pos+1))+1)),I a0r.length, .tsl 2 (mDg a0r.dg) 1001]),(1001,amDg67 a0r.dg)]) (args':=[pZ0]) [(1000,1002),(1001,1003)] [] [] Tryz.func100 rfl Tryz.ntmps100 rfl krf krf krf ?_)))))))
     refine sR tfm ⟨[1],[1,1000,1001],[],[]⟩ ⟨[qq 1],[(1, .box 68 [pZ0]),(1000, .box 70 [.p (.sl 4 (mTk a0r.tks)),I (wi ((wi (a0r.pos+1))+1)),I a0r.length, .tsl 2 (mDg a0r.dg) 1001]),(1001,amDg67 a0r.dg)]⟩ krf (sR tfm ⟨[1,3],[1,1000,1001],[],[]⟩ ⟨[qq 1,(3,zS)],[(1, .box 68 [pZ0]),(1000, .box 70 [.p (.sl 4 (mTk a0r.tks)),I (wi ((wi (a0r.pos+1))+1)),I a0r.length, .tsl 2 (mDg a0r.dg) 1001]),(1001,amDg67 a0r.dg)]⟩ krf (sim_bind (fun (j36_1,j36_2,j36_3,j36_4)=>⟨[(3, .tsl 5 (mI j36_1) 600)],[(600,amI24 j36_1),(1000, .box 70 [.p (.sl 4 (mTk j36_2)),I j36_3,I j36_4, .tsl 2 (mDg a0r.dg) 1001]),(1001,amDg67 a0r.dg)]⟩:((List (List PV)) × (List GTk) × Int × Int)→St) ?_ ?_))
     ·refine sS (sG (xR 1 krf ?_))
      refine xs_ro [.ro [.id, .id, .id, .sl 2]] krf (g_r_peek_2_ok n (⟨a0r.tks,wi ((wi (a0r.pos+1))+1),a0r.length,a0r.dg⟩:GPr)) krf krf kff (fun r37=>?_)
      refine xR 2 krf (xE (sN ⟨[1,3,4],[1,4,1000,1001],[],[]⟩ ⟨[qq 1,(3,zS),qq 4],[(1, .box 68 [pZ0]),(4,bGTk63 r37),(1000, .box 70 [.p (.sl 4 (mTk a0r.tks)),I (wi ((wi (a0r.pos+1))+1)),I a0r.length, .tsl 2 (mDg a0r.dg) 1001]),(1001,amDg67 a0r.dg)]⟩ krf (sB (sP ⟨[1,3,4],[1,4,1000,1001],[],[]⟩ ⟨[qq 1,(3,zS),qq 4],[(1, .box 68 [pZ0]),(4,bGTk63 r37),(1000, .box 70 [.p (.sl 4 (mTk a0r.tks)),I (wi ((wi (a0r.pos+1))+1)),I a0r.length, .tsl 2 (mDg a0r.dg) 1001]),(1001,amDg67 a0r.dg)]⟩ krf (sim_weak (weak_pn 24 5 600 [3] [] krf) (sim_loop (fun (l38_1,l38_2,l38_3,l38_4,l38_5,l38_6,l38_7,l38_8)=>⟨[qq 1,(3, .tsl 5 (mI l38_1) 600),qq 4],[(1, .box 68 [pZ0]),(4, .box 63 [I l38_5,S l38_6,I l38_7,I l38_8]),(600,amI24 l38_1),(1000, .box 70 [.p (.sl 4 (mTk l38_2)),I l38_3,I l38_4, .tsl 2 (mDg a0r.dg) 1001]),(1001,amDg67 a0r.dg)]⟩:((List (List PV)) × (List GTk) × Int × Int × Int × (List UInt8) × Int × Int)→St) (weak_shr (K:=⟨[1,3,4],[1,4,600,1000,1001],[],[]⟩) krf) ?_))))))
      rintro recl38 ⟨l38_1,l38_2,l38_3,l38_4,l38_5,l38_6,l38_7,l38_8⟩
      show SimE (g_r_item_l38 n a0r recl38 l38_1 l38_2 l38_3 l38_4 l38_5 l38_6 l38_7 l38_8) _ _ _ _ _ _
      unfold g_r_item_l38
      refine sS (sim_bind (fun j39=>⟨[qq 1,(3, .tsl 5 (mI l38_1) 600),qq 4,(14,B j39)],[(1, .box 68 [pZ0]),(4, .box 63 [I l38_5,S l38_6,I l38_7,I l38_8]),(600,amI24 l38_1),(1000, .box 70 [.p (.sl 4 (mTk l38_2)),I l38_3,I l38_4, .tsl 2 (mDg a0r.dg) 1001]),(1001,amDg67 a0r.dg)]⟩:Bool→St) ?_ ?_)
      ·refine sG (xR 4 krf ?_)
       refine xS (eqI l38_5 1) (fun h40=>?_) (fun h40=>?_)
       ·refine xO (want_tt krf h40) krf (xR 1 krf ?_)
        refine xC [] krf (g_p_isAttr_ok n l38_6) krf krf kff (fun r41=>?_)
        refine xR 1 krf (xE ?_)
        exact nq_n r41 ⟨[1,3,4,14],[1,4,600,1000,1001],[],[]⟩ krf
       ·refine xN (want_tf krf h40) krf (xR 3 krf (xE ?_))
        exact nq_n false ⟨[1,3,4,14],[1,4,600,1000,1001],[],[]⟩ krf
      ·rintro j39
       refine sC j39 krf ?_ ?_
       ·refine sK (sN ⟨[1,3,4],[1,4,600,1000,1001],[],[]⟩ ⟨[qq 1,(3, .tsl 5 (mI l38_1) 600),qq 4],[(1, .box 68 [pZ0]),(4, .box 63 [I l38_5,S l38_6,I l38_7,I l38_8]),(600,amI24 l38_1),(1000, .box 70 [.p (.sl 4 (mTk l38_2)),I l38_3,I l38_4, .tsl 2 (mDg a0r.dg) 1001]),(1001,amDg67 a0r.dg)]⟩ krf (sS (sB (sR tfm ⟨[1,3,4],[1,4,600,1000,1001],[],[]⟩ ⟨[qq 1,(3, .tsl 5 (mI l38_1) 600),qq 4],[(1, .box 68 [pZ0]),(4, .box 63 [I l38_5,S l38_6,I l38_7,I l38_8]),(600,amI24 l38_1),(1000, .box 70 [.p (.sl 4 (mTk l38_2)),I (wi (l38_3+1)),I l38_4, .tsl 2 (mDg a0r.dg) 1001]),(1001,amDg67 a0r.dg)]⟩ krf (sG (xR 6 krf (xs_inline [(1000, .box 68 [pZ2]),(1001, .box 72 [.fn (.func 120) [] [pZ0]]),(1002, .box 70 [.p (.sl 4 (mTk l38_2)),I (wi (l38_3+1)),I l38_4, .tsl 2 (mDg a0r.dg) 1003]),(1003,amDg67 a0r.dg)] [.agg [I l38_5,S l38_6,I l38_7,I l38_8],I 3,S l38_6,I 0, .bsl 1001 1] [(1000,1),(1001,29),(1002,1000),(1003,1001)] [] [] krf Tryz.func40 rfl Tryz.ntmps40 rfl krf krf krf ?_)))))))
        refine sR tfm ⟨[1,2,3,4,5,10],[5,10,1000,1001,1002,1003],[],[]⟩ ⟨[(1,I 3),(2,S l38_6),(3,I 0),(4, .bsl 1001 1),qq 5,qq 10],[(5, .box 63 [I l38_5,S l38_6,I l38_7,I l38_8]),(10, .box 24 zN),(1000, .box 68 [pZ2]),(1001, .box 72 [.fn (.func 120) [] [pZ0]]),(1002, .box 70 [.p (.sl 4 (mTk l38_2)),I (wi (l38_3+1)),I l38_4, .tsl 2 (mDg a0r.dg) 1003]),(1003,amDg67 a0r.dg)]⟩ krf (sR tfm ⟨[4,10,11],[10,11,1000,1001,1002,1003],[],[]⟩ ⟨[(4, .bsl 1001 1),qq 10,qq 11],[(10, .box 24 zN),(11, .box 24 [I 3,S l38_6,I 0,I l38_8,zS]),(1000, .box 68 [pZ2]),(1001, .box 72 [.fn (.func 120) [] [pZ0]]),(1002, .box 70 [.p (.sl 4 (mTk l38_2)),I (wi (l38_3+1)),I l38_4, .tsl 2 (mDg a0r.dg) 1003]),(1003,amDg67 a0r.dg)]⟩ krf (sim_bind (fun (j42_1,j42_2,j42_3,j42_4)=>⟨[qq 10,qq 11],[(10, .box 24 zN),(11, .box 24 [I 3,S l38_6,I 0,I l38_8, .tsl 5 (mI j42_1) 600]),(600,amI24 j42_1),(1000, .box 68 [pZ2]),(1001, .box 72 [.fn (.func 120) [] [pZ0]]),(1002, .box 70 [.p (.sl 4 (mTk j42_2)),I j42_3,I j42_4, .tsl 2 (mDg a0r.dg) 1003]),(1003,amDg67 a0r.dg)]⟩:((List (List PV)) × (List GTk) × Int × Int)→St) ?_ ?_))
        ·refine sR tfm ⟨[10,11,20,21,22],[10,11,1000,1001,1002,1003],[],[]⟩ ⟨[qq 10,qq 11,(20, .bsl 1001 1),(21,I 1),(22,I 0)],[(10, .box 24 zN),(11, .box 24 [I 3,S l38_6,I 0,I l38_8,zS]),(1000, .box 68 [pZ2]),(1001, .box 72 [.fn (.func 120) [] [pZ0]]),(1002, .box 70 [.p (.sl 4 (mTk l38_2)),I (wi (l38_3+1)),I l38_4, .tsl 2 (mDg a0r.dg) 1003]),(1003,amDg67 a0r.dg)]⟩ krf (sB (sim_unroll 1 (sR tfm ⟨[10,11,20,21,22,23],[10,11,1000,1001,1002,1003],[],[]⟩ ⟨[qq 10,qq 11,(20, .bsl 1001 1),(21,I 1),(22,I 0),(23,B true)],[(10, .box 24 zN),(11, .box 24 [I 3,S l38_6,I 0,I l38_8,zS]),(1000, .box 68 [pZ2]),(1001, .box 72 [.fn (.func 120) [] [pZ0]]),(1002, .box 70 [.p (.sl 4 (mTk l38_2)),I (wi (l38_3+1)),I l38_4, .tsl 2 (mDg a0r.dg) 1003]),(1003,amDg67 a0r.dg)]⟩ krf (sS (sim_condT krf (sK (sN ⟨[10,11,20,21,22],[10,11,1000,1001,1002,1003],[],[]⟩ ⟨[qq 10,qq 11,(20, .bsl 1001 1),(21,I 1),(22,I 0)],[(10, .box 24 zN),(11, .box 24 [I 3,S l38_6,I 0,I l38_8,zS]),(1000, .box 68 [pZ2]),(1001, .box 72 [.fn (.func 120) [] [pZ0]]),(1002, .box 70 [.p (.sl 4 (mTk l38_2)),I (wi (l38_3+1)),I l38_4, .tsl 2 (mDg a0r.dg) 1003]),(1003,amDg67 a0r.dg)]⟩ krf ?_)))))))
         refine sS (sB (sR tfm ⟨[10,11,13,20,21,22],[10,11,1000,1001,1002,1003],[],[]⟩ ⟨[qq 10,qq 11,(13, .fn (.func 120) [] [pZ0]),(20, .bsl 1001 1),(21,I 1),(22,I 0)],[(10, .box 24 zN),(11, .box 24 [I 3,S l38_6,I 0,I l38_8,zS]),(1000, .box 68 [pZ2]),(1001, .box 72 [.fn (.func 120) [] [pZ0]]),(1002, .box 70 [.p (.sl 4 (mTk l38_2)),I (wi (l38_3+1)),I l38_4, .tsl 2 (mDg a0r.dg) 1003]),(1003,amDg67 a0r.dg)]⟩ krf (sP ⟨[10,11,13,20,21,22],[10,11,1000,1001,1002,1003],[],[]⟩ ⟨[qq 10,qq 11,(13, .fn (.func 120) [] [pZ0]),(20, .bsl 1001 1),(21,I 1),(22,I 0)],[(10, .box 24 zN),(11, .box 24 [I 3,S l38_6,I 0,I l38_8,zS]),(1000, .box 68 [pZ2]),(1001, .box 72 [.fn (.func 120) [] [pZ0]]),(1002, .box 70 [.p (.sl 4 (mTk l38_2)),I (wi (l38_3+1)),I l38_4, .tsl 2 (mDg a0r.dg) 1003]),(1003,amDg67 a0r.dg)]⟩ krf (sim_weak (weak_pn 24 5 600 [] [(11,4)] krf) (sim_hst [0,1,2] [0,1] [(3,[]),(4,[]),(5,[]),(6,[])] tfm rfl krf krf (h_enter (f:=120) (args:=[pZ0]) (dst:=some 29) krf krf (sc_inline (hc:=[(1000, .box 68 [pZ1]),(1001, .box 70 [.p (.sl 4 (mTk l38_2)),I (wi (l38_3+1)),I l38_4, .tsl 2 (mDg a0r.dg) 1002]),(1002,amDg67 a0r.dg)]) (args':=[pZ0]) [(1000,1000),(1001,1002),(1002,1003)] [] [] Tryz.func120 rfl Tryz.ntmps120 rfl krf krf krf ?_)))))))
         refine sR tfm ⟨[0],[1000,1001,1002],[],[]⟩ ⟨[(0,pZ0)],[(1000, .box 68 [pZ1]),(1001, .box 70 [.p (.sl 4 (mTk l38_2)),I (wi (l38_3+1)),I l38_4, .tsl 2 (mDg a0r.dg) 1002]),(1002,amDg67 a0r.dg)]⟩ krf (sS (sG (xR 1 krf (xs_enter (f:=121) (args:=[pZ1, .p (.val (.func (.func 97) #[] #[]))]) krf krf krf ?_))))
         refine sc_hold 1001 3 1002 67 2 (mDg a0r.dg).length (mDg a0r.dg) ⟨[0,2],[1000,1001],[],[]⟩ krf krf rfl (fun _ _ _=>by kernel_rfl) (fun hu43w hu43l hu43c=>?_)
         refine sc_heap [(1000,1001)] [] [] (g_r_values_ok n (⟨l38_2,wi (l38_3+1),l38_4,[]⟩:GPr) hu43w hu43l hu43c) krf krf krf kff kff (fun r43=>?_)
         refine k_hold _ rfl krf krf (kr0 (xR 1 krf (xE (sN ⟨[1],[1000,1001,1002],[],[]⟩ ⟨[(1, .p (.sl 5 (mI r43.1)))],[(1000, .box 68 [pZ1]),(1001, .box 70 [.p (.sl 4 (mTk r43.2.tks)),I r43.2.pos,I r43.2.length, .tsl 2 (mDg a0r.dg) 1002]),(1002,amDg67 a0r.dg)]⟩ krf (sT (iq_ret (.id) [1000,1001,1002] [] (.p (.sl 5 (mI r43.1))) krf krf (kh [0,1] krf (lates_cons (late_read (.ptr 11 4) krf rfl) (lates_cons (late_tsl (S:=5) (t:=600) (ty:=24) (es:=mI []) krf krf rfl) (lates_nil))) krf ?_)))))))
         refine h_if [] rfl krf krf (aop_appL (e:=24) (S:=5) (by_:=64) (enc:=idc) (tk:=600) (l:=[]) (l2:=r43.1) (xv:=.p (.sl 5 (mI r43.1))) rfl krf krf rfl krf krf krf krf) (fun _=>lates_nil) (h_op [] krf krf (lates_nil) (h_op [] krf krf (lates_nil) (h_end (bq_n (sN ⟨[10,11,20,21,22],[10,11,600,1000,1001,1002,1003],[],[]⟩ ⟨[qq 10,qq 11,(20, .bsl 1001 1),(21,I 1),(22,I 0)],[(10, .box 24 zN),(11, .box 24 [I 3,S l38_6,I 0,I l38_8, .tsl 5 (mI ([]++r43.1)) 600]),(600,amI24 ([]++r43.1)),(1000, .box 68 [pZ2]),(1001, .box 72 [.fn (.func 120) [] [pZ0]]),(1002, .box 70 [.p (.sl 4 (mTk r43.2.tks)),I r43.2.pos,I r43.2.length, .tsl 2 (mDg a0r.dg) 1003]),(1003,amDg67 a0r.dg)]⟩ krf (sL tfm krf (ru_n ⟨[10,11,20,21,22],[10,11,600,1000,1001,1002,1003],[],[]⟩ ⟨[qq 10,qq 11,(20, .bsl 1001 1),(21,I 1),(22,I 1)],[(10, .box 24 zN),(11, .box 24 [I 3,S l38_6,I 0,I l38_8, .tsl 5 (mI ([]++r43.1)) 600]),(600,amI24 ([]++r43.1)),(1000, .box 68 [pZ2]),(1001, .box 72 [.fn (.func 120) [] [pZ0]]),(1002, .box 70 [.p (.sl 4 (mTk r43.2.tks)),I r43.2.pos,I r43.2.length, .tsl 2 (mDg a0r.dg) 1003]),(1003,amDg67 a0r.dg)]⟩ krf ?_)))))))
         refine sR tfm ⟨[10,11,20,21,22,23],[10,11,600,1000,1001,1002,1003],[],[]⟩ ⟨[qq 10,qq 11,(20, .bsl 1001 1),(21,I 1),(22,I 1),(23,B false)],[(10, .box 24 zN),(11, .box 24 [I 3,S l38_6,I 0,I l38_8, .tsl 5 (mI ([]++r43.1)) 600]),(600,amI24 ([]++r43.1)),(1000, .box 68 [pZ2]),(1001, .box 72 [.fn (.func 120) [] [pZ0]]),(1002, .box 70 [.p (.sl 4 (mTk r43.2.tks)),I r43.2.pos,I r43.2.length, .tsl 2 (mDg a0r.dg) 1003]),(1003,amDg67 a0r.dg)]⟩ krf (sS (sim_condF krf (sim_exit (sq_x (ru_x (bq_hit ?_))))))
         exact nq_n ([]++r43.1,r43.2.tks,r43.2.pos,r43.2.length) ⟨[10,11],[10,11,600,1000,1001,1002,1003],[],[]⟩ krf
        ·rintro ⟨j42_1,j42_2,j42_3,j42_4⟩
         refine sR tfm ⟨[10],[10,600,1000,1001,1002,1003],[],[]⟩ ⟨[qq 10],[(10, .box 24 [I 3,S l38_6,I 0,I l38_8, .tsl 5 (mI j42_1) 600]),(600,amI24 j42_1),(1000, .box 68 [pZ2]),(1001, .box 72 [.fn (.func 120) [] [pZ0]]),(1002, .box 70 [.p (.sl 4 (mTk j42_2)),I j42_3,I j42_4, .tsl 2 (mDg a0r.dg) 1003]),(1003,amDg67 a0r.dg)]⟩ krf (sT (iq_ret (.agg [.id, .id, .id, .id, .sl 5]) [1000,1001,1002,1003] [] (.agg [I 3,S l38_6,I 0,I l38_8, .p (.sl 5 (mI j42_1))]) krf krf (kr0 (xR 1 krf (xF krf krf (aop_app (e:=24) (S:=5) (by_:=64) (enc:=idc) (tk:=600) (l:=l38_1) (l2:=[GN.cs (⟨3,l38_6,0,l38_8,j42_1⟩:GN)]) (xv:=.tsl 5 (mI [GN.cs (⟨3,l38_6,0,l38_8,j42_1⟩:GN)]) 31) rfl krf krf rfl krf krf krf rfl krf) (xR 1 krf (xE ?_)))))))
         refine bq_n (sN ⟨[1,3,4],[1,4,600,1000,1001],[],[]⟩ ⟨[qq 1,(3, .tsl 5 (mI (l38_1++[GN.cs (⟨3,l38_6,0,l38_8,j42_1⟩:GN)])) 600),qq 4],[(1, .box 68 [pZ0]),(4, .box 63 [I l38_5,S l38_6,I l38_7,I l38_8]),(600,amI24 (l38_1++[GN.cs (⟨3,l38_6,0,l38_8,j42_1⟩:GN)])),(1000, .box 70 [.p (.sl 4 (mTk j42_2)),I j42_3,I j42_4, .tsl 2 (mDg a0r.dg) 1001]),(1001,amDg67 a0r.dg)]⟩ krf (sS (sR tfm ⟨[1,3,33],[1,600,1000,1001],[],[]⟩ ⟨[qq 1,(3, .tsl 5 (mI (l38_1++[GN.cs (⟨3,l38_6,0,l38_8,j42_1⟩:GN)])) 600),(33, .agg [I l38_5,S l38_6,I l38_7,I l38_8])],[(1, .box 68 [pZ0]),(600,amI24 (l38_1++[GN.cs (⟨3,l38_6,0,l38_8,j42_1⟩:GN)])),(1000, .box 70 [.p (.sl 4 (mTk j42_2)),I j42_3,I j42_4, .tsl 2 (mDg a0r.dg) 1001]),(1001,amDg67 a0r.dg)]⟩ krf (sL tfm krf (sN ⟨[1,3,4],[1,4,600,1000,1001],[],[]⟩ ⟨[qq 1,(3, .tsl 5 (mI (l38_1++[GN.cs (⟨3,l38_6,0,l38_8,j42_1⟩:GN)])) 600),qq 4],[(1, .box 68 [pZ0]),(4, .box 63 [I l38_5,S l38_6,I l38_7,I l38_8]),(600,amI24 (l38_1++[GN.cs (⟨3,l38_6,0,l38_8,j42_1⟩:GN)])),(1000, .box 70 [.p (.sl 4 (mTk j42_2)),I j42_3,I j42_4, .tsl 2 (mDg a0r.dg) 1001]),(1001,amDg67 a0r.dg)]⟩ krf (sG (xR 1 krf ?_)))))))
         refine xs_ro [.ro [.id, .id, .id, .sl 2]] krf (g_r_peek_2_ok n (⟨j42_2,j42_3,j42_4,a0r.dg⟩:GPr)) krf krf kff (fun r44=>?_)
         refine xR 1 krf (xE ?_)
         exact kq_n (l38_1++[GN.cs (⟨3,l38_6,0,l38_8,j42_1⟩:GN)],j42_2,j42_3,j42_4,r44.Kind,r44.Text,r44.N,r44.At) ⟨[1,3,4],[1,4,600,1000,1001],[],[]⟩ krf
       ·refine sim_exit (sq_x (kq_x (bq_hit ?_)))
        exact nq_n (l38_1,l38_2,l38_3,l38_4) ⟨[3],[600,1000,1001],[],[]⟩ krf
     ·rintro ⟨j36_1,j36_2,j36_3,j36_4⟩
      refine sR tfm ⟨[2],[600,1000,1001],[],[]⟩ ⟨[(2, .tsl 5 (mI j36_1) 600)],[(600,amI24 j36_1),(1000, .box 70 [.p (.sl 4 (mTk j36_2)),I j36_3,I j36_4, .tsl 2 (mDg a0r.dg) 1001]),(1001,amDg67 a0r.dg)]⟩ krf (sT (iq_ret (.sl 5) [1000,1001] [] (.p (.sl 5 (mI j36_1))) krf krf (kh [0,1] krf (lates_cons (late_read (.ptr 11 4) krf rfl) (lates_cons (late_tsl (S:=5) (t:=600) (ty:=24) (es:=mI []) krf krf rfl) (lates_nil))) krf (h_if [] rfl krf krf (aop_appL (e:=24) (S:=5) (by_:=64) (enc:=idc) (tk:=600) (l:=[]) (l2:=j36_1) (xv:=.p (.sl 5 (mI j36_1))) rfl krf krf rfl krf krf krf krf) (fun _=>lates_nil) (h_op [] krf krf (lates_nil) (h_op [] krf krf (lates_nil) (h_end ?_)))))))
      refine bq_n (sN ⟨[10,11,20,21,22],[10,11,600,1000,1001,1002,1003],[],[]⟩ ⟨[qq 10,qq 11,(20, .bsl 1001 2),(21,I 2),(22,I 0)],[(10, .box 24 zN),(11, .box 24 [I 2,S r3.Text,I r5,I r1.At, .tsl 5 (mI ([]++j36_1)) 600]),(600,amI24 ([]++j36_1)),(1000, .box 68 [pZ2]),(1001, .box 72 [.fn (.func 100) [pZ2] [], .fn (.func 102) [] [pZ0]]),(1002, .box 70 [.p (.sl 4 (mTk j36_2)),I j36_3,I j36_4, .tsl 2 (mDg a0r.dg) 1003]),(1003,amDg67 a0r.dg)]⟩ krf (sL tfm krf (ru_n ⟨[10,11,20,21,22],[10,11,600,1000,1001,1002,1003],[],[]⟩ ⟨[qq 10,qq 11,(20, .bsl 1001 2),(21,I 2),(22,I 1)],[(10, .box 24 zN),(11, .box 24 [I 2,S r3.Text,I r5,I r1.At, .tsl 5 (mI ([]++j36_1)) 600]),(600,amI24 ([]++j36_1)),(1000, .box 68 [pZ2]),(1001, .box 72 [.fn (.func 100) [pZ2] [], .fn (.func 102) [] [pZ0]]),(1002, .box 70 [.p (.sl 4 (mTk j36_2)),I j36_3,I j36_4, .tsl 2 (mDg a0r.dg) 1003]),(1003,amDg67 a0r.dg)]⟩ krf (sR tfm ⟨[10,11,20,21,22,23],[10,11,600,1000,1001,1002,1003],[],[]⟩ ⟨[qq 10,qq 11,(20, .bsl 1001 2),(21,I 2),(22,I 1),(23,B true)],[(10, .box 24 zN),(11, .box 24 [I 2,S r3.Text,I r5,I r1.At, .tsl 5 (mI ([]++j36_1)) 600]),(600,amI24 ([]++j36_1)),(1000, .box 68 [pZ2]),(1001, .box 72 [.fn (.func 100) [pZ2] [], .fn (.func 102) [] [pZ0]]),(1002, .box 70 [.p (.sl 4 (mTk j36_2)),I j36_3,I j36_4, .tsl 2 (mDg a0r.dg) 1003]),(1003,amDg67 a0r.dg)]⟩ krf (sS (sim_condT krf (sK ?_)))))))
      refine sN ⟨[10,11,20,21,22],[10,11,600,1000,1001,1002,1003],[],[]⟩ ⟨[qq 10,qq 11,(20, .bsl 1001 2),(21,I 2),(22,I 1)],[(10, .box 24 zN),(11, .box 24 [I 2,S r3.Text,I r5,I r1.At, .tsl 5 (mI ([]++j36_1)) 600]),(600,amI24 ([]++j36_1)),(1000, .box 68 [pZ2]),(1001, .box 72 [.fn (.func 100) [pZ2] [], .fn (.func 102) [] [pZ0]]),(1002, .box 70 [.p (.sl 4 (mTk j36_2)),I j36_3,I j36_4, .tsl 2 (mDg a0r.dg) 1003]),(1003,amDg67 a0r.dg)]⟩ krf (sS (sB (sR tfm ⟨[10,11,13,20,21,22],[10,11,600,1000,1001,1002,1003],[],[]⟩ ⟨[qq 10,qq 11,(13, .fn (.func 102) [] [pZ0]),(20, .bsl 1001 2),(21,I 2),(22,I 1)],[(10, .box 24 zN),(11, .box 24 [I 2,S r3.Text,I r5,I r1.At, .tsl 5 (mI ([]++j36_1)) 600]),(600,amI24 ([]++j36_1)),(1000, .box 68 [pZ2]),(1001, .box 72 [.fn (.func 100) [pZ2] [], .fn (.func 102) [] [pZ0]]),(1002, .box 70 [.p (.sl 4 (mTk j36_2)),I j36_3,I j36_4, .tsl 2 (mDg a0r.dg) 1003]),(1003,amDg67 a0r.dg)]⟩ krf (sim_hst [0,1,2] [0,1] [(3,[]),(4,[]),(5,[]),(6,[])] tfm rfl krf krf (h_enter (f:=102) (args:=[pZ0]) (dst:=some 29) krf krf (sc_inline (hc:=[(1000, .box 68 [pZ1]),(1001, .box 70 [.p (.sl 4 (mTk j36_2)),I j36_3,I j36_4, .tsl 2 (mDg a0r.dg) 1002]),(1002,amDg67 a0r.dg)]) (args':=[pZ0]) [(1000,1000),(1001,1002),(1002,1003)] [] [] Tryz.func102 rfl Tryz.ntmps102 rfl krf krf krf (sR tfm ⟨[0],[1000,1001,1002],[],[]⟩ ⟨[(0,pZ0)],[(1000, .box 68 [pZ1]),(1001, .box 70 [.p (.sl 4 (mTk j36_2)),I j36_3,I j36_4, .tsl 2 (mDg a0r.dg) 1002]),(1002,amDg67 a0r.dg)]⟩ krf ?_)))))))
      refine sS (sim_hst [0] [0] [(1,[]),(2,[])] tfm rfl krf krf (h_enter (f:=99) (args:=[S [59]]) (dst:=some 3) krf krf (sc_inline (hc:=[]) (args':=[S [59]]) [(1,401)] [] [] Tryz.func99 rfl Tryz.ntmps99 rfl krf krf krf (sR tfm ⟨[1],[1],[],[]⟩ ⟨[qq 1],[(1, .box 9 [S [59]])]⟩ krf (sR tfm ⟨[2],[1],[],[]⟩ ⟨[(2, .fn (.func 119) [] [.ptr 1 0])],[(1, .box 9 [S [59]])]⟩ krf (sT (iq_ret (.id) [1] [] (.fn (.func 119) [] [.ptr 1 0]) krf krf ?_)))))))
      refine kh [0] krf (lates_cons (late_read pZ1 krf rfl) (lates_nil)) krf (h_enter (f:=93) (args:=[pZ1, .fn (.func 119) [] [.ptr 401 0]]) (dst:=some 4) krf krf (sc_inline (hc:=[(1000, .box 9 [S [59]]),(1001, .box 70 [.p (.sl 4 (mTk j36_2)),I j36_3,I j36_4, .tsl 2 (mDg a0r.dg) 1002]),(1002,amDg67 a0r.dg)]) (args':=[pZ1, .fn (.func 119) [] [pZ0]]) [(1000,401),(1001,1001),(1002,1002)] [] [] Tryz.func93 rfl Tryz.ntmps93 rfl krf krf krf (sR tfm ⟨[0,1,4],[4,1000,1001,1002],[],[]⟩ ⟨[(0,pZ1),(1, .fn (.func 119) [] [pZ0]),qq 4],[(4, .box 63 [I 0,S [],I 0,I 0]),(1000, .box 9 [S [59]]),(1001, .box 70 [.p (.sl 4 (mTk j36_2)),I j36_3,I j36_4, .tsl 2 (mDg a0r.dg) 1002]),(1002,amDg67 a0r.dg)]⟩ krf (sS (sG (xR 1 krf ?_))))))
      refine xs_ro [.ro [.id, .id, .id, .sl 2]] krf (g_r_peek_2_ok n (⟨j36_2,j36_3,j36_4,a0r.dg⟩:GPr)) krf krf kff (fun r45=>?_)
      refine xR 2 krf (xE (sN ⟨[0,1,4,5],[4,5,1000,1001,1002],[],[]⟩ ⟨[(0,pZ1),(1, .fn (.func 119) [] [pZ0]),qq 4,qq 5],[(4, .box 63 [I 0,S [],I 0,I 0]),(5,bGTk63 r45),(1000, .box 9 [S [59]]),(1001, .box 70 [.p (.sl 4 (mTk j36_2)),I j36_3,I j36_4, .tsl 2 (mDg a0r.dg) 1002]),(1002,amDg67 a0r.dg)]⟩ krf (sim_cps (fun _=>⟨[(0,pZ1),qq 4,qq 5],[(4, .box 63 [I 0,S [],I 0,I 0]),(5,bGTk63 r45),(1000, .box 9 [S [59]]),(1001, .box 70 [.p (.sl 4 (mTk j36_2)),I j36_3,I j36_4, .tsl 2 (mDg a0r.dg) 1002]),(1002,amDg67 a0r.dg)]⟩:Unit→St) (fun _=>g_r_item_j46 a0r r1 r3 r5 j36_1 j36_2 j36_3 j36_4) ?_ ?_)))
      ·rintro _
       show SimE (g_r_item_j46 a0r r1 r3 r5 j36_1 j36_2 j36_3 j36_4) _ _ _ _ _ _
       unfold g_r_item_j46
       refine sR tfm ⟨[4,5],[4,5,1000,1001,1002],[],[]⟩ ⟨[qq 4,qq 5],[(4, .box 63 [I 0,S [],I 0,I 0]),(5,bGTk63 r45),(1000, .box 9 [S [59]]),(1001, .box 70 [.p (.sl 4 (mTk j36_2)),I (wi (j36_3+1)),I j36_4, .tsl 2 (mDg a0r.dg) 1002]),(1002,amDg67 a0r.dg)]⟩ krf (sR tfm ⟨[4],[4,1000,1001,1002],[],[]⟩ ⟨[qq 4],[(4,bGTk63 r45),(1000, .box 9 [S [59]]),(1001, .box 70 [.p (.sl 4 (mTk j36_2)),I (wi (j36_3+1)),I j36_4, .tsl 2 (mDg a0r.dg) 1002]),(1002,amDg67 a0r.dg)]⟩ krf (sT (iq_ret (.id) [1000,1001,1002] [] (.agg [I r45.Kind,S r45.Text,I r45.N,I r45.At]) krf krf (kh [] krf (lates_nil) krf (h_end (sN ⟨[],[1000,1001,1002],[],[]⟩ ⟨[],[(1000, .box 68 [pZ1]),(1001, .box 70 [.p (.sl 4 (mTk j36_2)),I (wi (j36_3+1)),I j36_4, .tsl 2 (mDg a0r.dg) 1002]),(1002,amDg67 a0r.dg)]⟩ krf (sR tfm ⟨[1],[1000,1001,1002],[],[]⟩ ⟨[(1,zS)],[(1000, .box 68 [pZ1]),(1001, .box 70 [.p (.sl 4 (mTk j36_2)),I (wi (j36_3+1)),I j36_4, .tsl 2 (mDg a0r.dg) 1002]),(1002,amDg67 a0r.dg)]⟩ krf ?_)))))))
       refine sT (iq_ret (.sl 5) [1000,1001,1002] [] (.p (.sl 5 (mI []))) krf krf (kh [0,1] krf (lates_cons (late_read (.ptr 11 4) krf rfl) (lates_cons (late_tsl (S:=5) (t:=600) (ty:=24) (es:=mI ([]++j36_1)) krf krf rfl) (lates_nil))) krf (h_if [] rfl krf krf (aop_appL (e:=24) (S:=5) (by_:=64) (enc:=idc) (tk:=600) (l:=[]++j36_1) (l2:=[]) (xv:=.p (.sl 5 (mI []))) rfl krf krf rfl krf krf krf krf) (fun _=>lates_nil) (h_op [] krf krf (lates_nil) (h_op [] krf krf (lates_nil) (h_end (bq_n ?_)))))))
       refine sN ⟨[10,11,20,21,22],[10,11,600,1000,1001,1002,1003],[],[]⟩ ⟨[qq 10,qq 11,(20, .bsl 1001 2),(21,I 2),(22,I 1)],[(10, .box 24 zN),(11, .box 24 [I 2,S r3.Text,I r5,I r1.At, .tsl 5 (mI (([]++j36_1)++[])) 600]),(600,amI24 (([]++j36_1)++[])),(1000, .box 68 [pZ2]),(1001, .box 72 [.fn (.func 100) [pZ2] [], .fn (.func 102) [] [pZ0]]),(1002, .box 70 [.p (.sl 4 (mTk j36_2)),I (wi (j36_3+1)),I j36_4, .tsl 2 (mDg a0r.dg) 1003]),(1003,amDg67 a0r.dg)]⟩ krf (sL tfm krf (ru_n ⟨[10,11,20,21,22],[10,11,600,1000,1001,1002,1003],[],[]⟩ ⟨[qq 10,qq 11,(20, .bsl 1001 2),(21,I 2),(22,I 2)],[(10, .box 24 zN),(11, .box 24 [I 2,S r3.Text,I r5,I r1.At, .tsl 5 (mI (([]++j36_1)++[])) 600]),(600,amI24 (([]++j36_1)++[])),(1000, .box 68 [pZ2]),(1001, .box 72 [.fn (.func 100) [pZ2] [], .fn (.func 102) [] [pZ0]]),(1002, .box 70 [.p (.sl 4 (mTk j36_2)),I (wi (j36_3+1)),I j36_4, .tsl 2 (mDg a0r.dg) 1003]),(1003,amDg67 a0r.dg)]⟩ krf (sR tfm ⟨[10,11,20,21,22,23],[10,11,600,1000,1001,1002,1003],[],[]⟩ ⟨[qq 10,qq 11,(20, .bsl 1001 2),(21,I 2),(22,I 2),(23,B false)],[(10, .box 24 zN),(11, .box 24 [I 2,S r3.Text,I r5,I r1.At, .tsl 5 (mI (([]++j36_1)++[])) 600]),(600,amI24 (([]++j36_1)++[])),(1000, .box 68 [pZ2]),(1001, .box 72 [.fn (.func 100) [pZ2] [], .fn (.func 102) [] [pZ0]]),(1002, .box 70 [.p (.sl 4 (mTk j36_2)),I (wi (j36_3+1)),I j36_4, .tsl 2 (mDg a0r.dg) 1003]),(1003,amDg67 a0r.dg)]⟩ krf (sS (sim_condF krf (sim_exit (sq_x ?_)))))))
       refine ru_x (bq_hit ?_)
       exact kq_n (k:=fun (j35_1,j35_2,j35_3,j35_4)=>g_r_item_j35 a0r r1 r3 r5 j35_1 j35_2 j35_3 j35_4) (([]++j36_1)++[],j36_2,wi (j36_3+1),j36_4) ⟨[10,11],[10,11,600,1000,1001,1002,1003],[],[]⟩ krf
      ·refine sim_bind (fun j47=>⟨[(0,pZ1),qq 4,qq 5,(16,B j47)],[(4, .box 63 [I 0,S [],I 0,I 0]),(5,bGTk63 r45),(1000, .box 9 [S [59]]),(1001, .box 70 [.p (.sl 4 (mTk j36_2)),I j36_3,I j36_4, .tsl 2 (mDg a0r.dg) 1002]),(1002,amDg67 a0r.dg)]⟩:Bool→St) ?_ ?_
       ·refine sG (xR 4 krf ?_)
        refine xS (eqI r45.Kind 0) (fun h48=>?_) (fun h48=>?_)
        ·refine xN (want_ft krf h48) krf (xR 4 krf (xE ?_))
         exact nq_n true ⟨[0,4,5,16],[4,5,1000,1001,1002],[],[]⟩ krf
        ·refine xO (want_ff krf h48) krf (xR 1 krf (xs_inline [(1000, .box 9 [S [59]])] [.agg [I r45.Kind,S r45.Text,I r45.N,I r45.At],pZ0] [(1000,1000)] [] [] krf Tryz.func119 rfl Tryz.ntmps119 rfl krf krf krf (sR tfm ⟨[1,2],[2,1000],[],[]⟩ ⟨[(1,pZ0),qq 2],[(2,bGTk63 r45),(1000, .box 9 [S [59]])]⟩ krf (sim_bind (fun j49=>⟨[(3,B j49)],[(1000, .box 9 [S [59]])]⟩:Bool→St) ?_ ?_))))
         ·refine sG (xR 4 krf ?_)
          refine xS (eqI r45.Kind 3) (fun h50=>?_) (fun h50=>?_)
          ·refine xO (want_tt krf h50) krf (xR 5 krf (xE ?_))
           exact nq_n (eqS r45.Text [59]) ⟨[3],[1000],[],[]⟩ krf
          ·refine xN (want_tf krf h50) krf (xR 5 krf (xE ?_))
           exact nq_n false ⟨[3],[1000],[],[]⟩ krf
         ·rintro j49
          refine sT (iq_ret (.id) [1000] [] (B j49) krf krf (kr0 (xR 2 krf (xE ?_))))
          exact nq_n (!j49) ⟨[0,4,5,16],[4,5,1000,1001,1002],[],[]⟩ krf
       ·rintro j47
        refine sC j47 krf ?_ ?_
        ·refine sG (xR 1 krf ?_)
         refine xs_roE [.ro [.id, .id, .id, .sl 2]] krf (g_r_fail_2_ok n (⟨j36_2,j36_3,j36_4,a0r.dg⟩:GPr)) krf krf kff kff (fun r51=>?_) (fun e52=>?_)
         ·refine xE ?_
          exact kq_n (k:=fun _=>g_r_item_j46 a0r r1 r3 r5 j36_1 j36_2 j36_3 j36_4) () ⟨[0,4,5],[4,5,1000,1001,1002],[],[]⟩ krf
         ·refine kq_p (iq_p [1000,1001,1002] [] krf (qh_p _ rfl (sq_p (iq_p [1000,1001,1002] [] krf (qh_p _ rfl (bq_p (sq_p ?_)))))))
          refine ru_p (bq_p (kq_p (iq_p [1000,1001,1002,1003] [] krf (sq_p ?_))))
          exact hq_p [1000,1103] [] krf krf krf
        ·refine sK ?_
         exact kq_n (k:=fun _=>g_r_item_j46 a0r r1 r3 r5 j36_1 j36_2 j36_3 j36_4) () ⟨[0,4,5],[4,5,1000,1001,1002],[],[]⟩ krf
  ·refine sim_bind (fun j53=>⟨[(0,pZ1),qq 4,qq 5,(16,B j53)],[(4, .box 63 [I 0,S [],I 0,I 0]),(5,bGTk63 r3),(1000, .box 87 [.p (.val (.func (.func 97) #[] #[]))]),(1001, .box 70 [.p (.sl 4 (mTk a0r.tks)),I (wi (a0r.pos+1)),I a0r.length, .tsl 2 (mDg a0r.dg) 1002]),(1002,amDg67 a0r.dg)]⟩:Bool→St) ?_ ?_
   ·refine sG (xR 4 krf ?_)
    refine xS (eqI r3.Kind 0) (fun h54=>?_) (fun h54=>?_)
    ·refine xN (want_ft krf h54) krf (xR 4 krf (xE ?_))
     exact nq_n true ⟨[0,4,5,16],[4,5,1000,1001,1002],[],[]⟩ krf
    ·refine xO (want_ff krf h54) krf (xR 1 krf (xs_inline [(1000, .box 87 [.p (.val (.func (.func 97) #[] #[]))])] [.agg [I r3.Kind,S r3.Text,I r3.N,I r3.At],pZ0] [(1000,1000)] [] [] krf Tryz.func118 rfl Tryz.ntmps118 rfl krf krf krf (sR tfm ⟨[1,2],[2,1000],[],[]⟩ ⟨[(1,pZ0),qq 2],[(2,bGTk63 r3),(1000, .box 87 [.p (.val (.func (.func 97) #[] #[]))])]⟩ krf (sim_bind (fun j55=>⟨[(3,B j55)],[(1000, .box 87 [.p (.val (.func (.func 97) #[] #[]))])]⟩:Bool→St) ?_ ?_))))
     ·refine sG (xR 4 krf ?_)
      refine xS (eqI r3.Kind 1) (fun h56=>?_) (fun h56=>?_)
      ·refine xO (want_tt krf h56) krf (xR 2 krf ?_)
       refine xC [] krf (g_p_notKey_ok n r3.Text) krf krf kff (fun r57=>?_)
       refine xR 2 krf (xE ?_)
       exact nq_n r57 ⟨[3],[1000],[],[]⟩ krf
      ·refine xN (want_tf krf h56) krf (xR 5 krf (xE ?_))
       exact nq_n false ⟨[3],[1000],[],[]⟩ krf
     ·rintro j55
      refine sT (iq_ret (.id) [1000] [] (B j55) krf krf (kr0 (xR 2 krf (xE ?_))))
      exact nq_n (!j55) ⟨[0,4,5,16],[4,5,1000,1001,1002],[],[]⟩ krf
   ·rintro j53
    refine sC j53 krf ?_ ?_
    ·refine sG (xR 1 krf ?_)
     refine xs_roE [.ro [.id, .id, .id, .sl 2]] krf (g_r_fail_2_ok n (⟨a0r.tks,wi (a0r.pos+1),a0r.length,a0r.dg⟩:GPr)) krf krf kff kff (fun r58=>?_) (fun e59=>?_)
     ·refine xE ?_
      exact kq_n (k:=fun _=>g_r_item_j4 n a0r r1 r3) () ⟨[0,4,5],[4,5,1000,1001,1002],[],[]⟩ krf
     ·refine kq_p (iq_p [1000,1001,1002] [] krf (qh_p _ rfl (sq_p ?_)))
      exact hq_p [1000,1103] [] krf krf krf
    ·refine sK ?_
     exact kq_n (k:=fun _=>g_r_item_j4 n a0r r1 r3) () ⟨[0,4,5],[4,5,1000,1001,1002],[],[]⟩ krf
 ·refine sim_bind (fun j60=>⟨[(0,pZ1),qq 4,qq 5,(16,B j60)],[(4, .box 63 [I 0,S [],I 0,I 0]),(5,bGTk63 r1),(1000, .box 87 [.p (.val (.func (.func 95) #[] #[]))]),(1001, .box 70 [.p (.sl 4 (mTk a0r.tks)),I a0r.pos,I a0r.length, .tsl 2 (mDg a0r.dg) 1002]),(1002,amDg67 a0r.dg)]⟩:Bool→St) ?_ ?_
  ·refine sG (xR 4 krf ?_)
   refine xS (eqI r1.Kind 0) (fun h61=>?_) (fun h61=>?_)
   ·refine xN (want_ft krf h61) krf (xR 4 krf (xE ?_))
    exact nq_n true ⟨[0,4,5,16],[4,5,1000,1001,1002],[],[]⟩ krf
   ·refine xO (want_ff krf h61) krf (xR 1 krf (xs_inline [(1000, .box 87 [.p (.val (.func (.func 95) #[] #[]))])] [.agg [I r1.Kind,S r1.Text,I r1.N,I r1.At],pZ0] [(1000,1000)] [] [] krf Tryz.func118 rfl Tryz.ntmps118 rfl krf krf krf (sR tfm ⟨[1,2],[2,1000],[],[]⟩ ⟨[(1,pZ0),qq 2],[(2,bGTk63 r1),(1000, .box 87 [.p (.val (.func (.func 95) #[] #[]))])]⟩ krf (sim_bind (fun j62=>⟨[(3,B j62)],[(1000, .box 87 [.p (.val (.func (.func 95) #[] #[]))])]⟩:Bool→St) ?_ ?_))))
    ·refine sG (xR 4 krf ?_)
     refine xS (eqI r1.Kind 1) (fun h63=>?_) (fun h63=>?_)
     ·refine xO (want_tt krf h63) krf (xR 2 krf ?_)
      refine xC [] krf (g_r_item_1_ok n r1.Text) krf krf kff (fun r64=>?_)
      refine xR 2 krf (xE ?_)
      exact nq_n r64 ⟨[3],[1000],[],[]⟩ krf
     ·refine xN (want_tf krf h63) krf (xR 5 krf (xE ?_))
      exact nq_n false ⟨[3],[1000],[],[]⟩ krf
    ·rintro j62
     refine sT (iq_ret (.id) [1000] [] (B j62) krf krf (kr0 (xR 2 krf (xE ?_))))
     exact nq_n (!j62) ⟨[0,4,5,16],[4,5,1000,1001,1002],[],[]⟩ krf
  ·rintro j60
   refine sC j60 krf ?_ ?_
   ·refine sG (xR 1 krf ?_)
    refine xs_roE [.ro [.id, .id, .id, .sl 2]] krf (g_r_fail_2_ok n a0r) krf krf kff kff (fun r65=>?_) (fun e66=>?_)
    ·refine xE ?_
     exact kq_n (k:=fun _=>g_r_item_j2 n a0r r1) () ⟨[0,4,5],[4,5,1000,1001,1002],[],[]⟩ krf
    ·refine kq_p (iq_p [1000,1001,1002] [] krf (qh_p _ rfl (sq_p ?_)))
     exact hq_p [1000,1103] [] krf krf krf
   ·refine sK ?_
    exact kq_n (k:=fun _=>g_r_item_j2 n a0r r1) () ⟨[0,4,5],[4,5,1000,1001,1002],[],[]⟩ krf
def g_p_count_l1 (a0n:GN) (a1limit:Int) (rf_parser_count:GN→Int→Option Int) (recl1:(Int × Int)→Option Int) (l1_1:Int) (l1_2:Int):Option Int :=
 cond (ltI l1_2 (lenI (List.map idc a0n.Kids)))
  ((Option.bind (getI a0n.Kids l1_2) GN.of).bind fun x2 =>
  cond (ltI a1limit l1_1)
   (some l1_1)
   ((rf_parser_count x2 (wi (a1limit - l1_1))).bind fun r3 =>
   recl1 (wi (l1_1+r3),wi (l1_2+1))))
  (some l1_1)
def g_p_count_body (n:Nat) (rf_parser_count:GN→Int→Option Int) (a0n:GN) (a1limit:Int):Option Int :=
 loopN (fun recl1 (l1_1,l1_2)=>g_p_count_l1 a0n a1limit rf_parser_count recl1 l1_1 l1_2) n (1,0)
def g_p_count:Nat→GN→Int→Option Int
 | 0,_,_=>none
 | n+1,a0n,a1limit=>g_p_count_body n (g_p_count n) a0n a1limit
theorem g_p_count_ok (n:Nat) (a0n:GN) (a1limit:Int):∀ r,g_p_count n a0n a1limit=some r→PCall Tryz.prog 42 [ag (GN.cs a0n),I a1limit] (.ret (I r)):=by
 induction n generalizing a0n a1limit with
 | zero=>intro r hr; cases (show (none:Option Int)=some r from hr)
 | succ n ih =>
 show ∀ r,g_p_count_body n (g_p_count n) a0n a1limit=some r→_
 generalize g_p_count n=rf_parser_count at ih ⊢
 refine pcall_sim (X:=fun r:Int=>AEnd.ret (I r)) Tryz.func42 rfl Tryz.ntmps42 rfl ?_
 unfold g_p_count_body
 refine sR tfm ⟨[1,2],[2],[],[]⟩ ⟨[(1,I a1limit),qq 2],[(2,bGN24 a0n)]⟩ krf (sR tfm ⟨[1,2,5],[2],[],[]⟩ ⟨[(1,I a1limit),qq 2,(5,I 1)],[(2,bGN24 a0n)]⟩ krf (sS (sR tfm ⟨[1,5,9,10,11],[],[],[]⟩ ⟨[(1,I a1limit),(5,I 1),(9, .p (.sl 5 (mI a0n.Kids))),(10,I (lenI (mI a0n.Kids))),(11,I 0)],[]⟩ krf (sB (sim_loop (fun (l1_1,l1_2)=>⟨[(1,I a1limit),(5,I l1_1),(9, .p (.sl 5 (mI a0n.Kids))),(10,I (lenI (mI a0n.Kids))),(11,I l1_2)],[]⟩:(Int × Int)→St) (weak_shr (K:=⟨[1,5,9,10,11],[],[],[]⟩) krf) ?_)))))
 rintro recl1 ⟨l1_1,l1_2⟩
 show SimE (g_p_count_l1 a0n a1limit rf_parser_count recl1 l1_1 l1_2) _ _ _ _ _ _
 unfold g_p_count_l1
 refine sR tfm ⟨[1,5,9,10,11,12],[],[],[]⟩ ⟨[(1,I a1limit),(5,I l1_1),(9, .p (.sl 5 (mI a0n.Kids))),(10,I (lenI (mI a0n.Kids))),(11,I l1_2),(12,B (ltI l1_2 (lenI (mI a0n.Kids))))],[]⟩ krf (sS (sC (ltI l1_2 (lenI (mI a0n.Kids))) krf ?_ ?_))
 ·refine sK (sN ⟨[1,5,9,10,11],[],[],[]⟩ ⟨[(1,I a1limit),(5,I l1_1),(9, .p (.sl 5 (mI a0n.Kids))),(10,I (lenI (mI a0n.Kids))),(11,I l1_2)],[]⟩ krf (sS (sB (sS (sG ?_)))))
  refine xG krf krf (aop_idxR (e:=24) (S:=5) (enc:=GN.cs) (dec:=GN.of) (l:=a0n.Kids) (k:=.i64) (n:=l1_2) (sv:=.p (.sl 5 (mI a0n.Kids))) GN.of_cs rfl krf krf krf krf krf) (fun x2=>?_)
  refine xR 3 krf (xE (sN ⟨[1,5,7,9,10,11],[7],[],[]⟩ ⟨[(1,I a1limit),(5,I l1_1),qq 7,(9, .p (.sl 5 (mI a0n.Kids))),(10,I (lenI (mI a0n.Kids))),(11,I l1_2)],[(7,bGN24 x2)]⟩ krf (sS (sR tfm ⟨[1,5,7,9,10,11,17],[7],[],[]⟩ ⟨[(1,I a1limit),(5,I l1_1),qq 7,(9, .p (.sl 5 (mI a0n.Kids))),(10,I (lenI (mI a0n.Kids))),(11,I l1_2),(17,B (ltI a1limit l1_1))],[(7,bGN24 x2)]⟩ krf (sC (ltI a1limit l1_1) krf ?_ ?_)))))
  ·refine sR tfm ⟨[4],[],[],[]⟩ ⟨[(4,I l1_1)],[]⟩ krf (sT (sq_r (bq_r (sq_r (kq_r (bq_r (sq_r ?_)))))))
   exact qR (.id) krf krf krf
  ·refine sK (sN ⟨[1,5,7,9,10,11],[7],[],[]⟩ ⟨[(1,I a1limit),(5,I l1_1),qq 7,(9, .p (.sl 5 (mI a0n.Kids))),(10,I (lenI (mI a0n.Kids))),(11,I l1_2)],[(7,bGN24 x2)]⟩ krf (sG (xR 5 krf ?_)))
   refine xC [] krf (ih x2 (wi (a1limit - l1_1))) krf krf kff (fun r3=>?_)
   refine xR 2 krf (xE (bq_n (sN ⟨[1,5,9,10,11],[],[],[]⟩ ⟨[(1,I a1limit),(5,I (wi (l1_1+r3))),(9, .p (.sl 5 (mI a0n.Kids))),(10,I (lenI (mI a0n.Kids))),(11,I l1_2)],[]⟩ krf (sL tfm krf ?_))))
   exact kq_n (wi (l1_1+r3),wi (l1_2+1)) ⟨[1,5,9,10,11],[],[],[]⟩ krf
 ·refine sim_exit (sq_x (kq_x (bq_hit (sN ⟨[5],[],[],[]⟩ ⟨[(5,I l1_1)],[]⟩ krf (sR tfm ⟨[4],[],[],[]⟩ ⟨[(4,I l1_1)],[]⟩ krf (sT ?_))))))
  exact qR (.id) krf krf krf
def g_p_Parse_l4 (n:Nat) (recl4:((List (List PV)) × (List GTk) × Int × Int × (List GDg))→Option ((List (List PV)) × (List GTk) × Int × Int × (List GDg))) (l4_1:List (List PV)) (l4_2:List GTk) (l4_3:Int) (l4_4:Int) (l4_5:List GDg):Option ((List (List PV)) × (List GTk) × Int × Int × (List GDg)) :=
 (cond (ltI l4_3 (lenI (List.map GTk.cs l4_2)))
  ((g_r_full n (⟨l4_2,l4_3,l4_4,l4_5⟩:GPr)).bind fun r7 =>
  some (!r7))
  (some false)).bind fun j5 =>
 cond j5
  (((g_r_item n (⟨l4_2,l4_3,l4_4,l4_5⟩:GPr)).bind (exc (fun r9 =>
   some (true,r9.2.tks,r9.2.pos,r9.2.length,r9.2.dg,r9.1.Kind,r9.1.Name,r9.1.N,r9.1.At,r9.1.Kids)) fun e10=>cond (roomB (List.length (e10.2.dg++[(⟨7,e10.1⟩:GDg)])) 16) (
   (g_r_skip n (⟨e10.2.tks,e10.2.pos,e10.2.length,[]⟩:GPr)).bind fun r11 =>
   some (false,r11.2.tks,r11.2.pos,r11.2.length,e10.2.dg++[(⟨7,e10.1⟩:GDg)],0,[],0,0,[])) none)).bind fun (j8_1,j8_2,j8_3,j8_4,j8_5,j8_6,j8_7,j8_8,j8_9,j8_10) =>
  cond j8_1
   (cond (roomB (List.length (l4_1++[GN.cs (⟨j8_6,j8_7,j8_8,j8_9,j8_10⟩:GN)])) 64) (
    recl4 (l4_1++[GN.cs (⟨j8_6,j8_7,j8_8,j8_9,j8_10⟩:GN)],j8_2,j8_3,j8_4,j8_5)) none)
   (recl4 (l4_1,j8_2,j8_3,j8_4,j8_5)))
  (some (l4_1,l4_2,l4_3,l4_4,l4_5))
def g_p_Parse (n:Nat) (a0z:List UInt8):Option (GN × (List GDg)) :=
 (g_x_Lex n a0z).bind fun r1 =>
 cond (!eqI r1.2.1 0)
  (some ((⟨0,[],0,0,[]⟩:GN),[(⟨r1.2.1,r1.2.2⟩:GDg)]))
  (((loopN (fun recl4 (l4_1,l4_2,l4_3,l4_4,l4_5)=>g_p_Parse_l4 n recl4 l4_1 l4_2 l4_3 l4_4 l4_5) n ([],r1.1,0,lenI a0z,[])).bind fun (j3_1,j3_2,j3_3,j3_4,j3_5) =>
  cond (roomB (List.length ([]++j3_1)) 64) (
   some ([]++j3_1,j3_2,j3_3,j3_4,j3_5)) none).bind fun (j2_1,j2_2,j2_3,j2_4,j2_5) =>
  cond (ltI 0 (lenI (List.map GDg.cs j2_5)))
   (some ((⟨0,[],0,0,[]⟩:GN),j2_5))
   ((g_p_count n (⟨1,[],0,0,j2_1⟩:GN) 1500).bind fun r12 =>
   cond (ltI 1500 r12)
    (some ((⟨0,[],0,0,[]⟩:GN),[(⟨2,0⟩:GDg)]))
    (some ((⟨1,[],0,0,j2_1⟩:GN),[]))))
theorem g_p_Parse_ok (n:Nat) (a0z:List UInt8):∀ r,g_p_Parse n a0z=some r→PCall Tryz.prog 16 [S a0z] (.ret (.tup [ag (GN.cs r.1), .p (.sl 2 (mDg r.2))])):=by
 refine pcall_sim (X:=fun r:GN × (List GDg)=>AEnd.ret (.tup [ag (GN.cs r.1), .p (.sl 2 (mDg r.2))])) Tryz.func16 rfl Tryz.ntmps16 rfl ?_
 unfold g_p_Parse
 refine sR tfm ⟨[0,2],[2],[],[]⟩ ⟨[(0,S a0z),qq 2],[(2, .box 24 zN)]⟩ krf (sS (sG (xR 1 krf ?_)))
 refine xC [] krf (g_x_Lex_ok n a0z) krf krf kff (fun r1=>?_)
 refine xR 7 krf (xE (sN ⟨[0,2,4,5,6],[2],[],[]⟩ ⟨[(0,S a0z),qq 2,(4, .p (.sl 4 (mTk r1.1))),(5,I r1.2.1),(6,I r1.2.2)],[(2, .box 24 zN)]⟩ krf (sS (sR tfm ⟨[0,2,4,5,6,16],[2],[],[]⟩ ⟨[(0,S a0z),qq 2,(4, .p (.sl 4 (mTk r1.1))),(5,I r1.2.1),(6,I r1.2.2),(16,B (!eqI r1.2.1 0))],[(2, .box 24 zN)]⟩ krf (sC (!eqI r1.2.1 0) krf ?_ ?_)))))
 ·refine sR tfm ⟨[2,3],[2,21],[],[]⟩ ⟨[qq 2,(3, .tsl 2 (mDg [(⟨r1.2.1,r1.2.2⟩:GDg)]) 21)],[(2, .box 24 zN),(21,amDg67 [(⟨r1.2.1,r1.2.2⟩:GDg)])]⟩ krf (sT (sq_r ?_))
  exact qR (.agg [.agg [.id, .id, .id, .id, .sl 5], .sl 2]) krf krf krf
 ·refine sK (sN ⟨[0,2,4],[2],[],[]⟩ ⟨[(0,S a0z),qq 2,(4, .p (.sl 4 (mTk r1.1)))],[(2, .box 24 zN)]⟩ krf (sR tfm ⟨[2,7],[2,26],[],[]⟩ ⟨[qq 2,(7, .ptr 26 0)],[(2, .box 24 zN),(26, .box 70 [.p (.sl 4 (mTk r1.1)),I 0,I (lenI a0z),zS])]⟩ krf (sS (sG (xR 4 krf (xs_inline [(1000, .box 70 [.p (.sl 4 (mTk r1.1)),I 0,I (lenI a0z),zS]),(1001, .box 72 [.fn (.func 41) [pZ0] []])] [.agg [I 0,S [],I 0,I 0],I 1,S [],I 0, .bsl 1001 1] [(1000,26),(1001,30),(637,637)] [] [] krf Tryz.func40 rfl Tryz.ntmps40 rfl krf krf krf (sR tfm ⟨[1,2,3,4,5,10],[5,10,1000,1001],[],[]⟩ ⟨[(1,I 1),(2,S []),(3,I 0),(4, .bsl 1001 1),qq 5,qq 10],[(5, .box 63 [I 0,S [],I 0,I 0]),(10, .box 24 zN),(1000, .box 70 [.p (.sl 4 (mTk r1.1)),I 0,I (lenI a0z),zS]),(1001, .box 72 [.fn (.func 41) [pZ0] []])]⟩ krf ?_)))))))
  refine sR tfm ⟨[4,10,11],[10,11,1000,1001],[],[]⟩ ⟨[(4, .bsl 1001 1),qq 10,qq 11],[(10, .box 24 zN),(11, .box 24 [I 1,S [],I 0,I 0,zS]),(1000, .box 70 [.p (.sl 4 (mTk r1.1)),I 0,I (lenI a0z),zS]),(1001, .box 72 [.fn (.func 41) [pZ0] []])]⟩ krf (sim_bind (fun (j2_1,j2_2,j2_3,j2_4,j2_5)=>⟨[qq 10,qq 11],[(10, .box 24 zN),(11, .box 24 [I 1,S [],I 0,I 0, .tsl 5 (mI j2_1) 600]),(600,amI24 j2_1),(637,amDg67 j2_5),(1000, .box 70 [.p (.sl 4 (mTk j2_2)),I j2_3,I j2_4, .tsl 2 (mDg j2_5) 637]),(1001, .box 72 [.fn (.func 41) [pZ0] []])]⟩:((List (List PV)) × (List GTk) × Int × Int × (List GDg))→St) ?_ ?_)
  ·refine sR tfm ⟨[10,11,20,21,22],[10,11,1000,1001],[],[]⟩ ⟨[qq 10,qq 11,(20, .bsl 1001 1),(21,I 1),(22,I 0)],[(10, .box 24 zN),(11, .box 24 [I 1,S [],I 0,I 0,zS]),(1000, .box 70 [.p (.sl 4 (mTk r1.1)),I 0,I (lenI a0z),zS]),(1001, .box 72 [.fn (.func 41) [pZ0] []])]⟩ krf (sB (sim_unroll 1 (sR tfm ⟨[10,11,20,21,22,23],[10,11,1000,1001],[],[]⟩ ⟨[qq 10,qq 11,(20, .bsl 1001 1),(21,I 1),(22,I 0),(23,B true)],[(10, .box 24 zN),(11, .box 24 [I 1,S [],I 0,I 0,zS]),(1000, .box 70 [.p (.sl 4 (mTk r1.1)),I 0,I (lenI a0z),zS]),(1001, .box 72 [.fn (.func 41) [pZ0] []])]⟩ krf (sS (sim_condT krf (sK (sN ⟨[10,11,20,21,22],[10,11,1000,1001],[],[]⟩ ⟨[qq 10,qq 11,(20, .bsl 1001 1),(21,I 1),(22,I 0)],[(10, .box 24 zN),(11, .box 24 [I 1,S [],I 0,I 0,zS]),(1000, .box 70 [.p (.sl 4 (mTk r1.1)),I 0,I (lenI a0z),zS]),(1001, .box 72 [.fn (.func 41) [pZ0] []])]⟩ krf ?_)))))))
   refine sS (sB (sR tfm ⟨[10,11,13,20,21,22],[10,11,1000,1001],[],[]⟩ ⟨[qq 10,qq 11,(13, .fn (.func 41) [pZ0] []),(20, .bsl 1001 1),(21,I 1),(22,I 0)],[(10, .box 24 zN),(11, .box 24 [I 1,S [],I 0,I 0,zS]),(1000, .box 70 [.p (.sl 4 (mTk r1.1)),I 0,I (lenI a0z),zS]),(1001, .box 72 [.fn (.func 41) [pZ0] []])]⟩ krf (sP ⟨[10,11,13,20,21,22],[10,11,1000,1001],[],[]⟩ ⟨[qq 10,qq 11,(13, .fn (.func 41) [pZ0] []),(20, .bsl 1001 1),(21,I 1),(22,I 0)],[(10, .box 24 zN),(11, .box 24 [I 1,S [],I 0,I 0,zS]),(1000, .box 70 [.p (.sl 4 (mTk r1.1)),I 0,I (lenI a0z),zS]),(1001, .box 72 [.fn (.func 41) [pZ0] []])]⟩ krf (sim_weak (weak_pn 24 5 600 [] [(11,4)] krf) (sim_hst [0,1,2] [0,1] [(3,[]),(4,[]),(5,[]),(6,[])] tfm rfl krf krf (h_enter (f:=41) (args:=[pZ0]) (dst:=some 29) krf krf (sc_inline (hc:=[(1000, .box 70 [.p (.sl 4 (mTk r1.1)),I 0,I (lenI a0z),zS])]) (args':=[pZ0]) [(1000,1000),(600,637)] [] [] Tryz.func41 rfl Tryz.ntmps41 rfl krf krf krf ?_)))))))
   refine sR tfm ⟨[1],[1,1000],[],[]⟩ ⟨[qq 1],[(1, .box 68 [pZ0]),(1000, .box 70 [.p (.sl 4 (mTk r1.1)),I 0,I (lenI a0z),zS])]⟩ krf (sR tfm ⟨[1,3],[1,1000],[],[]⟩ ⟨[qq 1,(3,zS)],[(1, .box 68 [pZ0]),(1000, .box 70 [.p (.sl 4 (mTk r1.1)),I 0,I (lenI a0z),zS])]⟩ krf (sim_bind (fun (j3_1,j3_2,j3_3,j3_4,j3_5)=>⟨[(3, .tsl 5 (mI j3_1) 32)],[(32,amI24 j3_1),(600,amDg67 j3_5),(1000, .box 70 [.p (.sl 4 (mTk j3_2)),I j3_3,I j3_4, .tsl 2 (mDg j3_5) 600])]⟩:((List (List PV)) × (List GTk) × Int × Int × (List GDg))→St) ?_ ?_))
   ·refine sB (sP ⟨[1,3],[1,1000],[],[]⟩ ⟨[qq 1,(3,zS)],[(1, .box 68 [pZ0]),(1000, .box 70 [.p (.sl 4 (mTk r1.1)),I 0,I (lenI a0z),zS])]⟩ krf (sim_weak (Weak.trans (weak_pn 24 5 32 [3] [] krf) (weak_pn 67 2 600 [] [(1000,3)] krf)) (sim_loop (fun (l4_1,l4_2,l4_3,l4_4,l4_5)=>⟨[qq 1,(3, .tsl 5 (mI l4_1) 32)],[(1, .box 68 [pZ0]),(32,amI24 l4_1),(600,amDg67 l4_5),(1000, .box 70 [.p (.sl 4 (mTk l4_2)),I l4_3,I l4_4, .tsl 2 (mDg l4_5) 600])]⟩:((List (List PV)) × (List GTk) × Int × Int × (List GDg))→St) (weak_shr (K:=⟨[1,3],[1,32,600,1000],[],[]⟩) krf) ?_)))
    rintro recl4 ⟨l4_1,l4_2,l4_3,l4_4,l4_5⟩
    show SimE (g_p_Parse_l4 n recl4 l4_1 l4_2 l4_3 l4_4 l4_5) _ _ _ _ _ _
    unfold g_p_Parse_l4
    refine sS (sim_bind (fun j5=>⟨[qq 1,(3, .tsl 5 (mI l4_1) 32),(21,B j5)],[(1, .box 68 [pZ0]),(32,amI24 l4_1),(600,amDg67 l4_5),(1000, .box 70 [.p (.sl 4 (mTk l4_2)),I l4_3,I l4_4, .tsl 2 (mDg l4_5) 600])]⟩:Bool→St) ?_ ?_)
    ·refine sim_drw tfm rfl (xR 11 krf ?_)
     refine xS (ltI l4_3 (lenI (mTk l4_2))) (fun h6=>?_) (fun h6=>?_)
     ·refine xO (want_tt krf h6) krf (xs_seqL rfl krf krf ?_)
      refine xs_ro [.ro [.id, .id, .id, .sl 2]] krf (g_r_full_ok n (⟨l4_2,l4_3,l4_4,l4_5⟩:GPr)) krf krf kff (fun r7=>?_)
      refine xR 2 krf (xE ?_)
      exact nq_n (!r7) ⟨[1,3,21],[1,32,600,1000],[],[]⟩ krf
     ·refine xN (want_tf krf h6) krf (xR 3 krf (xs_endD krf ?_))
      exact nq_n false ⟨[1,3,21],[1,32,600,1000],[],[]⟩ krf
    ·rintro j5
     refine sC j5 krf ?_ ?_
     ·refine sK (sN ⟨[1,3],[1,32,600,1000],[],[]⟩ ⟨[qq 1,(3, .tsl 5 (mI l4_1) 32)],[(1, .box 68 [pZ0]),(32,amI24 l4_1),(600,amDg67 l4_5),(1000, .box 70 [.p (.sl 4 (mTk l4_2)),I l4_3,I l4_4, .tsl 2 (mDg l4_5) 600])]⟩ krf (sB (sR tfm ⟨[1,3,4],[1,4,32,600,1000],[],[]⟩ ⟨[qq 1,(3, .tsl 5 (mI l4_1) 32),qq 4],[(1, .box 68 [pZ0]),(4, .box 24 zN),(32,amI24 l4_1),(600,amDg67 l4_5),(1000, .box 70 [.p (.sl 4 (mTk l4_2)),I l4_3,I l4_4, .tsl 2 (mDg l4_5) 600])]⟩ krf (sim_bind (fun (j8_1,j8_2,j8_3,j8_4,j8_5,j8_6,j8_7,j8_8,j8_9,j8_10)=>⟨[qq 1,(3, .tsl 5 (mI l4_1) 32),qq 4,(5,B j8_1)],[(1, .box 68 [pZ0]),(4, .box 24 (bxc (GN.cs ⟨j8_6,j8_7,j8_8,j8_9,j8_10⟩))),(32,amI24 l4_1),(600,amDg67 j8_5),(1000, .box 70 [.p (.sl 4 (mTk j8_2)),I j8_3,I j8_4, .tsl 2 (mDg j8_5) 600])]⟩:(Bool × (List GTk) × Int × Int × (List GDg) × Int × (List UInt8) × Int × Int × (List (List PV)))→St) ?_ ?_))))
      ·refine sG (xR 2 krf (xs_enter (f:=71) (args:=[pZ0, .fn (.func 72) [] [.ptr 1 0, .ptr 4 0]]) krf krf krf ?_))
       refine sc_inlineD (hc:=[(1000, .box 68 [pZ3]),(1001, .box 24 zN),(1002,amDg67 l4_5),(1003, .box 70 [.p (.sl 4 (mTk l4_2)),I l4_3,I l4_4, .tsl 2 (mDg l4_5) 1002])]) (args':=[pZ3, .fn (.func 72) [] [pZ0,pZ1]]) [(1000,1),(1001,4),(1002,600),(1003,1000)] [] [] (⟨_,_,_,_,_,_,[2,4,5],6,_,rfl,rfl,rfl,rfl,rfl,rfl,rfl,rfl,by decide⟩:Deferrer2 Tryz.f71 91) [(2,1900),(4,1901),(5,1902)] Tryz.func71 Tryz.ntmps71 krf krf krf krf krf tfm rfl krf krf ?_
       refine sP ⟨[1,4,5],[1000,1001,1002,1003,1900,1901,1902],[],[]⟩ ⟨[(1, .fn (.func 72) [] [pZ0,pZ1]),(4, .ptr 1901 0),(5, .ptr 1902 0)],[(1000, .box 68 [pZ3]),(1001, .box 24 zN),(1002,amDg67 l4_5),(1003, .box 70 [.p (.sl 4 (mTk l4_2)),I l4_3,I l4_4, .tsl 2 (mDg l4_5) 1002]),(1900, .box 68 [pZ3]),(1901, .box 4 [B false]),(1902, .box 9 [S []])]⟩ krf (sS (sG (xR 1 krf (xs_inline [(1000, .box 68 [pZ3]),(1001, .box 24 zN),(1002,amDg67 l4_5),(1003, .box 70 [.p (.sl 4 (mTk l4_2)),I l4_3,I l4_4, .tsl 2 (mDg l4_5) 1002])] [pZ0,pZ1] [(1000,1000),(1001,1001),(1002,1002),(1003,1003)] [] [] krf Tryz.func72 rfl Tryz.ntmps72 rfl krf krf krf (sG (xR 1 krf ?_))))))
       refine xs_heapE [(1000,1003),(1103,1002)] [] [] krf (g_r_item_ok n (⟨l4_2,l4_3,l4_4,l4_5⟩:GPr)) krf krf krf kff kff kff kff (fun r9=>?_) (fun e10=>?_)
       ·refine xR 1 krf (xE (iq_n (.id) [1000,1001,1002,1003] [] (.tup []) krf krf (kr0 (xE (sN ⟨[4,5],[1000,1001,1002,1003,1900,1901,1902],[],[]⟩ ⟨[(4, .ptr 1901 0),(5, .ptr 1902 0)],[(1000, .box 68 [pZ3]),(1001,bGN24 r9.1),(1002,amDg67 r9.2.dg),(1003, .box 70 [.p (.sl 4 (mTk r9.2.tks)),I r9.2.pos,I r9.2.length, .tsl 2 (mDg r9.2.dg) 1002]),(1900, .box 68 [pZ3]),(1901, .box 4 [B false]),(1902, .box 9 [S []])]⟩ krf (sR tfm ⟨[4,5],[1000,1001,1002,1003,1900,1901,1902],[],[]⟩ ⟨[(4, .ptr 1901 0),(5, .ptr 1902 0)],[(1000, .box 68 [pZ3]),(1001,bGN24 r9.1),(1002,amDg67 r9.2.dg),(1003, .box 70 [.p (.sl 4 (mTk r9.2.tks)),I r9.2.pos,I r9.2.length, .tsl 2 (mDg r9.2.dg) 1002]),(1900, .box 68 [pZ3]),(1901, .box 4 [B true]),(1902, .box 9 [S []])]⟩ krf (sT ?_)))))))
        refine dI_end (⟨Tryz.f91,_,_,_,6,3,_,_,Tryz.func91,rfl,rfl,rfl,rfl,rfl,rfl,rfl,by decide,by decide⟩:Recoverer Tryz.prog 91) [(1000,1002),(1001,1003),(1002,1900),(1003,1901),(1004,1902)] [(1000,amDg67 r9.2.dg),(1001, .box 70 [.p (.sl 4 (mTk r9.2.tks)),I r9.2.pos,I r9.2.length, .tsl 2 (mDg r9.2.dg) 1000]),(1002, .box 68 [pZ1]),(1003, .box 4 [B true]),(1004, .box 9 [S []])] (.p (.val (.nilIface))) [pZ2,pZ3, .ptr 1004 0] [] rfl krf krf krf krf ?_
        refine sS (sR tfm ⟨[0,1,2,3,8],[1000,1001,1002,1003,1004],[],[]⟩ ⟨[(0,pZ2),(1,pZ3),(2, .ptr 1004 0),(3, .p (.val (.nilIface))),(8,B true)],[(1000,amDg67 r9.2.dg),(1001, .box 70 [.p (.sl 4 (mTk r9.2.tks)),I r9.2.pos,I r9.2.length, .tsl 2 (mDg r9.2.dg) 1000]),(1002, .box 68 [pZ1]),(1003, .box 4 [B true]),(1004, .box 9 [S []])]⟩ krf (sim_condT krf (sT (sq_r (cl_ret [1000,1001,1002,1003,1004] [] krf krf (iq_ret (.id) [1000,1001,1002,1003] [] (.tup [B true,S []]) krf krf (kr0 ?_)))))))
        refine xR 5 krf (xE ?_)
        exact nq_n (true,r9.2.tks,r9.2.pos,r9.2.length,r9.2.dg,r9.1.Kind,r9.1.Name,r9.1.N,r9.1.At,r9.1.Kids) ⟨[1,3,4,5],[1,4,32,600,1000],[],[]⟩ krf
       ·refine iq_p [1000,1001,1002,1003] [] krf (sq_p ?_)
        refine dI_end (⟨Tryz.f91,_,_,_,6,3,_,_,Tryz.func91,rfl,rfl,rfl,rfl,rfl,rfl,rfl,by decide,by decide⟩:Recoverer Tryz.prog 91) [(1000,1002),(1001,1003),(1002,1900),(1003,1901),(1004,1902)] [(1000,amDg67 e10.2.dg),(1001, .box 70 [.p (.sl 4 (mTk e10.2.tks)),I e10.2.pos,I e10.2.length, .tsl 2 (mDg e10.2.dg) 1000]),(1002, .box 68 [pZ1]),(1003, .box 4 [B false]),(1004, .box 9 [S []])] (.ifc 105 (.agg [I e10.1])) [pZ2,pZ3, .ptr 1004 0] [] rfl krf krf krf krf ?_
        refine sS (sR tfm ⟨[0,1,2,3,8],[1000,1001,1002,1003,1004],[],[]⟩ ⟨[(0,pZ2),(1,pZ3),(2, .ptr 1004 0),(3, .ifc 105 (.agg [I e10.1])),(8,B false)],[(1000,amDg67 e10.2.dg),(1001, .box 70 [.p (.sl 4 (mTk e10.2.tks)),I e10.2.pos,I e10.2.length, .tsl 2 (mDg e10.2.dg) 1000]),(1002, .box 68 [pZ1]),(1003, .box 4 [B false]),(1004, .box 9 [S []])]⟩ krf (sim_condF krf (sK (sN ⟨[0,1,2,3],[1000,1001,1002,1003,1004],[],[]⟩ ⟨[(0,pZ2),(1,pZ3),(2, .ptr 1004 0),(3, .ifc 105 (.agg [I e10.1]))],[(1000,amDg67 e10.2.dg),(1001, .box 70 [.p (.sl 4 (mTk e10.2.tks)),I e10.2.pos,I e10.2.length, .tsl 2 (mDg e10.2.dg) 1000]),(1002, .box 68 [pZ1]),(1003, .box 4 [B false]),(1004, .box 9 [S []])]⟩ krf (sR tfm ⟨[0,1,2,3,4,5],[4,1000,1001,1002,1003,1004],[],[]⟩ ⟨[(0,pZ2),(1,pZ3),(2, .ptr 1004 0),(3, .ifc 105 (.agg [I e10.1])),qq 4,(5,B true)],[(4, .box 105 [I e10.1]),(1000,amDg67 e10.2.dg),(1001, .box 70 [.p (.sl 4 (mTk e10.2.tks)),I e10.2.pos,I e10.2.length, .tsl 2 (mDg e10.2.dg) 1000]),(1002, .box 68 [pZ1]),(1003, .box 4 [B false]),(1004, .box 9 [S []])]⟩ krf (sS (sR tfm ⟨[0,1,2,3,4,15],[4,1000,1001,1002,1003,1004],[],[]⟩ ⟨[(0,pZ2),(1,pZ3),(2, .ptr 1004 0),(3, .ifc 105 (.agg [I e10.1])),qq 4,(15,B false)],[(4, .box 105 [I e10.1]),(1000,amDg67 e10.2.dg),(1001, .box 70 [.p (.sl 4 (mTk e10.2.tks)),I e10.2.pos,I e10.2.length, .tsl 2 (mDg e10.2.dg) 1000]),(1002, .box 68 [pZ1]),(1003, .box 4 [B false]),(1004, .box 9 [S []])]⟩ krf ?_)))))))
        refine sim_condF krf (sK (sN ⟨[0,1,2,4],[4,1000,1001,1002,1003,1004],[],[]⟩ ⟨[(0,pZ2),(1,pZ3),(2, .ptr 1004 0),qq 4],[(4, .box 105 [I e10.1]),(1000,amDg67 e10.2.dg),(1001, .box 70 [.p (.sl 4 (mTk e10.2.tks)),I e10.2.pos,I e10.2.length, .tsl 2 (mDg e10.2.dg) 1000]),(1002, .box 68 [pZ1]),(1003, .box 4 [B false]),(1004, .box 9 [S []])]⟩ krf (sS (sim_drw tfm rfl (xR 9 krf (xF krf krf (aop_app (e:=67) (S:=2) (by_:=16) (enc:=GDg.cs) (tk:=1000) (l:=e10.2.dg) (l2:=[(⟨7,e10.1⟩:GDg)]) (xv:=.tsl 2 (mDg [(⟨7,e10.1⟩:GDg)]) 25) rfl krf krf rfl krf krf krf rfl krf) (xR 3 krf ?_)))))))
        refine xs_endD krf (sN ⟨[0,1,2],[1000,1001,1002,1003,1004],[],[]⟩ ⟨[(0,pZ2),(1,pZ3),(2, .ptr 1004 0)],[(1000,amDg67 (e10.2.dg++[(⟨7,e10.1⟩:GDg)])),(1001, .box 70 [.p (.sl 4 (mTk e10.2.tks)),I e10.2.pos,I e10.2.length, .tsl 2 (mDg (e10.2.dg++[(⟨7,e10.1⟩:GDg)])) 1000]),(1002, .box 68 [pZ1]),(1003, .box 4 [B false]),(1004, .box 9 [S []])]⟩ krf (sG (xR 1 krf (xs_enter (f:=92) (args:=[pZ1]) krf krf krf ?_))))
        refine sc_hold 1001 3 1000 67 2 (mDg (e10.2.dg++[(⟨7,e10.1⟩:GDg)])).length (mDg (e10.2.dg++[(⟨7,e10.1⟩:GDg)])) ⟨[0,1,2,29],[1001,1002,1003,1004],[],[]⟩ krf krf rfl (fun _ _ _=>by kernel_rfl) (fun hu11w hu11l hu11c=>?_)
        refine sc_heap [(1000,1001)] [] [] (g_r_skip_ok n (⟨e10.2.tks,e10.2.pos,e10.2.length,[]⟩:GPr) hu11w hu11l hu11c) krf krf krf kff kff (fun r11=>?_)
        refine k_hold _ rfl krf krf (kr0 (xR 2 krf (xE (cl_n [1000,1001,1002,1003,1004] [] krf krf (iq_ret (.id) [1000,1001,1002,1003] [] (.tup [B false,S r11.1]) krf krf (kr0 (xR 5 krf ?_)))))))
        refine xE ?_
        exact nq_n (false,r11.2.tks,r11.2.pos,r11.2.length,e10.2.dg++[(⟨7,e10.1⟩:GDg)],0,[],0,0,[]) ⟨[1,3,4,5],[1,4,32,600,1000],[],[(4,[.id, .id, .id, .id, .sl 5])]⟩ krf
      ·rintro ⟨j8_1,j8_2,j8_3,j8_4,j8_5,j8_6,j8_7,j8_8,j8_9,j8_10⟩
       refine sR tfm ⟨[1,3,4,28],[1,4,32,600,1000],[],[]⟩ ⟨[qq 1,(3, .tsl 5 (mI l4_1) 32),qq 4,(28,B j8_1)],[(1, .box 68 [pZ0]),(4, .box 24 (bxc (GN.cs ⟨j8_6,j8_7,j8_8,j8_9,j8_10⟩))),(32,amI24 l4_1),(600,amDg67 j8_5),(1000, .box 70 [.p (.sl 4 (mTk j8_2)),I j8_3,I j8_4, .tsl 2 (mDg j8_5) 600])]⟩ krf (sC j8_1 krf ?_ ?_)
       ·refine sG (xR 3 krf (xF krf krf (aop_app (e:=24) (S:=5) (by_:=64) (enc:=idc) (tk:=32) (l:=l4_1) (l2:=[GN.cs (⟨j8_6,j8_7,j8_8,j8_9,j8_10⟩:GN)]) (xv:=.tsl 5 (mI [GN.cs (⟨j8_6,j8_7,j8_8,j8_9,j8_10⟩:GN)]) 31) rfl krf krf rfl krf krf krf rfl krf) (xR 1 krf (xE (bq_n ?_)))))
        exact kq_n (l4_1++[GN.cs (⟨j8_6,j8_7,j8_8,j8_9,j8_10⟩:GN)],j8_2,j8_3,j8_4,j8_5) ⟨[1,3],[1,32,600,1000],[],[]⟩ krf
       ·refine sK (bq_n ?_)
        exact kq_n (l4_1,j8_2,j8_3,j8_4,j8_5) ⟨[1,3],[1,32,600,1000],[],[]⟩ krf
     ·refine sim_exit (sq_x (kq_x (bq_hit ?_)))
      exact nq_n (l4_1,l4_2,l4_3,l4_4,l4_5) ⟨[3],[32,600,1000],[],[]⟩ krf
   ·rintro ⟨j3_1,j3_2,j3_3,j3_4,j3_5⟩
    refine sR tfm ⟨[2],[32,600,1000],[],[]⟩ ⟨[(2, .tsl 5 (mI j3_1) 32)],[(32,amI24 j3_1),(600,amDg67 j3_5),(1000, .box 70 [.p (.sl 4 (mTk j3_2)),I j3_3,I j3_4, .tsl 2 (mDg j3_5) 600])]⟩ krf (sT (iq_ret (.sl 5) [600,1000] [] (.p (.sl 5 (mI j3_1))) krf krf (kh [0,1] krf (lates_cons (late_read (.ptr 11 4) krf rfl) (lates_cons (late_tsl (S:=5) (t:=600) (ty:=24) (es:=mI []) krf krf rfl) (lates_nil))) krf (h_if [] rfl krf krf (aop_appL (e:=24) (S:=5) (by_:=64) (enc:=idc) (tk:=600) (l:=[]) (l2:=j3_1) (xv:=.p (.sl 5 (mI j3_1))) rfl krf krf rfl krf krf krf krf) (fun _=>lates_nil) (h_op [] krf krf (lates_nil) (h_op [] krf krf (lates_nil) (h_end ?_)))))))
    refine bq_n (sN ⟨[10,11,20,21,22],[10,11,600,637,1000,1001],[],[]⟩ ⟨[qq 10,qq 11,(20, .bsl 1001 1),(21,I 1),(22,I 0)],[(10, .box 24 zN),(11, .box 24 [I 1,S [],I 0,I 0, .tsl 5 (mI ([]++j3_1)) 600]),(600,amI24 ([]++j3_1)),(637,amDg67 j3_5),(1000, .box 70 [.p (.sl 4 (mTk j3_2)),I j3_3,I j3_4, .tsl 2 (mDg j3_5) 637]),(1001, .box 72 [.fn (.func 41) [pZ0] []])]⟩ krf (sL tfm krf (ru_n ⟨[10,11,20,21,22],[10,11,600,637,1000,1001],[],[]⟩ ⟨[qq 10,qq 11,(20, .bsl 1001 1),(21,I 1),(22,I 1)],[(10, .box 24 zN),(11, .box 24 [I 1,S [],I 0,I 0, .tsl 5 (mI ([]++j3_1)) 600]),(600,amI24 ([]++j3_1)),(637,amDg67 j3_5),(1000, .box 70 [.p (.sl 4 (mTk j3_2)),I j3_3,I j3_4, .tsl 2 (mDg j3_5) 637]),(1001, .box 72 [.fn (.func 41) [pZ0] []])]⟩ krf (sR tfm ⟨[10,11,20,21,22,23],[10,11,600,637,1000,1001],[],[]⟩ ⟨[qq 10,qq 11,(20, .bsl 1001 1),(21,I 1),(22,I 1),(23,B false)],[(10, .box 24 zN),(11, .box 24 [I 1,S [],I 0,I 0, .tsl 5 (mI ([]++j3_1)) 600]),(600,amI24 ([]++j3_1)),(637,amDg67 j3_5),(1000, .box 70 [.p (.sl 4 (mTk j3_2)),I j3_3,I j3_4, .tsl 2 (mDg j3_5) 637]),(1001, .box 72 [.fn (.func 41) [pZ0] []])]⟩ krf (sS (sim_condF krf (sim_exit ?_)))))))
    refine sq_x (ru_x (bq_hit ?_))
    exact nq_n ([]++j3_1,j3_2,j3_3,j3_4,j3_5) ⟨[10,11],[10,11,600,637,1000,1001],[],[]⟩ krf
  ·rintro ⟨j2_1,j2_2,j2_3,j2_4,j2_5⟩
   refine sR tfm ⟨[10],[10,600,637,1000,1001],[],[]⟩ ⟨[qq 10],[(10, .box 24 [I 1,S [],I 0,I 0, .tsl 5 (mI j2_1) 600]),(600,amI24 j2_1),(637,amDg67 j2_5),(1000, .box 70 [.p (.sl 4 (mTk j2_2)),I j2_3,I j2_4, .tsl 2 (mDg j2_5) 637]),(1001, .box 72 [.fn (.func 41) [pZ0] []])]⟩ krf (sT (iq_ret (.agg [.id, .id, .id, .id, .sl 5]) [637,1000,1001] [] (.agg [I 1,S [],I 0,I 0, .p (.sl 5 (mI j2_1))]) krf krf (kr0 (xR 2 krf (xE (sN ⟨[2,7,8],[2,8,26,637],[],[]⟩ ⟨[qq 2,(7, .ptr 26 0),qq 8],[(2, .box 24 zN),(8, .box 24 (bxc (GN.cs ⟨1,[],0,0,j2_1⟩))),(26, .box 70 [.p (.sl 4 (mTk j2_2)),I j2_3,I j2_4, .tsl 2 (mDg j2_5) 637]),(637,amDg67 j2_5)]⟩ krf (sS ?_)))))))
   refine sR tfm ⟨[2,7,8,37],[2,8,26,637],[],[]⟩ ⟨[qq 2,(7, .ptr 26 0),qq 8,(37,B (ltI 0 (lenI (mDg j2_5))))],[(2, .box 24 zN),(8, .box 24 (bxc (GN.cs ⟨1,[],0,0,j2_1⟩))),(26, .box 70 [.p (.sl 4 (mTk j2_2)),I j2_3,I j2_4, .tsl 2 (mDg j2_5) 637]),(637,amDg67 j2_5)]⟩ krf (sC (ltI 0 (lenI (mDg j2_5))) krf ?_ ?_)
   ·refine sR tfm ⟨[2,3],[2,637],[],[]⟩ ⟨[qq 2,(3, .tsl 2 (mDg j2_5) 637)],[(2, .box 24 zN),(637,amDg67 j2_5)]⟩ krf (sT (sq_r ?_))
    exact qR (.agg [.agg [.id, .id, .id, .id, .sl 5], .sl 2]) krf krf krf
   ·refine sK (sN ⟨[2,8],[2,8],[],[]⟩ ⟨[qq 2,qq 8],[(2, .box 24 zN),(8, .box 24 (bxc (GN.cs ⟨1,[],0,0,j2_1⟩)))]⟩ krf (sS (sS (sG (xR 1 krf ?_)))))
    refine xC [] krf (g_p_count_ok n (⟨1,[],0,0,j2_1⟩:GN) 1500) krf krf kff (fun r12=>?_)
    refine xR 1 krf (xE (sN ⟨[2,8,45],[2,8],[],[]⟩ ⟨[qq 2,qq 8,(45,B (ltI 1500 r12))],[(2, .box 24 zN),(8, .box 24 (bxc (GN.cs ⟨1,[],0,0,j2_1⟩)))]⟩ krf (sC (ltI 1500 r12) krf ?_ ?_)))
    ·refine sR tfm ⟨[2,3],[2,48],[],[]⟩ ⟨[qq 2,(3, .tsl 2 (mDg [(⟨2,0⟩:GDg)]) 48)],[(2, .box 24 zN),(48,amDg67 [(⟨2,0⟩:GDg)])]⟩ krf (sT (sq_r ?_))
     exact qR (.agg [.agg [.id, .id, .id, .id, .sl 5], .sl 2]) krf krf krf
    ·refine sK (sN ⟨[2,8],[2,8],[],[]⟩ ⟨[qq 2,qq 8],[(2, .box 24 zN),(8, .box 24 (bxc (GN.cs ⟨1,[],0,0,j2_1⟩)))]⟩ krf (sR tfm ⟨[2,3],[2],[],[]⟩ ⟨[qq 2,(3,zS)],[(2, .box 24 (bxc (GN.cs ⟨1,[],0,0,j2_1⟩)))]⟩ krf (sT ?_)))
     exact qR (.agg [.id, .sl 2]) krf krf krf
def g_p_goodWord_l7 (a0text:List UInt8) (recl7:Int→Option Bool) (l7:Int):Option Bool :=
 cond (ltI l7 (lenI a0text))
  ((getI a0text l7).bind fun x8 =>
  (cond (leI 97 (b2i x8))
   (cond (leI (b2i x8) 122)
    (some false)
    (cond (leI 48 (b2i x8))
     (cond (leI (b2i x8) 57)
      (some false)
      (some (!(eqI (b2i x8) 95))))
     (some (!(eqI (b2i x8) 95)))))
   (cond (leI 48 (b2i x8))
    (cond (leI (b2i x8) 57)
     (some false)
     (some (!(eqI (b2i x8) 95))))
    (some (!(eqI (b2i x8) 95))))).bind fun j9 =>
  cond j9
   (some false)
   (recl7 (wi (l7+1))))
  (some true)
def g_p_goodWord (n:Nat) (a0text:List UInt8):Option Bool :=
 (cond (ltI (lenI a0text) 1)
  (some true)
  (cond (ltI 12 (lenI a0text))
   (some true)
   ((getI a0text 0).bind fun x4 =>
   cond (ltI (b2i x4) 97)
    (some true)
    ((getI a0text 0).bind fun x6 =>
    some (ltI 122 (b2i x6)))))).bind fun j1 =>
 cond j1
  (some false)
  (loopN (fun recl7 l7=>g_p_goodWord_l7 a0text recl7 l7) n 1)
theorem g_p_goodWord_ok (n:Nat) (a0text:List UInt8):∀ r,g_p_goodWord n a0text=some r→PCall Tryz.prog 108 [S a0text] (.ret (B r)):=by
 refine pcall_sim (X:=fun r:Bool=>AEnd.ret (B r)) Tryz.func108 rfl Tryz.ntmps108 rfl ?_
 unfold g_p_goodWord
 refine sR tfm ⟨[0],[],[],[]⟩ ⟨[(0,S a0text)],[]⟩ krf (sS (sim_bind (fun j1=>⟨[(0,S a0text),(22,B j1)],[]⟩:Bool→St) ?_ ?_))
 ·refine sG (xR 4 krf ?_)
  refine xS (ltI (lenI a0text) 1) (fun h2=>?_) (fun h2=>?_)
  ·refine xN (want_ft krf h2) krf (xR 13 krf (xE ?_))
   exact nq_n true ⟨[0,22],[],[],[]⟩ krf
  ·refine xO (want_ff krf h2) krf (xR 4 krf ?_)
   refine xS (ltI 12 (lenI a0text)) (fun h3=>?_) (fun h3=>?_)
   ·refine xN (want_ft krf h3) krf (xR 8 krf (xE ?_))
    exact nq_n true ⟨[0,22],[],[],[]⟩ krf
   ·refine xO (want_ff krf h3) krf ?_
    refine xG krf krf (aop_sidx (l:=a0text) (k:=.i64) (n:=0) rfl krf krf krf) (fun x4=>?_)
    refine xR 3 krf ?_
    refine xS (ltI (b2i x4) 97) (fun h5=>?_) (fun h5=>?_)
    ·refine xN (want_ft krf h5) krf (xR 3 krf (xE ?_))
     exact nq_n true ⟨[0,22],[],[],[]⟩ krf
    ·refine xO (want_ff krf h5) krf ?_
     refine xG krf krf (aop_sidx (l:=a0text) (k:=.i64) (n:=0) rfl krf krf krf) (fun x6=>?_)
     refine xR 2 krf (xE ?_)
     exact nq_n (ltI 122 (b2i x6)) ⟨[0,22],[],[],[]⟩ krf
 ·rintro j1
  refine sC j1 krf ?_ ?_
  ·refine sR tfm ⟨[2],[],[],[]⟩ ⟨[(2,B false)],[]⟩ krf (sT (sq_r ?_))
   exact qR (.id) krf krf krf
  ·refine sK (sN ⟨[0],[],[],[]⟩ ⟨[(0,S a0text)],[]⟩ krf (sS (sR tfm ⟨[0,3],[],[],[]⟩ ⟨[(0,S a0text),(3,I 1)],[]⟩ krf (sB (sim_loop (fun l7=>⟨[(0,S a0text),(3,I l7)],[]⟩:Int→St) (weak_shr (K:=⟨[0,3],[],[],[]⟩) krf) ?_)))))
   rintro recl7 l7
   show SimE (g_p_goodWord_l7 a0text recl7 l7) _ _ _ _ _ _
   unfold g_p_goodWord_l7
   refine sS (sR tfm ⟨[0,3,26],[],[],[]⟩ ⟨[(0,S a0text),(3,I l7),(26,B (ltI l7 (lenI a0text)))],[]⟩ krf (sC (ltI l7 (lenI a0text)) krf ?_ ?_))
   ·refine sK (sN ⟨[0,3],[],[],[]⟩ ⟨[(0,S a0text),(3,I l7)],[]⟩ krf (sS (sB (sS (sG (xR 2 krf ?_))))))
    refine xG krf krf (aop_sidx (l:=a0text) (k:=.i64) (n:=l7) rfl krf krf krf) (fun x8=>?_)
    refine xR 1 krf (xE (sN ⟨[0,3,4],[],[],[]⟩ ⟨[(0,S a0text),(3,I l7),(4,B8 (b2i x8))],[]⟩ krf (sim_bind (fun j9=>⟨[(0,S a0text),(3,I l7),(50,B j9)],[]⟩:Bool→St) ?_ ?_)))
    ·refine sG (xR 3 krf ?_)
     refine xS (leI 97 (b2i x8)) (fun h10=>?_) (fun h10=>?_)
     ·refine xO (want_tt krf h10) krf (xR 3 krf ?_)
      refine xS (leI (b2i x8) 122) (fun h11=>?_) (fun h11=>?_)
      ·refine xN (want_ft krf h11) krf (xR 11 krf (xE ?_))
       exact nq_n false ⟨[0,3,50],[],[],[]⟩ krf
      ·refine xO (want_ff krf h11) krf (xR 2 krf ?_)
       refine xS (leI 48 (b2i x8)) (fun h12=>?_) (fun h12=>?_)
       ·refine xO (want_tt krf h12) krf (xR 4 krf ?_)
        refine xS (leI (b2i x8) 57) (fun h13=>?_) (fun h13=>?_)
        ·refine xN (want_ft krf h13) krf (xR 3 krf (xE ?_))
         exact nq_n false ⟨[0,3,50],[],[],[]⟩ krf
        ·refine xO (want_ff krf h13) krf (xR 3 krf (xE ?_))
         exact nq_n (!(eqI (b2i x8) 95)) ⟨[0,3,50],[],[],[]⟩ krf
       ·refine xN (want_tf krf h12) krf (xR 8 krf (xE ?_))
        exact nq_n (!(eqI (b2i x8) 95)) ⟨[0,3,50],[],[],[]⟩ krf
     ·refine xN (want_tf krf h10) krf (xR 6 krf ?_)
      refine xS (leI 48 (b2i x8)) (fun h14=>?_) (fun h14=>?_)
      ·refine xO (want_tt krf h14) krf (xR 4 krf ?_)
       refine xS (leI (b2i x8) 57) (fun h15=>?_) (fun h15=>?_)
       ·refine xN (want_ft krf h15) krf (xR 3 krf (xE ?_))
        exact nq_n false ⟨[0,3,50],[],[],[]⟩ krf
       ·refine xO (want_ff krf h15) krf (xR 3 krf (xE ?_))
        exact nq_n (!(eqI (b2i x8) 95)) ⟨[0,3,50],[],[],[]⟩ krf
      ·refine xN (want_tf krf h14) krf (xR 8 krf (xE ?_))
       exact nq_n (!(eqI (b2i x8) 95)) ⟨[0,3,50],[],[],[]⟩ krf
    ·rintro j9
     refine sC j9 krf ?_ ?_
     ·refine sR tfm ⟨[2],[],[],[]⟩ ⟨[(2,B false)],[]⟩ krf (sT (bq_r (sq_r (kq_r (bq_r (sq_r ?_))))))
      exact qR (.id) krf krf krf
     ·refine sK (bq_n (sN ⟨[0,3],[],[],[]⟩ ⟨[(0,S a0text),(3,I l7)],[]⟩ krf (sL tfm krf ?_)))
      exact kq_n (wi (l7+1)) ⟨[0,3],[],[],[]⟩ krf
   ·refine sim_exit (sq_x (kq_x (bq_hit (sN ⟨[],[],[],[]⟩ ⟨[],[]⟩ krf (sR tfm ⟨[2],[],[],[]⟩ ⟨[(2,B true)],[]⟩ krf (sT ?_))))))
    exact qR (.id) krf krf krf
def g_p_goodName (n:Nat) (a0text:List UInt8):Option Bool :=
 (g_p_goodWord n a0text).bind fun r1 =>
 cond r1
  ((g_p_isKey n a0text).bind fun r3 =>
  some (!r3))
  (some false)
theorem g_p_goodName_ok (n:Nat) (a0text:List UInt8):∀ r,g_p_goodName n a0text=some r→PCall Tryz.prog 76 [S a0text] (.ret (B r)):=by
 refine pcall_sim (X:=fun r:Bool=>AEnd.ret (B r)) Tryz.func76 rfl Tryz.ntmps76 rfl ?_
 unfold g_p_goodName
 refine sR tfm ⟨[0],[],[],[]⟩ ⟨[(0,S a0text)],[]⟩ krf (sS (sG (xR 1 krf ?_)))
 refine xC [] krf (g_p_goodWord_ok n a0text) krf krf kff (fun r1=>?_)
 refine xR 1 krf ?_
 refine xS r1 (fun h2=>?_) (fun h2=>?_)
 ·refine xO (want_tt krf h2) krf ?_
  refine xC [] krf (g_p_isKey_ok n a0text) krf krf kff (fun r3=>?_)
  refine xR 3 krf (xE (sN ⟨[2],[],[],[]⟩ ⟨[(2,B (!r3))],[]⟩ krf (sT ?_)))
  exact qR (.id) krf krf krf
 ·refine xN (want_tf krf h2) krf (xR 4 krf (xE (sN ⟨[2],[],[],[]⟩ ⟨[(2,B false)],[]⟩ krf (sT ?_))))
  exact qR (.id) krf krf krf
def g_p_validValue (n:Nat) (a0n:GN) (a1words:Bool):Option Bool :=
 cond (!eqI (lenI (List.map idc a0n.Kids)) 0)
  (some false)
  (cond (eqI a0n.Kind 5)
   (cond (eqI a0n.N 0)
    ((g_p_goodName n a0n.Name).bind fun r2 =>
    cond r2
     (some true)
     (cond a1words
      ((g_p_isWord n a0n.Name).bind fun r5 =>
      some r5)
      (some false)))
    (some false))
   (cond (eqI a0n.Kind 6)
    (cond (eqS a0n.Name [])
     (cond (leI 0 a0n.N)
      (some (leI a0n.N 1000000))
      (some false))
     (some false))
    (some false)))
theorem g_p_validValue_ok (n:Nat) (a0n:GN) (a1words:Bool):∀ r,g_p_validValue n a0n a1words=some r→PCall Tryz.prog 112 [ag (GN.cs a0n),B a1words] (.ret (B r)):=by
 refine pcall_sim (X:=fun r:Bool=>AEnd.ret (B r)) Tryz.func112 rfl Tryz.ntmps112 rfl ?_
 unfold g_p_validValue
 refine sR tfm ⟨[1,2],[2],[],[]⟩ ⟨[(1,B a1words),qq 2],[(2,bGN24 a0n)]⟩ krf (sS (sR tfm ⟨[1,2,8],[2],[],[]⟩ ⟨[(1,B a1words),qq 2,(8,B (!eqI (lenI (mI a0n.Kids)) 0))],[(2,bGN24 a0n)]⟩ krf (sC (!eqI (lenI (mI a0n.Kids)) 0) krf ?_ ?_)))
 ·refine sR tfm ⟨[4],[],[],[]⟩ ⟨[(4,B false)],[]⟩ krf (sT (sq_r ?_))
  exact qR (.id) krf krf krf
 ·refine sK (sN ⟨[1,2],[2],[],[]⟩ ⟨[(1,B a1words),qq 2],[(2,bGN24 a0n)]⟩ krf (sS (sR tfm ⟨[1,2,10],[2],[],[]⟩ ⟨[(1,B a1words),qq 2,(10,I a0n.Kind)],[(2,bGN24 a0n)]⟩ krf (sB (sR tfm ⟨[1,2,10,11],[2],[],[]⟩ ⟨[(1,B a1words),qq 2,(10,I a0n.Kind),(11,B (eqI a0n.Kind 5))],[(2,bGN24 a0n)]⟩ krf (sC (eqI a0n.Kind 5) krf ?_ ?_))))))
  ·refine sS (sG (xR 4 krf ?_))
   refine xS (eqI a0n.N 0) (fun h1=>?_) (fun h1=>?_)
   ·refine xO (want_tt krf h1) krf (xR 1 krf ?_)
    refine xC [] krf (g_p_goodName_ok n a0n.Name) krf krf kff (fun r2=>?_)
    refine xR 1 krf ?_
    refine xS r2 (fun h3=>?_) (fun h3=>?_)
    ·refine xN (want_ft krf h3) krf (xR 8 krf (xE (sN ⟨[4],[],[],[]⟩ ⟨[(4,B true)],[]⟩ krf (sT (bq_r (sq_r ?_))))))
     exact qR (.id) krf krf krf
    ·refine xO (want_ff krf h3) krf (xR 1 krf ?_)
     refine xS a1words (fun h4=>?_) (fun h4=>?_)
     ·refine xO (want_tt krf h4) krf (xR 1 krf ?_)
      refine xC [] krf (g_p_isWord_ok n a0n.Name) krf krf kff (fun r5=>?_)
      refine xR 4 krf (xE (sN ⟨[4],[],[],[]⟩ ⟨[(4,B r5)],[]⟩ krf (sT (bq_r (sq_r ?_)))))
      exact qR (.id) krf krf krf
     ·refine xN (want_tf krf h4) krf (xR 6 krf (xE (sN ⟨[4],[],[],[]⟩ ⟨[(4,B false)],[]⟩ krf (sT (bq_r (sq_r ?_))))))
      exact qR (.id) krf krf krf
   ·refine xN (want_tf krf h1) krf (xR 12 krf (xE (sN ⟨[4],[],[],[]⟩ ⟨[(4,B false)],[]⟩ krf (sT (bq_r (sq_r ?_))))))
    exact qR (.id) krf krf krf
  ·refine sR tfm ⟨[2,29],[2],[],[]⟩ ⟨[qq 2,(29,B (eqI a0n.Kind 6))],[(2,bGN24 a0n)]⟩ krf (sC (eqI a0n.Kind 6) krf ?_ ?_)
   ·refine sS (sG (xR 4 krf ?_))
    refine xS (eqS a0n.Name []) (fun h6=>?_) (fun h6=>?_)
    ·refine xO (want_tt krf h6) krf (xR 4 krf ?_)
     refine xS (leI 0 a0n.N) (fun h7=>?_) (fun h7=>?_)
     ·refine xO (want_tt krf h7) krf (xR 4 krf (xE (sN ⟨[4],[],[],[]⟩ ⟨[(4,B (leI a0n.N 1000000))],[]⟩ krf (sT (bq_r (sq_r ?_))))))
      exact qR (.id) krf krf krf
     ·refine xN (want_tf krf h7) krf (xR 4 krf (xE (sN ⟨[4],[],[],[]⟩ ⟨[(4,B false)],[]⟩ krf (sT (bq_r (sq_r ?_))))))
      exact qR (.id) krf krf krf
    ·refine xN (want_tf krf h6) krf (xR 9 krf (xE (sN ⟨[4],[],[],[]⟩ ⟨[(4,B false)],[]⟩ krf (sT (bq_r (sq_r ?_))))))
     exact qR (.id) krf krf krf
   ·refine sK (bq_n (sN ⟨[],[],[],[]⟩ ⟨[],[]⟩ krf (sR tfm ⟨[4],[],[],[]⟩ ⟨[(4,B false)],[]⟩ krf (sT ?_))))
    exact qR (.id) krf krf krf
def g_p_validPart_l9 (n:Nat) (a0n:GN) (a1left:Int) (recl9:Int→Option (Bool × Int)) (l9:Int):Option (Bool × Int) :=
 cond (ltI l9 (lenI (List.map idc a0n.Kids)))
  ((Option.bind (getI a0n.Kids l9) GN.of).bind fun x10 =>
  (g_p_validValue n x10 (eqI a0n.Kind 4)).bind fun r11 =>
  cond (!r11)
   (some (false,wi (a1left - (lenI (List.map idc a0n.Kids)))))
   (recl9 (wi (l9+1))))
  (some (true,wi (a1left - (lenI (List.map idc a0n.Kids)))))
def g_p_validPart (n:Nat) (a0n:GN) (a1left:Int):Option (Bool × Int) :=
 cond (!eqI a0n.N 0)
  (some (false,a1left))
  ((cond (eqI a0n.Kind 3)
   ((g_p_isAttr n a0n.Name).bind fun r3 =>
   some (!r3))
   (some false)).bind fun j1 =>
  cond j1
   (some (false,a1left))
   ((cond (eqI a0n.Kind 4)
    ((g_p_isArticle n a0n.Name).bind fun r6 =>
    some (!r6))
    (some false)).bind fun j4 =>
   cond j4
    (some (false,a1left))
    ((cond (!eqI a0n.Kind 3)
     (some (!eqI a0n.Kind 4))
     (some false)).bind fun j7 =>
    cond j7
     (some (false,a1left))
     (cond (ltI (wi (a1left - (lenI (List.map idc a0n.Kids)))) 0)
      (some (false,wi (a1left - (lenI (List.map idc a0n.Kids)))))
      (loopN (fun recl9 l9=>g_p_validPart_l9 n a0n a1left recl9 l9) n 0)))))
theorem g_p_validPart_ok (n:Nat) (a0n:GN) (a1left:Int):∀ r,g_p_validPart n a0n a1left=some r→ACall Tryz.prog 77 [ag (GN.cs a0n),pZ1] (Go.Abs.look [(1001, .box 3 [I a1left])]) (heapR (fun r:Bool × Int=>((.ret (B r.1),[(1001, .box 3 [I r.2])]):AEnd × List (Nat × Blk))) r):=by
 refine acall_sim (X:=fun r:Bool × Int=>((.ret (B r.1),[(1001, .box 3 [I r.2])]):AEnd × List (Nat × Blk))) [(1001, .box 3 [I a1left])] Tryz.func77 rfl Tryz.ntmps77 rfl ?_
 unfold g_p_validPart
 refine sR tfm ⟨[1,2],[2,1001],[],[]⟩ ⟨[(1,pZ1),qq 2],[(2,bGN24 a0n),(1001, .box 3 [I a1left])]⟩ krf (sR tfm ⟨[1,2,5],[2,1001],[],[]⟩ ⟨[(1,pZ1),qq 2,(5,B (eqI a0n.Kind 4))],[(2,bGN24 a0n),(1001, .box 3 [I a1left])]⟩ krf (sS (sB (sR tfm ⟨[1,2,5,11],[2,1001],[],[]⟩ ⟨[(1,pZ1),qq 2,(5,B (eqI a0n.Kind 4)),(11,B (!eqI a0n.N 0))],[(2,bGN24 a0n),(1001, .box 3 [I a1left])]⟩ krf (sC (!eqI a0n.N 0) krf ?_ ?_)))))
 ·refine sR tfm ⟨[4],[1001],[],[]⟩ ⟨[(4,B false)],[(1001, .box 3 [I a1left])]⟩ krf (sT (bq_r (sq_r ?_)))
  exact hq_ret (.id) [1001] [] krf krf krf krf
 ·refine sim_bind (fun j1=>⟨[(1,pZ1),qq 2,(5,B (eqI a0n.Kind 4)),(15,B j1)],[(2,bGN24 a0n),(1001, .box 3 [I a1left])]⟩:Bool→St) ?_ ?_
  ·refine sG (xR 4 krf ?_)
   refine xS (eqI a0n.Kind 3) (fun h2=>?_) (fun h2=>?_)
   ·refine xO (want_tt krf h2) krf (xR 1 krf ?_)
    refine xC [] krf (g_p_isAttr_ok n a0n.Name) krf krf kff (fun r3=>?_)
    refine xR 3 krf (xE ?_)
    exact nq_n (!r3) ⟨[1,2,5,15],[2,1001],[],[]⟩ krf
   ·refine xN (want_tf krf h2) krf (xR 5 krf (xE ?_))
    exact nq_n false ⟨[1,2,5,15],[2,1001],[],[]⟩ krf
  ·rintro j1
   refine sC j1 krf ?_ ?_
   ·refine sR tfm ⟨[4],[1001],[],[]⟩ ⟨[(4,B false)],[(1001, .box 3 [I a1left])]⟩ krf (sT (bq_r (sq_r ?_)))
    exact hq_ret (.id) [1001] [] krf krf krf krf
   ·refine sim_bind (fun j4=>⟨[(1,pZ1),qq 2,(5,B (eqI a0n.Kind 4)),(25,B j4)],[(2,bGN24 a0n),(1001, .box 3 [I a1left])]⟩:Bool→St) ?_ ?_
    ·refine sG (xR 4 krf ?_)
     refine xS (eqI a0n.Kind 4) (fun h5=>?_) (fun h5=>?_)
     ·refine xO (want_tt krf h5) krf (xR 1 krf ?_)
      refine xC [] krf (g_p_isArticle_ok n a0n.Name) krf krf kff (fun r6=>?_)
      refine xR 3 krf (xE ?_)
      exact nq_n (!r6) ⟨[1,2,5,25],[2,1001],[],[]⟩ krf
     ·refine xN (want_tf krf h5) krf (xR 5 krf (xE ?_))
      exact nq_n false ⟨[1,2,5,25],[2,1001],[],[]⟩ krf
    ·rintro j4
     refine sC j4 krf ?_ ?_
     ·refine sR tfm ⟨[4],[1001],[],[]⟩ ⟨[(4,B false)],[(1001, .box 3 [I a1left])]⟩ krf (sT (bq_r (sq_r ?_)))
      exact hq_ret (.id) [1001] [] krf krf krf krf
     ·refine sim_bind (fun j7=>⟨[(1,pZ1),qq 2,(5,B (eqI a0n.Kind 4)),(35,B j7)],[(2,bGN24 a0n),(1001, .box 3 [I a1left])]⟩:Bool→St) ?_ ?_
      ·refine sG (xR 4 krf ?_)
       refine xS (!eqI a0n.Kind 3) (fun h8=>?_) (fun h8=>?_)
       ·refine xO (want_tt krf h8) krf (xR 4 krf (xE ?_))
        exact nq_n (!eqI a0n.Kind 4) ⟨[1,2,5,35],[2,1001],[],[]⟩ krf
       ·refine xN (want_tf krf h8) krf (xR 4 krf (xE ?_))
        exact nq_n false ⟨[1,2,5,35],[2,1001],[],[]⟩ krf
      ·rintro j7
       refine sC j7 krf ?_ ?_
       ·refine sR tfm ⟨[4],[1001],[],[]⟩ ⟨[(4,B false)],[(1001, .box 3 [I a1left])]⟩ krf (sT (bq_r (sq_r ?_)))
        exact hq_ret (.id) [1001] [] krf krf krf krf
       ·refine sK (bq_n (sN ⟨[1,2,5],[2,1001],[],[]⟩ ⟨[(1,pZ1),qq 2,(5,B (eqI a0n.Kind 4))],[(2,bGN24 a0n),(1001, .box 3 [I a1left])]⟩ krf (sR tfm ⟨[1,2,5],[2,1001],[],[]⟩ ⟨[(1,pZ1),qq 2,(5,B (eqI a0n.Kind 4))],[(2,bGN24 a0n),(1001, .box 3 [I (wi (a1left - (lenI (mI a0n.Kids))))])]⟩ krf (sS (sR tfm ⟨[2,5,55],[2,1001],[],[]⟩ ⟨[qq 2,(5,B (eqI a0n.Kind 4)),(55,B (ltI (wi (a1left - (lenI (mI a0n.Kids)))) 0))],[(2,bGN24 a0n),(1001, .box 3 [I (wi (a1left - (lenI (mI a0n.Kids))))])]⟩ krf (sC (ltI (wi (a1left - (lenI (mI a0n.Kids)))) 0) krf ?_ ?_))))))
        ·refine sR tfm ⟨[4],[1001],[],[]⟩ ⟨[(4,B false)],[(1001, .box 3 [I (wi (a1left - (lenI (mI a0n.Kids))))])]⟩ krf (sT (sq_r ?_))
         exact hq_ret (.id) [1001] [] krf krf krf krf
        ·refine sK (sN ⟨[2,5],[2,1001],[],[]⟩ ⟨[qq 2,(5,B (eqI a0n.Kind 4))],[(2,bGN24 a0n),(1001, .box 3 [I (wi (a1left - (lenI (mI a0n.Kids))))])]⟩ krf (sS (sR tfm ⟨[5,57,58,59],[1001],[],[]⟩ ⟨[(5,B (eqI a0n.Kind 4)),(57, .p (.sl 5 (mI a0n.Kids))),(58,I (lenI (mI a0n.Kids))),(59,I 0)],[(1001, .box 3 [I (wi (a1left - (lenI (mI a0n.Kids))))])]⟩ krf (sB (sim_loop (fun l9=>⟨[(5,B (eqI a0n.Kind 4)),(57, .p (.sl 5 (mI a0n.Kids))),(58,I (lenI (mI a0n.Kids))),(59,I l9)],[(1001, .box 3 [I (wi (a1left - (lenI (mI a0n.Kids))))])]⟩:Int→St) (weak_shr (K:=⟨[5,57,58,59],[1001],[],[]⟩) krf) ?_)))))
         rintro recl9 l9
         show SimE (g_p_validPart_l9 n a0n a1left recl9 l9) _ _ _ _ _ _
         unfold g_p_validPart_l9
         refine sR tfm ⟨[5,57,58,59,60],[1001],[],[]⟩ ⟨[(5,B (eqI a0n.Kind 4)),(57, .p (.sl 5 (mI a0n.Kids))),(58,I (lenI (mI a0n.Kids))),(59,I l9),(60,B (ltI l9 (lenI (mI a0n.Kids))))],[(1001, .box 3 [I (wi (a1left - (lenI (mI a0n.Kids))))])]⟩ krf (sS (sC (ltI l9 (lenI (mI a0n.Kids))) krf ?_ ?_))
         ·refine sK (sN ⟨[5,57,58,59],[1001],[],[]⟩ ⟨[(5,B (eqI a0n.Kind 4)),(57, .p (.sl 5 (mI a0n.Kids))),(58,I (lenI (mI a0n.Kids))),(59,I l9)],[(1001, .box 3 [I (wi (a1left - (lenI (mI a0n.Kids))))])]⟩ krf (sS (sB (sS (sG ?_)))))
          refine xG krf krf (aop_idxR (e:=24) (S:=5) (enc:=GN.cs) (dec:=GN.of) (l:=a0n.Kids) (k:=.i64) (n:=l9) (sv:=.p (.sl 5 (mI a0n.Kids))) GN.of_cs rfl krf krf krf krf krf) (fun x10=>?_)
          refine xR 3 krf (xE (sN ⟨[5,7,57,58,59],[7,1001],[],[]⟩ ⟨[(5,B (eqI a0n.Kind 4)),qq 7,(57, .p (.sl 5 (mI a0n.Kids))),(58,I (lenI (mI a0n.Kids))),(59,I l9)],[(7,bGN24 x10),(1001, .box 3 [I (wi (a1left - (lenI (mI a0n.Kids))))])]⟩ krf (sS (sG (xR 2 krf ?_)))))
          refine xC [] krf (g_p_validValue_ok n x10 (eqI a0n.Kind 4)) krf krf kff (fun r11=>?_)
          refine xR 1 krf (xE (sN ⟨[5,57,58,59,66],[1001],[],[]⟩ ⟨[(5,B (eqI a0n.Kind 4)),(57, .p (.sl 5 (mI a0n.Kids))),(58,I (lenI (mI a0n.Kids))),(59,I l9),(66,B (!r11))],[(1001, .box 3 [I (wi (a1left - (lenI (mI a0n.Kids))))])]⟩ krf (sC (!r11) krf ?_ ?_)))
          ·refine sR tfm ⟨[4],[1001],[],[]⟩ ⟨[(4,B false)],[(1001, .box 3 [I (wi (a1left - (lenI (mI a0n.Kids))))])]⟩ krf (sT (bq_r (sq_r (kq_r (bq_r (sq_r ?_))))))
           exact hq_ret (.id) [1001] [] krf krf krf krf
          ·refine sK (bq_n (sN ⟨[5,57,58,59],[1001],[],[]⟩ ⟨[(5,B (eqI a0n.Kind 4)),(57, .p (.sl 5 (mI a0n.Kids))),(58,I (lenI (mI a0n.Kids))),(59,I l9)],[(1001, .box 3 [I (wi (a1left - (lenI (mI a0n.Kids))))])]⟩ krf (sL tfm krf ?_)))
           exact kq_n (wi (l9+1)) ⟨[5,57,58,59],[1001],[],[]⟩ krf
         ·refine sim_exit (sq_x (kq_x (bq_hit (sN ⟨[],[1001],[],[]⟩ ⟨[],[(1001, .box 3 [I (wi (a1left - (lenI (mI a0n.Kids))))])]⟩ krf (sR tfm ⟨[4],[1001],[],[]⟩ ⟨[(4,B true)],[(1001, .box 3 [I (wi (a1left - (lenI (mI a0n.Kids))))])]⟩ krf (sT ?_))))))
          exact hq_ret (.id) [1001] [] krf krf krf krf
def g_p_validItem_j6 (a0n:GN) (j6_1:Bool) (j6_2:Int):Option (Bool × Int) :=
 cond (!j6_1)
  (some (true,j6_2))
  (some (eqI a0n.N 7,j6_2))
def g_p_validItem_j10 (n:Nat) (l8_2:Int) (l8_3:Int) (recl8:(Bool × Int × Int)→Option (Bool × Int)) (x9:GN) (j10:Bool):Option (Bool × Int) :=
 (g_p_validPart n x9 l8_3).bind fun r11 =>
 cond (!r11.1)
  (some (false,r11.2))
  (recl8 (j10,wi (l8_2+1),r11.2))
def g_p_validItem_l8 (n:Nat) (a0n:GN) (recl8:(Bool × Int × Int)→Option (Bool × Int)) (l8_1:Bool) (l8_2:Int) (l8_3:Int):Option (Bool × Int) :=
 cond (ltI l8_2 (lenI (List.map idc a0n.Kids)))
  ((Option.bind (getI a0n.Kids l8_2) GN.of).bind fun x9 =>
  cond (eqI x9.Kind 4)
   (g_p_validItem_j10 n l8_2 l8_3 recl8 x9 true)
   (cond l8_1
    (some (false,l8_3))
    (g_p_validItem_j10 n l8_2 l8_3 recl8 x9 l8_1)))
  (g_p_validItem_j6 a0n l8_1 l8_3)
def g_p_validItem (n:Nat) (a0n:GN) (a1left:Int):Option (Bool × Int) :=
 (cond (!eqI a0n.Kind 2)
  (some true)
  (cond (ltI a0n.N 1)
   (some true)
   (cond (ltI 7 a0n.N)
    (some true)
    ((g_p_goodName n a0n.Name).bind fun r5 =>
    some (!r5))))).bind fun j1 =>
 cond j1
  (some (false,a1left))
  (cond (ltI (wi (a1left - (lenI (List.map idc a0n.Kids)))) 0)
   (some (false,wi (a1left - (lenI (List.map idc a0n.Kids)))))
   (loopN (fun recl8 (l8_1,l8_2,l8_3)=>g_p_validItem_l8 n a0n recl8 l8_1 l8_2 l8_3) n (false,0,wi (a1left - (lenI (List.map idc a0n.Kids))))))
theorem g_p_validItem_ok (n:Nat) (a0n:GN) (a1left:Int):∀ r,g_p_validItem n a0n a1left=some r→ACall Tryz.prog 52 [ag (GN.cs a0n),pZ1] (Go.Abs.look [(1001, .box 3 [I a1left])]) (heapR (fun r:Bool × Int=>((.ret (B r.1),[(1001, .box 3 [I r.2])]):AEnd × List (Nat × Blk))) r):=by
 refine acall_sim (X:=fun r:Bool × Int=>((.ret (B r.1),[(1001, .box 3 [I r.2])]):AEnd × List (Nat × Blk))) [(1001, .box 3 [I a1left])] Tryz.func52 rfl Tryz.ntmps52 rfl ?_
 unfold g_p_validItem
 refine sR tfm ⟨[1,2],[2,1001],[],[]⟩ ⟨[(1,pZ1),qq 2],[(2,bGN24 a0n),(1001, .box 3 [I a1left])]⟩ krf (sS (sim_bind (fun j1=>⟨[(1,pZ1),qq 2,(26,B j1)],[(2,bGN24 a0n),(1001, .box 3 [I a1left])]⟩:Bool→St) ?_ ?_))
 ·refine sG (xR 4 krf ?_)
  refine xS (!eqI a0n.Kind 2) (fun h2=>?_) (fun h2=>?_)
  ·refine xN (want_ft krf h2) krf (xR 14 krf (xE ?_))
   exact nq_n true ⟨[1,2,26],[2,1001],[],[]⟩ krf
  ·refine xO (want_ff krf h2) krf (xR 4 krf ?_)
   refine xS (ltI a0n.N 1) (fun h3=>?_) (fun h3=>?_)
   ·refine xN (want_ft krf h3) krf (xR 9 krf (xE ?_))
    exact nq_n true ⟨[1,2,26],[2,1001],[],[]⟩ krf
   ·refine xO (want_ff krf h3) krf (xR 4 krf ?_)
    refine xS (ltI 7 a0n.N) (fun h4=>?_) (fun h4=>?_)
    ·refine xN (want_ft krf h4) krf (xR 4 krf (xE ?_))
     exact nq_n true ⟨[1,2,26],[2,1001],[],[]⟩ krf
    ·refine xO (want_ff krf h4) krf (xR 1 krf ?_)
     refine xC [] krf (g_p_goodName_ok n a0n.Name) krf krf kff (fun r5=>?_)
     refine xR 2 krf (xE ?_)
     exact nq_n (!r5) ⟨[1,2,26],[2,1001],[],[]⟩ krf
 ·rintro j1
  refine sC j1 krf ?_ ?_
  ·refine sR tfm ⟨[4],[1001],[],[]⟩ ⟨[(4,B false)],[(1001, .box 3 [I a1left])]⟩ krf (sT (sq_r ?_))
   exact hq_ret (.id) [1001] [] krf krf krf krf
  ·refine sK (sN ⟨[1,2],[2,1001],[],[]⟩ ⟨[(1,pZ1),qq 2],[(2,bGN24 a0n),(1001, .box 3 [I a1left])]⟩ krf (sR tfm ⟨[1,2],[2,1001],[],[]⟩ ⟨[(1,pZ1),qq 2],[(2,bGN24 a0n),(1001, .box 3 [I (wi (a1left - (lenI (mI a0n.Kids))))])]⟩ krf (sS (sR tfm ⟨[1,2,38],[2,1001],[],[]⟩ ⟨[(1,pZ1),qq 2,(38,B (ltI (wi (a1left - (lenI (mI a0n.Kids)))) 0))],[(2,bGN24 a0n),(1001, .box 3 [I (wi (a1left - (lenI (mI a0n.Kids))))])]⟩ krf (sC (ltI (wi (a1left - (lenI (mI a0n.Kids)))) 0) krf ?_ ?_)))))
   ·refine sR tfm ⟨[4],[1001],[],[]⟩ ⟨[(4,B false)],[(1001, .box 3 [I (wi (a1left - (lenI (mI a0n.Kids))))])]⟩ krf (sT (sq_r ?_))
    exact hq_ret (.id) [1001] [] krf krf krf krf
   ·refine sK (sN ⟨[1,2],[2,1001],[],[]⟩ ⟨[(1,pZ1),qq 2],[(2,bGN24 a0n),(1001, .box 3 [I (wi (a1left - (lenI (mI a0n.Kids))))])]⟩ krf (sR tfm ⟨[1,2,5],[2,1001],[],[]⟩ ⟨[(1,pZ1),qq 2,(5,B false)],[(2,bGN24 a0n),(1001, .box 3 [I (wi (a1left - (lenI (mI a0n.Kids))))])]⟩ krf (sim_cps (fun (j6_1,j6_2)=>⟨[qq 2,(5,B j6_1)],[(2,bGN24 a0n),(1001, .box 3 [I j6_2])]⟩:(Bool × Int)→St) (fun (j6_1,j6_2)=>g_p_validItem_j6 a0n j6_1 j6_2) ?_ ?_)))
    ·rintro ⟨j6_1,j6_2⟩
     show SimE (g_p_validItem_j6 a0n j6_1 j6_2) _ _ _ _ _ _
     unfold g_p_validItem_j6
     refine sS (sG (xR 3 krf ?_))
     refine xS (!j6_1) (fun h7=>?_) (fun h7=>?_)
     ·refine xN (want_ft krf h7) krf (xR 4 krf (xE (sN ⟨[4],[1001],[],[]⟩ ⟨[(4,B true)],[(1001, .box 3 [I j6_2])]⟩ krf (sT ?_))))
      exact hq_ret (.id) [1001] [] krf krf krf krf
     ·refine xO (want_ff krf h7) krf (xR 4 krf (xE (sN ⟨[4],[1001],[],[]⟩ ⟨[(4,B (eqI a0n.N 7))],[(1001, .box 3 [I j6_2])]⟩ krf (sT ?_))))
      exact hq_ret (.id) [1001] [] krf krf krf krf
    ·refine sR tfm ⟨[1,2,5,40,41,42],[2,1001],[],[]⟩ ⟨[(1,pZ1),qq 2,(5,B false),(40, .p (.sl 5 (mI a0n.Kids))),(41,I (lenI (mI a0n.Kids))),(42,I 0)],[(2,bGN24 a0n),(1001, .box 3 [I (wi (a1left - (lenI (mI a0n.Kids))))])]⟩ krf (sB (sim_loop (fun (l8_1,l8_2,l8_3)=>⟨[(1,pZ1),qq 2,(5,B l8_1),(40, .p (.sl 5 (mI a0n.Kids))),(41,I (lenI (mI a0n.Kids))),(42,I l8_2)],[(2,bGN24 a0n),(1001, .box 3 [I l8_3])]⟩:(Bool × Int × Int)→St) (weak_shr (K:=⟨[1,2,5,40,41,42],[2,1001],[],[]⟩) krf) ?_))
     rintro recl8 ⟨l8_1,l8_2,l8_3⟩
     show SimE (g_p_validItem_l8 n a0n recl8 l8_1 l8_2 l8_3) _ _ _ _ _ _
     unfold g_p_validItem_l8
     refine sR tfm ⟨[1,2,5,40,41,42,43],[2,1001],[],[]⟩ ⟨[(1,pZ1),qq 2,(5,B l8_1),(40, .p (.sl 5 (mI a0n.Kids))),(41,I (lenI (mI a0n.Kids))),(42,I l8_2),(43,B (ltI l8_2 (lenI (mI a0n.Kids))))],[(2,bGN24 a0n),(1001, .box 3 [I l8_3])]⟩ krf (sS (sC (ltI l8_2 (lenI (mI a0n.Kids))) krf ?_ ?_))
     ·refine sK (sN ⟨[1,2,5,40,41,42],[2,1001],[],[]⟩ ⟨[(1,pZ1),qq 2,(5,B l8_1),(40, .p (.sl 5 (mI a0n.Kids))),(41,I (lenI (mI a0n.Kids))),(42,I l8_2)],[(2,bGN24 a0n),(1001, .box 3 [I l8_3])]⟩ krf (sS (sB (sS (sG ?_)))))
      refine xG krf krf (aop_idxR (e:=24) (S:=5) (enc:=GN.cs) (dec:=GN.of) (l:=a0n.Kids) (k:=.i64) (n:=l8_2) (sv:=.p (.sl 5 (mI a0n.Kids))) GN.of_cs rfl krf krf krf krf krf) (fun x9=>?_)
      refine xR 3 krf (xE (sN ⟨[1,2,5,7,40,41,42],[2,7,1001],[],[]⟩ ⟨[(1,pZ1),qq 2,(5,B l8_1),qq 7,(40, .p (.sl 5 (mI a0n.Kids))),(41,I (lenI (mI a0n.Kids))),(42,I l8_2)],[(2,bGN24 a0n),(7,bGN24 x9),(1001, .box 3 [I l8_3])]⟩ krf (sim_cps (fun j10=>⟨[(1,pZ1),qq 2,(5,B j10),qq 7,(40, .p (.sl 5 (mI a0n.Kids))),(41,I (lenI (mI a0n.Kids))),(42,I l8_2)],[(2,bGN24 a0n),(7,bGN24 x9),(1001, .box 3 [I l8_3])]⟩:Bool→St) (fun j10=>g_p_validItem_j10 n l8_2 l8_3 recl8 x9 j10) ?_ ?_)))
      ·rintro j10
       show SimE (g_p_validItem_j10 n l8_2 l8_3 recl8 x9 j10) _ _ _ _ _ _
       unfold g_p_validItem_j10
       refine sS (sG (xR 2 krf ?_))
       refine xs_heap [(1001,1001)] [] [] krf (g_p_validPart_ok n x9 l8_3) krf krf krf kff kff (fun r11=>?_)
       refine xR 1 krf (xE (sN ⟨[1,2,5,40,41,42,53],[2,1001],[],[]⟩ ⟨[(1,pZ1),qq 2,(5,B j10),(40, .p (.sl 5 (mI a0n.Kids))),(41,I (lenI (mI a0n.Kids))),(42,I l8_2),(53,B (!r11.1))],[(2,bGN24 a0n),(1001, .box 3 [I r11.2])]⟩ krf (sC (!r11.1) krf ?_ ?_)))
       ·refine sR tfm ⟨[4],[1001],[],[]⟩ ⟨[(4,B false)],[(1001, .box 3 [I r11.2])]⟩ krf (sT (bq_r (sq_r (kq_r (bq_r (kq_r ?_))))))
        exact hq_ret (.id) [1001] [] krf krf krf krf
       ·refine sK (bq_n (sN ⟨[1,2,5,40,41,42],[2,1001],[],[]⟩ ⟨[(1,pZ1),qq 2,(5,B j10),(40, .p (.sl 5 (mI a0n.Kids))),(41,I (lenI (mI a0n.Kids))),(42,I l8_2)],[(2,bGN24 a0n),(1001, .box 3 [I r11.2])]⟩ krf (sL tfm krf ?_)))
        exact kq_n (j10,wi (l8_2+1),r11.2) ⟨[1,2,5,40,41,42],[2,1001],[],[]⟩ krf
      ·refine sR tfm ⟨[1,2,5,7,40,41,42,48],[2,7,1001],[],[]⟩ ⟨[(1,pZ1),qq 2,(5,B l8_1),qq 7,(40, .p (.sl 5 (mI a0n.Kids))),(41,I (lenI (mI a0n.Kids))),(42,I l8_2),(48,B (eqI x9.Kind 4))],[(2,bGN24 a0n),(7,bGN24 x9),(1001, .box 3 [I l8_3])]⟩ krf (sC (eqI x9.Kind 4) krf ?_ ?_)
       ·refine sL tfm krf ?_
        exact kq_n (k:=fun j10=>g_p_validItem_j10 n l8_2 l8_3 recl8 x9 j10) true ⟨[1,2,5,7,40,41,42],[2,7,1001],[],[]⟩ krf
       ·refine sR tfm ⟨[1,2,5,7,40,41,42,49],[2,7,1001],[],[]⟩ ⟨[(1,pZ1),qq 2,(5,B l8_1),qq 7,(40, .p (.sl 5 (mI a0n.Kids))),(41,I (lenI (mI a0n.Kids))),(42,I l8_2),(49,B l8_1)],[(2,bGN24 a0n),(7,bGN24 x9),(1001, .box 3 [I l8_3])]⟩ krf (sC l8_1 krf ?_ ?_)
        ·refine sR tfm ⟨[4],[1001],[],[]⟩ ⟨[(4,B false)],[(1001, .box 3 [I l8_3])]⟩ krf (sT (kq_r (bq_r (sq_r (kq_r (bq_r (kq_r ?_)))))))
         exact hq_ret (.id) [1001] [] krf krf krf krf
        ·refine sK ?_
         exact kq_n (k:=fun j10=>g_p_validItem_j10 n l8_2 l8_3 recl8 x9 j10) l8_1 ⟨[1,2,5,7,40,41,42],[2,7,1001],[],[]⟩ krf
     ·refine sim_exit (sq_x (kq_x (bq_hit ?_)))
      exact kq_n (k:=fun (j6_1,j6_2)=>g_p_validItem_j6 a0n j6_1 j6_2) (l8_1,l8_3) ⟨[2,5],[2,1001],[],[]⟩ krf
def g_p_Valid_l5 (n:Nat) (a0n:GN) (recl5:(Int × Int)→Option Bool) (l5_1:Int) (l5_2:Int):Option Bool :=
 cond (ltI l5_1 (lenI (List.map idc a0n.Kids)))
  ((Option.bind (getI a0n.Kids l5_1) GN.of).bind fun x6 =>
  (g_p_validItem n x6 l5_2).bind fun r7 =>
  cond (!r7.1)
   (some false)
   (recl5 (wi (l5_1+1),r7.2)))
  (some true)
def g_p_Valid (n:Nat) (a0n:GN):Option Bool :=
 (cond (!eqI a0n.Kind 1)
  (some true)
  (cond (!eqS a0n.Name [])
   (some true)
   (cond (!eqI a0n.N 0)
    (some true)
    (some (ltI (wi (1499 - (lenI (List.map idc a0n.Kids)))) 0))))).bind fun j1 =>
 cond j1
  (some false)
  (loopN (fun recl5 (l5_1,l5_2)=>g_p_Valid_l5 n a0n recl5 l5_1 l5_2) n (0,wi (1499 - (lenI (List.map idc a0n.Kids)))))
theorem g_p_Valid_ok (n:Nat) (a0n:GN):∀ r,g_p_Valid n a0n=some r→PCall Tryz.prog 28 [ag (GN.cs a0n)] (.ret (B r)):=by
 refine pcall_sim (X:=fun r:Bool=>AEnd.ret (B r)) Tryz.func28 rfl Tryz.ntmps28 rfl ?_
 unfold g_p_Valid
 refine sR tfm ⟨[1],[1],[],[]⟩ ⟨[qq 1],[(1,bGN24 a0n)]⟩ krf (sR tfm ⟨[1,3],[1,3],[],[]⟩ ⟨[qq 1,qq 3],[(1,bGN24 a0n),(3, .box 3 [I (wi (1499 - (lenI (mI a0n.Kids))))])]⟩ krf (sS (sim_bind (fun j1=>⟨[qq 1,qq 3,(26,B j1)],[(1,bGN24 a0n),(3, .box 3 [I (wi (1499 - (lenI (mI a0n.Kids))))])]⟩:Bool→St) ?_ ?_)))
 ·refine sG (xR 4 krf ?_)
  refine xS (!eqI a0n.Kind 1) (fun h2=>?_) (fun h2=>?_)
  ·refine xN (want_ft krf h2) krf (xR 12 krf (xE ?_))
   exact nq_n true ⟨[1,3,26],[1,3],[],[]⟩ krf
  ·refine xO (want_ff krf h2) krf (xR 4 krf ?_)
   refine xS (!eqS a0n.Name []) (fun h3=>?_) (fun h3=>?_)
   ·refine xN (want_ft krf h3) krf (xR 7 krf (xE ?_))
    exact nq_n true ⟨[1,3,26],[1,3],[],[]⟩ krf
   ·refine xO (want_ff krf h3) krf (xR 4 krf ?_)
    refine xS (!eqI a0n.N 0) (fun h4=>?_) (fun h4=>?_)
    ·refine xN (want_ft krf h4) krf (xR 2 krf (xE ?_))
     exact nq_n true ⟨[1,3,26],[1,3],[],[]⟩ krf
    ·refine xO (want_ff krf h4) krf (xR 2 krf (xE ?_))
     exact nq_n (ltI (wi (1499 - (lenI (mI a0n.Kids)))) 0) ⟨[1,3,26],[1,3],[],[]⟩ krf
 ·rintro j1
  refine sC j1 krf ?_ ?_
  ·refine sR tfm ⟨[2],[],[],[]⟩ ⟨[(2,B false)],[]⟩ krf (sT (sq_r ?_))
   exact qR (.id) krf krf krf
  ·refine sK (sN ⟨[1,3],[1,3],[],[]⟩ ⟨[qq 1,qq 3],[(1,bGN24 a0n),(3, .box 3 [I (wi (1499 - (lenI (mI a0n.Kids))))])]⟩ krf (sS (sR tfm ⟨[3,28,29,30],[3],[],[]⟩ ⟨[qq 3,(28, .p (.sl 5 (mI a0n.Kids))),(29,I (lenI (mI a0n.Kids))),(30,I 0)],[(3, .box 3 [I (wi (1499 - (lenI (mI a0n.Kids))))])]⟩ krf (sB (sim_loop (fun (l5_1,l5_2)=>⟨[qq 3,(28, .p (.sl 5 (mI a0n.Kids))),(29,I (lenI (mI a0n.Kids))),(30,I l5_1)],[(3, .box 3 [I l5_2])]⟩:(Int × Int)→St) (weak_shr (K:=⟨[3,28,29,30],[3],[],[]⟩) krf) ?_)))))
   rintro recl5 ⟨l5_1,l5_2⟩
   show SimE (g_p_Valid_l5 n a0n recl5 l5_1 l5_2) _ _ _ _ _ _
   unfold g_p_Valid_l5
   refine sR tfm ⟨[3,28,29,30,31],[3],[],[]⟩ ⟨[qq 3,(28, .p (.sl 5 (mI a0n.Kids))),(29,I (lenI (mI a0n.Kids))),(30,I l5_1),(31,B (ltI l5_1 (lenI (mI a0n.Kids))))],[(3, .box 3 [I l5_2])]⟩ krf (sS (sC (ltI l5_1 (lenI (mI a0n.Kids))) krf ?_ ?_))
   ·refine sK (sN ⟨[3,28,29,30],[3],[],[]⟩ ⟨[qq 3,(28, .p (.sl 5 (mI a0n.Kids))),(29,I (lenI (mI a0n.Kids))),(30,I l5_1)],[(3, .box 3 [I l5_2])]⟩ krf (sS (sB (sS (sG ?_)))))
    refine xG krf krf (aop_idxR (e:=24) (S:=5) (enc:=GN.cs) (dec:=GN.of) (l:=a0n.Kids) (k:=.i64) (n:=l5_1) (sv:=.p (.sl 5 (mI a0n.Kids))) GN.of_cs rfl krf krf krf krf krf) (fun x6=>?_)
    refine xR 3 krf (xE (sN ⟨[3,5,28,29,30],[3,5],[],[]⟩ ⟨[qq 3,qq 5,(28, .p (.sl 5 (mI a0n.Kids))),(29,I (lenI (mI a0n.Kids))),(30,I l5_1)],[(3, .box 3 [I l5_2]),(5,bGN24 x6)]⟩ krf (sS (sG (xR 1 krf ?_)))))
    refine xs_heap [(1001,3)] [] [] krf (g_p_validItem_ok n x6 l5_2) krf krf krf kff kff (fun r7=>?_)
    refine xR 1 krf (xE (sN ⟨[3,28,29,30,36],[3],[],[]⟩ ⟨[qq 3,(28, .p (.sl 5 (mI a0n.Kids))),(29,I (lenI (mI a0n.Kids))),(30,I l5_1),(36,B (!r7.1))],[(3, .box 3 [I r7.2])]⟩ krf (sC (!r7.1) krf ?_ ?_)))
    ·refine sR tfm ⟨[2],[],[],[]⟩ ⟨[(2,B false)],[]⟩ krf (sT (bq_r (sq_r (kq_r (bq_r (sq_r ?_))))))
     exact qR (.id) krf krf krf
    ·refine sK (bq_n (sN ⟨[3,28,29,30],[3],[],[]⟩ ⟨[qq 3,(28, .p (.sl 5 (mI a0n.Kids))),(29,I (lenI (mI a0n.Kids))),(30,I l5_1)],[(3, .box 3 [I r7.2])]⟩ krf (sL tfm krf ?_)))
     exact kq_n (wi (l5_1+1),r7.2) ⟨[3,28,29,30],[3],[],[]⟩ krf
   ·refine sim_exit (sq_x (kq_x (bq_hit (sN ⟨[],[],[],[]⟩ ⟨[],[]⟩ krf (sR tfm ⟨[2],[],[],[]⟩ ⟨[(2,B true)],[]⟩ krf (sT ?_))))))
    exact qR (.id) krf krf krf
def g_strconv_Itoa (n:Nat) (a0i:Int):Option (List UInt8) :=
 cond (leI (-9223372036854775808) a0i&&leI a0i 9223372036854775807) (some (Lib.itoa a0i)) none
theorem g_strconv_Itoa_ok (n:Nat) (a0i:Int):∀ r,g_strconv_Itoa n a0i=some r→PCall Tryz.prog 80 [I a0i] (.ret (S r)):=by
 intro r hr
 unfold g_strconv_Itoa at hr
 cases h:leI (-9223372036854775808) a0i&&leI a0i 9223372036854775807
 ·rw [h] at hr; cases hr
 ·rw [h] at hr; cases hr
  simp only [leI,bae,decide_eq_true_eq] at h
  exact itoa_at h.1 h.2
def g_q_value (n:Nat) (a0w:GPw) (a1n:GN):Option GPw :=
 cond (roomB (List.length (a0w.text++[32])) 1) (
  cond (eqI a1n.Kind 6)
   ((g_strconv_Itoa n a1n.N).bind fun r2 =>
   cond (roomB (List.length ((a0w.text++[32])++r2)) 1&&!List.isEmpty r2) (
    some (⟨(a0w.text++[32])++r2⟩:GPw)) none)
   (cond (roomB (List.length ((a0w.text++[32])++a1n.Name)) 1&&!List.isEmpty a1n.Name) (
    some (⟨(a0w.text++[32])++a1n.Name⟩:GPw)) none)) none
abbrev amb5 (x:List UInt8):Go.Abs.Blk:=.arr 5 1 (mb x).length
theorem g_q_value_ok (n:Nat) (a0w:GPw) (a1n:GN):∀ r,g_q_value n a0w a1n=some r→ACall Tryz.prog 79 [pZ0,ag (GN.cs a1n)] (Go.Abs.look [(1000, .box 52 [.sfp 1000, .tsl 1 (mb a0w.text) 1101]),(1101,amb5 a0w.text)]) (heapR (fun r:GPw=>((.ret (.tup []),[(1000, .box 52 [.sfp 1000, .tsl 1 (mb r.text) 1101]),(1101,amb5 r.text)]):AEnd × List (Nat × Blk))) r):=by
 refine acall_sim (X:=fun r:GPw=>((.ret (.tup []),[(1000, .box 52 [.sfp 1000, .tsl 1 (mb r.text) 1101]),(1101,amb5 r.text)]):AEnd × List (Nat × Blk))) [(1000, .box 52 [.sfp 1000, .tsl 1 (mb a0w.text) 1101]),(1101,amb5 a0w.text)] Tryz.func79 rfl Tryz.ntmps79 rfl ?_
 unfold g_q_value
 refine sR tfm ⟨[0,3],[3,1000,1101],[],[]⟩ ⟨[(0,pZ0),qq 3],[(3,bGN24 a1n),(1000, .box 52 [.sfp 1000, .tsl 1 (mb a0w.text) 1101]),(1101,amb5 a0w.text)]⟩ krf (sS (sG (xR 3 krf (xs_inline [(1000, .box 52 [.sfp 1000, .tsl 1 (mb a0w.text) 1001]),(1001,amb5 a0w.text)] [pZ0,B8 32] [(1000,1000),(1001,1101)] [] [] krf Tryz.func114 rfl Tryz.ntmps114 rfl krf krf krf (sR tfm ⟨[0,1],[1000,1001],[],[]⟩ ⟨[(0,pZ0),(1,B8 32)],[(1000, .box 52 [.sfp 1000, .tsl 1 (mb a0w.text) 1001]),(1001,amb5 a0w.text)]⟩ krf (sS (sG ?_)))))))
 refine xR 1 krf (xs_one1 (xs_enter (f:=78) (args:=[pZ0]) krf krf krf ?_))
 refine sc_hold 1000 1 1001 5 1 (mb a0w.text).length (mb a0w.text) ⟨[0,1,5],[1000],[],[]⟩ krf krf rfl (fun _ _ _=>by kernel_rfl) (fun hu1w hu1l hu1c=>?_)
 refine sc_heap [(1000,1000)] [] [] (copy_ok hu1w hu1l hu1c) krf krf krf kff kff (fun _=>?_)
 refine k_hold _ rfl krf krf (kr0 (xE (sN ⟨[0,1],[1000,1001],[],[]⟩ ⟨[(0,pZ0),(1,B8 32)],[(1000, .box 52 [.sfp 1000, .tsl 1 (mb a0w.text) 1001]),(1001,amb5 a0w.text)]⟩ krf (sS (sG (xR 7 krf (xF krf krf (aop_app (e:=5) (S:=1) (by_:=1) (enc:=c8b) (tk:=1001) (l:=a0w.text) (l2:=[32]) (xv:=.tsl 1 (List.map c8 [32]) 13) rfl krf krf rfl krf krf krf rfl krf) ?_)))))))
 refine xR 3 krf (xE (sN ⟨[],[1000,1001],[],[]⟩ ⟨[],[(1000, .box 52 [.sfp 1000, .tsl 1 (mb (a0w.text++[32])) 1001]),(1001,amb5 (a0w.text++[32]))]⟩ krf (sR tfm ⟨[4],[1000,1001],[],[]⟩ ⟨[(4, .p (.val (.nilIface)))],[(1000, .box 52 [.sfp 1000, .tsl 1 (mb (a0w.text++[32])) 1001]),(1001,amb5 (a0w.text++[32]))]⟩ krf (sT (iq_ret (.id) [1000,1001] [] (.p (.val (.nilIface))) krf krf (kr0 (xE ?_)))))))
 refine sN ⟨[0,3],[3,1000,1101],[],[]⟩ ⟨[(0,pZ0),qq 3],[(3,bGN24 a1n),(1000, .box 52 [.sfp 1000, .tsl 1 (mb (a0w.text++[32])) 1101]),(1101,amb5 (a0w.text++[32]))]⟩ krf (sS (sR tfm ⟨[0,3,10],[3,1000,1101],[],[]⟩ ⟨[(0,pZ0),qq 3,(10,B (eqI a1n.Kind 6))],[(3,bGN24 a1n),(1000, .box 52 [.sfp 1000, .tsl 1 (mb (a0w.text++[32])) 1101]),(1101,amb5 (a0w.text++[32]))]⟩ krf (sC (eqI a1n.Kind 6) krf ?_ ?_)))
 ·refine sS (sim_drw tfm rfl (xR 5 krf ?_))
  refine xC [] krf (g_strconv_Itoa_ok n a1n.N) krf krf kff (fun r2=>?_)
  refine xs_inlineL [(1000, .box 52 [.sfp 1000, .tsl 1 (mb (a0w.text++[32])) 1001]),(1001,amb5 (a0w.text++[32]))] [pZ0,S r2] [(1000,1000),(1001,1101)] [] [] krf Tryz.func54 rfl Tryz.ntmps54 rfl krf krf krf (sR tfm ⟨[0,1],[1000,1001],[],[]⟩ ⟨[(0,pZ0),(1,S r2)],[(1000, .box 52 [.sfp 1000, .tsl 1 (mb (a0w.text++[32])) 1001]),(1001,amb5 (a0w.text++[32]))]⟩ krf (sS (sG (xR 1 krf (xs_one1 (xs_enter (f:=78) (args:=[pZ0]) krf krf krf ?_))))))
  refine sc_hold 1000 1 1001 5 1 (mb (a0w.text++[32])).length (mb (a0w.text++[32])) ⟨[0,1,6],[1000],[],[]⟩ krf krf rfl (fun _ _ _=>by kernel_rfl) (fun hu3w hu3l hu3c=>?_)
  refine sc_heap [(1000,1000)] [] [] (copy_ok hu3w hu3l hu3c) krf krf krf kff kff (fun _=>?_)
  refine k_hold _ rfl krf krf (kr0 (xE (sN ⟨[0,1],[1000,1001],[],[]⟩ ⟨[(0,pZ0),(1,S r2)],[(1000, .box 52 [.sfp 1000, .tsl 1 (mb (a0w.text++[32])) 1001]),(1001,amb5 (a0w.text++[32]))]⟩ krf (sS (sG (xR 6 krf ?_))))))
  refine xS (roomB (List.length ((a0w.text++[32])++r2)) 1&&!List.isEmpty r2) (fun h4=>?_) (fun _=>xs_none)
  refine xs_apps (t:=48) (u:=9) (ty:=5) (bs:=a0w.text++[32]) (b:=r2) (tk:=1001) krf rfl krf Tryz.underlying48 Tryz.underlying9 krf krf krf krf h4 (xR 3 krf (xE (sN ⟨[1],[1000,1001],[],[]⟩ ⟨[(1,S r2)],[(1000, .box 52 [.sfp 1000, .tsl 1 (mb ((a0w.text++[32])++r2)) 1001]),(1001,amb5 ((a0w.text++[32])++r2))]⟩ krf (sR tfm ⟨[4,5],[1000,1001],[],[]⟩ ⟨[(4,I (lenI r2)),(5, .p (.val (.nilIface)))],[(1000, .box 52 [.sfp 1000, .tsl 1 (mb ((a0w.text++[32])++r2)) 1001]),(1001,amb5 ((a0w.text++[32])++r2))]⟩ krf (sT (iq_ret (.id) [1000,1001] [] (.tup [I (lenI r2), .p (.val (.nilIface))]) krf krf (kqn ?_)))))))
  refine sN ⟨[],[1000,1101],[],[]⟩ ⟨[],[(1000, .box 52 [.sfp 1000, .tsl 1 (mb ((a0w.text++[32])++r2)) 1101]),(1101,amb5 ((a0w.text++[32])++r2))]⟩ krf (sT (sq_r ?_))
  exact hq_ret (.id) [1000,1101] [] krf krf krf krf
 ·refine sK (sN ⟨[0,3],[3,1000,1101],[],[]⟩ ⟨[(0,pZ0),qq 3],[(3,bGN24 a1n),(1000, .box 52 [.sfp 1000, .tsl 1 (mb (a0w.text++[32])) 1101]),(1101,amb5 (a0w.text++[32]))]⟩ krf (sim_drw tfm rfl (xR 5 krf (xs_inlineL [(1000, .box 52 [.sfp 1000, .tsl 1 (mb (a0w.text++[32])) 1001]),(1001,amb5 (a0w.text++[32]))] [pZ0,S a1n.Name] [(1000,1000),(1001,1101)] [] [] krf Tryz.func54 rfl Tryz.ntmps54 rfl krf krf krf (sR tfm ⟨[0,1],[1000,1001],[],[]⟩ ⟨[(0,pZ0),(1,S a1n.Name)],[(1000, .box 52 [.sfp 1000, .tsl 1 (mb (a0w.text++[32])) 1001]),(1001,amb5 (a0w.text++[32]))]⟩ krf (sS (sG ?_)))))))
  refine xR 1 krf (xs_one1 (xs_enter (f:=78) (args:=[pZ0]) krf krf krf ?_))
  refine sc_hold 1000 1 1001 5 1 (mb (a0w.text++[32])).length (mb (a0w.text++[32])) ⟨[0,1,6],[1000],[],[]⟩ krf krf rfl (fun _ _ _=>by kernel_rfl) (fun hu5w hu5l hu5c=>?_)
  refine sc_heap [(1000,1000)] [] [] (copy_ok hu5w hu5l hu5c) krf krf krf kff kff (fun _=>?_)
  refine k_hold _ rfl krf krf (kr0 (xE (sN ⟨[0,1],[1000,1001],[],[]⟩ ⟨[(0,pZ0),(1,S a1n.Name)],[(1000, .box 52 [.sfp 1000, .tsl 1 (mb (a0w.text++[32])) 1001]),(1001,amb5 (a0w.text++[32]))]⟩ krf (sS (sG (xR 6 krf ?_))))))
  refine xS (roomB (List.length ((a0w.text++[32])++a1n.Name)) 1&&!List.isEmpty a1n.Name) (fun h6=>?_) (fun _=>xs_none)
  refine xs_apps (t:=48) (u:=9) (ty:=5) (bs:=a0w.text++[32]) (b:=a1n.Name) (tk:=1001) krf rfl krf Tryz.underlying48 Tryz.underlying9 krf krf krf krf h6 (xR 3 krf (xE (sN ⟨[1],[1000,1001],[],[]⟩ ⟨[(1,S a1n.Name)],[(1000, .box 52 [.sfp 1000, .tsl 1 (mb ((a0w.text++[32])++a1n.Name)) 1001]),(1001,amb5 ((a0w.text++[32])++a1n.Name))]⟩ krf (sR tfm ⟨[4,5],[1000,1001],[],[]⟩ ⟨[(4,I (lenI a1n.Name)),(5, .p (.val (.nilIface)))],[(1000, .box 52 [.sfp 1000, .tsl 1 (mb ((a0w.text++[32])++a1n.Name)) 1001]),(1001,amb5 ((a0w.text++[32])++a1n.Name))]⟩ krf (sT (iq_ret (.id) [1000,1001] [] (.tup [I (lenI a1n.Name), .p (.val (.nilIface))]) krf krf (kqn ?_)))))))
  exact hq_n (.id) [1000,1101] [] krf krf krf krf
def g_q_attr_l4 (n:Nat) (a1n:GN) (recl4:(Int × (List UInt8))→Option (List UInt8)) (l4_1:Int) (l4_2:List UInt8):Option (List UInt8) :=
 cond (ltI l4_1 (lenI (List.map idc a1n.Kids)))
  ((Option.bind (getI a1n.Kids l4_1) GN.of).bind fun x5 =>
  (g_q_value n (⟨l4_2⟩:GPw) x5).bind fun r6 =>
  recl4 (wi (l4_1+1),r6.text))
  (some l4_2)
def g_q_attr (n:Nat) (a0w:GPw) (a1n:GN):Option GPw :=
 cond (!eqI a1n.Kind 3)
  (some a0w)
  (cond (sumB [32] a1n.Name) (
   cond (roomB (List.length (a0w.text++([32]++a1n.Name))) 1&&!List.isEmpty ([32]++a1n.Name)) (
    (loopN (fun recl4 (l4_1,l4_2)=>g_q_attr_l4 n a1n recl4 l4_1 l4_2) n (0,a0w.text++([32]++a1n.Name))).bind fun j3 =>
    some (⟨j3⟩:GPw)) none) none)
theorem g_q_attr_ok (n:Nat) (a0w:GPw) (a1n:GN):∀ r,g_q_attr n a0w a1n=some r→ACall Tryz.prog 56 [pZ0,ag (GN.cs a1n)] (Go.Abs.look [(1000, .box 52 [.sfp 1000, .tsl 1 (mb a0w.text) 1101]),(1101,amb5 a0w.text)]) (heapR (fun r:GPw=>((.ret (.tup []),[(1000, .box 52 [.sfp 1000, .tsl 1 (mb r.text) 1101]),(1101,amb5 r.text)]):AEnd × List (Nat × Blk))) r):=by
 refine acall_sim (X:=fun r:GPw=>((.ret (.tup []),[(1000, .box 52 [.sfp 1000, .tsl 1 (mb r.text) 1101]),(1101,amb5 r.text)]):AEnd × List (Nat × Blk))) [(1000, .box 52 [.sfp 1000, .tsl 1 (mb a0w.text) 1101]),(1101,amb5 a0w.text)] Tryz.func56 rfl Tryz.ntmps56 rfl ?_
 unfold g_q_attr
 refine sR tfm ⟨[0,3],[3,1000,1101],[],[]⟩ ⟨[(0,pZ0),qq 3],[(3,bGN24 a1n),(1000, .box 52 [.sfp 1000, .tsl 1 (mb a0w.text) 1101]),(1101,amb5 a0w.text)]⟩ krf (sS (sR tfm ⟨[0,3,6],[3,1000,1101],[],[]⟩ ⟨[(0,pZ0),qq 3,(6,B (!eqI a1n.Kind 3))],[(3,bGN24 a1n),(1000, .box 52 [.sfp 1000, .tsl 1 (mb a0w.text) 1101]),(1101,amb5 a0w.text)]⟩ krf (sC (!eqI a1n.Kind 3) krf ?_ ?_)))
 ·refine sT (sq_r ?_)
  exact hq_ret (.id) [1000,1101] [] krf krf krf krf
 ·refine sK (sN ⟨[0,3],[3,1000,1101],[],[]⟩ ⟨[(0,pZ0),qq 3],[(3,bGN24 a1n),(1000, .box 52 [.sfp 1000, .tsl 1 (mb a0w.text) 1101]),(1101,amb5 a0w.text)]⟩ krf (sS (sim_drw tfm rfl (xR 5 krf (xF krf krf (aop_sadd (a:=[32]) (b:=a1n.Name) rfl krf krf) (xs_inlineL [(1000, .box 52 [.sfp 1000, .tsl 1 (mb a0w.text) 1001]),(1001,amb5 a0w.text)] [pZ0,S ([32]++a1n.Name)] [(1000,1000),(1001,1101)] [] [] krf Tryz.func54 rfl Tryz.ntmps54 rfl krf krf krf (sR tfm ⟨[0,1],[1000,1001],[],[]⟩ ⟨[(0,pZ0),(1,S ([32]++a1n.Name))],[(1000, .box 52 [.sfp 1000, .tsl 1 (mb a0w.text) 1001]),(1001,amb5 a0w.text)]⟩ krf ?_)))))))
  refine sS (sG (xR 1 krf (xs_one1 (xs_enter (f:=78) (args:=[pZ0]) krf krf krf ?_))))
  refine sc_hold 1000 1 1001 5 1 (mb a0w.text).length (mb a0w.text) ⟨[0,1,6],[1000],[],[]⟩ krf krf rfl (fun _ _ _=>by kernel_rfl) (fun hu1w hu1l hu1c=>?_)
  refine sc_heap [(1000,1000)] [] [] (copy_ok hu1w hu1l hu1c) krf krf krf kff kff (fun _=>?_)
  refine k_hold _ rfl krf krf (kr0 (xE (sN ⟨[0,1],[1000,1001],[],[]⟩ ⟨[(0,pZ0),(1,S ([32]++a1n.Name))],[(1000, .box 52 [.sfp 1000, .tsl 1 (mb a0w.text) 1001]),(1001,amb5 a0w.text)]⟩ krf (sS (sG (xR 6 krf ?_))))))
  refine xS (roomB (List.length (a0w.text++([32]++a1n.Name))) 1&&!List.isEmpty ([32]++a1n.Name)) (fun h2=>?_) (fun _=>xs_none)
  refine xs_apps (t:=48) (u:=9) (ty:=5) (bs:=a0w.text) (b:=[32]++a1n.Name) (tk:=1001) krf rfl krf Tryz.underlying48 Tryz.underlying9 krf krf krf krf h2 (xR 3 krf (xE (sN ⟨[1],[1000,1001],[],[]⟩ ⟨[(1,S ([32]++a1n.Name))],[(1000, .box 52 [.sfp 1000, .tsl 1 (mb (a0w.text++([32]++a1n.Name))) 1001]),(1001,amb5 (a0w.text++([32]++a1n.Name)))]⟩ krf (sR tfm ⟨[4,5],[1000,1001],[],[]⟩ ⟨[(4,I (lenI ([32]++a1n.Name))),(5, .p (.val (.nilIface)))],[(1000, .box 52 [.sfp 1000, .tsl 1 (mb (a0w.text++([32]++a1n.Name))) 1001]),(1001,amb5 (a0w.text++([32]++a1n.Name)))]⟩ krf (sT (iq_ret (.id) [1000,1001] [] (.tup [I (lenI ([32]++a1n.Name)), .p (.val (.nilIface))]) krf krf (kqn ?_)))))))
  refine sN ⟨[0,3],[3,1000,1101],[],[]⟩ ⟨[(0,pZ0),qq 3],[(3,bGN24 a1n),(1000, .box 52 [.sfp 1000, .tsl 1 (mb (a0w.text++([32]++a1n.Name))) 1101]),(1101,amb5 (a0w.text++([32]++a1n.Name)))]⟩ krf (sG (xR 6 krf (xs_inline [(1000, .box 56 [.fn (.func 79) [pZ1] []]),(1001, .box 52 [.sfp 1001, .tsl 1 (mb (a0w.text++([32]++a1n.Name))) 1002]),(1002,amb5 (a0w.text++([32]++a1n.Name)))] [pZ1, .p (.sl 5 (mI a1n.Kids)), .bsl 1000 1] [(1000,19),(1001,1000),(1002,1101)] [] [] krf Tryz.func55 rfl Tryz.ntmps55 rfl krf krf krf (sR tfm ⟨[1,10,11,12],[1000,1001,1002],[],[]⟩ ⟨[(1, .p (.sl 5 (mI a1n.Kids))),(10, .bsl 1000 1),(11,I 1),(12,I 0)],[(1000, .box 56 [.fn (.func 79) [pZ1] []]),(1001, .box 52 [.sfp 1001, .tsl 1 (mb (a0w.text++([32]++a1n.Name))) 1002]),(1002,amb5 (a0w.text++([32]++a1n.Name)))]⟩ krf (sB (sim_unroll 1 (sR tfm ⟨[1,10,11,12,13],[1000,1001,1002],[],[]⟩ ⟨[(1, .p (.sl 5 (mI a1n.Kids))),(10, .bsl 1000 1),(11,I 1),(12,I 0),(13,B true)],[(1000, .box 56 [.fn (.func 79) [pZ1] []]),(1001, .box 52 [.sfp 1001, .tsl 1 (mb (a0w.text++([32]++a1n.Name))) 1002]),(1002,amb5 (a0w.text++([32]++a1n.Name)))]⟩ krf ?_)))))))
  refine sS (sim_condT krf (sK (sN ⟨[1,10,11,12],[1000,1001,1002],[],[]⟩ ⟨[(1, .p (.sl 5 (mI a1n.Kids))),(10, .bsl 1000 1),(11,I 1),(12,I 0)],[(1000, .box 56 [.fn (.func 79) [pZ1] []]),(1001, .box 52 [.sfp 1001, .tsl 1 (mb (a0w.text++([32]++a1n.Name))) 1002]),(1002,amb5 (a0w.text++([32]++a1n.Name)))]⟩ krf (sim_bind (fun j3=>⟨[(1, .p (.sl 5 (mI a1n.Kids))),(10, .bsl 1000 1),(11,I 1),(12,I 0)],[(1000, .box 56 [.fn (.func 79) [pZ1] []]),(1001, .box 52 [.sfp 1001, .tsl 1 (mb j3) 1002]),(1002,amb5 j3)]⟩:(List UInt8)→St) ?_ ?_))))
  ·refine sB (sR tfm ⟨[1,7,10,11,12],[1000,1001,1002],[],[]⟩ ⟨[(1, .p (.sl 5 (mI a1n.Kids))),(7, .fn (.func 79) [pZ1] []),(10, .bsl 1000 1),(11,I 1),(12,I 0)],[(1000, .box 56 [.fn (.func 79) [pZ1] []]),(1001, .box 52 [.sfp 1001, .tsl 1 (mb (a0w.text++([32]++a1n.Name))) 1002]),(1002,amb5 (a0w.text++([32]++a1n.Name)))]⟩ krf (sR tfm ⟨[1,7,10,11,12,16,17,18],[1000,1001,1002],[],[]⟩ ⟨[(1, .p (.sl 5 (mI a1n.Kids))),(7, .fn (.func 79) [pZ1] []),(10, .bsl 1000 1),(11,I 1),(12,I 0),(16, .p (.sl 5 (mI a1n.Kids))),(17,I (lenI (mI a1n.Kids))),(18,I 0)],[(1000, .box 56 [.fn (.func 79) [pZ1] []]),(1001, .box 52 [.sfp 1001, .tsl 1 (mb (a0w.text++([32]++a1n.Name))) 1002]),(1002,amb5 (a0w.text++([32]++a1n.Name)))]⟩ krf (sB (sim_loop (fun (l4_1,l4_2)=>⟨[(1, .p (.sl 5 (mI a1n.Kids))),(7, .fn (.func 79) [pZ1] []),(10, .bsl 1000 1),(11,I 1),(12,I 0),(16, .p (.sl 5 (mI a1n.Kids))),(17,I (lenI (mI a1n.Kids))),(18,I l4_1)],[(1000, .box 56 [.fn (.func 79) [pZ1] []]),(1001, .box 52 [.sfp 1001, .tsl 1 (mb l4_2) 1002]),(1002,amb5 l4_2)]⟩:(Int × (List UInt8))→St) (weak_shr (K:=⟨[1,7,10,11,12,16,17,18],[1000,1001,1002],[],[]⟩) krf) ?_))))
   rintro recl4 ⟨l4_1,l4_2⟩
   show SimE (g_q_attr_l4 n a1n recl4 l4_1 l4_2) _ _ _ _ _ _
   unfold g_q_attr_l4
   refine sR tfm ⟨[1,7,10,11,12,16,17,18,19],[1000,1001,1002],[],[]⟩ ⟨[(1, .p (.sl 5 (mI a1n.Kids))),(7, .fn (.func 79) [pZ1] []),(10, .bsl 1000 1),(11,I 1),(12,I 0),(16, .p (.sl 5 (mI a1n.Kids))),(17,I (lenI (mI a1n.Kids))),(18,I l4_1),(19,B (ltI l4_1 (lenI (mI a1n.Kids))))],[(1000, .box 56 [.fn (.func 79) [pZ1] []]),(1001, .box 52 [.sfp 1001, .tsl 1 (mb l4_2) 1002]),(1002,amb5 l4_2)]⟩ krf (sS (sC (ltI l4_1 (lenI (mI a1n.Kids))) krf ?_ ?_))
   ·refine sK (sN ⟨[1,7,10,11,12,16,17,18],[1000,1001,1002],[],[]⟩ ⟨[(1, .p (.sl 5 (mI a1n.Kids))),(7, .fn (.func 79) [pZ1] []),(10, .bsl 1000 1),(11,I 1),(12,I 0),(16, .p (.sl 5 (mI a1n.Kids))),(17,I (lenI (mI a1n.Kids))),(18,I l4_1)],[(1000, .box 56 [.fn (.func 79) [pZ1] []]),(1001, .box 52 [.sfp 1001, .tsl 1 (mb l4_2) 1002]),(1002,amb5 l4_2)]⟩ krf (sS (sB (sS (sG ?_)))))
    refine xG krf krf (aop_idxR (e:=24) (S:=5) (enc:=GN.cs) (dec:=GN.of) (l:=a1n.Kids) (k:=.i64) (n:=l4_1) (sv:=.p (.sl 5 (mI a1n.Kids))) GN.of_cs rfl krf krf krf krf krf) (fun x5=>?_)
    refine xR 3 krf (xE (sN ⟨[1,7,9,10,11,12,16,17,18],[9,1000,1001,1002],[],[]⟩ ⟨[(1, .p (.sl 5 (mI a1n.Kids))),(7, .fn (.func 79) [pZ1] []),qq 9,(10, .bsl 1000 1),(11,I 1),(12,I 0),(16, .p (.sl 5 (mI a1n.Kids))),(17,I (lenI (mI a1n.Kids))),(18,I l4_1)],[(9,bGN24 x5),(1000, .box 56 [.fn (.func 79) [pZ1] []]),(1001, .box 52 [.sfp 1001, .tsl 1 (mb l4_2) 1002]),(1002,amb5 l4_2)]⟩ krf (sG (xR 2 krf ?_))))
    refine xs_heap [(1000,1001),(1101,1002)] [] [] krf (g_q_value_ok n (⟨l4_2⟩:GPw) x5) krf krf krf kff kff (fun r6=>?_)
    refine xE (bq_n (sN ⟨[1,7,10,11,12,16,17,18],[1000,1001,1002],[],[]⟩ ⟨[(1, .p (.sl 5 (mI a1n.Kids))),(7, .fn (.func 79) [pZ1] []),(10, .bsl 1000 1),(11,I 1),(12,I 0),(16, .p (.sl 5 (mI a1n.Kids))),(17,I (lenI (mI a1n.Kids))),(18,I l4_1)],[(1000, .box 56 [.fn (.func 79) [pZ1] []]),(1001, .box 52 [.sfp 1001, .tsl 1 (mb r6.text) 1002]),(1002,amb5 r6.text)]⟩ krf (sL tfm krf ?_)))
    exact kq_n (wi (l4_1+1),r6.text) ⟨[1,7,10,11,12,16,17,18],[1000,1001,1002],[],[]⟩ krf
   ·refine sim_exit (sq_x (kq_x (bq_hit (bq_n ?_))))
    exact nq_n l4_2 ⟨[1,10,11,12],[1000,1001,1002],[],[]⟩ krf
  ·rintro j3
   refine sL tfm krf (ru_n ⟨[1,10,11,12],[1000,1001,1002],[],[]⟩ ⟨[(1, .p (.sl 5 (mI a1n.Kids))),(10, .bsl 1000 1),(11,I 1),(12,I 1)],[(1000, .box 56 [.fn (.func 79) [pZ1] []]),(1001, .box 52 [.sfp 1001, .tsl 1 (mb j3) 1002]),(1002,amb5 j3)]⟩ krf (sR tfm ⟨[1,10,11,12,13],[1000,1001,1002],[],[]⟩ ⟨[(1, .p (.sl 5 (mI a1n.Kids))),(10, .bsl 1000 1),(11,I 1),(12,I 1),(13,B false)],[(1000, .box 56 [.fn (.func 79) [pZ1] []]),(1001, .box 52 [.sfp 1001, .tsl 1 (mb j3) 1002]),(1002,amb5 j3)]⟩ krf (sS (sim_condF krf (sim_exit (sq_x (ru_x ?_)))))))
   refine bq_hit (iq_n (.id) [1000,1001,1002] [] (.tup []) krf krf (kr0 (xE ?_)))
   exact hq_n (.id) [1000,1101] [] krf krf krf krf
def g_q_article_l4 (n:Nat) (a1n:GN) (recl4:(Int × (List UInt8))→Option (List UInt8)) (l4_1:Int) (l4_2:List UInt8):Option (List UInt8) :=
 cond (ltI l4_1 (lenI (List.map idc a1n.Kids)))
  ((Option.bind (getI a1n.Kids l4_1) GN.of).bind fun x5 =>
  (g_q_value n (⟨l4_2⟩:GPw) x5).bind fun r6 =>
  recl4 (wi (l4_1+1),r6.text))
  (some l4_2)
def g_q_article (n:Nat) (a0w:GPw) (a1n:GN):Option GPw :=
 cond (!eqI a1n.Kind 4)
  (some a0w)
  (cond (sumB [32,32] a1n.Name) (
   cond (roomB (List.length (a0w.text++([32,32]++a1n.Name))) 1&&!List.isEmpty ([32,32]++a1n.Name)) (
    (loopN (fun recl4 (l4_1,l4_2)=>g_q_article_l4 n a1n recl4 l4_1 l4_2) n (0,a0w.text++([32,32]++a1n.Name))).bind fun j3 =>
    cond (roomB (List.length (j3++[59,10])) 1&&!List.isEmpty [59,10]) (
     some (⟨j3++[59,10]⟩:GPw)) none) none) none)
theorem g_q_article_ok (n:Nat) (a0w:GPw) (a1n:GN):∀ r,g_q_article n a0w a1n=some r→ACall Tryz.prog 58 [pZ0,ag (GN.cs a1n)] (Go.Abs.look [(1000, .box 52 [.sfp 1000, .tsl 1 (mb a0w.text) 1101]),(1101,amb5 a0w.text)]) (heapR (fun r:GPw=>((.ret (.tup []),[(1000, .box 52 [.sfp 1000, .tsl 1 (mb r.text) 1101]),(1101,amb5 r.text)]):AEnd × List (Nat × Blk))) r):=by
 refine acall_sim (X:=fun r:GPw=>((.ret (.tup []),[(1000, .box 52 [.sfp 1000, .tsl 1 (mb r.text) 1101]),(1101,amb5 r.text)]):AEnd × List (Nat × Blk))) [(1000, .box 52 [.sfp 1000, .tsl 1 (mb a0w.text) 1101]),(1101,amb5 a0w.text)] Tryz.func58 rfl Tryz.ntmps58 rfl ?_
 unfold g_q_article
 refine sR tfm ⟨[0,3],[3,1000,1101],[],[]⟩ ⟨[(0,pZ0),qq 3],[(3,bGN24 a1n),(1000, .box 52 [.sfp 1000, .tsl 1 (mb a0w.text) 1101]),(1101,amb5 a0w.text)]⟩ krf (sS (sR tfm ⟨[0,3,6],[3,1000,1101],[],[]⟩ ⟨[(0,pZ0),qq 3,(6,B (!eqI a1n.Kind 4))],[(3,bGN24 a1n),(1000, .box 52 [.sfp 1000, .tsl 1 (mb a0w.text) 1101]),(1101,amb5 a0w.text)]⟩ krf (sC (!eqI a1n.Kind 4) krf ?_ ?_)))
 ·refine sT (sq_r ?_)
  exact hq_ret (.id) [1000,1101] [] krf krf krf krf
 ·refine sK (sN ⟨[0,3],[3,1000,1101],[],[]⟩ ⟨[(0,pZ0),qq 3],[(3,bGN24 a1n),(1000, .box 52 [.sfp 1000, .tsl 1 (mb a0w.text) 1101]),(1101,amb5 a0w.text)]⟩ krf (sS (sim_drw tfm rfl (xR 5 krf (xF krf krf (aop_sadd (a:=[32,32]) (b:=a1n.Name) rfl krf krf) (xs_inlineL [(1000, .box 52 [.sfp 1000, .tsl 1 (mb a0w.text) 1001]),(1001,amb5 a0w.text)] [pZ0,S ([32,32]++a1n.Name)] [(1000,1000),(1001,1101)] [] [] krf Tryz.func54 rfl Tryz.ntmps54 rfl krf krf krf (sR tfm ⟨[0,1],[1000,1001],[],[]⟩ ⟨[(0,pZ0),(1,S ([32,32]++a1n.Name))],[(1000, .box 52 [.sfp 1000, .tsl 1 (mb a0w.text) 1001]),(1001,amb5 a0w.text)]⟩ krf ?_)))))))
  refine sS (sG (xR 1 krf (xs_one1 (xs_enter (f:=78) (args:=[pZ0]) krf krf krf ?_))))
  refine sc_hold 1000 1 1001 5 1 (mb a0w.text).length (mb a0w.text) ⟨[0,1,6],[1000],[],[]⟩ krf krf rfl (fun _ _ _=>by kernel_rfl) (fun hu1w hu1l hu1c=>?_)
  refine sc_heap [(1000,1000)] [] [] (copy_ok hu1w hu1l hu1c) krf krf krf kff kff (fun _=>?_)
  refine k_hold _ rfl krf krf (kr0 (xE (sN ⟨[0,1],[1000,1001],[],[]⟩ ⟨[(0,pZ0),(1,S ([32,32]++a1n.Name))],[(1000, .box 52 [.sfp 1000, .tsl 1 (mb a0w.text) 1001]),(1001,amb5 a0w.text)]⟩ krf (sS (sG (xR 6 krf ?_))))))
  refine xS (roomB (List.length (a0w.text++([32,32]++a1n.Name))) 1&&!List.isEmpty ([32,32]++a1n.Name)) (fun h2=>?_) (fun _=>xs_none)
  refine xs_apps (t:=48) (u:=9) (ty:=5) (bs:=a0w.text) (b:=[32,32]++a1n.Name) (tk:=1001) krf rfl krf Tryz.underlying48 Tryz.underlying9 krf krf krf krf h2 (xR 3 krf (xE (sN ⟨[1],[1000,1001],[],[]⟩ ⟨[(1,S ([32,32]++a1n.Name))],[(1000, .box 52 [.sfp 1000, .tsl 1 (mb (a0w.text++([32,32]++a1n.Name))) 1001]),(1001,amb5 (a0w.text++([32,32]++a1n.Name)))]⟩ krf (sR tfm ⟨[4,5],[1000,1001],[],[]⟩ ⟨[(4,I (lenI ([32,32]++a1n.Name))),(5, .p (.val (.nilIface)))],[(1000, .box 52 [.sfp 1000, .tsl 1 (mb (a0w.text++([32,32]++a1n.Name))) 1001]),(1001,amb5 (a0w.text++([32,32]++a1n.Name)))]⟩ krf (sT (iq_ret (.id) [1000,1001] [] (.tup [I (lenI ([32,32]++a1n.Name)), .p (.val (.nilIface))]) krf krf (kqn ?_)))))))
  refine sN ⟨[0,3],[3,1000,1101],[],[]⟩ ⟨[(0,pZ0),qq 3],[(3,bGN24 a1n),(1000, .box 52 [.sfp 1000, .tsl 1 (mb (a0w.text++([32,32]++a1n.Name))) 1101]),(1101,amb5 (a0w.text++([32,32]++a1n.Name)))]⟩ krf (sS (sG (xR 6 krf (xs_inline [(1000, .box 56 [.fn (.func 79) [pZ1] []]),(1001, .box 52 [.sfp 1001, .tsl 1 (mb (a0w.text++([32,32]++a1n.Name))) 1002]),(1002,amb5 (a0w.text++([32,32]++a1n.Name)))] [pZ1, .p (.sl 5 (mI a1n.Kids)), .bsl 1000 1] [(1000,19),(1001,1000),(1002,1101)] [] [] krf Tryz.func55 rfl Tryz.ntmps55 rfl krf krf krf (sR tfm ⟨[1,10,11,12],[1000,1001,1002],[],[]⟩ ⟨[(1, .p (.sl 5 (mI a1n.Kids))),(10, .bsl 1000 1),(11,I 1),(12,I 0)],[(1000, .box 56 [.fn (.func 79) [pZ1] []]),(1001, .box 52 [.sfp 1001, .tsl 1 (mb (a0w.text++([32,32]++a1n.Name))) 1002]),(1002,amb5 (a0w.text++([32,32]++a1n.Name)))]⟩ krf (sB (sim_unroll 1 ?_)))))))
  refine sR tfm ⟨[1,10,11,12,13],[1000,1001,1002],[],[]⟩ ⟨[(1, .p (.sl 5 (mI a1n.Kids))),(10, .bsl 1000 1),(11,I 1),(12,I 0),(13,B true)],[(1000, .box 56 [.fn (.func 79) [pZ1] []]),(1001, .box 52 [.sfp 1001, .tsl 1 (mb (a0w.text++([32,32]++a1n.Name))) 1002]),(1002,amb5 (a0w.text++([32,32]++a1n.Name)))]⟩ krf (sS (sim_condT krf (sK (sN ⟨[1,10,11,12],[1000,1001,1002],[],[]⟩ ⟨[(1, .p (.sl 5 (mI a1n.Kids))),(10, .bsl 1000 1),(11,I 1),(12,I 0)],[(1000, .box 56 [.fn (.func 79) [pZ1] []]),(1001, .box 52 [.sfp 1001, .tsl 1 (mb (a0w.text++([32,32]++a1n.Name))) 1002]),(1002,amb5 (a0w.text++([32,32]++a1n.Name)))]⟩ krf (sim_bind (fun j3=>⟨[(1, .p (.sl 5 (mI a1n.Kids))),(10, .bsl 1000 1),(11,I 1),(12,I 0)],[(1000, .box 56 [.fn (.func 79) [pZ1] []]),(1001, .box 52 [.sfp 1001, .tsl 1 (mb j3) 1002]),(1002,amb5 j3)]⟩:(List UInt8)→St) ?_ ?_)))))
  ·refine sB (sR tfm ⟨[1,7,10,11,12],[1000,1001,1002],[],[]⟩ ⟨[(1, .p (.sl 5 (mI a1n.Kids))),(7, .fn (.func 79) [pZ1] []),(10, .bsl 1000 1),(11,I 1),(12,I 0)],[(1000, .box 56 [.fn (.func 79) [pZ1] []]),(1001, .box 52 [.sfp 1001, .tsl 1 (mb (a0w.text++([32,32]++a1n.Name))) 1002]),(1002,amb5 (a0w.text++([32,32]++a1n.Name)))]⟩ krf (sR tfm ⟨[1,7,10,11,12,16,17,18],[1000,1001,1002],[],[]⟩ ⟨[(1, .p (.sl 5 (mI a1n.Kids))),(7, .fn (.func 79) [pZ1] []),(10, .bsl 1000 1),(11,I 1),(12,I 0),(16, .p (.sl 5 (mI a1n.Kids))),(17,I (lenI (mI a1n.Kids))),(18,I 0)],[(1000, .box 56 [.fn (.func 79) [pZ1] []]),(1001, .box 52 [.sfp 1001, .tsl 1 (mb (a0w.text++([32,32]++a1n.Name))) 1002]),(1002,amb5 (a0w.text++([32,32]++a1n.Name)))]⟩ krf (sB (sim_loop (fun (l4_1,l4_2)=>⟨[(1, .p (.sl 5 (mI a1n.Kids))),(7, .fn (.func 79) [pZ1] []),(10, .bsl 1000 1),(11,I 1),(12,I 0),(16, .p (.sl 5 (mI a1n.Kids))),(17,I (lenI (mI a1n.Kids))),(18,I l4_1)],[(1000, .box 56 [.fn (.func 79) [pZ1] []]),(1001, .box 52 [.sfp 1001, .tsl 1 (mb l4_2) 1002]),(1002,amb5 l4_2)]⟩:(Int × (List UInt8))→St) (weak_shr (K:=⟨[1,7,10,11,12,16,17,18],[1000,1001,1002],[],[]⟩) krf) ?_))))
   rintro recl4 ⟨l4_1,l4_2⟩
   show SimE (g_q_article_l4 n a1n recl4 l4_1 l4_2) _ _ _ _ _ _
   unfold g_q_article_l4
   refine sR tfm ⟨[1,7,10,11,12,16,17,18,19],[1000,1001,1002],[],[]⟩ ⟨[(1, .p (.sl 5 (mI a1n.Kids))),(7, .fn (.func 79) [pZ1] []),(10, .bsl 1000 1),(11,I 1),(12,I 0),(16, .p (.sl 5 (mI a1n.Kids))),(17,I (lenI (mI a1n.Kids))),(18,I l4_1),(19,B (ltI l4_1 (lenI (mI a1n.Kids))))],[(1000, .box 56 [.fn (.func 79) [pZ1] []]),(1001, .box 52 [.sfp 1001, .tsl 1 (mb l4_2) 1002]),(1002,amb5 l4_2)]⟩ krf (sS (sC (ltI l4_1 (lenI (mI a1n.Kids))) krf ?_ ?_))
   ·refine sK (sN ⟨[1,7,10,11,12,16,17,18],[1000,1001,1002],[],[]⟩ ⟨[(1, .p (.sl 5 (mI a1n.Kids))),(7, .fn (.func 79) [pZ1] []),(10, .bsl 1000 1),(11,I 1),(12,I 0),(16, .p (.sl 5 (mI a1n.Kids))),(17,I (lenI (mI a1n.Kids))),(18,I l4_1)],[(1000, .box 56 [.fn (.func 79) [pZ1] []]),(1001, .box 52 [.sfp 1001, .tsl 1 (mb l4_2) 1002]),(1002,amb5 l4_2)]⟩ krf (sS (sB (sS (sG ?_)))))
    refine xG krf krf (aop_idxR (e:=24) (S:=5) (enc:=GN.cs) (dec:=GN.of) (l:=a1n.Kids) (k:=.i64) (n:=l4_1) (sv:=.p (.sl 5 (mI a1n.Kids))) GN.of_cs rfl krf krf krf krf krf) (fun x5=>?_)
    refine xR 3 krf (xE (sN ⟨[1,7,9,10,11,12,16,17,18],[9,1000,1001,1002],[],[]⟩ ⟨[(1, .p (.sl 5 (mI a1n.Kids))),(7, .fn (.func 79) [pZ1] []),qq 9,(10, .bsl 1000 1),(11,I 1),(12,I 0),(16, .p (.sl 5 (mI a1n.Kids))),(17,I (lenI (mI a1n.Kids))),(18,I l4_1)],[(9,bGN24 x5),(1000, .box 56 [.fn (.func 79) [pZ1] []]),(1001, .box 52 [.sfp 1001, .tsl 1 (mb l4_2) 1002]),(1002,amb5 l4_2)]⟩ krf (sG (xR 2 krf ?_))))
    refine xs_heap [(1000,1001),(1101,1002)] [] [] krf (g_q_value_ok n (⟨l4_2⟩:GPw) x5) krf krf krf kff kff (fun r6=>?_)
    refine xE (bq_n (sN ⟨[1,7,10,11,12,16,17,18],[1000,1001,1002],[],[]⟩ ⟨[(1, .p (.sl 5 (mI a1n.Kids))),(7, .fn (.func 79) [pZ1] []),(10, .bsl 1000 1),(11,I 1),(12,I 0),(16, .p (.sl 5 (mI a1n.Kids))),(17,I (lenI (mI a1n.Kids))),(18,I l4_1)],[(1000, .box 56 [.fn (.func 79) [pZ1] []]),(1001, .box 52 [.sfp 1001, .tsl 1 (mb r6.text) 1002]),(1002,amb5 r6.text)]⟩ krf (sL tfm krf ?_)))
    exact kq_n (wi (l4_1+1),r6.text) ⟨[1,7,10,11,12,16,17,18],[1000,1001,1002],[],[]⟩ krf
   ·refine sim_exit (sq_x (kq_x (bq_hit (bq_n ?_))))
    exact nq_n l4_2 ⟨[1,10,11,12],[1000,1001,1002],[],[]⟩ krf
  ·rintro j3
   refine sL tfm krf (ru_n ⟨[1,10,11,12],[1000,1001,1002],[],[]⟩ ⟨[(1, .p (.sl 5 (mI a1n.Kids))),(10, .bsl 1000 1),(11,I 1),(12,I 1)],[(1000, .box 56 [.fn (.func 79) [pZ1] []]),(1001, .box 52 [.sfp 1001, .tsl 1 (mb j3) 1002]),(1002,amb5 j3)]⟩ krf (sR tfm ⟨[1,10,11,12,13],[1000,1001,1002],[],[]⟩ ⟨[(1, .p (.sl 5 (mI a1n.Kids))),(10, .bsl 1000 1),(11,I 1),(12,I 1),(13,B false)],[(1000, .box 56 [.fn (.func 79) [pZ1] []]),(1001, .box 52 [.sfp 1001, .tsl 1 (mb j3) 1002]),(1002,amb5 j3)]⟩ krf (sS (sim_condF krf (sim_exit (sq_x (ru_x ?_)))))))
   refine bq_hit (iq_n (.id) [1000,1001,1002] [] (.tup []) krf krf (kr0 (xE (sN ⟨[0],[1000,1101],[],[]⟩ ⟨[(0,pZ0)],[(1000, .box 52 [.sfp 1000, .tsl 1 (mb j3) 1101]),(1101,amb5 j3)]⟩ krf (sG (xR 3 krf (xs_inline [(1000, .box 52 [.sfp 1000, .tsl 1 (mb j3) 1001]),(1001,amb5 j3)] [pZ0,S [59,10]] [(1000,1000),(1001,1101)] [] [] krf Tryz.func54 rfl Tryz.ntmps54 rfl krf krf krf ?_)))))))
   refine sR tfm ⟨[0,1],[1000,1001],[],[]⟩ ⟨[(0,pZ0),(1,S [59,10])],[(1000, .box 52 [.sfp 1000, .tsl 1 (mb j3) 1001]),(1001,amb5 j3)]⟩ krf (sS (sG (xR 1 krf (xs_one1 (xs_enter (f:=78) (args:=[pZ0]) krf krf krf ?_)))))
   refine sc_hold 1000 1 1001 5 1 (mb j3).length (mb j3) ⟨[0,1,6],[1000],[],[]⟩ krf krf rfl (fun _ _ _=>by kernel_rfl) (fun hu7w hu7l hu7c=>?_)
   refine sc_heap [(1000,1000)] [] [] (copy_ok hu7w hu7l hu7c) krf krf krf kff kff (fun _=>?_)
   refine k_hold _ rfl krf krf (kr0 (xE (sN ⟨[0,1],[1000,1001],[],[]⟩ ⟨[(0,pZ0),(1,S [59,10])],[(1000, .box 52 [.sfp 1000, .tsl 1 (mb j3) 1001]),(1001,amb5 j3)]⟩ krf (sS (sG (xR 6 krf ?_))))))
   refine xS (roomB (List.length (j3++[59,10])) 1&&!List.isEmpty [59,10]) (fun h8=>?_) (fun _=>xs_none)
   refine xs_apps (t:=48) (u:=9) (ty:=5) (bs:=j3) (b:=[59,10]) (tk:=1001) krf rfl krf Tryz.underlying48 Tryz.underlying9 krf krf krf krf h8 (xR 3 krf (xE (sN ⟨[1],[1000,1001],[],[]⟩ ⟨[(1,S [59,10])],[(1000, .box 52 [.sfp 1000, .tsl 1 (mb (j3++[59,10])) 1001]),(1001,amb5 (j3++[59,10]))]⟩ krf (sR tfm ⟨[4,5],[1000,1001],[],[]⟩ ⟨[(4,I (lenI [59,10])),(5, .p (.val (.nilIface)))],[(1000, .box 52 [.sfp 1000, .tsl 1 (mb (j3++[59,10])) 1001]),(1001,amb5 (j3++[59,10]))]⟩ krf (sT (iq_ret (.id) [1000,1001] [] (.tup [I (lenI [59,10]), .p (.val (.nilIface))]) krf krf (kr0 ?_)))))))
   refine xE ?_
   exact hq_n (.id) [1000,1101] [] krf krf krf krf
def g_q_item_l5 (n:Nat) (a1n:GN) (recl5:(Int × (List UInt8))→Option (List UInt8)) (l5_1:Int) (l5_2:List UInt8):Option (List UInt8) :=
 cond (ltI l5_1 (lenI (List.map idc a1n.Kids)))
  ((Option.bind (getI a1n.Kids l5_1) GN.of).bind fun x6 =>
  (g_q_attr n (⟨l5_2⟩:GPw) x6).bind fun r7 =>
  recl5 (wi (l5_1+1),r7.text))
  (some l5_2)
def g_q_item_l11 (n:Nat) (a1n:GN) (recl11:(Int × (List UInt8))→Option (List UInt8)) (l11_1:Int) (l11_2:List UInt8):Option (List UInt8) :=
 cond (ltI l11_1 (lenI (List.map idc a1n.Kids)))
  ((Option.bind (getI a1n.Kids l11_1) GN.of).bind fun x12 =>
  (g_q_attr n (⟨l11_2⟩:GPw) x12).bind fun r13 =>
  recl11 (wi (l11_1+1),r13.text))
  (some l11_2)
def g_q_item_l15 (a1n:GN) (recl15:(Int × (List UInt8))→Option (List UInt8)) (l15_1:Int) (l15_2:List UInt8):Option (List UInt8) :=
 cond (ltI l15_1 (lenI (List.map idc [GN.cs a1n])))
  ((Option.bind (getI [GN.cs a1n] l15_1) GN.of).bind fun x16 =>
  cond (roomB (List.length (l15_2++[32,123,10])) 1&&!List.isEmpty [32,123,10]) (
   recl15 (wi (l15_1+1),l15_2++[32,123,10])) none)
  (some l15_2)
def g_q_item_l20 (n:Nat) (a1n:GN) (recl20:(Int × (List UInt8))→Option (List UInt8)) (l20_1:Int) (l20_2:List UInt8):Option (List UInt8) :=
 cond (ltI l20_1 (lenI (List.map idc a1n.Kids)))
  ((Option.bind (getI a1n.Kids l20_1) GN.of).bind fun x21 =>
  (g_q_article n (⟨l20_2⟩:GPw) x21).bind fun r22 =>
  recl20 (wi (l20_1+1),r22.text))
  (some l20_2)
def g_q_item (n:Nat) (a0w:GPw) (a1n:GN):Option GPw :=
 (getI kindsTab a1n.N).bind fun x1 =>
 cond (sumB x1 [32]) (
  cond (sumB (x1++[32]) a1n.Name) (
   cond (roomB (List.length (a0w.text++((x1++[32])++a1n.Name))) 1&&!List.isEmpty ((x1++[32])++a1n.Name)) (
    cond (!eqI a1n.N 7)
     ((loopN (fun recl5 (l5_1,l5_2)=>g_q_item_l5 n a1n recl5 l5_1 l5_2) n (0,a0w.text++((x1++[32])++a1n.Name))).bind fun j4 =>
     cond (roomB (List.length (j4++[59,10])) 1&&!List.isEmpty [59,10]) (
      some (⟨j4++[59,10]⟩:GPw)) none)
     ((loopN (fun recl11 (l11_1,l11_2)=>g_q_item_l11 n a1n recl11 l11_1 l11_2) n (0,a0w.text++((x1++[32])++a1n.Name))).bind fun j10 =>
     (loopN (fun recl15 (l15_1,l15_2)=>g_q_item_l15 a1n recl15 l15_1 l15_2) n (0,j10)).bind fun j14 =>
     (loopN (fun recl20 (l20_1,l20_2)=>g_q_item_l20 n a1n recl20 l20_1 l20_2) n (0,j14)).bind fun j19 =>
     cond (roomB (List.length (j19++[125,10])) 1&&!List.isEmpty [125,10]) (
      some (⟨j19++[125,10]⟩:GPw)) none)) none) none) none
theorem g_q_item_ok (n:Nat) (a0w:GPw) (a1n:GN):∀ r,g_q_item n a0w a1n=some r→ACall Tryz.prog 30 [pZ0,ag (GN.cs a1n)] (Go.Abs.look [(1000, .box 52 [.sfp 1000, .tsl 1 (mb a0w.text) 1101]),(1101,amb5 a0w.text)]) (heapR (fun r:GPw=>((.ret (.tup []),[(1000, .box 52 [.sfp 1000, .tsl 1 (mb r.text) 1101]),(1101,amb5 r.text)]):AEnd × List (Nat × Blk))) r):=by
 refine acall_sim (X:=fun r:GPw=>((.ret (.tup []),[(1000, .box 52 [.sfp 1000, .tsl 1 (mb r.text) 1101]),(1101,amb5 r.text)]):AEnd × List (Nat × Blk))) [(1000, .box 52 [.sfp 1000, .tsl 1 (mb a0w.text) 1101]),(1101,amb5 a0w.text)] Tryz.func30 rfl Tryz.ntmps30 rfl ?_
 unfold g_q_item
 refine sR tfm ⟨[2,3],[2,3,1000,1101],[],[]⟩ ⟨[qq 2,qq 3],[(2, .box 46 [pZ0]),(3,bGN24 a1n),(1000, .box 52 [.sfp 1000, .tsl 1 (mb a0w.text) 1101]),(1101,amb5 a0w.text)]⟩ krf (sS (sim_hst [0,1,2,3,4,8,9] [0,1,2,8,9] [(5,[]),(6,[]),(7,[]),(10,[]),(11,[])] tfm rfl krf krf ?_))
 refine h_gtab [0,1,2,8,9] (k:=.i64) (n:=a1n.N) rfl rfl krf Tryz.underlying82 krf krf krf krf kinds_cells (fun x1 _=>lates_cons (late_read pZ0 krf rfl) (lates_cons (late_read pZ0 krf rfl) (lates_cons (late_read pZ0 krf rfl) (lates_cons (late_read (.ptr 3 1) krf rfl) (lates_cons (late_read (S a1n.Name) krf rfl) (lates_nil)))))) (fun x1=>?_)
 refine h_op [0,1,2,8,9] krf krf (lates_cons (late_read pZ0 krf rfl) (lates_cons (late_read pZ0 krf rfl) (lates_cons (late_read pZ0 krf rfl) (lates_cons (late_read (.ptr 3 1) krf rfl) (lates_cons (late_read (S a1n.Name) krf rfl) (lates_nil)))))) (h_if [0,1,2,8,9] rfl krf krf (aop_sadd (a:=x1) (b:=[32]) rfl krf krf) (fun _=>lates_cons (late_read pZ0 krf rfl) (lates_cons (late_read pZ0 krf rfl) (lates_cons (late_read pZ0 krf rfl) (lates_cons (late_read (.ptr 3 1) krf rfl) (lates_cons (late_read (S a1n.Name) krf rfl) (lates_nil)))))) (h_if [0,1,2] rfl krf krf (aop_sadd (a:=x1++[32]) (b:=a1n.Name) rfl krf krf) (fun _=>lates_cons (late_read pZ0 krf rfl) (lates_cons (late_read pZ0 krf rfl) (lates_cons (late_read pZ0 krf rfl) (lates_nil)))) (h_enter (f:=54) (args:=[pZ0,S ((x1++[32])++a1n.Name)]) (dst:=some 16) krf krf (sc_inline (hc:=[(1000, .box 52 [.sfp 1000, .tsl 1 (mb a0w.text) 1001]),(1001,amb5 a0w.text)]) (args':=[pZ0,S ((x1++[32])++a1n.Name)]) [(1000,1000),(1001,1101)] [] [] Tryz.func54 rfl Tryz.ntmps54 rfl krf krf krf (sR tfm ⟨[0,1],[1000,1001],[],[]⟩ ⟨[(0,pZ0),(1,S ((x1++[32])++a1n.Name))],[(1000, .box 52 [.sfp 1000, .tsl 1 (mb a0w.text) 1001]),(1001,amb5 a0w.text)]⟩ krf (sS (sG ?_)))))))
 refine xR 1 krf (xs_one1 (xs_enter (f:=78) (args:=[pZ0]) krf krf krf ?_))
 refine sc_hold 1000 1 1001 5 1 (mb a0w.text).length (mb a0w.text) ⟨[0,1,6],[1000],[],[]⟩ krf krf rfl (fun _ _ _=>by kernel_rfl) (fun hu2w hu2l hu2c=>?_)
 refine sc_heap [(1000,1000)] [] [] (copy_ok hu2w hu2l hu2c) krf krf krf kff kff (fun _=>?_)
 refine k_hold _ rfl krf krf (kr0 (xE (sN ⟨[0,1],[1000,1001],[],[]⟩ ⟨[(0,pZ0),(1,S ((x1++[32])++a1n.Name))],[(1000, .box 52 [.sfp 1000, .tsl 1 (mb a0w.text) 1001]),(1001,amb5 a0w.text)]⟩ krf (sS (sG (xR 6 krf ?_))))))
 refine xS (roomB (List.length (a0w.text++((x1++[32])++a1n.Name))) 1&&!List.isEmpty ((x1++[32])++a1n.Name)) (fun h3=>?_) (fun _=>xs_none)
 refine xs_apps (t:=48) (u:=9) (ty:=5) (bs:=a0w.text) (b:=(x1++[32])++a1n.Name) (tk:=1001) krf rfl krf Tryz.underlying48 Tryz.underlying9 krf krf krf krf h3 (xR 3 krf (xE (sN ⟨[1],[1000,1001],[],[]⟩ ⟨[(1,S ((x1++[32])++a1n.Name))],[(1000, .box 52 [.sfp 1000, .tsl 1 (mb (a0w.text++((x1++[32])++a1n.Name))) 1001]),(1001,amb5 (a0w.text++((x1++[32])++a1n.Name)))]⟩ krf (sR tfm ⟨[4,5],[1000,1001],[],[]⟩ ⟨[(4,I (lenI ((x1++[32])++a1n.Name))),(5, .p (.val (.nilIface)))],[(1000, .box 52 [.sfp 1000, .tsl 1 (mb (a0w.text++((x1++[32])++a1n.Name))) 1001]),(1001,amb5 (a0w.text++((x1++[32])++a1n.Name)))]⟩ krf (sT (iq_ret (.id) [1000,1001] [] (.tup [I (lenI ((x1++[32])++a1n.Name)), .p (.val (.nilIface))]) krf krf (kh [] krf (lates_nil) krf ?_)))))))
 refine h_end (sN ⟨[2,3],[2,3,1000,1101],[],[]⟩ ⟨[qq 2,qq 3],[(2, .box 46 [pZ0]),(3,bGN24 a1n),(1000, .box 52 [.sfp 1000, .tsl 1 (mb (a0w.text++((x1++[32])++a1n.Name))) 1101]),(1101,amb5 (a0w.text++((x1++[32])++a1n.Name)))]⟩ krf (sS (sR tfm ⟨[2,3,19],[2,3,1000,1101],[],[]⟩ ⟨[qq 2,qq 3,(19,B (!eqI a1n.N 7))],[(2, .box 46 [pZ0]),(3,bGN24 a1n),(1000, .box 52 [.sfp 1000, .tsl 1 (mb (a0w.text++((x1++[32])++a1n.Name))) 1101]),(1101,amb5 (a0w.text++((x1++[32])++a1n.Name)))]⟩ krf (sC (!eqI a1n.N 7) krf ?_ ?_))))
 ·refine sS (sG (xR 6 krf (xs_inline [(1000, .box 56 [.fn (.func 56) [pZ1] []]),(1001, .box 52 [.sfp 1001, .tsl 1 (mb (a0w.text++((x1++[32])++a1n.Name))) 1002]),(1002,amb5 (a0w.text++((x1++[32])++a1n.Name)))] [pZ1, .p (.sl 5 (mI a1n.Kids)), .bsl 1000 1] [(1000,25),(1001,1000),(1002,1101)] [] [] krf Tryz.func55 rfl Tryz.ntmps55 rfl krf krf krf (sR tfm ⟨[1,10,11,12],[1000,1001,1002],[],[]⟩ ⟨[(1, .p (.sl 5 (mI a1n.Kids))),(10, .bsl 1000 1),(11,I 1),(12,I 0)],[(1000, .box 56 [.fn (.func 56) [pZ1] []]),(1001, .box 52 [.sfp 1001, .tsl 1 (mb (a0w.text++((x1++[32])++a1n.Name))) 1002]),(1002,amb5 (a0w.text++((x1++[32])++a1n.Name)))]⟩ krf (sB (sim_unroll 1 (sR tfm ⟨[1,10,11,12,13],[1000,1001,1002],[],[]⟩ ⟨[(1, .p (.sl 5 (mI a1n.Kids))),(10, .bsl 1000 1),(11,I 1),(12,I 0),(13,B true)],[(1000, .box 56 [.fn (.func 56) [pZ1] []]),(1001, .box 52 [.sfp 1001, .tsl 1 (mb (a0w.text++((x1++[32])++a1n.Name))) 1002]),(1002,amb5 (a0w.text++((x1++[32])++a1n.Name)))]⟩ krf ?_)))))))
  refine sS (sim_condT krf (sK (sN ⟨[1,10,11,12],[1000,1001,1002],[],[]⟩ ⟨[(1, .p (.sl 5 (mI a1n.Kids))),(10, .bsl 1000 1),(11,I 1),(12,I 0)],[(1000, .box 56 [.fn (.func 56) [pZ1] []]),(1001, .box 52 [.sfp 1001, .tsl 1 (mb (a0w.text++((x1++[32])++a1n.Name))) 1002]),(1002,amb5 (a0w.text++((x1++[32])++a1n.Name)))]⟩ krf (sim_bind (fun j4=>⟨[(1, .p (.sl 5 (mI a1n.Kids))),(10, .bsl 1000 1),(11,I 1),(12,I 0)],[(1000, .box 56 [.fn (.func 56) [pZ1] []]),(1001, .box 52 [.sfp 1001, .tsl 1 (mb j4) 1002]),(1002,amb5 j4)]⟩:(List UInt8)→St) ?_ ?_))))
  ·refine sB (sR tfm ⟨[1,7,10,11,12],[1000,1001,1002],[],[]⟩ ⟨[(1, .p (.sl 5 (mI a1n.Kids))),(7, .fn (.func 56) [pZ1] []),(10, .bsl 1000 1),(11,I 1),(12,I 0)],[(1000, .box 56 [.fn (.func 56) [pZ1] []]),(1001, .box 52 [.sfp 1001, .tsl 1 (mb (a0w.text++((x1++[32])++a1n.Name))) 1002]),(1002,amb5 (a0w.text++((x1++[32])++a1n.Name)))]⟩ krf (sR tfm ⟨[1,7,10,11,12,16,17,18],[1000,1001,1002],[],[]⟩ ⟨[(1, .p (.sl 5 (mI a1n.Kids))),(7, .fn (.func 56) [pZ1] []),(10, .bsl 1000 1),(11,I 1),(12,I 0),(16, .p (.sl 5 (mI a1n.Kids))),(17,I (lenI (mI a1n.Kids))),(18,I 0)],[(1000, .box 56 [.fn (.func 56) [pZ1] []]),(1001, .box 52 [.sfp 1001, .tsl 1 (mb (a0w.text++((x1++[32])++a1n.Name))) 1002]),(1002,amb5 (a0w.text++((x1++[32])++a1n.Name)))]⟩ krf (sB (sim_loop (fun (l5_1,l5_2)=>⟨[(1, .p (.sl 5 (mI a1n.Kids))),(7, .fn (.func 56) [pZ1] []),(10, .bsl 1000 1),(11,I 1),(12,I 0),(16, .p (.sl 5 (mI a1n.Kids))),(17,I (lenI (mI a1n.Kids))),(18,I l5_1)],[(1000, .box 56 [.fn (.func 56) [pZ1] []]),(1001, .box 52 [.sfp 1001, .tsl 1 (mb l5_2) 1002]),(1002,amb5 l5_2)]⟩:(Int × (List UInt8))→St) (weak_shr (K:=⟨[1,7,10,11,12,16,17,18],[1000,1001,1002],[],[]⟩) krf) ?_))))
   rintro recl5 ⟨l5_1,l5_2⟩
   show SimE (g_q_item_l5 n a1n recl5 l5_1 l5_2) _ _ _ _ _ _
   unfold g_q_item_l5
   refine sR tfm ⟨[1,7,10,11,12,16,17,18,19],[1000,1001,1002],[],[]⟩ ⟨[(1, .p (.sl 5 (mI a1n.Kids))),(7, .fn (.func 56) [pZ1] []),(10, .bsl 1000 1),(11,I 1),(12,I 0),(16, .p (.sl 5 (mI a1n.Kids))),(17,I (lenI (mI a1n.Kids))),(18,I l5_1),(19,B (ltI l5_1 (lenI (mI a1n.Kids))))],[(1000, .box 56 [.fn (.func 56) [pZ1] []]),(1001, .box 52 [.sfp 1001, .tsl 1 (mb l5_2) 1002]),(1002,amb5 l5_2)]⟩ krf (sS (sC (ltI l5_1 (lenI (mI a1n.Kids))) krf ?_ ?_))
   ·refine sK (sN ⟨[1,7,10,11,12,16,17,18],[1000,1001,1002],[],[]⟩ ⟨[(1, .p (.sl 5 (mI a1n.Kids))),(7, .fn (.func 56) [pZ1] []),(10, .bsl 1000 1),(11,I 1),(12,I 0),(16, .p (.sl 5 (mI a1n.Kids))),(17,I (lenI (mI a1n.Kids))),(18,I l5_1)],[(1000, .box 56 [.fn (.func 56) [pZ1] []]),(1001, .box 52 [.sfp 1001, .tsl 1 (mb l5_2) 1002]),(1002,amb5 l5_2)]⟩ krf (sS (sB (sS (sG ?_)))))
    refine xG krf krf (aop_idxR (e:=24) (S:=5) (enc:=GN.cs) (dec:=GN.of) (l:=a1n.Kids) (k:=.i64) (n:=l5_1) (sv:=.p (.sl 5 (mI a1n.Kids))) GN.of_cs rfl krf krf krf krf krf) (fun x6=>?_)
    refine xR 3 krf (xE (sN ⟨[1,7,9,10,11,12,16,17,18],[9,1000,1001,1002],[],[]⟩ ⟨[(1, .p (.sl 5 (mI a1n.Kids))),(7, .fn (.func 56) [pZ1] []),qq 9,(10, .bsl 1000 1),(11,I 1),(12,I 0),(16, .p (.sl 5 (mI a1n.Kids))),(17,I (lenI (mI a1n.Kids))),(18,I l5_1)],[(9,bGN24 x6),(1000, .box 56 [.fn (.func 56) [pZ1] []]),(1001, .box 52 [.sfp 1001, .tsl 1 (mb l5_2) 1002]),(1002,amb5 l5_2)]⟩ krf (sG (xR 2 krf ?_))))
    refine xs_heap [(1000,1001),(1101,1002)] [] [] krf (g_q_attr_ok n (⟨l5_2⟩:GPw) x6) krf krf krf kff kff (fun r7=>?_)
    refine xE (bq_n (sN ⟨[1,7,10,11,12,16,17,18],[1000,1001,1002],[],[]⟩ ⟨[(1, .p (.sl 5 (mI a1n.Kids))),(7, .fn (.func 56) [pZ1] []),(10, .bsl 1000 1),(11,I 1),(12,I 0),(16, .p (.sl 5 (mI a1n.Kids))),(17,I (lenI (mI a1n.Kids))),(18,I l5_1)],[(1000, .box 56 [.fn (.func 56) [pZ1] []]),(1001, .box 52 [.sfp 1001, .tsl 1 (mb r7.text) 1002]),(1002,amb5 r7.text)]⟩ krf (sL tfm krf ?_)))
    exact kq_n (wi (l5_1+1),r7.text) ⟨[1,7,10,11,12,16,17,18],[1000,1001,1002],[],[]⟩ krf
   ·refine sim_exit (sq_x (kq_x (bq_hit (bq_n ?_))))
    exact nq_n l5_2 ⟨[1,10,11,12],[1000,1001,1002],[],[]⟩ krf
  ·rintro j4
   refine sL tfm krf (ru_n ⟨[1,10,11,12],[1000,1001,1002],[],[]⟩ ⟨[(1, .p (.sl 5 (mI a1n.Kids))),(10, .bsl 1000 1),(11,I 1),(12,I 1)],[(1000, .box 56 [.fn (.func 56) [pZ1] []]),(1001, .box 52 [.sfp 1001, .tsl 1 (mb j4) 1002]),(1002,amb5 j4)]⟩ krf (sR tfm ⟨[1,10,11,12,13],[1000,1001,1002],[],[]⟩ ⟨[(1, .p (.sl 5 (mI a1n.Kids))),(10, .bsl 1000 1),(11,I 1),(12,I 1),(13,B false)],[(1000, .box 56 [.fn (.func 56) [pZ1] []]),(1001, .box 52 [.sfp 1001, .tsl 1 (mb j4) 1002]),(1002,amb5 j4)]⟩ krf (sS (sim_condF krf (sim_exit (sq_x (ru_x ?_)))))))
   refine bq_hit (iq_n (.id) [1000,1001,1002] [] (.tup []) krf krf (kr0 (xE (sN ⟨[2],[2,1000,1101],[],[]⟩ ⟨[qq 2],[(2, .box 46 [pZ0]),(1000, .box 52 [.sfp 1000, .tsl 1 (mb j4) 1101]),(1101,amb5 j4)]⟩ krf (sS (sG (xR 3 krf ?_)))))))
   refine xs_inline [(1000, .box 52 [.sfp 1000, .tsl 1 (mb j4) 1001]),(1001,amb5 j4)] [pZ0,S [59,10]] [(1000,1000),(1001,1101)] [] [] krf Tryz.func54 rfl Tryz.ntmps54 rfl krf krf krf (sR tfm ⟨[0,1],[1000,1001],[],[]⟩ ⟨[(0,pZ0),(1,S [59,10])],[(1000, .box 52 [.sfp 1000, .tsl 1 (mb j4) 1001]),(1001,amb5 j4)]⟩ krf (sS (sG (xR 1 krf (xs_one1 (xs_enter (f:=78) (args:=[pZ0]) krf krf krf ?_))))))
   refine sc_hold 1000 1 1001 5 1 (mb j4).length (mb j4) ⟨[0,1,6],[1000],[],[]⟩ krf krf rfl (fun _ _ _=>by kernel_rfl) (fun hu8w hu8l hu8c=>?_)
   refine sc_heap [(1000,1000)] [] [] (copy_ok hu8w hu8l hu8c) krf krf krf kff kff (fun _=>?_)
   refine k_hold _ rfl krf krf (kr0 (xE (sN ⟨[0,1],[1000,1001],[],[]⟩ ⟨[(0,pZ0),(1,S [59,10])],[(1000, .box 52 [.sfp 1000, .tsl 1 (mb j4) 1001]),(1001,amb5 j4)]⟩ krf (sS (sG (xR 6 krf ?_))))))
   refine xS (roomB (List.length (j4++[59,10])) 1&&!List.isEmpty [59,10]) (fun h9=>?_) (fun _=>xs_none)
   refine xs_apps (t:=48) (u:=9) (ty:=5) (bs:=j4) (b:=[59,10]) (tk:=1001) krf rfl krf Tryz.underlying48 Tryz.underlying9 krf krf krf krf h9 (xR 3 krf (xE (sN ⟨[1],[1000,1001],[],[]⟩ ⟨[(1,S [59,10])],[(1000, .box 52 [.sfp 1000, .tsl 1 (mb (j4++[59,10])) 1001]),(1001,amb5 (j4++[59,10]))]⟩ krf (sR tfm ⟨[4,5],[1000,1001],[],[]⟩ ⟨[(4,I (lenI [59,10])),(5, .p (.val (.nilIface)))],[(1000, .box 52 [.sfp 1000, .tsl 1 (mb (j4++[59,10])) 1001]),(1001,amb5 (j4++[59,10]))]⟩ krf (sT (iq_ret (.id) [1000,1001] [] (.tup [I (lenI [59,10]), .p (.val (.nilIface))]) krf krf (kr0 ?_)))))))
   refine xE (sN ⟨[],[1000,1101],[],[]⟩ ⟨[],[(1000, .box 52 [.sfp 1000, .tsl 1 (mb (j4++[59,10])) 1101]),(1101,amb5 (j4++[59,10]))]⟩ krf (sT (sq_r ?_)))
   exact hq_ret (.id) [1000,1101] [] krf krf krf krf
 ·refine sK (sN ⟨[2,3],[2,3,1000,1101],[],[]⟩ ⟨[qq 2,qq 3],[(2, .box 46 [pZ0]),(3,bGN24 a1n),(1000, .box 52 [.sfp 1000, .tsl 1 (mb (a0w.text++((x1++[32])++a1n.Name))) 1101]),(1101,amb5 (a0w.text++((x1++[32])++a1n.Name)))]⟩ krf (sR tfm ⟨[2,3,4],[2,3,1000,1101],[],[]⟩ ⟨[qq 2,qq 3,(4, .fn (.func 57) [] [.ptr 2 0])],[(2, .box 46 [pZ0]),(3,bGN24 a1n),(1000, .box 52 [.sfp 1000, .tsl 1 (mb (a0w.text++((x1++[32])++a1n.Name))) 1101]),(1101,amb5 (a0w.text++((x1++[32])++a1n.Name)))]⟩ krf (sS (sG (xR 6 krf (xs_inline [(1000, .box 56 [.fn (.func 56) [pZ1] []]),(1001, .box 52 [.sfp 1001, .tsl 1 (mb (a0w.text++((x1++[32])++a1n.Name))) 1002]),(1002,amb5 (a0w.text++((x1++[32])++a1n.Name)))] [pZ1, .p (.sl 5 (mI a1n.Kids)), .bsl 1000 1] [(1000,37),(1001,1000),(1002,1101)] [] [] krf Tryz.func55 rfl Tryz.ntmps55 rfl krf krf krf (sR tfm ⟨[1,10,11,12],[1000,1001,1002],[],[]⟩ ⟨[(1, .p (.sl 5 (mI a1n.Kids))),(10, .bsl 1000 1),(11,I 1),(12,I 0)],[(1000, .box 56 [.fn (.func 56) [pZ1] []]),(1001, .box 52 [.sfp 1001, .tsl 1 (mb (a0w.text++((x1++[32])++a1n.Name))) 1002]),(1002,amb5 (a0w.text++((x1++[32])++a1n.Name)))]⟩ krf ?_)))))))
  refine sB (sim_unroll 1 (sR tfm ⟨[1,10,11,12,13],[1000,1001,1002],[],[]⟩ ⟨[(1, .p (.sl 5 (mI a1n.Kids))),(10, .bsl 1000 1),(11,I 1),(12,I 0),(13,B true)],[(1000, .box 56 [.fn (.func 56) [pZ1] []]),(1001, .box 52 [.sfp 1001, .tsl 1 (mb (a0w.text++((x1++[32])++a1n.Name))) 1002]),(1002,amb5 (a0w.text++((x1++[32])++a1n.Name)))]⟩ krf (sS (sim_condT krf (sK (sN ⟨[1,10,11,12],[1000,1001,1002],[],[]⟩ ⟨[(1, .p (.sl 5 (mI a1n.Kids))),(10, .bsl 1000 1),(11,I 1),(12,I 0)],[(1000, .box 56 [.fn (.func 56) [pZ1] []]),(1001, .box 52 [.sfp 1001, .tsl 1 (mb (a0w.text++((x1++[32])++a1n.Name))) 1002]),(1002,amb5 (a0w.text++((x1++[32])++a1n.Name)))]⟩ krf (sim_bind (fun j10=>⟨[(1, .p (.sl 5 (mI a1n.Kids))),(10, .bsl 1000 1),(11,I 1),(12,I 0)],[(1000, .box 56 [.fn (.func 56) [pZ1] []]),(1001, .box 52 [.sfp 1001, .tsl 1 (mb j10) 1002]),(1002,amb5 j10)]⟩:(List UInt8)→St) ?_ ?_)))))))
  ·refine sB (sR tfm ⟨[1,7,10,11,12],[1000,1001,1002],[],[]⟩ ⟨[(1, .p (.sl 5 (mI a1n.Kids))),(7, .fn (.func 56) [pZ1] []),(10, .bsl 1000 1),(11,I 1),(12,I 0)],[(1000, .box 56 [.fn (.func 56) [pZ1] []]),(1001, .box 52 [.sfp 1001, .tsl 1 (mb (a0w.text++((x1++[32])++a1n.Name))) 1002]),(1002,amb5 (a0w.text++((x1++[32])++a1n.Name)))]⟩ krf (sR tfm ⟨[1,7,10,11,12,16,17,18],[1000,1001,1002],[],[]⟩ ⟨[(1, .p (.sl 5 (mI a1n.Kids))),(7, .fn (.func 56) [pZ1] []),(10, .bsl 1000 1),(11,I 1),(12,I 0),(16, .p (.sl 5 (mI a1n.Kids))),(17,I (lenI (mI a1n.Kids))),(18,I 0)],[(1000, .box 56 [.fn (.func 56) [pZ1] []]),(1001, .box 52 [.sfp 1001, .tsl 1 (mb (a0w.text++((x1++[32])++a1n.Name))) 1002]),(1002,amb5 (a0w.text++((x1++[32])++a1n.Name)))]⟩ krf (sB (sim_loop (fun (l11_1,l11_2)=>⟨[(1, .p (.sl 5 (mI a1n.Kids))),(7, .fn (.func 56) [pZ1] []),(10, .bsl 1000 1),(11,I 1),(12,I 0),(16, .p (.sl 5 (mI a1n.Kids))),(17,I (lenI (mI a1n.Kids))),(18,I l11_1)],[(1000, .box 56 [.fn (.func 56) [pZ1] []]),(1001, .box 52 [.sfp 1001, .tsl 1 (mb l11_2) 1002]),(1002,amb5 l11_2)]⟩:(Int × (List UInt8))→St) (weak_shr (K:=⟨[1,7,10,11,12,16,17,18],[1000,1001,1002],[],[]⟩) krf) ?_))))
   rintro recl11 ⟨l11_1,l11_2⟩
   show SimE (g_q_item_l11 n a1n recl11 l11_1 l11_2) _ _ _ _ _ _
   unfold g_q_item_l11
   refine sR tfm ⟨[1,7,10,11,12,16,17,18,19],[1000,1001,1002],[],[]⟩ ⟨[(1, .p (.sl 5 (mI a1n.Kids))),(7, .fn (.func 56) [pZ1] []),(10, .bsl 1000 1),(11,I 1),(12,I 0),(16, .p (.sl 5 (mI a1n.Kids))),(17,I (lenI (mI a1n.Kids))),(18,I l11_1),(19,B (ltI l11_1 (lenI (mI a1n.Kids))))],[(1000, .box 56 [.fn (.func 56) [pZ1] []]),(1001, .box 52 [.sfp 1001, .tsl 1 (mb l11_2) 1002]),(1002,amb5 l11_2)]⟩ krf (sS (sC (ltI l11_1 (lenI (mI a1n.Kids))) krf ?_ ?_))
   ·refine sK (sN ⟨[1,7,10,11,12,16,17,18],[1000,1001,1002],[],[]⟩ ⟨[(1, .p (.sl 5 (mI a1n.Kids))),(7, .fn (.func 56) [pZ1] []),(10, .bsl 1000 1),(11,I 1),(12,I 0),(16, .p (.sl 5 (mI a1n.Kids))),(17,I (lenI (mI a1n.Kids))),(18,I l11_1)],[(1000, .box 56 [.fn (.func 56) [pZ1] []]),(1001, .box 52 [.sfp 1001, .tsl 1 (mb l11_2) 1002]),(1002,amb5 l11_2)]⟩ krf (sS (sB (sS (sG ?_)))))
    refine xG krf krf (aop_idxR (e:=24) (S:=5) (enc:=GN.cs) (dec:=GN.of) (l:=a1n.Kids) (k:=.i64) (n:=l11_1) (sv:=.p (.sl 5 (mI a1n.Kids))) GN.of_cs rfl krf krf krf krf krf) (fun x12=>?_)
    refine xR 3 krf (xE (sN ⟨[1,7,9,10,11,12,16,17,18],[9,1000,1001,1002],[],[]⟩ ⟨[(1, .p (.sl 5 (mI a1n.Kids))),(7, .fn (.func 56) [pZ1] []),qq 9,(10, .bsl 1000 1),(11,I 1),(12,I 0),(16, .p (.sl 5 (mI a1n.Kids))),(17,I (lenI (mI a1n.Kids))),(18,I l11_1)],[(9,bGN24 x12),(1000, .box 56 [.fn (.func 56) [pZ1] []]),(1001, .box 52 [.sfp 1001, .tsl 1 (mb l11_2) 1002]),(1002,amb5 l11_2)]⟩ krf (sG (xR 2 krf ?_))))
    refine xs_heap [(1000,1001),(1101,1002)] [] [] krf (g_q_attr_ok n (⟨l11_2⟩:GPw) x12) krf krf krf kff kff (fun r13=>?_)
    refine xE (bq_n (sN ⟨[1,7,10,11,12,16,17,18],[1000,1001,1002],[],[]⟩ ⟨[(1, .p (.sl 5 (mI a1n.Kids))),(7, .fn (.func 56) [pZ1] []),(10, .bsl 1000 1),(11,I 1),(12,I 0),(16, .p (.sl 5 (mI a1n.Kids))),(17,I (lenI (mI a1n.Kids))),(18,I l11_1)],[(1000, .box 56 [.fn (.func 56) [pZ1] []]),(1001, .box 52 [.sfp 1001, .tsl 1 (mb r13.text) 1002]),(1002,amb5 r13.text)]⟩ krf (sL tfm krf ?_)))
    exact kq_n (wi (l11_1+1),r13.text) ⟨[1,7,10,11,12,16,17,18],[1000,1001,1002],[],[]⟩ krf
   ·refine sim_exit (sq_x (kq_x (bq_hit (bq_n ?_))))
    exact nq_n l11_2 ⟨[1,10,11,12],[1000,1001,1002],[],[]⟩ krf
  ·rintro j10
   refine sL tfm krf (ru_n ⟨[1,10,11,12],[1000,1001,1002],[],[]⟩ ⟨[(1, .p (.sl 5 (mI a1n.Kids))),(10, .bsl 1000 1),(11,I 1),(12,I 1)],[(1000, .box 56 [.fn (.func 56) [pZ1] []]),(1001, .box 52 [.sfp 1001, .tsl 1 (mb j10) 1002]),(1002,amb5 j10)]⟩ krf (sR tfm ⟨[1,10,11,12,13],[1000,1001,1002],[],[]⟩ ⟨[(1, .p (.sl 5 (mI a1n.Kids))),(10, .bsl 1000 1),(11,I 1),(12,I 1),(13,B false)],[(1000, .box 56 [.fn (.func 56) [pZ1] []]),(1001, .box 52 [.sfp 1001, .tsl 1 (mb j10) 1002]),(1002,amb5 j10)]⟩ krf (sS (sim_condF krf (sim_exit (sq_x (ru_x ?_)))))))
   refine bq_hit (iq_n (.id) [1000,1001,1002] [] (.tup []) krf krf (kr0 (xE (sN ⟨[2,3,4],[2,3,1000,1101],[],[]⟩ ⟨[qq 2,qq 3,(4, .fn (.func 57) [] [.ptr 2 0])],[(2, .box 46 [pZ0]),(3,bGN24 a1n),(1000, .box 52 [.sfp 1000, .tsl 1 (mb j10) 1101]),(1101,amb5 j10)]⟩ krf (sS (sG (xR 5 krf ?_)))))))
   refine xs_inline [(1000, .box 46 [pZ3]),(1001,amI24 [GN.cs a1n]),(1002, .box 56 [.fn (.func 57) [] [pZ0]]),(1003, .box 52 [.sfp 1003, .tsl 1 (mb j10) 1004]),(1004,amb5 j10)] [pZ3, .tsl 5 (mI [GN.cs a1n]) 1001, .bsl 1002 1] [(1000,2),(1001,41),(1002,43),(1003,1000),(1004,1101)] [] [] krf Tryz.func55 rfl Tryz.ntmps55 rfl krf krf krf (sR tfm ⟨[1,10,11,12],[1000,1001,1002,1003,1004],[],[]⟩ ⟨[(1, .tsl 5 (mI [GN.cs a1n]) 1001),(10, .bsl 1002 1),(11,I 1),(12,I 0)],[(1000, .box 46 [pZ3]),(1001,amI24 [GN.cs a1n]),(1002, .box 56 [.fn (.func 57) [] [pZ0]]),(1003, .box 52 [.sfp 1003, .tsl 1 (mb j10) 1004]),(1004,amb5 j10)]⟩ krf (sB (sim_unroll 1 (sR tfm ⟨[1,10,11,12,13],[1000,1001,1002,1003,1004],[],[]⟩ ⟨[(1, .tsl 5 (mI [GN.cs a1n]) 1001),(10, .bsl 1002 1),(11,I 1),(12,I 0),(13,B true)],[(1000, .box 46 [pZ3]),(1001,amI24 [GN.cs a1n]),(1002, .box 56 [.fn (.func 57) [] [pZ0]]),(1003, .box 52 [.sfp 1003, .tsl 1 (mb j10) 1004]),(1004,amb5 j10)]⟩ krf (sS (sim_condT krf (sK ?_)))))))
   refine sN ⟨[1,10,11,12],[1000,1001,1002,1003,1004],[],[]⟩ ⟨[(1, .tsl 5 (mI [GN.cs a1n]) 1001),(10, .bsl 1002 1),(11,I 1),(12,I 0)],[(1000, .box 46 [pZ3]),(1001,amI24 [GN.cs a1n]),(1002, .box 56 [.fn (.func 57) [] [pZ0]]),(1003, .box 52 [.sfp 1003, .tsl 1 (mb j10) 1004]),(1004,amb5 j10)]⟩ krf (sim_bind (fun j14=>⟨[(1, .tsl 5 (mI [GN.cs a1n]) 1001),(10, .bsl 1002 1),(11,I 1),(12,I 0)],[(1000, .box 46 [pZ3]),(1001,amI24 [GN.cs a1n]),(1002, .box 56 [.fn (.func 57) [] [pZ0]]),(1003, .box 52 [.sfp 1003, .tsl 1 (mb j14) 1004]),(1004,amb5 j14)]⟩:(List UInt8)→St) ?_ ?_)
   ·refine sB (sR tfm ⟨[1,7,10,11,12],[1000,1001,1002,1003,1004],[],[]⟩ ⟨[(1, .tsl 5 (mI [GN.cs a1n]) 1001),(7, .fn (.func 57) [] [pZ0]),(10, .bsl 1002 1),(11,I 1),(12,I 0)],[(1000, .box 46 [pZ3]),(1001,amI24 [GN.cs a1n]),(1002, .box 56 [.fn (.func 57) [] [pZ0]]),(1003, .box 52 [.sfp 1003, .tsl 1 (mb j10) 1004]),(1004,amb5 j10)]⟩ krf (sR tfm ⟨[1,7,10,11,12,16,17,18],[1000,1001,1002,1003,1004],[],[]⟩ ⟨[(1, .tsl 5 (mI [GN.cs a1n]) 1001),(7, .fn (.func 57) [] [pZ0]),(10, .bsl 1002 1),(11,I 1),(12,I 0),(16, .tsl 5 (mI [GN.cs a1n]) 1001),(17,I (lenI (mI [GN.cs a1n]))),(18,I 0)],[(1000, .box 46 [pZ3]),(1001,amI24 [GN.cs a1n]),(1002, .box 56 [.fn (.func 57) [] [pZ0]]),(1003, .box 52 [.sfp 1003, .tsl 1 (mb j10) 1004]),(1004,amb5 j10)]⟩ krf (sB (sim_loop (fun (l15_1,l15_2)=>⟨[(1, .tsl 5 (mI [GN.cs a1n]) 1001),(7, .fn (.func 57) [] [pZ0]),(10, .bsl 1002 1),(11,I 1),(12,I 0),(16, .tsl 5 (mI [GN.cs a1n]) 1001),(17,I (lenI (mI [GN.cs a1n]))),(18,I l15_1)],[(1000, .box 46 [pZ3]),(1001,amI24 [GN.cs a1n]),(1002, .box 56 [.fn (.func 57) [] [pZ0]]),(1003, .box 52 [.sfp 1003, .tsl 1 (mb l15_2) 1004]),(1004,amb5 l15_2)]⟩:(Int × (List UInt8))→St) (weak_shr (K:=⟨[1,7,10,11,12,16,17,18],[1000,1001,1002,1003,1004],[],[]⟩) krf) ?_))))
    rintro recl15 ⟨l15_1,l15_2⟩
    show SimE (g_q_item_l15 a1n recl15 l15_1 l15_2) _ _ _ _ _ _
    unfold g_q_item_l15
    refine sR tfm ⟨[1,7,10,11,12,16,17,18,19],[1000,1001,1002,1003,1004],[],[]⟩ ⟨[(1, .tsl 5 (mI [GN.cs a1n]) 1001),(7, .fn (.func 57) [] [pZ0]),(10, .bsl 1002 1),(11,I 1),(12,I 0),(16, .tsl 5 (mI [GN.cs a1n]) 1001),(17,I (lenI (mI [GN.cs a1n]))),(18,I l15_1),(19,B (ltI l15_1 (lenI (mI [GN.cs a1n]))))],[(1000, .box 46 [pZ3]),(1001,amI24 [GN.cs a1n]),(1002, .box 56 [.fn (.func 57) [] [pZ0]]),(1003, .box 52 [.sfp 1003, .tsl 1 (mb l15_2) 1004]),(1004,amb5 l15_2)]⟩ krf (sS (sC (ltI l15_1 (lenI (mI [GN.cs a1n]))) krf ?_ ?_))
    ·refine sK (sN ⟨[1,7,10,11,12,16,17,18],[1000,1001,1002,1003,1004],[],[]⟩ ⟨[(1, .tsl 5 (mI [GN.cs a1n]) 1001),(7, .fn (.func 57) [] [pZ0]),(10, .bsl 1002 1),(11,I 1),(12,I 0),(16, .tsl 5 (mI [GN.cs a1n]) 1001),(17,I (lenI (mI [GN.cs a1n]))),(18,I l15_1)],[(1000, .box 46 [pZ3]),(1001,amI24 [GN.cs a1n]),(1002, .box 56 [.fn (.func 57) [] [pZ0]]),(1003, .box 52 [.sfp 1003, .tsl 1 (mb l15_2) 1004]),(1004,amb5 l15_2)]⟩ krf (sS (sB (sS (sG ?_)))))
     refine xG krf krf (aop_idxR (e:=24) (S:=5) (enc:=GN.cs) (dec:=GN.of) (l:=[GN.cs a1n]) (k:=.i64) (n:=l15_1) (sv:=.tsl 5 (mI [GN.cs a1n]) 1001) GN.of_cs rfl krf krf krf krf krf) (fun x16=>?_)
     refine xR 3 krf (xE (sN ⟨[1,7,9,10,11,12,16,17,18],[9,1000,1001,1002,1003,1004],[],[]⟩ ⟨[(1, .tsl 5 (mI [GN.cs a1n]) 1001),(7, .fn (.func 57) [] [pZ0]),qq 9,(10, .bsl 1002 1),(11,I 1),(12,I 0),(16, .tsl 5 (mI [GN.cs a1n]) 1001),(17,I (lenI (mI [GN.cs a1n]))),(18,I l15_1)],[(9,bGN24 x16),(1000, .box 46 [pZ3]),(1001,amI24 [GN.cs a1n]),(1002, .box 56 [.fn (.func 57) [] [pZ0]]),(1003, .box 52 [.sfp 1003, .tsl 1 (mb l15_2) 1004]),(1004,amb5 l15_2)]⟩ krf (sG (xR 2 krf (xs_inline [(1000, .box 46 [pZ1]),(1001, .box 52 [.sfp 1001, .tsl 1 (mb l15_2) 1002]),(1002,amb5 l15_2)] [.agg [I x16.Kind,S x16.Name,I x16.N,I x16.At, .p (.sl 5 (mI x16.Kids))],pZ0] [(1000,1000),(1001,1003),(1002,1004)] [] [] krf Tryz.func57 rfl Tryz.ntmps57 rfl krf krf krf (sR tfm ⟨[1],[1000,1001,1002],[],[]⟩ ⟨[(1,pZ0)],[(1000, .box 46 [pZ1]),(1001, .box 52 [.sfp 1001, .tsl 1 (mb l15_2) 1002]),(1002,amb5 l15_2)]⟩ krf (sG ?_)))))))
     refine xR 3 krf (xs_inline [(1000, .box 52 [.sfp 1000, .tsl 1 (mb l15_2) 1001]),(1001,amb5 l15_2)] [pZ0,S [32,123,10]] [(1000,1001),(1001,1002)] [] [] krf Tryz.func54 rfl Tryz.ntmps54 rfl krf krf krf (sR tfm ⟨[0,1],[1000,1001],[],[]⟩ ⟨[(0,pZ0),(1,S [32,123,10])],[(1000, .box 52 [.sfp 1000, .tsl 1 (mb l15_2) 1001]),(1001,amb5 l15_2)]⟩ krf (sS (sG (xR 1 krf (xs_one1 (xs_enter (f:=78) (args:=[pZ0]) krf krf krf ?_)))))))
     refine sc_hold 1000 1 1001 5 1 (mb l15_2).length (mb l15_2) ⟨[0,1,6],[1000],[],[]⟩ krf krf rfl (fun _ _ _=>by kernel_rfl) (fun hu17w hu17l hu17c=>?_)
     refine sc_heap [(1000,1000)] [] [] (copy_ok hu17w hu17l hu17c) krf krf krf kff kff (fun _=>?_)
     refine k_hold _ rfl krf krf (kr0 (xE (sN ⟨[0,1],[1000,1001],[],[]⟩ ⟨[(0,pZ0),(1,S [32,123,10])],[(1000, .box 52 [.sfp 1000, .tsl 1 (mb l15_2) 1001]),(1001,amb5 l15_2)]⟩ krf (sS (sG (xR 6 krf ?_))))))
     refine xS (roomB (List.length (l15_2++[32,123,10])) 1&&!List.isEmpty [32,123,10]) (fun h18=>?_) (fun _=>xs_none)
     refine xs_apps (t:=48) (u:=9) (ty:=5) (bs:=l15_2) (b:=[32,123,10]) (tk:=1001) krf rfl krf Tryz.underlying48 Tryz.underlying9 krf krf krf krf h18 (xR 3 krf (xE (sN ⟨[1],[1000,1001],[],[]⟩ ⟨[(1,S [32,123,10])],[(1000, .box 52 [.sfp 1000, .tsl 1 (mb (l15_2++[32,123,10])) 1001]),(1001,amb5 (l15_2++[32,123,10]))]⟩ krf (sR tfm ⟨[4,5],[1000,1001],[],[]⟩ ⟨[(4,I (lenI [32,123,10])),(5, .p (.val (.nilIface)))],[(1000, .box 52 [.sfp 1000, .tsl 1 (mb (l15_2++[32,123,10])) 1001]),(1001,amb5 (l15_2++[32,123,10]))]⟩ krf (sT (iq_ret (.id) [1000,1001] [] (.tup [I (lenI [32,123,10]), .p (.val (.nilIface))]) krf krf (kr0 ?_)))))))
     refine xE (iq_n (.id) [1000,1001,1002] [] (.tup []) krf krf (kr0 (xE (bq_n (sN ⟨[1,7,10,11,12,16,17,18],[1000,1001,1002,1003,1004],[],[]⟩ ⟨[(1, .tsl 5 (mI [GN.cs a1n]) 1001),(7, .fn (.func 57) [] [pZ0]),(10, .bsl 1002 1),(11,I 1),(12,I 0),(16, .tsl 5 (mI [GN.cs a1n]) 1001),(17,I (lenI (mI [GN.cs a1n]))),(18,I l15_1)],[(1000, .box 46 [pZ3]),(1001,amI24 [GN.cs a1n]),(1002, .box 56 [.fn (.func 57) [] [pZ0]]),(1003, .box 52 [.sfp 1003, .tsl 1 (mb (l15_2++[32,123,10])) 1004]),(1004,amb5 (l15_2++[32,123,10]))]⟩ krf (sL tfm krf ?_))))))
     exact kq_n (wi (l15_1+1),l15_2++[32,123,10]) ⟨[1,7,10,11,12,16,17,18],[1000,1001,1002,1003,1004],[],[]⟩ krf
    ·refine sim_exit (sq_x (kq_x (bq_hit (bq_n ?_))))
     exact nq_n l15_2 ⟨[1,10,11,12],[1000,1001,1002,1003,1004],[],[]⟩ krf
   ·rintro j14
    refine sL tfm krf (ru_n ⟨[1,10,11,12],[1000,1001,1002,1003,1004],[],[]⟩ ⟨[(1, .tsl 5 (mI [GN.cs a1n]) 1001),(10, .bsl 1002 1),(11,I 1),(12,I 1)],[(1000, .box 46 [pZ3]),(1001,amI24 [GN.cs a1n]),(1002, .box 56 [.fn (.func 57) [] [pZ0]]),(1003, .box 52 [.sfp 1003, .tsl 1 (mb j14) 1004]),(1004,amb5 j14)]⟩ krf (sR tfm ⟨[1,10,11,12,13],[1000,1001,1002,1003,1004],[],[]⟩ ⟨[(1, .tsl 5 (mI [GN.cs a1n]) 1001),(10, .bsl 1002 1),(11,I 1),(12,I 1),(13,B false)],[(1000, .box 46 [pZ3]),(1001,amI24 [GN.cs a1n]),(1002, .box 56 [.fn (.func 57) [] [pZ0]]),(1003, .box 52 [.sfp 1003, .tsl 1 (mb j14) 1004]),(1004,amb5 j14)]⟩ krf (sS (sim_condF krf (sim_exit (sq_x (ru_x ?_)))))))
    refine bq_hit (iq_n (.id) [1000,1001,1002,1003,1004] [] (.tup []) krf krf (kr0 (xE (sN ⟨[2,3],[2,3,1000,1101],[],[]⟩ ⟨[qq 2,qq 3],[(2, .box 46 [pZ0]),(3,bGN24 a1n),(1000, .box 52 [.sfp 1000, .tsl 1 (mb j14) 1101]),(1101,amb5 j14)]⟩ krf (sS (sG (xR 6 krf ?_)))))))
    refine xs_inline [(1000, .box 56 [.fn (.func 58) [pZ1] []]),(1001, .box 52 [.sfp 1001, .tsl 1 (mb j14) 1002]),(1002,amb5 j14)] [pZ1, .p (.sl 5 (mI a1n.Kids)), .bsl 1000 1] [(1000,50),(1001,1000),(1002,1101)] [] [] krf Tryz.func55 rfl Tryz.ntmps55 rfl krf krf krf (sR tfm ⟨[1,10,11,12],[1000,1001,1002],[],[]⟩ ⟨[(1, .p (.sl 5 (mI a1n.Kids))),(10, .bsl 1000 1),(11,I 1),(12,I 0)],[(1000, .box 56 [.fn (.func 58) [pZ1] []]),(1001, .box 52 [.sfp 1001, .tsl 1 (mb j14) 1002]),(1002,amb5 j14)]⟩ krf (sB (sim_unroll 1 (sR tfm ⟨[1,10,11,12,13],[1000,1001,1002],[],[]⟩ ⟨[(1, .p (.sl 5 (mI a1n.Kids))),(10, .bsl 1000 1),(11,I 1),(12,I 0),(13,B true)],[(1000, .box 56 [.fn (.func 58) [pZ1] []]),(1001, .box 52 [.sfp 1001, .tsl 1 (mb j14) 1002]),(1002,amb5 j14)]⟩ krf (sS (sim_condT krf (sK ?_)))))))
    refine sN ⟨[1,10,11,12],[1000,1001,1002],[],[]⟩ ⟨[(1, .p (.sl 5 (mI a1n.Kids))),(10, .bsl 1000 1),(11,I 1),(12,I 0)],[(1000, .box 56 [.fn (.func 58) [pZ1] []]),(1001, .box 52 [.sfp 1001, .tsl 1 (mb j14) 1002]),(1002,amb5 j14)]⟩ krf (sim_bind (fun j19=>⟨[(1, .p (.sl 5 (mI a1n.Kids))),(10, .bsl 1000 1),(11,I 1),(12,I 0)],[(1000, .box 56 [.fn (.func 58) [pZ1] []]),(1001, .box 52 [.sfp 1001, .tsl 1 (mb j19) 1002]),(1002,amb5 j19)]⟩:(List UInt8)→St) ?_ ?_)
    ·refine sB (sR tfm ⟨[1,7,10,11,12],[1000,1001,1002],[],[]⟩ ⟨[(1, .p (.sl 5 (mI a1n.Kids))),(7, .fn (.func 58) [pZ1] []),(10, .bsl 1000 1),(11,I 1),(12,I 0)],[(1000, .box 56 [.fn (.func 58) [pZ1] []]),(1001, .box 52 [.sfp 1001, .tsl 1 (mb j14) 1002]),(1002,amb5 j14)]⟩ krf (sR tfm ⟨[1,7,10,11,12,16,17,18],[1000,1001,1002],[],[]⟩ ⟨[(1, .p (.sl 5 (mI a1n.Kids))),(7, .fn (.func 58) [pZ1] []),(10, .bsl 1000 1),(11,I 1),(12,I 0),(16, .p (.sl 5 (mI a1n.Kids))),(17,I (lenI (mI a1n.Kids))),(18,I 0)],[(1000, .box 56 [.fn (.func 58) [pZ1] []]),(1001, .box 52 [.sfp 1001, .tsl 1 (mb j14) 1002]),(1002,amb5 j14)]⟩ krf (sB (sim_loop (fun (l20_1,l20_2)=>⟨[(1, .p (.sl 5 (mI a1n.Kids))),(7, .fn (.func 58) [pZ1] []),(10, .bsl 1000 1),(11,I 1),(12,I 0),(16, .p (.sl 5 (mI a1n.Kids))),(17,I (lenI (mI a1n.Kids))),(18,I l20_1)],[(1000, .box 56 [.fn (.func 58) [pZ1] []]),(1001, .box 52 [.sfp 1001, .tsl 1 (mb l20_2) 1002]),(1002,amb5 l20_2)]⟩:(Int × (List UInt8))→St) (weak_shr (K:=⟨[1,7,10,11,12,16,17,18],[1000,1001,1002],[],[]⟩) krf) ?_))))
     rintro recl20 ⟨l20_1,l20_2⟩
     show SimE (g_q_item_l20 n a1n recl20 l20_1 l20_2) _ _ _ _ _ _
     unfold g_q_item_l20
     refine sR tfm ⟨[1,7,10,11,12,16,17,18,19],[1000,1001,1002],[],[]⟩ ⟨[(1, .p (.sl 5 (mI a1n.Kids))),(7, .fn (.func 58) [pZ1] []),(10, .bsl 1000 1),(11,I 1),(12,I 0),(16, .p (.sl 5 (mI a1n.Kids))),(17,I (lenI (mI a1n.Kids))),(18,I l20_1),(19,B (ltI l20_1 (lenI (mI a1n.Kids))))],[(1000, .box 56 [.fn (.func 58) [pZ1] []]),(1001, .box 52 [.sfp 1001, .tsl 1 (mb l20_2) 1002]),(1002,amb5 l20_2)]⟩ krf (sS (sC (ltI l20_1 (lenI (mI a1n.Kids))) krf ?_ ?_))
     ·refine sK (sN ⟨[1,7,10,11,12,16,17,18],[1000,1001,1002],[],[]⟩ ⟨[(1, .p (.sl 5 (mI a1n.Kids))),(7, .fn (.func 58) [pZ1] []),(10, .bsl 1000 1),(11,I 1),(12,I 0),(16, .p (.sl 5 (mI a1n.Kids))),(17,I (lenI (mI a1n.Kids))),(18,I l20_1)],[(1000, .box 56 [.fn (.func 58) [pZ1] []]),(1001, .box 52 [.sfp 1001, .tsl 1 (mb l20_2) 1002]),(1002,amb5 l20_2)]⟩ krf (sS (sB (sS (sG ?_)))))
      refine xG krf krf (aop_idxR (e:=24) (S:=5) (enc:=GN.cs) (dec:=GN.of) (l:=a1n.Kids) (k:=.i64) (n:=l20_1) (sv:=.p (.sl 5 (mI a1n.Kids))) GN.of_cs rfl krf krf krf krf krf) (fun x21=>?_)
      refine xR 3 krf (xE (sN ⟨[1,7,9,10,11,12,16,17,18],[9,1000,1001,1002],[],[]⟩ ⟨[(1, .p (.sl 5 (mI a1n.Kids))),(7, .fn (.func 58) [pZ1] []),qq 9,(10, .bsl 1000 1),(11,I 1),(12,I 0),(16, .p (.sl 5 (mI a1n.Kids))),(17,I (lenI (mI a1n.Kids))),(18,I l20_1)],[(9,bGN24 x21),(1000, .box 56 [.fn (.func 58) [pZ1] []]),(1001, .box 52 [.sfp 1001, .tsl 1 (mb l20_2) 1002]),(1002,amb5 l20_2)]⟩ krf (sG (xR 2 krf ?_))))
      refine xs_heap [(1000,1001),(1101,1002)] [] [] krf (g_q_article_ok n (⟨l20_2⟩:GPw) x21) krf krf krf kff kff (fun r22=>?_)
      refine xE (bq_n (sN ⟨[1,7,10,11,12,16,17,18],[1000,1001,1002],[],[]⟩ ⟨[(1, .p (.sl 5 (mI a1n.Kids))),(7, .fn (.func 58) [pZ1] []),(10, .bsl 1000 1),(11,I 1),(12,I 0),(16, .p (.sl 5 (mI a1n.Kids))),(17,I (lenI (mI a1n.Kids))),(18,I l20_1)],[(1000, .box 56 [.fn (.func 58) [pZ1] []]),(1001, .box 52 [.sfp 1001, .tsl 1 (mb r22.text) 1002]),(1002,amb5 r22.text)]⟩ krf (sL tfm krf ?_)))
      exact kq_n (wi (l20_1+1),r22.text) ⟨[1,7,10,11,12,16,17,18],[1000,1001,1002],[],[]⟩ krf
     ·refine sim_exit (sq_x (kq_x (bq_hit (bq_n ?_))))
      exact nq_n l20_2 ⟨[1,10,11,12],[1000,1001,1002],[],[]⟩ krf
    ·rintro j19
     refine sL tfm krf (ru_n ⟨[1,10,11,12],[1000,1001,1002],[],[]⟩ ⟨[(1, .p (.sl 5 (mI a1n.Kids))),(10, .bsl 1000 1),(11,I 1),(12,I 1)],[(1000, .box 56 [.fn (.func 58) [pZ1] []]),(1001, .box 52 [.sfp 1001, .tsl 1 (mb j19) 1002]),(1002,amb5 j19)]⟩ krf (sR tfm ⟨[1,10,11,12,13],[1000,1001,1002],[],[]⟩ ⟨[(1, .p (.sl 5 (mI a1n.Kids))),(10, .bsl 1000 1),(11,I 1),(12,I 1),(13,B false)],[(1000, .box 56 [.fn (.func 58) [pZ1] []]),(1001, .box 52 [.sfp 1001, .tsl 1 (mb j19) 1002]),(1002,amb5 j19)]⟩ krf (sS (sim_condF krf (sim_exit (sq_x (ru_x ?_)))))))
     refine bq_hit (iq_n (.id) [1000,1001,1002] [] (.tup []) krf krf (kr0 (xE (sN ⟨[2],[2,1000,1101],[],[]⟩ ⟨[qq 2],[(2, .box 46 [pZ0]),(1000, .box 52 [.sfp 1000, .tsl 1 (mb j19) 1101]),(1101,amb5 j19)]⟩ krf (sG (xR 3 krf (xs_inline [(1000, .box 52 [.sfp 1000, .tsl 1 (mb j19) 1001]),(1001,amb5 j19)] [pZ0,S [125,10]] [(1000,1000),(1001,1101)] [] [] krf Tryz.func54 rfl Tryz.ntmps54 rfl krf krf krf ?_)))))))
     refine sR tfm ⟨[0,1],[1000,1001],[],[]⟩ ⟨[(0,pZ0),(1,S [125,10])],[(1000, .box 52 [.sfp 1000, .tsl 1 (mb j19) 1001]),(1001,amb5 j19)]⟩ krf (sS (sG (xR 1 krf (xs_one1 (xs_enter (f:=78) (args:=[pZ0]) krf krf krf ?_)))))
     refine sc_hold 1000 1 1001 5 1 (mb j19).length (mb j19) ⟨[0,1,6],[1000],[],[]⟩ krf krf rfl (fun _ _ _=>by kernel_rfl) (fun hu23w hu23l hu23c=>?_)
     refine sc_heap [(1000,1000)] [] [] (copy_ok hu23w hu23l hu23c) krf krf krf kff kff (fun _=>?_)
     refine k_hold _ rfl krf krf (kr0 (xE (sN ⟨[0,1],[1000,1001],[],[]⟩ ⟨[(0,pZ0),(1,S [125,10])],[(1000, .box 52 [.sfp 1000, .tsl 1 (mb j19) 1001]),(1001,amb5 j19)]⟩ krf (sS (sG (xR 6 krf ?_))))))
     refine xS (roomB (List.length (j19++[125,10])) 1&&!List.isEmpty [125,10]) (fun h24=>?_) (fun _=>xs_none)
     refine xs_apps (t:=48) (u:=9) (ty:=5) (bs:=j19) (b:=[125,10]) (tk:=1001) krf rfl krf Tryz.underlying48 Tryz.underlying9 krf krf krf krf h24 (xR 3 krf (xE (sN ⟨[1],[1000,1001],[],[]⟩ ⟨[(1,S [125,10])],[(1000, .box 52 [.sfp 1000, .tsl 1 (mb (j19++[125,10])) 1001]),(1001,amb5 (j19++[125,10]))]⟩ krf (sR tfm ⟨[4,5],[1000,1001],[],[]⟩ ⟨[(4,I (lenI [125,10])),(5, .p (.val (.nilIface)))],[(1000, .box 52 [.sfp 1000, .tsl 1 (mb (j19++[125,10])) 1001]),(1001,amb5 (j19++[125,10]))]⟩ krf (sT (iq_ret (.id) [1000,1001] [] (.tup [I (lenI [125,10]), .p (.val (.nilIface))]) krf krf (kr0 ?_)))))))
     refine xE ?_
     exact hq_n (.id) [1000,1101] [] krf krf krf krf
def g_printer_Source_l4 (n:Nat) (a0n:GN) (recl4:(Int × (List UInt8))→Option (List UInt8)) (l4_1:Int) (l4_2:List UInt8):Option (List UInt8) :=
 cond (ltI l4_1 (lenI (List.map idc a0n.Kids)))
  ((Option.bind (getI a0n.Kids l4_1) GN.of).bind fun x5 =>
  (g_q_item n (⟨l4_2⟩:GPw) x5).bind fun r6 =>
  recl4 (wi (l4_1+1),r6.text))
  (some l4_2)
def g_printer_Source (n:Nat) (a0n:GN):Option ((List UInt8) × Int) :=
 (g_p_Valid n a0n).bind fun r1 =>
 cond (!r1)
  (some ([],1))
  ((loopN (fun recl4 (l4_1,l4_2)=>g_printer_Source_l4 n a0n recl4 l4_1 l4_2) n (0,[])).bind fun j2 =>
  cond (ltI 8000 (lenI (List.map c8b j2)))
   (some ([],2))
   (some (j2,0)))
theorem g_printer_Source_ok (n:Nat) (a0n:GN):∀ r,g_printer_Source n a0n=some r→PCall Tryz.prog 10 [ag (GN.cs a0n)] (.ret (.tup [S r.1,I r.2])):=by
 refine pcall_sim (X:=fun r:(List UInt8) × Int=>AEnd.ret (.tup [S r.1,I r.2])) Tryz.func10 rfl Tryz.ntmps10 rfl ?_
 unfold g_printer_Source
 refine sR tfm ⟨[1],[1],[],[]⟩ ⟨[qq 1],[(1,bGN24 a0n)]⟩ krf (sS (sS (sG (xR 1 krf ?_))))
 refine xC [] krf (g_p_Valid_ok n a0n) krf krf kff (fun r1=>?_)
 refine xR 1 krf (xE (sN ⟨[1,8],[1],[],[]⟩ ⟨[qq 1,(8,B (!r1))],[(1,bGN24 a0n)]⟩ krf (sC (!r1) krf ?_ ?_)))
 ·refine sR tfm ⟨[2,3],[],[],[]⟩ ⟨[(2,S []),(3,I 1)],[]⟩ krf (sT (sq_r ?_))
  exact qR (.id) krf krf krf
 ·refine sK (sN ⟨[1],[1],[],[]⟩ ⟨[qq 1],[(1,bGN24 a0n)]⟩ krf (sR tfm ⟨[1,4],[1,4,10],[],[]⟩ ⟨[qq 1,qq 4],[(1,bGN24 a0n),(4, .box 46 [.ptr 10 0]),(10, .box 52 [.p (.val (.pointer none)),zS])]⟩ krf (sim_bind (fun j2=>⟨[qq 4],[(4, .box 46 [.ptr 10 0]),(10, .box 52 [.sfp 10, .tsl 1 (mb j2) 600]),(600,amb5 j2)]⟩:(List UInt8)→St) ?_ ?_)))
  ·refine sP ⟨[1,4],[1,4,10],[],[]⟩ ⟨[qq 1,qq 4],[(1,bGN24 a0n),(4, .box 46 [.ptr 10 0]),(10, .box 52 [.p (.val (.pointer none)),zS])]⟩ krf (sim_weak (weak_sfp 10 0 krf) (sim_weak (weak_pn 5 1 600 [] [(10,1)] krf) (sS (sG (xR 1 krf (xs_inline [] [.agg [I a0n.Kind,S a0n.Name,I a0n.N,I a0n.At, .p (.sl 5 (mI a0n.Kids))]] [(1,401)] [] [] krf Tryz.func29 rfl Tryz.ntmps29 rfl krf krf krf (sR tfm ⟨[1],[1],[],[]⟩ ⟨[qq 1],[(1,bGN24 a0n)]⟩ krf ?_)))))))
   refine sR tfm ⟨[2],[1],[],[]⟩ ⟨[(2, .fn (.func 53) [] [.ptr 1 0])],[(1,bGN24 a0n)]⟩ krf (sT (iq_ret (.id) [1] [] (.fn (.func 53) [] [.ptr 1 0]) krf krf (kr0 (xE (sN ⟨[4,12],[4,10,401,600],[],[]⟩ ⟨[qq 4,(12, .fn (.func 53) [] [.ptr 401 0])],[(4, .box 46 [.ptr 10 0]),(10, .box 52 [.sfp 10, .tsl 1 (mb []) 600]),(401,bGN24 a0n),(600,amb5 [])]⟩ krf (sB (sP ⟨[4,12],[4,10,401,600],[],[]⟩ ⟨[qq 4,(12, .fn (.func 53) [] [.ptr 401 0])],[(4, .box 46 [.ptr 10 0]),(10, .box 52 [.sfp 10, .tsl 1 (mb []) 600]),(401,bGN24 a0n),(600,amb5 [])]⟩ krf ?_)))))))
   refine sim_range 53 3000 [] [.ptr 401 0] krf krf (fun nf3 _ hnf3=>?_)
   refine sc_inline (hc:=[(1004, .box 46 [.ptr 1010 0]),(1010, .box 52 [.sfp 1010, .tsl 1 (mb []) 1600]),(1401,bGN24 a0n),(1600,amb5 []),(4000, .lp [(4, .ptr 1004 0),(12, .fn (.func 53) [] [.ptr 1401 0])] nf3 .ready none)]) (args':=[.yv 4000, .ptr 1401 0]) [(1004,4),(1010,10),(1401,401),(1600,600),(4000,3000)] [] [] Tryz.func53 rfl Tryz.ntmps53 rfl krf krf krf (sR tfm ⟨[0,6,7,8],[1004,1010,1401,1600,4000],[],[]⟩ ⟨[(0, .yv 4000),(6, .p (.sl 5 (mI a0n.Kids))),(7,I (lenI (mI a0n.Kids))),(8,I 0)],[(1004, .box 46 [.ptr 1010 0]),(1010, .box 52 [.sfp 1010, .tsl 1 (mb []) 1600]),(1401,bGN24 a0n),(1600,amb5 []),(4000, .lp [(4, .ptr 1004 0),(12, .fn (.func 53) [] [.ptr 1401 0])] nf3 .ready none)]⟩ krf (sB (sim_loop (fun (l4_1,l4_2)=>⟨[(0, .yv 4000),(6, .p (.sl 5 (mI a0n.Kids))),(7,I (lenI (mI a0n.Kids))),(8,I l4_1)],[(1004, .box 46 [.ptr 1010 0]),(1010, .box 52 [.sfp 1010, .tsl 1 (mb l4_2) 1600]),(1401,bGN24 a0n),(1600,amb5 l4_2),(4000, .lp [(4, .ptr 1004 0),(12, .fn (.func 53) [] [.ptr 1401 0])] nf3 .ready none)]⟩:(Int × (List UInt8))→St) (weak_shr (K:=⟨[0,6,7,8],[1004,1010,1401,1600,4000],[],[]⟩) krf) ?_)))
   rintro recl4 ⟨l4_1,l4_2⟩
   show SimE (g_printer_Source_l4 n a0n recl4 l4_1 l4_2) _ _ _ _ _ _
   unfold g_printer_Source_l4
   refine sR tfm ⟨[0,6,7,8,9],[1004,1010,1401,1600,4000],[],[]⟩ ⟨[(0, .yv 4000),(6, .p (.sl 5 (mI a0n.Kids))),(7,I (lenI (mI a0n.Kids))),(8,I l4_1),(9,B (ltI l4_1 (lenI (mI a0n.Kids))))],[(1004, .box 46 [.ptr 1010 0]),(1010, .box 52 [.sfp 1010, .tsl 1 (mb l4_2) 1600]),(1401,bGN24 a0n),(1600,amb5 l4_2),(4000, .lp [(4, .ptr 1004 0),(12, .fn (.func 53) [] [.ptr 1401 0])] nf3 .ready none)]⟩ krf (sS (sC (ltI l4_1 (lenI (mI a0n.Kids))) krf ?_ ?_))
   ·refine sK (sN ⟨[0,6,7,8],[1004,1010,1401,1600,4000],[],[]⟩ ⟨[(0, .yv 4000),(6, .p (.sl 5 (mI a0n.Kids))),(7,I (lenI (mI a0n.Kids))),(8,I l4_1)],[(1004, .box 46 [.ptr 1010 0]),(1010, .box 52 [.sfp 1010, .tsl 1 (mb l4_2) 1600]),(1401,bGN24 a0n),(1600,amb5 l4_2),(4000, .lp [(4, .ptr 1004 0),(12, .fn (.func 53) [] [.ptr 1401 0])] nf3 .ready none)]⟩ krf (sS (sB (sS (sG ?_)))))
    refine xG krf krf (aop_idxR (e:=24) (S:=5) (enc:=GN.cs) (dec:=GN.of) (l:=a0n.Kids) (k:=.i64) (n:=l4_1) (sv:=.p (.sl 5 (mI a0n.Kids))) GN.of_cs rfl krf krf krf krf krf) (fun x5=>?_)
    refine xR 3 krf (xE (sN ⟨[0,4,6,7,8],[4,1004,1010,1401,1600,4000],[],[]⟩ ⟨[(0, .yv 4000),qq 4,(6, .p (.sl 5 (mI a0n.Kids))),(7,I (lenI (mI a0n.Kids))),(8,I l4_1)],[(4,bGN24 x5),(1004, .box 46 [.ptr 1010 0]),(1010, .box 52 [.sfp 1010, .tsl 1 (mb l4_2) 1600]),(1401,bGN24 a0n),(1600,amb5 l4_2),(4000, .lp [(4, .ptr 1004 0),(12, .fn (.func 53) [] [.ptr 1401 0])] nf3 .ready none)]⟩ krf (sS (sG (xR 2 krf ?_)))))
    refine xs_yield [] [(1004, .box 46 [.ptr 1010 0]),(1010, .box 52 [.sfp 1010, .tsl 1 (mb l4_2) 1600]),(1401,bGN24 a0n),(1600,amb5 l4_2),(4000, .lp [(4, .ptr 1004 0),(12, .fn (.func 53) [] [.ptr 1401 0])] nf3 .ready none)] 4000 [(4, .ptr 1004 0),(12, .fn (.func 53) [] [.ptr 1401 0])] [] [] [.agg [I x5.Kind,S x5.Name,I x5.N,I x5.At, .p (.sl 5 (mI x5.Kids))]] krf hnf3 krf krf krf krf krf (fun _=>?_)
    refine sL tfm krf (as_n ⟨[4,5],[5,1004,1010,1401,1600,4000],[],[]⟩ ⟨[(4, .ptr 1004 0),qq 5],[(5,bGN24 x5),(1004, .box 46 [.ptr 1010 0]),(1010, .box 52 [.sfp 1010, .tsl 1 (mb l4_2) 1600]),(1401,bGN24 a0n),(1600,amb5 l4_2),(4000, .lp [(4, .ptr 1004 0),(12, .fn (.func 53) [] [.ptr 1401 0])] nf3 .busy none)]⟩ none krf krf (sB (sG (xR 2 krf ?_))))
    refine xs_heap [(1000,1010),(1101,1600)] [] [] krf (g_q_item_ok n (⟨l4_2⟩:GPw) x5) krf krf krf kff kff (fun r6=>?_)
    refine xE (bq_n (rn_n [1004,1010,1401,1600,4000] [] .busy none krf krf (kr0 (xR 1 krf (xE (sN ⟨[0,6,7,8,15],[1004,1010,1401,1600,4000],[],[]⟩ ⟨[(0, .yv 4000),(6, .p (.sl 5 (mI a0n.Kids))),(7,I (lenI (mI a0n.Kids))),(8,I l4_1),(15,B false)],[(1004, .box 46 [.ptr 1010 0]),(1010, .box 52 [.sfp 1010, .tsl 1 (mb r6.text) 1600]),(1401,bGN24 a0n),(1600,amb5 r6.text),(4000, .lp [(4, .ptr 1004 0),(12, .fn (.func 53) [] [.ptr 1401 0])] nf3 .ready none)]⟩ krf (sim_condF krf ?_)))))))
    refine sK (bq_n (sN ⟨[0,6,7,8],[1004,1010,1401,1600,4000],[],[]⟩ ⟨[(0, .yv 4000),(6, .p (.sl 5 (mI a0n.Kids))),(7,I (lenI (mI a0n.Kids))),(8,I l4_1)],[(1004, .box 46 [.ptr 1010 0]),(1010, .box 52 [.sfp 1010, .tsl 1 (mb r6.text) 1600]),(1401,bGN24 a0n),(1600,amb5 r6.text),(4000, .lp [(4, .ptr 1004 0),(12, .fn (.func 53) [] [.ptr 1401 0])] nf3 .ready none)]⟩ krf (sL tfm krf ?_)))
    exact kq_n (wi (l4_1+1),r6.text) ⟨[0,6,7,8],[1004,1010,1401,1600,4000],[],[]⟩ krf
   ·refine sim_exit (sq_x (kq_x (bq_hit (iq_n .id [1004,1010,1401,1600,4000] [] (.tup []) krf krf ?_))))
    refine kg_n .ready ⟨[4],[4,10,600],[],[]⟩ ⟨[qq 4],[(4, .box 46 [.ptr 10 0]),(10, .box 52 [.sfp 10, .tsl 1 (mb l4_2) 600]),(600,amb5 l4_2)]⟩ krf (by intro h; cases h) krf ?_
    refine bq_n ?_
    exact nq_n l4_2 ⟨[4],[4,10,600],[],[]⟩ krf
  ·rintro j2
   refine sS (sS (sG (xR 3 krf (xs_inline [(1000, .box 52 [.sfp 1000, .tsl 1 (mb j2) 1001]),(1001,amb5 j2)] [pZ0] [(1000,10),(1001,600)] [] [] krf Tryz.func31 rfl Tryz.ntmps31 rfl krf krf krf (sR tfm ⟨[0],[1000,1001],[],[]⟩ ⟨[(0,pZ0)],[(1000, .box 52 [.sfp 1000, .tsl 1 (mb j2) 1001]),(1001,amb5 j2)]⟩ krf (sR tfm ⟨[2],[1000,1001],[],[]⟩ ⟨[(2,I (lenI (mb j2)))],[(1000, .box 52 [.sfp 1000, .tsl 1 (mb j2) 1001]),(1001,amb5 j2)]⟩ krf (sT ?_)))))))
   refine iq_ret (.id) [1000,1001] [] (I (lenI (mb j2))) krf krf (kr0 (xR 1 krf (xE (sN ⟨[4,21],[4,10,600],[],[]⟩ ⟨[qq 4,(21,B (ltI 8000 (lenI (mb j2))))],[(4, .box 46 [.ptr 10 0]),(10, .box 52 [.sfp 10, .tsl 1 (mb j2) 600]),(600,amb5 j2)]⟩ krf (sC (ltI 8000 (lenI (mb j2))) krf ?_ ?_)))))
   ·refine sR tfm ⟨[2,3],[],[],[]⟩ ⟨[(2,S []),(3,I 2)],[]⟩ krf (sT (sq_r ?_))
    exact qR (.id) krf krf krf
   ·refine sK (sN ⟨[4],[4,10,600],[],[]⟩ ⟨[qq 4],[(4, .box 46 [.ptr 10 0]),(10, .box 52 [.sfp 10, .tsl 1 (mb j2) 600]),(600,amb5 j2)]⟩ krf (sS (sG (xR 3 krf (xs_bstr (b:=10) (t:=600) (bs:=j2) (s':=⟨[],[]⟩) bldC ⟨[],[],[],[]⟩ krf krf krf krf krf krf krf krf (xR 2 krf (xE ?_)))))))
    refine sN ⟨[2,3],[],[],[]⟩ ⟨[(2,S j2),(3,I 0)],[]⟩ krf (sT ?_)
    exact qR (.id) krf krf krf
def g_law03_printed (n:Nat) (a0s:List UInt8):Option ((List UInt8) × Bool) :=
 (g_p_Parse n a0s).bind fun r1 =>
 cond (ltI 0 (lenI (List.map GDg.cs r1.2)))
  (some ([],false))
  ((g_printer_Source n r1.1).bind fun r2 =>
  some (r2.1,eqI r2.2 0))
theorem g_law03_printed_ok (n:Nat) (a0s:List UInt8):∀ r,g_law03_printed n a0s=some r→PCall Tryz.prog 26 [S a0s] (.ret (.tup [S r.1,B r.2])):=by
 refine pcall_sim (X:=fun r:(List UInt8) × Bool=>AEnd.ret (.tup [S r.1,B r.2])) Tryz.func26 rfl Tryz.ntmps26 rfl ?_
 unfold g_law03_printed
 refine sR tfm ⟨[0],[],[],[]⟩ ⟨[(0,S a0s)],[]⟩ krf (sS (sG (xR 1 krf ?_)))
 refine xC [] krf (g_p_Parse_ok n a0s) krf krf kff (fun r1=>?_)
 refine xR 6 krf (xE (sN ⟨[4,5],[4],[],[]⟩ ⟨[qq 4,(5, .p (.sl 2 (mDg r1.2)))],[(4,bGN24 r1.1)]⟩ krf (sS (sR tfm ⟨[4,15],[4],[],[]⟩ ⟨[qq 4,(15,B (ltI 0 (lenI (mDg r1.2))))],[(4,bGN24 r1.1)]⟩ krf (sC (ltI 0 (lenI (mDg r1.2))) krf ?_ ?_)))))
 ·refine sR tfm ⟨[2,3],[],[],[]⟩ ⟨[(2,S []),(3,B false)],[]⟩ krf (sT (sq_r ?_))
  exact qR (.id) krf krf krf
 ·refine sK (sN ⟨[4],[4],[],[]⟩ ⟨[qq 4],[(4,bGN24 r1.1)]⟩ krf (sS (sG (xR 1 krf ?_))))
  refine xC [] krf (g_printer_Source_ok n r1.1) krf krf kff (fun r2=>?_)
  refine xR 5 krf (xE (sN ⟨[6,7],[],[],[]⟩ ⟨[(6,S r2.1),(7,I r2.2)],[]⟩ krf (sR tfm ⟨[2,3],[],[],[]⟩ ⟨[(2,S r2.1),(3,B (eqI r2.2 0))],[]⟩ krf (sT ?_))))
  exact qR (.id) krf krf krf
def g_printer_Item (n:Nat) (a0n:GN):Option ((List UInt8) × Int) :=
 (g_printer_Source n (⟨1,[],0,0,[GN.cs a0n]⟩:GN)).bind fun r1 =>
 some (r1.1,r1.2)
theorem g_printer_Item_ok (n:Nat) (a0n:GN):∀ r,g_printer_Item n a0n=some r→PCall Tryz.prog 12 [ag (GN.cs a0n)] (.ret (.tup [S r.1,I r.2])):=by
 refine pcall_sim (X:=fun r:(List UInt8) × Int=>AEnd.ret (.tup [S r.1,I r.2])) Tryz.func12 rfl Tryz.ntmps12 rfl ?_
 unfold g_printer_Item
 refine sR tfm ⟨[1],[1],[],[]⟩ ⟨[qq 1],[(1,bGN24 a0n)]⟩ krf (sS (sG (xR 3 krf ?_)))
 refine xC [.agg [.id, .id, .id, .id, .sl 5]] krf (g_printer_Source_ok n (⟨1,[],0,0,[GN.cs a0n]⟩:GN)) krf krf kff (fun r1=>?_)
 refine xR 4 krf (xE (sN ⟨[2,3],[],[],[]⟩ ⟨[(2,S r1.1),(3,I r1.2)],[]⟩ krf (sT ?_)))
 exact qR (.id) krf krf krf
def g_law03_head (n:Nat):Option Bool :=
 (g_law03_printed n [111,119,110,101,114,32,32,97,32,59,32,35,32,99,111,109,109,101,110,116]).bind fun r1 =>
 (g_law03_printed n [116,97,114,105,102,102,32,116,123,101,110,101,114,103,121,32,51,32,111,110,32,119,111,114,107,59,99,97,112,32,57,59,125,10,99,97,98,108,101,32,99,32,102,114,111,109,32,102,32,108,105,109,105,116,32,55,59]).bind fun r2 =>
 (g_printer_Source n (⟨0,[],0,0,[]⟩:GN)).bind fun r3 =>
 (g_printer_Item n (⟨2,[98],3,0,[]⟩:GN)).bind fun r4 =>
 (g_printer_Item n (⟨2,[111,119,110,101,114],3,0,[]⟩:GN)).bind fun r5 =>
 (cond r1.2
  (cond r2.2
   (cond (eqI r3.2 1)
    (cond (eqI r4.2 0)
     (some (eqI r5.2 1))
     (some false))
    (some false))
   (some false))
  (some false)).bind fun j6 =>
 cond j6
  (cond (eqS r1.1 [111,119,110,101,114,32,97,59,10])
   (cond (eqS r2.1 [116,97,114,105,102,102,32,116,32,123,10,32,32,101,110,101,114,103,121,32,51,32,111,110,32,119,111,114,107,59,10,32,32,99,97,112,32,57,59,10,125,10,99,97,98,108,101,32,99,32,102,114,111,109,32,102,32,108,105,109,105,116,32,55,59,10])
    (some (eqS r4.1 [111,119,110,101,114,32,98,59,10]))
    (some false))
   (some false))
  (some false)
theorem g_law03_head_ok (n:Nat):∀ r,g_law03_head n=some r→PCall Tryz.prog 8 [] (.ret (B r)):=by
 refine pcall_sim (X:=fun r:Bool=>AEnd.ret (B r)) Tryz.func8 rfl Tryz.ntmps8 rfl ?_
 unfold g_law03_head
 refine sR tfm ⟨[],[],[],[]⟩ ⟨[],[]⟩ krf (sS (sG ?_))
 refine xC [] krf (g_law03_printed_ok n [111,119,110,101,114,32,32,97,32,59,32,35,32,99,111,109,109,101,110,116]) krf krf kff (fun r1=>?_)
 refine xR 5 krf (xE (sN ⟨[1,2],[],[],[]⟩ ⟨[(1,S r1.1),(2,B r1.2)],[]⟩ krf (sS (sG ?_))))
 refine xC [] krf (g_law03_printed_ok n [116,97,114,105,102,102,32,116,123,101,110,101,114,103,121,32,51,32,111,110,32,119,111,114,107,59,99,97,112,32,57,59,125,10,99,97,98,108,101,32,99,32,102,114,111,109,32,102,32,108,105,109,105,116,32,55,59]) krf krf kff (fun r2=>?_)
 refine xR 5 krf (xE (sN ⟨[1,2,3,4],[],[],[]⟩ ⟨[(1,S r1.1),(2,B r1.2),(3,S r2.1),(4,B r2.2)],[]⟩ krf (sS (sG (xR 1 krf ?_)))))
 refine xC [.agg [.id, .id, .id, .id, .sl 5]] krf (g_printer_Source_ok n (⟨0,[],0,0,[]⟩:GN)) krf krf kff (fun r3=>?_)
 refine xR 5 krf (xE (sN ⟨[1,2,3,4,6],[],[],[]⟩ ⟨[(1,S r1.1),(2,B r1.2),(3,S r2.1),(4,B r2.2),(6,I r3.2)],[]⟩ krf (sS (sG (xR 1 krf ?_)))))
 refine xC [.agg [.id, .id, .id, .id, .sl 5]] krf (g_printer_Item_ok n (⟨2,[98],3,0,[]⟩:GN)) krf krf kff (fun r4=>?_)
 refine xR 5 krf (xE (sN ⟨[1,2,3,4,6,7,8],[],[],[]⟩ ⟨[(1,S r1.1),(2,B r1.2),(3,S r2.1),(4,B r2.2),(6,I r3.2),(7,S r4.1),(8,I r4.2)],[]⟩ krf (sS (sG (xR 1 krf ?_)))))
 refine xC [.agg [.id, .id, .id, .id, .sl 5]] krf (g_printer_Item_ok n (⟨2,[111,119,110,101,114],3,0,[]⟩:GN)) krf krf kff (fun r5=>?_)
 refine xR 5 krf (xE (sN ⟨[1,2,3,4,6,7,8,10],[],[],[]⟩ ⟨[(1,S r1.1),(2,B r1.2),(3,S r2.1),(4,B r2.2),(6,I r3.2),(7,S r4.1),(8,I r4.2),(10,I r5.2)],[]⟩ krf (sim_bind (fun j6=>⟨[(1,S r1.1),(3,S r2.1),(7,S r4.1),(11,B j6)],[]⟩:Bool→St) ?_ ?_)))
 ·refine sG (xR 2 krf ?_)
  refine xS r1.2 (fun h7=>?_) (fun h7=>?_)
  ·refine xO (want_tt krf h7) krf (xR 2 krf ?_)
   refine xS r2.2 (fun h8=>?_) (fun h8=>?_)
   ·refine xO (want_tt krf h8) krf (xR 3 krf ?_)
    refine xS (eqI r3.2 1) (fun h9=>?_) (fun h9=>?_)
    ·refine xO (want_tt krf h9) krf (xR 3 krf ?_)
     refine xS (eqI r4.2 0) (fun h10=>?_) (fun h10=>?_)
     ·refine xO (want_tt krf h10) krf (xR 3 krf (xE ?_))
      exact nq_n (eqI r5.2 1) ⟨[1,3,7,11],[],[],[]⟩ krf
     ·refine xN (want_tf krf h10) krf (xR 3 krf (xE ?_))
      exact nq_n false ⟨[1,3,7,11],[],[],[]⟩ krf
    ·refine xN (want_tf krf h9) krf (xR 7 krf (xE ?_))
     exact nq_n false ⟨[1,3,7,11],[],[],[]⟩ krf
   ·refine xN (want_tf krf h8) krf (xR 11 krf (xE ?_))
    exact nq_n false ⟨[1,3,7,11],[],[],[]⟩ krf
  ·refine xN (want_tf krf h7) krf (xR 14 krf (xE ?_))
   exact nq_n false ⟨[1,3,7,11],[],[],[]⟩ krf
 ·rintro j6
  refine sS (sG (xR 2 krf ?_))
  refine xS j6 (fun h11=>?_) (fun h11=>?_)
  ·refine xO (want_tt krf h11) krf (xR 3 krf ?_)
   refine xS (eqS r1.1 [111,119,110,101,114,32,97,59,10]) (fun h12=>?_) (fun h12=>?_)
   ·refine xO (want_tt krf h12) krf (xR 3 krf ?_)
    refine xS (eqS r2.1 [116,97,114,105,102,102,32,116,32,123,10,32,32,101,110,101,114,103,121,32,51,32,111,110,32,119,111,114,107,59,10,32,32,99,97,112,32,57,59,10,125,10,99,97,98,108,101,32,99,32,102,114,111,109,32,102,32,108,105,109,105,116,32,55,59,10]) (fun h13=>?_) (fun h13=>?_)
    ·refine xO (want_tt krf h13) krf (xR 3 krf (xE (sN ⟨[0],[],[],[]⟩ ⟨[(0,B (eqS r4.1 [111,119,110,101,114,32,98,59,10]))],[]⟩ krf (sT ?_))))
     exact qR (.id) krf krf krf
    ·refine xN (want_tf krf h13) krf (xR 3 krf (xE (sN ⟨[0],[],[],[]⟩ ⟨[(0,B false)],[]⟩ krf (sT ?_))))
     exact qR (.id) krf krf krf
   ·refine xN (want_tf krf h12) krf (xR 7 krf (xE (sN ⟨[0],[],[],[]⟩ ⟨[(0,B false)],[]⟩ krf (sT ?_))))
    exact qR (.id) krf krf krf
  ·refine xN (want_tf krf h11) krf (xR 11 krf (xE (sN ⟨[0],[],[],[]⟩ ⟨[(0,B false)],[]⟩ krf (sT ?_))))
   exact qR (.id) krf krf krf
def g_ref02_Count_l1 (a0n:GN) (a1most:Int) (rf_ref02_Count:GN→Int→Option Int) (recl1:(Int × Int)→Option Int) (l1_1:Int) (l1_2:Int):Option Int :=
 (cond (ltI l1_2 (lenI (List.map idc a0n.Kids)))
  (some (leI l1_1 a1most))
  (some false)).bind fun j2 =>
 cond j2
  ((Option.bind (getI a0n.Kids l1_2) GN.of).bind fun x4 =>
  (rf_ref02_Count x4 (wi (a1most - l1_1))).bind fun r5 =>
  recl1 (wi (l1_1+r5),wi (l1_2+1)))
  (some l1_1)
def g_ref02_Count_body (n:Nat) (rf_ref02_Count:GN→Int→Option Int) (a0n:GN) (a1most:Int):Option Int :=
 loopN (fun recl1 (l1_1,l1_2)=>g_ref02_Count_l1 a0n a1most rf_ref02_Count recl1 l1_1 l1_2) n (1,0)
end Go.Proofs
