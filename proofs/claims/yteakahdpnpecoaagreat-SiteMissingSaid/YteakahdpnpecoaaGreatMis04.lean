/-
  A part of the proof of a statement of the seat YteakahdpnpecoaaGreat.
-/
import Derived.Test.YteakahdpnpecoaaGreatMis03
set_option linter.unusedVariables false
namespace Go.Proofs
open Go Go.Abs
set_option maxRecDepth 100000
theorem g_r_peek_2_ok (n:Nat) (a0r:GPr):∀ r,g_r_peek_2 n a0r=some r→PCall Tryz.prog 114 [.eptr (GPr.cs a0r)] (.ret (ag (GTk.cs r))):=by
 refine pcall_sim (X:=fun r:GTk=>AEnd.ret (ag (GTk.cs r))) Tryz.func114 rfl Tryz.ntmps114 rfl ?_
 unfold g_r_peek_2
 refine sRK tfm ⟨tq8 (.eptr (GPr.cs a0r)),hq3 0⟩ krf (sS (sRK tfm ⟨[(0, .eptr (GPr.cs a0r)),qq 2,(12,B (ltI a0r.pos (lenI (mTk a0r.tks))))],hq3 0⟩ krf (sC (ltI a0r.pos (lenI (mTk a0r.tks))) krf ?_ ?_)))
 ·refine sS (sDr tfm rfl (xR 8 krf ?_))
  refine xG krf krf (aop_idx (e:=98) (S:=4) (enc:=GTk.cs) (l:=a0r.tks) (k:=.i64) (n:=a0r.pos) (sv:=.p (.sl 4 (mTk a0r.tks))) rfl krf krf krf krf krf) (fun x1=>?_)
  refine xR 2 krf (xED krf (sNK ⟨[qq 2],hq4 x1⟩ krf (sT (sq_r ?_))))
  exact qR (.id) krf krf krf
 refine sK (sNK ⟨tq8 (.eptr (GPr.cs a0r)),hq3 0⟩ krf (sRK tfm ⟨[qq 2],hq3 a0r.length⟩ krf (sT ?_)))
 exact qR (.id) krf krf krf
def g_r_fail_2 (n:Nat) (a0r:GPr):Option (Except Int Unit) :=
 (g_r_peek_2 n a0r).bind fun r1 =>
 some (.error r1.At)
theorem g_r_fail_2_ok (n:Nat) (a0r:GPr):∀ r,g_r_fail_2 n a0r=some r→PCall Tryz.prog 115 [.eptr (GPr.cs a0r)] (excE (fun r:Unit=>(.tup []:AV)) (fun e:Int=>(.ifc 149 (.agg [I e]):AV)) r):=by
 refine pcall_sim (X:=excE (fun r:Unit=>(.tup []:AV)) (fun e:Int=>(.ifc 149 (.agg [I e]):AV))) Tryz.func115 rfl Tryz.ntmps115 rfl ?_
 unfold g_r_fail_2
 refine sG (xR 1 krf ?_)
 refine xC [] krf (g_r_peek_2_ok n a0r) krf krf kff (fun r1=>?_)
 refine xR 3 krf (xPa 149 (.agg [I r1.At]) krf rfl krf ?_)
 exact rq_p krf krf
def g_r_article_1_1 (n:Nat) (a0text:List UInt8):Option Bool :=
 (g_p_notKey n a0text).bind fun r1 =>
 cond r1
  (some true)
  ((g_p_isWord n a0text).bind fun r3 =>
  some r3)
theorem g_r_article_1_1_ok (n:Nat) (a0text:List UInt8):∀ r,g_r_article_1_1 n a0text=some r→PCall Tryz.prog 124 [S a0text] (.ret (B r)):=by
 refine pcall_sim (X:=fun r:Bool=>AEnd.ret (B r)) Tryz.func124 rfl Tryz.ntmps124 rfl ?_
 unfold g_r_article_1_1
 refine sRK tfm ⟨[(0,S a0text)],[]⟩ krf (sS (sG (xR 1 krf ?_)))
 refine xC [] krf (g_p_notKey_ok n a0text) krf krf kff (fun r1=>?_)
 refine xR 1 krf ?_
 refine xS r1 (fun h2=>?_) (fun h2=>?_)
 ·refine xN (want_ft krf h2) krf (xR 3 krf (xE (sNK ⟨[(2,B true)],[]⟩ krf (sT ?_))))
  exact qR (.id) krf krf krf
 refine xO (want_ff krf h2) krf ?_
 refine xC [] krf (g_p_isWord_ok n a0text) krf krf kff (fun r3=>?_)
 refine xR 2 krf (xE (sNK ⟨[(2,B r3)],[]⟩ krf (sT ?_)))
 exact qR (.id) krf krf krf
def g_r_values_2_l1 (n:Nat) (a0r:GPr) (recl1:((List (List PV)) × Int)→Option ((List (List PV)) × GPr)) (l1_1:List (List PV)) (l1_2:Int):Option ((List (List PV)) × GPr) :=
 (g_r_peek n (⟨a0r.tks,l1_2,a0r.length,[]⟩:GPr)).bind fun r2 =>
 cond (eqI r2.Kind 2)
  ((some ()).bind fun _ =>
  cond (roomB (List.length (l1_1++[GN.cs (⟨6,[],r2.N,r2.At,[]⟩:GN)])) 64) (
   recl1 (l1_1++[GN.cs (⟨6,[],r2.N,r2.At,[]⟩:GN)],wi (l1_2+1))) none)
  ((cond (eqI r2.Kind 1)
   ((g_r_article_1_1 n r2.Text).bind fun r6 =>
   some r6)
   (some false)).bind fun j4 =>
  cond j4
   ((some ()).bind fun _ =>
   cond (roomB (List.length (l1_1++[GN.cs (⟨5,r2.Text,0,r2.At,[]⟩:GN)])) 64) (
    recl1 (l1_1++[GN.cs (⟨5,r2.Text,0,r2.At,[]⟩:GN)],wi (l1_2+1))) none)
   (some (l1_1,(⟨a0r.tks,l1_2,a0r.length,[]⟩:GPr))))
def g_r_values_2 (n:Nat) (a0r:GPr):Option ((List (List PV)) × GPr) :=
 loopN (fun recl1 (l1_1,l1_2)=>g_r_values_2_l1 n a0r recl1 l1_1 l1_2) n ([],a0r.pos)
theorem g_r_values_2_ok (n:Nat) (a0r:GPr) (h03w:Option Addr) (h03l h03c:Nat):∀ r,g_r_values_2 n a0r=some r→ACall Tryz.prog 119 [pZ0, .p (.val (.func (.func 124) #[] #[]))] (Go.Abs.look [(1000, .box 95 [.p (.sl 4 (mTk a0r.tks)),I a0r.pos,I a0r.length,hS h03w h03l h03c])]) (heapR (fun r:(List (List PV)) × GPr=>((.ret (.p (.sl 5 (mI r.1))),[(1000, .box 95 [.p (.sl 4 (mTk r.2.tks)),I r.2.pos,I r.2.length,hS h03w h03l h03c])]):AEnd × List (Nat × Blk))) r):=by
 refine acall_sim (X:=fun r:(List (List PV)) × GPr=>((.ret (.p (.sl 5 (mI r.1))),(hq5 r.2.tks r.2.pos r.2.length (.slice h03w h03l h03c))):AEnd × List (Nat × Blk))) (hq5 a0r.tks a0r.pos a0r.length (.slice h03w h03l h03c)) Tryz.func119 rfl Tryz.ntmps119 rfl ?_
 unfold g_r_values_2
 refine sRK tfm ⟨[(0,pZ0),(1, .p (.val (.func (.func 124) #[] #[])))],hq5 a0r.tks a0r.pos a0r.length (.slice h03w h03l h03c)⟩ krf (sRK tfm ⟨tq10 (.func (.func 124) #[] #[]),hq5 a0r.tks a0r.pos a0r.length (.slice h03w h03l h03c)⟩ krf (sB (sPK ⟨tq10 (.func (.func 124) #[] #[]),hq5 a0r.tks a0r.pos a0r.length (.slice h03w h03l h03c)⟩ krf (sim_weak (weak_pn 24 5 300 [5] [] krf) (sim_loop (fun (l1_1,l1_2)=>⟨tq11 (.func (.func 124) #[] #[]) l1_1,hq6 l1_1++hq5 a0r.tks l1_2 a0r.length (.slice h03w h03l h03c)⟩:((List (List PV)) × Int)→St) (wsK krf) ?_)))))
 rintro recl1 ⟨l1_1,l1_2⟩
 show SimE (g_r_values_2_l1 n a0r recl1 l1_1 l1_2) _ _ _ _ _ _
 unfold g_r_values_2_l1
 refine sB (sS (sG (xR 1 krf ?_)))
 refine xs_ro [.ro []] krf (g_r_peek_ok n (⟨a0r.tks,l1_2,a0r.length,[]⟩:GPr) h03w h03l h03c) krf krf kff (fun r2=>?_)
 refine xR 2 krf (xE (sNK ⟨tq12 (.func (.func 124) #[] #[]) l1_1,hq7 r2++hq6 l1_1++hq5 a0r.tks l1_2 a0r.length (.slice h03w h03l h03c)⟩ krf (sS (sB (sRK tfm ⟨tq13 (.func (.func 124) #[] #[]) l1_1 (eqI r2.Kind 2),hq7 r2++hq6 l1_1++hq5 a0r.tks l1_2 a0r.length (.slice h03w h03l h03c)⟩ krf (sC (eqI r2.Kind 2) krf ?_ ?_))))))
 ·refine sG (xR 4 krf (xIn [] [.agg [I r2.Kind,S r2.Text,I r2.N,I r2.At],I 6,S [],I r2.N,zS] [] [] [] krf Tryz.func39 rfl Tryz.ntmps39 rfl krf krf krf (sRK tfm ⟨tq14 6 [] r2.N,hq8 r2⟩ krf (sRK tfm ⟨tq15,hq9 6 [] r2.N r2.At⟩ krf (sBi (fun _=>(sq3 6 [] r2.N r2.At):Unit→St) ?_ ?_)))))
  ·refine sRK tfm ⟨tq16,hq9 6 [] r2.N r2.At⟩ krf (sB (sim_unroll 0 (sRK tfm ⟨tq17,hq9 6 [] r2.N r2.At⟩ krf (sS (sim_condF krf (sim_exit (sq_x ?_)))))))
   refine ru_x (bq_hit ?_)
   exact nqK () krf
  rintro _
  refine sRK tfm (sq4 6 [] r2.N r2.At) krf (sT (iq_ret (.agg [.id, .id, .id, .id, .sl 5]) [] [] (.agg [I 6,S [],I r2.N,I r2.At, .p (.sl 5 (mI []))]) krf krf (kr0 (xR 1 krf (xF krf krf (aop_app (e:=24) (S:=5) (by_:=64) (enc:=idc) (tk:=300) (l:=l1_1) (l2:=[GN.cs (⟨6,[],r2.N,r2.At,[]⟩:GN)]) (xv:=.tsl 5 (mI [GN.cs (⟨6,[],r2.N,r2.At,[]⟩:GN)]) 19) rfl krf krf rfl krf krf krf rfl krf) (xR 1 krf (xE ?_)))))))
  refine bq_n (sNK (sq5 (.func (.func 124) #[] #[]) (l1_1++[GN.cs (⟨6,[],r2.N,r2.At,[]⟩:GN)]) a0r.tks l1_2 a0r.length (.slice h03w h03l h03c)) krf (sL tfm krf (bq_n ?_)))
  exact kqK (l1_1++[GN.cs (⟨6,[],r2.N,r2.At,[]⟩:GN)],wi (l1_2+1)) krf
 refine sBi (fun j4=>⟨tq18 (.func (.func 124) #[] #[]) l1_1 j4,hq7 r2++hq6 l1_1++hq5 a0r.tks l1_2 a0r.length (.slice h03w h03l h03c)⟩:Bool→St) ?_ ?_
 ·refine sG (xR 4 krf ?_)
  refine xS (eqI r2.Kind 1) (fun h5=>?_) (fun h5=>?_)
  ·refine xO (want_tt krf h5) krf (xR 2 krf ?_)
   refine xC [] krf (g_r_article_1_1_ok n r2.Text) krf krf kff (fun r6=>?_)
   refine xR 2 krf (xE ?_)
   exact nqK r6 krf
  refine xN (want_tf krf h5) krf (xR 5 krf (xE ?_))
  exact nqK false krf
 rintro j4
 refine sC j4 krf ?_ ?_
 rotate_left
 ·refine sRK tfm ⟨[(4, .tsl 5 (mI l1_1) 300)],hq6 l1_1++hq5 a0r.tks l1_2 a0r.length (.slice h03w h03l h03c)⟩ krf (sT (bq_r (sq_r (bq_r (kq_r (bq_r ?_))))))
  exact hq_ret (.sl 5) [1000] [] krf krf krf krf
 refine sG (xR 4 krf (xIn [] [.agg [I r2.Kind,S r2.Text,I r2.N,I r2.At],I 5,S r2.Text,I 0,zS] [] [] [] krf Tryz.func39 rfl Tryz.ntmps39 rfl krf krf krf (sRK tfm ⟨tq14 5 r2.Text 0,hq8 r2⟩ krf (sRK tfm ⟨tq15,hq9 5 r2.Text 0 r2.At⟩ krf (sBi (fun _=>(sq3 5 r2.Text 0 r2.At):Unit→St) ?_ ?_)))))
 ·refine sRK tfm ⟨tq16,hq9 5 r2.Text 0 r2.At⟩ krf (sB (sim_unroll 0 (sRK tfm ⟨tq17,hq9 5 r2.Text 0 r2.At⟩ krf (sS (sim_condF krf (sim_exit (sq_x ?_)))))))
  refine ru_x (bq_hit ?_)
  exact nqK () krf
 rintro _
 refine sRK tfm (sq4 5 r2.Text 0 r2.At) krf (sT (iq_ret (.agg [.id, .id, .id, .id, .sl 5]) [] [] (.agg [I 5,S r2.Text,I 0,I r2.At, .p (.sl 5 (mI []))]) krf krf (kr0 (xR 1 krf (xF krf krf (aop_app (e:=24) (S:=5) (by_:=64) (enc:=idc) (tk:=300) (l:=l1_1) (l2:=[GN.cs (⟨5,r2.Text,0,r2.At,[]⟩:GN)]) (xv:=.tsl 5 (mI [GN.cs (⟨5,r2.Text,0,r2.At,[]⟩:GN)]) 36) rfl krf krf rfl krf krf krf rfl krf) (xR 1 krf (xE ?_)))))))
 refine bq_n (sNK (sq5 (.func (.func 124) #[] #[]) (l1_1++[GN.cs (⟨5,r2.Text,0,r2.At,[]⟩:GN)]) a0r.tks l1_2 a0r.length (.slice h03w h03l h03c)) krf (sL tfm krf (bq_n ?_)))
 exact kqK (l1_1++[GN.cs (⟨5,r2.Text,0,r2.At,[]⟩:GN)],wi (l1_2+1)) krf
abbrev ty2:=(Except (Int × GPr) (GN × GPr))
def g_r_article_j6 (r1:GTk) (j3_1:List (List PV)) (j3_2:List GTk) (j3_3:Int) (j3_4:Int):Option ty2 :=
 some (.ok ((⟨4,r1.Text,0,r1.At,j3_1⟩:GN),(⟨j3_2,wi (j3_3+1),j3_4,[]⟩:GPr)))
def g_r_article_j2 (n:Nat) (a0r:GPr) (r1:GTk):Option ty2 :=
 ((g_r_values_2 n (⟨a0r.tks,wi (a0r.pos+1),a0r.length,[]⟩:GPr)).bind fun r4 =>
 cond (roomB (List.length ([]++r4.1)) 64) (
  some ([]++r4.1,r4.2.tks,r4.2.pos,r4.2.length)) none).bind fun (j3_1,j3_2,j3_3,j3_4) =>
 (g_r_peek n (⟨j3_2,j3_3,j3_4,[]⟩:GPr)).bind fun r5 =>
 (cond (eqI r5.Kind 0)
  (some true)
  ((cond (eqI r5.Kind 3)
   (some (eqS r5.Text [59]))
   (some false)).bind fun j9 =>
  some (!j9))).bind fun j7 =>
 cond j7
  ((g_r_fail n (⟨j3_2,j3_3,j3_4,[]⟩:GPr)).bind (exc (fun r11 =>
   g_r_article_j6 r1 j3_1 j3_2 j3_3 j3_4) fun e12=>some (.error (e12,(⟨j3_2,j3_3,j3_4,[]⟩:GPr)))))
  (g_r_article_j6 r1 j3_1 j3_2 j3_3 j3_4)
def g_r_article (n:Nat) (a0r:GPr):Option ty2 :=
 (g_r_peek n (⟨a0r.tks,a0r.pos,a0r.length,[]⟩:GPr)).bind fun r1 =>
 (cond (eqI r1.Kind 0)
  (some true)
  ((cond (eqI r1.Kind 1)
   ((g_p_isArticle n r1.Text).bind fun r17 =>
   some r17)
   (some false)).bind fun j15 =>
  some (!j15))).bind fun j13 =>
 cond j13
  ((g_r_fail n (⟨a0r.tks,a0r.pos,a0r.length,[]⟩:GPr)).bind (exc (fun r18 =>
   g_r_article_j2 n a0r r1) fun e19=>some (.error (e19,(⟨a0r.tks,a0r.pos,a0r.length,[]⟩:GPr)))))
  (g_r_article_j2 n a0r r1)
def hq11:List (Nat × Blk):=[(1, .box 93 [.ptr 1000 0]),(2,(bq3 0 [] 0 0))]
def bq5:=fun x0=>(.box 82 [.p (.val x0)]:Blk)
def sq6:=fun x0=>(⟨[(1, .ptr 1 0)],[(1,(bq5 x0))]⟩:St)
def sq7:=fun x0=>(⟨[(2, .fn (.func 116) [] [.ptr 1 0])],[(1,(bq5 x0))]⟩:St)
def hq12:=fun x0 x1 x2 x3=>([(1000,(bq2 x0 x1 x2 x3)),(1001,(bq5 (.func (.func 112) #[] #[])))]:List (Nat × Blk))
def tq19:=fun x0=>([(0, .ptr 1000 0),(1, .fn x0 [] [.ptr 1001 0]),(4, .ptr 4 0)]:List (Nat × AV))
def hq13:List (Nat × Blk):=[(4, .box 98 [I 0,S [],I 0,I 0])]
def tq20:=fun x0=>([(0, .ptr 1000 0),(1, .fn x0 [] [.ptr 1001 0]),(4, .ptr 4 0),(5, .ptr 5 0)]:List (Nat × AV))
def hq14:=fun x0=>([(4, .box 98 [I 0,S [],I 0,I 0]),(5, .box 98 (bxc (GTk.cs x0)))]:List (Nat × Blk))
def tq21:List (Nat × AV):=[(0, .ptr 1000 0),(4, .ptr 4 0),(5, .ptr 5 0)]
def tq28:=fun x0=>([(0, .ptr 1000 0),(4, .ptr 4 0),(5, .ptr 5 0),(16,B x0)]:List (Nat × AV))
def hq23:=fun x0=>([(1000,(bq5 x0))]:List (Nat × Blk))
def sq10:=fun x0 x1=>(⟨[(1, .ptr 1000 0),(2, .ptr 2 0)],hq4 x0++hq23 x1⟩:St)
def hq15:=fun x0=>([(4, .box 98 (bxc (GTk.cs x0)))]:List (Nat × Blk))
def tq22:List (Nat × AV):=[(1, .ptr 1 0),(2, .ptr 2 0),(3, .ptr 3 0)]
def hq16:=fun x0=>([(1, .box 93 [.ptr 1000 0]),(2,(bq3 0 [] 0 0)),(3, .box 98 (bxc (GTk.cs x0)))]:List (Nat × Blk))
def bq6:Blk:=.box 99 [.fn (.func 123) [] [.ptr 1001 0]]
def hq17:=fun x0 x1 x2 x3=>([(1000,(bq2 x0 x1 x2 x3)),(1001, .box 93 [.ptr 1000 0]),(1002,bq6)]:List (Nat × Blk))
def tq23:=fun x0 x1 x2 x3=>([(1,I x0),(2,S (GTk.Text x1)),(3,I x2),(4,x3),(5, .ptr 5 0),(10, .ptr 10 0)]:List (Nat × AV))
def tq24:=fun x0=>([(4,x0),(10, .ptr 10 0),(11, .ptr 11 0)]:List (Nat × AV))
def bq7:=fun x0=>(.box 24 [I 4,S (GTk.Text x0),I 0,I (GTk.At x0), .p (.val (.slice none 0 0))]:Blk)
def hq18:=fun x0=>([(10,(bq3 0 [] 0 0)),(11,(bq7 x0))]:List (Nat × Blk))
def bq8:=fun x0 x1=>(.box 24 [I 4,S (GTk.Text x0),I 0,I (GTk.At x0), .tsl 5 (List.map idc x1) 300]:Blk)
abbrev ty3:=((List (List PV)) × (List GTk) × Int × Int)
def tq25:=fun x0 x1 x2=>([(10, .ptr 10 0),(11, .ptr 11 0),(20,x0),(21,I x1),(22,I x2)]:List (Nat × AV))
def tq26:=fun x0 x1 x2 x3=>([(10, .ptr 10 0),(11, .ptr 11 0),(20,x0),(21,I x1),(22,I x2),(23,B x3)]:List (Nat × AV))
def tq27:List (Nat × AV):=[(10, .ptr 10 0),(11, .ptr 11 0),(13, .fn (.func 123) [] [.ptr 1001 0]),(20,(.bsl 1002 1)),(21,I 1),(22,I 0)]
def hq19:=fun x0 x1 x2 x3=>([(1000,(bq2 x0 x1 x2 x3)),(1001, .box 93 [.ptr 1000 0])]:List (Nat × Blk))
def bq9:=fun x0=>(.box 24 (bxc (GN.cs x0)):Blk)
def hq20:=fun x0=>([(1, .box 9 [S x0])]:List (Nat × Blk))
def sq8:=fun x0=>(⟨[(2, .fn (.func 117) [] [.ptr 1 0])],hq20 x0⟩:St)
def hq21:=fun x0 x1 x2 x3=>([(1000,(bq2 x0 x1 x2 x3)),(1001, .box 9 [S [59]])]:List (Nat × Blk))
def hq22:=fun x0=>([(1000, .box 9 [S x0])]:List (Nat × Blk))
def sq9:=fun x0 x1=>(⟨[(1, .ptr 1000 0),(2, .ptr 2 0)],hq4 x0++hq22 x1⟩:St)
theorem g_r_article_ok (n:Nat) (a0r:GPr) (h03w:Option Addr) (h03l h03c:Nat):∀ r,g_r_article n a0r=some r→ACall Tryz.prog 121 [pZ0] (Go.Abs.look [(1000, .box 95 [.p (.sl 4 (mTk a0r.tks)),I a0r.pos,I a0r.length,hS h03w h03l h03c])]) (heapR (excX (fun r:GN × GPr=>((.ret (ag (GN.cs r.1)),[(1000, .box 95 [.p (.sl 4 (mTk r.2.tks)),I r.2.pos,I r.2.length,hS h03w h03l h03c])]):AEnd × List (Nat × Blk))) (fun e:Int × GPr=>((.panic (.ifc 149 (.agg [I e.1])),[(1000, .box 95 [.p (.sl 4 (mTk e.2.tks)),I e.2.pos,I e.2.length,hS h03w h03l h03c])]):AEnd × List (Nat × Blk)))) r):=by
 refine acall_sim (X:=excX (fun r:GN × GPr=>((.ret (ag (GN.cs r.1)),(hq5 r.2.tks r.2.pos r.2.length (.slice h03w h03l h03c))):AEnd × List (Nat × Blk))) (fun e:Int × GPr=>((.panic (.ifc 149 (.agg [I e.1])),(hq5 e.2.tks e.2.pos e.2.length (.slice h03w h03l h03c))):AEnd × List (Nat × Blk)))) (hq5 a0r.tks a0r.pos a0r.length (.slice h03w h03l h03c)) Tryz.func121 rfl Tryz.ntmps121 rfl ?_
 unfold g_r_article
 refine sRK tfm ⟨[qq 1,qq 2],hq11++hq5 a0r.tks a0r.pos a0r.length (.slice h03w h03l h03c)⟩ krf (sS (sPK ⟨[qq 1,qq 2],hq11++hq5 a0r.tks a0r.pos a0r.length (.slice h03w h03l h03c)⟩ krf (sim_hstF [0] 3 3 [1,2,3,4] tfm rfl krf krf (lates_cons (late_read pZ0 krf rfl) (lates_nil)) krf (f_enter (f:=100) (args:=[.p (.val (.func (.func 112) #[] #[]))]) (dst:=some 6) krf krf rfl (sc_inline (hc:=[]) (args':=[.p (.val (.func (.func 112) #[] #[]))]) [(1,401)] [] [] Tryz.func100 rfl Tryz.ntmps100 rfl krf krf krf (sRK tfm (sq6 (.func (.func 112) #[] #[])) krf (sRK tfm (sq7 (.func (.func 112) #[] #[])) krf ?_)))))))
 refine sT (iq_ret (.id) [1] [] (.fn (.func 116) [] [.ptr 1 0]) krf krf (kf [0] krf (lates_cons (late_read pZ0 krf rfl) (lates_nil)) krf (f_enter (f:=99) (args:=[pZ0, .fn (.func 116) [] [.ptr 401 0]]) (dst:=some 7) krf krf rfl (sc_inline (hc:=(hq12 a0r.tks a0r.pos a0r.length (.slice h03w h03l h03c))) (args':=[pZ0, .fn (.func 116) [] [pZ1]]) [(1001,401),(1000,1000)] [] [] Tryz.func99 rfl Tryz.ntmps99 rfl krf krf krf (sRK tfm ⟨tq19 (.func 116),hq13++hq12 a0r.tks a0r.pos a0r.length (.slice h03w h03l h03c)⟩ krf (sS (sG ?_)))))))
 refine xR 1 krf ?_
 refine xs_ro [.ro []] krf (g_r_peek_ok n (⟨a0r.tks,a0r.pos,a0r.length,[]⟩:GPr) h03w h03l h03c) krf krf kff (fun r1=>?_)
 refine xR 2 krf (xE (sNK ⟨tq20 (.func 116),hq14 r1++hq12 a0r.tks a0r.pos a0r.length (.slice h03w h03l h03c)⟩ krf (sim_cps (fun _=>⟨tq21,hq14 r1++hq12 a0r.tks a0r.pos a0r.length (.slice h03w h03l h03c)⟩:Unit→St) (fun _=>g_r_article_j2 n a0r r1) ?_ ?_)))
 rotate_left
 ·refine sBi (fun j13=>⟨tq28 j13,hq14 r1++hq12 a0r.tks a0r.pos a0r.length (.slice h03w h03l h03c)⟩:Bool→St) ?_ ?_
  rotate_left
  ·rintro j13
   refine sC j13 krf ?_ ?_
   ·refine sG (xR 1 krf ?_)
    refine xs_roE [.ro []] krf (g_r_fail_ok n (⟨a0r.tks,a0r.pos,a0r.length,[]⟩:GPr) h03w h03l h03c) krf krf kff kff (fun r18=>?_) (fun e19=>?_)
    ·refine xE ?_
     exact kqK (k:=fun _=>g_r_article_j2 n a0r r1) () krf
    refine kq_p (iq_p [1000,1001] [] krf (qh_p _ rfl (sq_p ?_)))
    exact hq_p [1000] [] krf krf krf
   refine sK ?_
   exact kqK (k:=fun _=>g_r_article_j2 n a0r r1) () krf
  refine sG (xR 4 krf ?_)
  refine xS (eqI r1.Kind 0) (fun h14=>?_) (fun h14=>?_)
  ·refine xN (want_ft krf h14) krf (xR 4 krf (xE ?_))
   exact nqK true krf
  refine xO (want_ff krf h14) krf (xR 1 krf (xIn (hq23 (.func (.func 112) #[] #[])) [.agg [I r1.Kind,S r1.Text,I r1.N,I r1.At],pZ0] [(1000,1001)] [] [] krf Tryz.func116 rfl Tryz.ntmps116 rfl krf krf krf (sRK tfm (sq10 r1 (.func (.func 112) #[] #[])) krf (sBi (fun j15=>⟨[(3,B j15)],hq23 (.func (.func 112) #[] #[])⟩:Bool→St) ?_ ?_))))
  ·refine sG (xR 4 krf ?_)
   refine xS (eqI r1.Kind 1) (fun h16=>?_) (fun h16=>?_)
   ·refine xO (want_tt krf h16) krf (xR 2 krf ?_)
    refine xC [] krf (g_p_isArticle_ok n r1.Text) krf krf kff (fun r17=>?_)
    refine xR 2 krf (xE ?_)
    exact nqK r17 krf
   refine xN (want_tf krf h16) krf (xR 5 krf (xE ?_))
   exact nqK false krf
  rintro j15
  refine sT (iq_ret (.id) [1000] [] (B j15) krf krf (kr0 (xR 2 krf (xE ?_))))
  exact nqK (!j15) krf
 rintro _
 show SimE (g_r_article_j2 n a0r r1) _ _ _ _ _ _
 unfold g_r_article_j2
 refine sRK tfm ⟨[qq 4,qq 5],hq14 r1++hq12 a0r.tks (wi (a0r.pos+1)) a0r.length (.slice h03w h03l h03c)⟩ krf (sRK tfm ⟨[qq 4],hq15 r1++hq12 a0r.tks (wi (a0r.pos+1)) a0r.length (.slice h03w h03l h03c)⟩ krf (sT (iq_ret (.id) [1000,1001] [] (.agg [I r1.Kind,S r1.Text,I r1.N,I r1.At]) krf krf (kf [] krf (lates_nil) krf (f_q [0] krf krf (lates_cons (late_read pZ0 krf rfl) (lates_nil)) (f_op [] rfl krf krf (lates_nil) krf (f_end ?_)))))))
 refine sNK ⟨tq22,hq16 r1++hq5 a0r.tks (wi (a0r.pos+1)) a0r.length (.slice h03w h03l h03c)⟩ krf (sS (sG (xR 5 krf (xIn (hq17 a0r.tks (wi (a0r.pos+1)) a0r.length (.slice h03w h03l h03c)) [.agg [I r1.Kind,S r1.Text,I r1.N,I r1.At],I 4,S r1.Text,I 0, .bsl 1002 1] [(1001,1),(1002,12),(1000,1000)] [] [] krf Tryz.func39 rfl Tryz.ntmps39 rfl krf krf krf (sRK tfm ⟨tq23 4 r1 0 (.bsl 1002 1),hq8 r1++hq17 a0r.tks (wi (a0r.pos+1)) a0r.length (.slice h03w h03l h03c)⟩ krf (sRK tfm ⟨tq24 (.bsl 1002 1),hq18 r1++hq17 a0r.tks (wi (a0r.pos+1)) a0r.length (.slice h03w h03l h03c)⟩ krf (sBi (fun (j3_1,j3_2,j3_3,j3_4)=>⟨[qq 10,qq 11],[(10,(bq3 0 [] 0 0)),(11,(bq8 r1 j3_1))]++hq6 j3_1++hq17 j3_2 j3_3 j3_4 (.slice h03w h03l h03c)⟩:ty3→St) ?_ ?_)))))))
 ·refine sRK tfm ⟨tq25 (.bsl 1002 1) 1 0,hq18 r1++hq17 a0r.tks (wi (a0r.pos+1)) a0r.length (.slice h03w h03l h03c)⟩ krf (sB (sim_unroll 1 (sRK tfm ⟨tq26 (.bsl 1002 1) 1 0 true,hq18 r1++hq17 a0r.tks (wi (a0r.pos+1)) a0r.length (.slice h03w h03l h03c)⟩ krf (sS (sim_condT krf (sK (sNK ⟨tq25 (.bsl 1002 1) 1 0,hq18 r1++hq17 a0r.tks (wi (a0r.pos+1)) a0r.length (.slice h03w h03l h03c)⟩ krf ?_)))))))
  refine sS (sB (sRK tfm ⟨tq27,hq18 r1++hq17 a0r.tks (wi (a0r.pos+1)) a0r.length (.slice h03w h03l h03c)⟩ krf (sPK ⟨tq27,hq18 r1++hq17 a0r.tks (wi (a0r.pos+1)) a0r.length (.slice h03w h03l h03c)⟩ krf (sim_weak (weak_pn 24 5 300 [] [(11,4)] krf) (sim_hst [0,1,2] [0,1] [(3,[]),(4,[]),(5,[]),(6,[])] tfm rfl krf krf (h_enter (f:=123) (args:=[pZ1]) (dst:=some 29) krf krf (sc_inline (hc:=(hq19 a0r.tks (wi (a0r.pos+1)) a0r.length (.slice h03w h03l h03c))) (args':=[pZ1]) [(1000,1000),(1001,1001)] [] [] Tryz.func123 rfl Tryz.ntmps123 rfl krf krf krf ?_)))))))
  refine sRK tfm ⟨[(0,pZ1)],hq19 a0r.tks (wi (a0r.pos+1)) a0r.length (.slice h03w h03l h03c)⟩ krf (sS (sG (xR 1 krf ?_)))
  refine xs_heap [(1000,1000)] [] [] krf (g_r_values_2_ok n (⟨a0r.tks,wi (a0r.pos+1),a0r.length,[]⟩:GPr) h03w h03l h03c) krf krf krf kff kff (fun r4=>?_)
  refine xR 1 krf (xE (sNK ⟨[(1, .p (.sl 5 (mI r4.1)))],hq19 r4.2.tks r4.2.pos r4.2.length (.slice h03w h03l h03c)⟩ krf (sT (iq_ret (.id) [1000,1001] [] (.p (.sl 5 (mI r4.1))) krf krf (kh [0,1] krf (lates_cons (late_read (.ptr 11 4) krf rfl) (lates_cons (late_tsl (S:=5) (t:=300) (ty:=24) (es:=mI []) krf krf rfl) (lates_nil))) krf (h_if [] rfl krf krf (aop_appL (e:=24) (S:=5) (by_:=64) (enc:=idc) (tk:=300) (l:=[]) (l2:=r4.1) (xv:=.p (.sl 5 (mI r4.1))) rfl krf krf rfl krf krf krf krf) (fun _=>lates_nil) (h_op [] krf krf (lates_nil) ?_)))))))
  refine h_op [] krf krf (lates_nil) (h_end (bq_n (sNK ⟨tq25 (.bsl 1002 1) 1 0,[(10,(bq3 0 [] 0 0)),(11,(bq8 r1 ([]++r4.1)))]++hq10 ([]++r4.1)++hq17 r4.2.tks r4.2.pos r4.2.length (.slice h03w h03l h03c)⟩ krf (sL tfm krf (ru_n ⟨[10,11,20,21,22],[10,11,300,1000,1001,1002],[],[]⟩ ⟨tq25 (.bsl 1002 1) 1 1,[(10,(bq3 0 [] 0 0)),(11,(bq8 r1 ([]++r4.1)))]++hq10 ([]++r4.1)++hq17 r4.2.tks r4.2.pos r4.2.length (.slice h03w h03l h03c)⟩ krf (sRK tfm ⟨tq26 (.bsl 1002 1) 1 1 false,[(10,(bq3 0 [] 0 0)),(11,(bq8 r1 ([]++r4.1)))]++hq10 ([]++r4.1)++hq17 r4.2.tks r4.2.pos r4.2.length (.slice h03w h03l h03c)⟩ krf (sS ?_)))))))
  refine sim_condF krf (sim_exit (sq_x (ru_x (bq_hit ?_))))
  exact nqK ([]++r4.1,r4.2.tks,r4.2.pos,r4.2.length) krf
 rintro ⟨j3_1,j3_2,j3_3,j3_4⟩
 refine sRK tfm ⟨[qq 10],[(10,(bq8 r1 j3_1))]++hq6 j3_1++hq17 j3_2 j3_3 j3_4 (.slice h03w h03l h03c)⟩ krf (sT (iq_ret (.agg [.id, .id, .id, .id, .sl 5]) [1000,1001,1002] [] (.agg [I 4,S r1.Text,I 0,I r1.At, .p (.sl 5 (mI j3_1))]) krf krf (kr0 (xR 2 krf (xE (sNK ⟨[qq 1,qq 2,qq 4],[(1, .box 93 [pZ0]),(2,(bq3 0 [] 0 0)),(4,(bq9 ⟨4,r1.Text,0,r1.At,j3_1⟩))]++hq5 j3_2 j3_3 j3_4 (.slice h03w h03l h03c)⟩ krf (sS ?_)))))))
 refine sim_hst [0] [0] [(1,[]),(2,[])] tfm rfl krf krf (h_enter (f:=105) (args:=[S [59]]) (dst:=some 15) krf krf (sc_inline (hc:=[]) (args':=[S [59]]) [(1,401)] [] [] Tryz.func105 rfl Tryz.ntmps105 rfl krf krf krf (sRK tfm ⟨[qq 1],hq20 [59]⟩ krf (sRK tfm (sq8 [59]) krf (sT (iq_ret (.id) [1] [] (.fn (.func 117) [] [.ptr 1 0]) krf krf (kh [0] krf (lates_cons (late_read pZ0 krf rfl) (lates_nil)) krf ?_)))))))
 refine h_enter (f:=99) (args:=[pZ0, .fn (.func 117) [] [.ptr 401 0]]) (dst:=some 16) krf krf (sc_inline (hc:=(hq21 j3_2 j3_3 j3_4 (.slice h03w h03l h03c))) (args':=[pZ0, .fn (.func 117) [] [pZ1]]) [(1001,401),(1000,1000)] [] [] Tryz.func99 rfl Tryz.ntmps99 rfl krf krf krf (sRK tfm ⟨tq19 (.func 117),hq13++hq21 j3_2 j3_3 j3_4 (.slice h03w h03l h03c)⟩ krf (sS (sG (xR 1 krf ?_)))))
 refine xs_ro [.ro []] krf (g_r_peek_ok n (⟨j3_2,j3_3,j3_4,[]⟩:GPr) h03w h03l h03c) krf krf kff (fun r5=>?_)
 refine xR 2 krf (xE (sNK ⟨tq20 (.func 117),hq14 r5++hq21 j3_2 j3_3 j3_4 (.slice h03w h03l h03c)⟩ krf (sim_cps (fun _=>⟨tq21,hq14 r5++hq21 j3_2 j3_3 j3_4 (.slice h03w h03l h03c)⟩:Unit→St) (fun _=>g_r_article_j6 r1 j3_1 j3_2 j3_3 j3_4) ?_ ?_)))
 ·rintro _
  show SimE (g_r_article_j6 r1 j3_1 j3_2 j3_3 j3_4) _ _ _ _ _ _
  unfold g_r_article_j6
  refine sRK tfm ⟨[qq 4,qq 5],hq14 r5++hq21 j3_2 (wi (j3_3+1)) j3_4 (.slice h03w h03l h03c)⟩ krf (sRK tfm ⟨[qq 4],hq15 r5++hq21 j3_2 (wi (j3_3+1)) j3_4 (.slice h03w h03l h03c)⟩ krf (sT (iq_ret (.id) [1000,1001] [] (.agg [I r5.Kind,S r5.Text,I r5.N,I r5.At]) krf krf (kh [] krf (lates_nil) krf (h_end (sNK ⟨[qq 2,qq 4],[(2,(bq3 0 [] 0 0)),(4,(bq9 ⟨4,r1.Text,0,r1.At,j3_1⟩))]++hq5 j3_2 (wi (j3_3+1)) j3_4 (.slice h03w h03l h03c)⟩ krf (sRK tfm ⟨[qq 2],[(2,(bq9 ⟨4,r1.Text,0,r1.At,j3_1⟩))]++hq5 j3_2 (wi (j3_3+1)) j3_4 (.slice h03w h03l h03c)⟩ krf ?_)))))))
  refine sT ?_
  exact hq_ret (.id) [1000] [] krf krf krf krf
 refine sBi (fun j7=>⟨tq28 j7,hq14 r5++hq21 j3_2 j3_3 j3_4 (.slice h03w h03l h03c)⟩:Bool→St) ?_ ?_
 rotate_left
 ·rintro j7
  refine sC j7 krf ?_ ?_
  ·refine sG (xR 1 krf ?_)
   refine xs_roE [.ro []] krf (g_r_fail_ok n (⟨j3_2,j3_3,j3_4,[]⟩:GPr) h03w h03l h03c) krf krf kff kff (fun r11=>?_) (fun e12=>?_)
   ·refine xE ?_
    exact kqK (k:=fun _=>g_r_article_j6 r1 j3_1 j3_2 j3_3 j3_4) () krf
   refine kq_p (iq_p [1000,1001] [] krf (qh_p _ rfl (sq_p ?_)))
   exact hq_p [1000] [] krf krf krf
  refine sK ?_
  exact kqK (k:=fun _=>g_r_article_j6 r1 j3_1 j3_2 j3_3 j3_4) () krf
 refine sG (xR 4 krf ?_)
 refine xS (eqI r5.Kind 0) (fun h8=>?_) (fun h8=>?_)
 ·refine xN (want_ft krf h8) krf (xR 4 krf (xE ?_))
  exact nqK true krf
 refine xO (want_ff krf h8) krf (xR 1 krf (xIn (hq22 [59]) [.agg [I r5.Kind,S r5.Text,I r5.N,I r5.At],pZ0] [(1000,1001)] [] [] krf Tryz.func117 rfl Tryz.ntmps117 rfl krf krf krf (sRK tfm (sq9 r5 [59]) krf (sBi (fun j9=>⟨[(3,B j9)],hq22 [59]⟩:Bool→St) ?_ ?_))))
 ·refine sG (xR 4 krf ?_)
  refine xS (eqI r5.Kind 3) (fun h10=>?_) (fun h10=>?_)
  ·refine xO (want_tt krf h10) krf (xR 5 krf (xE ?_))
   exact nqK (eqS r5.Text [59]) krf
  refine xN (want_tf krf h10) krf (xR 5 krf (xE ?_))
  exact nqK false krf
 rintro j9
 refine sT (iq_ret (.id) [1000] [] (B j9) krf krf (kr0 (xR 2 krf (xE ?_))))
 exact nqK (!j9) krf
def g_r_skip_l1 (a0r:GPr) (recl1:Int→Option ((List UInt8) × GPr)) (l1:Int):Option ((List UInt8) × GPr) :=
 cond (ltI l1 (lenI (List.map GTk.cs a0r.tks)))
  ((getI a0r.tks l1).bind fun x2 =>
  (cond (eqI x2.Kind 3)
   (some (!eqS x2.Text [123]))
   (some false)).bind fun j3 =>
  cond j3
   (some (x2.Text,(⟨a0r.tks,wi (l1+1),a0r.length,[]⟩:GPr)))
   (recl1 (wi (l1+1))))
  (some ([],(⟨a0r.tks,l1,a0r.length,[]⟩:GPr)))
def g_r_skip (n:Nat) (a0r:GPr):Option ((List UInt8) × GPr) :=
 loopN (fun recl1 l1=>g_r_skip_l1 a0r recl1 l1) n a0r.pos
def hq24:=fun x0=>([(3, .box 98 (bxc (GTk.cs x0)))]:List (Nat × Blk))
theorem g_r_skip_ok (n:Nat) (a0r:GPr) (h03w:Option Addr) (h03l h03c:Nat):∀ r,g_r_skip n a0r=some r→ACall Tryz.prog 98 [pZ0] (Go.Abs.look [(1000, .box 95 [.p (.sl 4 (mTk a0r.tks)),I a0r.pos,I a0r.length,hS h03w h03l h03c])]) (heapR (fun r:(List UInt8) × GPr=>((.ret (S r.1),[(1000, .box 95 [.p (.sl 4 (mTk r.2.tks)),I r.2.pos,I r.2.length,hS h03w h03l h03c])]):AEnd × List (Nat × Blk))) r):=by
 refine acall_sim (X:=fun r:(List UInt8) × GPr=>((.ret (S r.1),(hq5 r.2.tks r.2.pos r.2.length (.slice h03w h03l h03c))):AEnd × List (Nat × Blk))) (hq5 a0r.tks a0r.pos a0r.length (.slice h03w h03l h03c)) Tryz.func98 rfl Tryz.ntmps98 rfl ?_
 unfold g_r_skip
 refine sRK tfm ⟨[(0,pZ0)],hq5 a0r.tks a0r.pos a0r.length (.slice h03w h03l h03c)⟩ krf (sS (sB (sim_loop (fun l1=>⟨[(0,pZ0)],hq5 a0r.tks l1 a0r.length (.slice h03w h03l h03c)⟩:Int→St) (wsK krf) ?_)))
 rintro recl1 l1
 show SimE (g_r_skip_l1 a0r recl1 l1) _ _ _ _ _ _
 unfold g_r_skip_l1
 refine sS (sRK tfm ⟨[(0,pZ0),(13,B (ltI l1 (lenI (mTk a0r.tks))))],hq5 a0r.tks l1 a0r.length (.slice h03w h03l h03c)⟩ krf (sC (ltI l1 (lenI (mTk a0r.tks))) krf ?_ ?_))
 rotate_left
 ·refine sim_exit (sq_x (kq_x (bq_hit (sNK ⟨[],hq5 a0r.tks l1 a0r.length (.slice h03w h03l h03c)⟩ krf (sRK tfm ⟨[(2,S [])],hq5 a0r.tks l1 a0r.length (.slice h03w h03l h03c)⟩ krf (sT ?_))))))
  exact hq_ret (.id) [1000] [] krf krf krf krf
 refine sK (sNK ⟨[(0,pZ0)],hq5 a0r.tks l1 a0r.length (.slice h03w h03l h03c)⟩ krf (sB (sS (sDr tfm rfl (xR 8 krf ?_)))))
 refine xG krf krf (aop_idx (e:=98) (S:=4) (enc:=GTk.cs) (l:=a0r.tks) (k:=.i64) (n:=l1) (sv:=.p (.sl 4 (mTk a0r.tks))) rfl krf krf krf krf krf) (fun x2=>?_)
 refine xR 3 krf (xED krf (sNK ⟨[(0,pZ0),qq 3],hq24 x2++hq5 a0r.tks l1 a0r.length (.slice h03w h03l h03c)⟩ krf (sRK tfm ⟨[(0,pZ0),qq 3],hq24 x2++hq5 a0r.tks (wi (l1+1)) a0r.length (.slice h03w h03l h03c)⟩ krf (sBi (fun j3=>⟨[(0,pZ0),qq 3,(38,B j3)],hq24 x2++hq5 a0r.tks (wi (l1+1)) a0r.length (.slice h03w h03l h03c)⟩:Bool→St) ?_ ?_))))
 ·refine sG (xR 4 krf ?_)
  refine xS (eqI x2.Kind 3) (fun h4=>?_) (fun h4=>?_)
  ·refine xO (want_tt krf h4) krf (xR 3 krf (xE ?_))
   exact nqK (!eqS x2.Text [123]) krf
  refine xN (want_tf krf h4) krf (xR 3 krf (xE ?_))
  exact nqK false krf
 rintro j3
 refine sC j3 krf ?_ ?_
 ·refine sRK tfm ⟨[(2,S x2.Text)],hq5 a0r.tks (wi (l1+1)) a0r.length (.slice h03w h03l h03c)⟩ krf (sT (bq_r (kq_r (bq_r (sq_r ?_)))))
  exact hq_ret (.id) [1000] [] krf krf krf krf
 refine sK (bq_n ?_)
 exact kqK (wi (l1+1)) krf
def g_r_item_j6 (r1:GTk) (r3:GTk) (r5:Int) (j6_1:List (List PV)) (j6_2:List GTk) (j6_3:Int) (j6_4:Int) (j6_5:List GDg):Option ty2 :=
 some (.ok ((⟨2,r3.Text,r5,r1.At,j6_1⟩:GN),(⟨j6_2,j6_3,j6_4,j6_5⟩:GPr)))
abbrev ty5:=((List (List PV)) × (List GTk) × Int × Int × Int × (List UInt8) × Int × Int)
def g_r_item_l9 (n:Nat) (a0r:GPr) (recl9:ty5→Option ty3) (l9_1:List (List PV)) (l9_2:List GTk) (l9_3:Int) (l9_4:Int) (l9_5:Int) (l9_6:List UInt8) (l9_7:Int) (l9_8:Int):Option ty3 :=
 (cond (eqI l9_5 1)
  ((g_p_isAttr n l9_6).bind fun r12 =>
  some r12)
  (some false)).bind fun j10 =>
 cond j10
  (((g_r_values n (⟨l9_2,wi (l9_3+1),l9_4,[]⟩:GPr)).bind fun r14 =>
  cond (roomB (List.length ([]++r14.1)) 64) (
   some ([]++r14.1,r14.2.tks,r14.2.pos,r14.2.length)) none).bind fun (j13_1,j13_2,j13_3,j13_4) =>
  cond (roomB (List.length (l9_1++[GN.cs (⟨3,l9_6,0,l9_8,j13_1⟩:GN)])) 64) (
   (g_r_peek_2 n (⟨j13_2,j13_3,j13_4,a0r.dg⟩:GPr)).bind fun r15 =>
   recl9 (l9_1++[GN.cs (⟨3,l9_6,0,l9_8,j13_1⟩:GN)],j13_2,j13_3,j13_4,r15.Kind,r15.Text,r15.N,r15.At)) none)
  (some (l9_1,l9_2,l9_3,l9_4))
abbrev ty1:=((List (List PV)) × (List GTk) × Int × Int × (List GDg))
def g_r_item_j19 (j7_1:List (List PV)) (j19_1:List (List PV)) (j19_2:List GTk) (j19_3:Int) (j19_4:Int) (j19_5:List GDg):Option ty1 :=
 cond (roomB (List.length ((([]++j7_1)++[])++j19_1)) 64) (
  some ((([]++j7_1)++[])++j19_1,j19_2,j19_3,j19_4,j19_5)) none
def g_r_item_l20 (n:Nat) (j7_1:List (List PV)) (recl20:ty1→Option ty1) (l20_1:List (List PV)) (l20_2:List GTk) (l20_3:Int) (l20_4:Int) (l20_5:List GDg):Option ty1 :=
 (g_r_full n (⟨l20_2,l20_3,l20_4,l20_5⟩:GPr)).bind fun r21 =>
 cond (!r21)
  ((g_r_peek_2 n (⟨l20_2,l20_3,l20_4,l20_5⟩:GPr)).bind fun r22 =>
  (cond (eqI r22.Kind 3)
   (some (eqS r22.Text [125]))
   (some false)).bind fun j23 =>
  cond j23
   (cond (roomB (List.length ((([]++j7_1)++[])++l20_1)) 64) (
    some ((([]++j7_1)++[])++l20_1,l20_2,wi (l20_3+1),l20_4,l20_5)) none)
   (((g_r_article n (⟨l20_2,l20_3,l20_4,[]⟩:GPr)).bind (exc (fun r26 =>
    some (true,[],r26.2.tks,r26.2.pos,r26.2.length,l20_5,r26.1.Kind,r26.1.Name,r26.1.N,r26.1.At,r26.1.Kids)) fun e27=>cond (roomB (List.length (l20_5++[(⟨7,e27.1⟩:GDg)])) 16) (
    (g_r_skip n (⟨e27.2.tks,e27.2.pos,e27.2.length,[]⟩:GPr)).bind fun r28 =>
    some (false,r28.1,r28.2.tks,r28.2.pos,r28.2.length,l20_5++[(⟨7,e27.1⟩:GDg)],0,[],0,0,[])) none)).bind fun (j25_1,j25_2,j25_3,j25_4,j25_5,j25_6,j25_7,j25_8,j25_9,j25_10,j25_11) =>
   cond j25_1
    (cond (roomB (List.length (l20_1++[GN.cs (⟨j25_7,j25_8,j25_9,j25_10,j25_11⟩:GN)])) 64) (
     recl20 (l20_1++[GN.cs (⟨j25_7,j25_8,j25_9,j25_10,j25_11⟩:GN)],j25_3,j25_4,j25_5,j25_6)) none)
    (cond (!eqS j25_2 [59])
     (cond (roomB (List.length ((([]++j7_1)++[])++l20_1)) 64) (
      some ((([]++j7_1)++[])++l20_1,j25_3,j25_4,j25_5,j25_6)) none)
     (recl20 (l20_1,j25_3,j25_4,j25_5,j25_6)))))
  (g_r_item_j19 j7_1 l20_1 l20_2 l20_3 l20_4 l20_5)
def g_r_item_j17 (n:Nat) (a0r:GPr) (r1:GTk) (r3:GTk) (r5:Int) (j7_1:List (List PV)) (j7_2:List GTk) (j7_3:Int) (j7_4:Int):Option ty2 :=
 cond (roomB (List.length (([]++j7_1)++[])) 64) (
  (loopN (fun recl20 (l20_1,l20_2,l20_3,l20_4,l20_5)=>g_r_item_l20 n j7_1 recl20 l20_1 l20_2 l20_3 l20_4 l20_5) n ([],j7_2,wi (j7_3+1),j7_4,a0r.dg)).bind fun (j18_1,j18_2,j18_3,j18_4,j18_5) =>
  g_r_item_j6 r1 r3 r5 j18_1 j18_2 j18_3 j18_4 j18_5) none
def g_r_item_j35 (a0r:GPr) (r1:GTk) (r3:GTk) (r5:Int) (j35_1:List (List PV)) (j35_2:List GTk) (j35_3:Int) (j35_4:Int):Option ty2 :=
 some (.ok ((⟨2,r3.Text,r5,r1.At,j35_1⟩:GN),(⟨j35_2,j35_3,j35_4,a0r.dg⟩:GPr)))
def g_r_item_l38 (n:Nat) (a0r:GPr) (recl38:ty5→Option ty3) (l38_1:List (List PV)) (l38_2:List GTk) (l38_3:Int) (l38_4:Int) (l38_5:Int) (l38_6:List UInt8) (l38_7:Int) (l38_8:Int):Option ty3 :=
 (cond (eqI l38_5 1)
  ((g_p_isAttr n l38_6).bind fun r41 =>
  some r41)
  (some false)).bind fun j39 =>
 cond j39
  (((g_r_values n (⟨l38_2,wi (l38_3+1),l38_4,[]⟩:GPr)).bind fun r43 =>
  cond (roomB (List.length ([]++r43.1)) 64) (
   some ([]++r43.1,r43.2.tks,r43.2.pos,r43.2.length)) none).bind fun (j42_1,j42_2,j42_3,j42_4) =>
  cond (roomB (List.length (l38_1++[GN.cs (⟨3,l38_6,0,l38_8,j42_1⟩:GN)])) 64) (
   (g_r_peek_2 n (⟨j42_2,j42_3,j42_4,a0r.dg⟩:GPr)).bind fun r44 =>
   recl38 (l38_1++[GN.cs (⟨3,l38_6,0,l38_8,j42_1⟩:GN)],j42_2,j42_3,j42_4,r44.Kind,r44.Text,r44.N,r44.At)) none)
  (some (l38_1,l38_2,l38_3,l38_4))
def g_r_item_j46 (a0r:GPr) (r1:GTk) (r3:GTk) (r5:Int) (j36_1:List (List PV)) (j36_2:List GTk) (j36_3:Int) (j36_4:Int):Option ty2 :=
 cond (roomB (List.length (([]++j36_1)++[])) 64) (
  g_r_item_j35 a0r r1 r3 r5 (([]++j36_1)++[]) j36_2 (wi (j36_3+1)) j36_4) none
def g_r_item_j4 (n:Nat) (a0r:GPr) (r1:GTk) (r3:GTk):Option ty2 :=
 (g_p_kindOf n r1.Text).bind fun r5 =>
 cond (eqI r5 7)
  (((g_r_peek_2 n (⟨a0r.tks,wi ((wi (a0r.pos+1))+1),a0r.length,a0r.dg⟩:GPr)).bind fun r8 =>
  loopN (fun recl9 (l9_1,l9_2,l9_3,l9_4,l9_5,l9_6,l9_7,l9_8)=>g_r_item_l9 n a0r recl9 l9_1 l9_2 l9_3 l9_4 l9_5 l9_6 l9_7 l9_8) n ([],a0r.tks,wi ((wi (a0r.pos+1))+1),a0r.length,r8.Kind,r8.Text,r8.N,r8.At)).bind fun (j7_1,j7_2,j7_3,j7_4) =>
  cond (roomB (List.length ([]++j7_1)) 64) (
   (g_r_peek_2 n (⟨j7_2,j7_3,j7_4,a0r.dg⟩:GPr)).bind fun r16 =>
   (cond (eqI r16.Kind 0)
    (some true)
    ((cond (eqI r16.Kind 3)
     (some (eqS r16.Text [123]))
     (some false)).bind fun j31 =>
    some (!j31))).bind fun j29 =>
   cond j29
    ((g_r_fail_2 n (⟨j7_2,j7_3,j7_4,a0r.dg⟩:GPr)).bind (exc (fun r33 =>
     g_r_item_j17 n a0r r1 r3 r5 j7_1 j7_2 j7_3 j7_4) fun e34=>some (.error (e34,(⟨j7_2,j7_3,j7_4,a0r.dg⟩:GPr)))))
    (g_r_item_j17 n a0r r1 r3 r5 j7_1 j7_2 j7_3 j7_4)) none)
  (((g_r_peek_2 n (⟨a0r.tks,wi ((wi (a0r.pos+1))+1),a0r.length,a0r.dg⟩:GPr)).bind fun r37 =>
  loopN (fun recl38 (l38_1,l38_2,l38_3,l38_4,l38_5,l38_6,l38_7,l38_8)=>g_r_item_l38 n a0r recl38 l38_1 l38_2 l38_3 l38_4 l38_5 l38_6 l38_7 l38_8) n ([],a0r.tks,wi ((wi (a0r.pos+1))+1),a0r.length,r37.Kind,r37.Text,r37.N,r37.At)).bind fun (j36_1,j36_2,j36_3,j36_4) =>
  cond (roomB (List.length ([]++j36_1)) 64) (
   (g_r_peek_2 n (⟨j36_2,j36_3,j36_4,a0r.dg⟩:GPr)).bind fun r45 =>
   (cond (eqI r45.Kind 0)
    (some true)
    ((cond (eqI r45.Kind 3)
     (some (eqS r45.Text [59]))
     (some false)).bind fun j49 =>
    some (!j49))).bind fun j47 =>
   cond j47
    ((g_r_fail_2 n (⟨j36_2,j36_3,j36_4,a0r.dg⟩:GPr)).bind (exc (fun r51 =>
     g_r_item_j46 a0r r1 r3 r5 j36_1 j36_2 j36_3 j36_4) fun e52=>some (.error (e52,(⟨j36_2,j36_3,j36_4,a0r.dg⟩:GPr)))))
    (g_r_item_j46 a0r r1 r3 r5 j36_1 j36_2 j36_3 j36_4)) none)
def g_r_item_j2 (n:Nat) (a0r:GPr) (r1:GTk):Option ty2 :=
 (g_r_peek_2 n (⟨a0r.tks,wi (a0r.pos+1),a0r.length,a0r.dg⟩:GPr)).bind fun r3 =>
 (cond (eqI r3.Kind 0)
  (some true)
  ((cond (eqI r3.Kind 1)
   ((g_p_notKey n r3.Text).bind fun r57 =>
   some r57)
   (some false)).bind fun j55 =>
  some (!j55))).bind fun j53 =>
 cond j53
  ((g_r_fail_2 n (⟨a0r.tks,wi (a0r.pos+1),a0r.length,a0r.dg⟩:GPr)).bind (exc (fun r58 =>
   g_r_item_j4 n a0r r1 r3) fun e59=>some (.error (e59,(⟨a0r.tks,wi (a0r.pos+1),a0r.length,a0r.dg⟩:GPr)))))
  (g_r_item_j4 n a0r r1 r3)
def g_r_item (n:Nat) (a0r:GPr):Option ty2 :=
 (g_r_peek_2 n a0r).bind fun r1 =>
 (cond (eqI r1.Kind 0)
  (some true)
  ((cond (eqI r1.Kind 1)
   ((g_r_item_1 n r1.Text).bind fun r64 =>
   some r64)
   (some false)).bind fun j62 =>
  some (!j62))).bind fun j60 =>
 cond j60
  ((g_r_fail_2 n a0r).bind (exc (fun r65 =>
   g_r_item_j2 n a0r r1) fun e66=>some (.error (e66,a0r))))
  (g_r_item_j2 n a0r r1)
def bq10:=fun x0 x1 x2 x3=>(.box 95 [.p (.sl 4 (List.map GTk.cs x0)),I x1,I x2, .tsl 2 (List.map GDg.cs x3) 1103]:Blk)
def bq11:=fun x0=>(.arr 65 2 (List.map GDg.cs x0).length:Blk)
def hq25:=fun x0 x1 x2 x3=>([(1000,(bq10 x0 x1 x2 x3)),(1103,(bq11 x3))]:List (Nat × Blk))
def bq12:=fun x0 x1 x2 x3=>(.box 95 [.p (.sl 4 (List.map GTk.cs x0)),I x1,I x2, .tsl 2 (List.map GDg.cs x3) 1001]:Blk)
def hq26:=fun x0 x1 x2 x3 x4=>([(1000,(bq12 x0 x1 x2 x3)),(1001,(bq11 x3)),(1002,(bq5 x4))]:List (Nat × Blk))
def nq0:List (Nat × Nat):=[(1002,401),(1000,1000),(1001,1103)]
def tq29:=fun x0=>([(0, .ptr 1000 0),(1, .fn x0 [] [.ptr 1002 0]),(4, .ptr 4 0)]:List (Nat × AV))
def tq30:=fun x0=>([(0, .ptr 1000 0),(1, .fn x0 [] [.ptr 1002 0]),(4, .ptr 4 0),(5, .ptr 5 0)]:List (Nat × AV))
def tq31:=fun x0 x1=>([(1, .ptr 1 0),(2, .ptr 2 0),(3, .ptr 3 0),(4,S (GTk.Text x0)),(5,I x1)]:List (Nat × AV))
def bq18:Blk:=.box 99 [.fn (.func 106) [.ptr 1000 0] [], .fn (.func 108) [] [.ptr 1002 0]]
def hq46:=fun x0 x1 x2 x3=>([(1000,(bq12 x0 x1 x2 x3)),(1001,(bq11 x3)),(1002, .box 93 [.ptr 1000 0]),(1003,bq18)]:List (Nat × Blk))
def bq14:=fun x0 x1 x2=>(.box 24 [I 2,S (GTk.Text x0),I x1,I (GTk.At x2), .p (.val (.slice none 0 0))]:Blk)
def hq28:=fun x0 x1 x2=>([(10,(bq3 0 [] 0 0)),(11,(bq14 x0 x1 x2))]:List (Nat × Blk))
def bq15:=fun x0 x1 x2 x3=>(.box 24 [I 2,S (GTk.Text x0),I x1,I (GTk.At x2), .tsl 5 (List.map idc x3) 300]:Blk)
def hq29:=fun x0 x1 x2 x3=>([(10,(bq3 0 [] 0 0)),(11,(bq15 x0 x1 x2 x3))]:List (Nat × Blk))
def tq32:=fun x0 x1 x2 x3=>([(10, .ptr 10 0),(11, .ptr 11 0),(13, .fn x0 [.ptr 1000 0] []),(20,x1),(21,I x2),(22,I x3)]:List (Nat × AV))
def hq30:=fun x0 x1 x2 x3=>([(1000,(bq12 x0 x1 x2 x3)),(1001,(bq11 x3))]:List (Nat × Blk))
def hq31:List (Nat × Blk):=[(1, .box 93 [.ptr 1000 0])]
def sq11:=fun x0 x1 x2 x3=>(⟨[(1, .ptr 1 0)],hq31++hq30 x0 x1 x2 x3⟩:St)
def tq33:List (Nat × AV):=[(1, .ptr 1 0),(3, .p (.val (.slice none 0 0)))]
def tq34:List (Nat × AV):=[(1, .ptr 1 0),(3, .p (.val (.slice none 0 0))),(4, .ptr 4 0)]
def hq32:=fun x0=>([(1, .box 93 [.ptr 1000 0]),(4, .box 98 (bxc (GTk.cs x0)))]:List (Nat × Blk))
def tq35:=fun x0=>([(1, .ptr 1 0),(3, .tsl 5 (List.map idc x0) 300),(4, .ptr 4 0)]:List (Nat × AV))
def hq33:=fun x0 x1 x2 x3=>([(1, .box 93 [.ptr 1000 0]),(4,(bq0 x0 x1 x2 x3))]:List (Nat × Blk))
def sq12:=fun x0 x1 x2 x3 x4 x5 x6 x7 x8=>(⟨tq35 x0,hq33 x1 x2 x3 x4++hq6 x0++hq30 x5 x6 x7 x8⟩:St)
def tq36:=fun x0 x1=>([(1, .ptr 1 0),(3, .tsl 5 (List.map idc x0) 300),(4, .ptr 4 0),(14,B x1)]:List (Nat × AV))
def bq16:Blk:=.box 99 [.fn (.func 118) [] [.ptr 1002 0]]
def hq34:=fun x0 x1 x2 x3=>([(1000,(bq12 x0 x1 x2 x3)),(1001,(bq11 x3)),(1002, .box 93 [.ptr 1000 0]),(1003,bq16)]:List (Nat × Blk))
def nq1:List (Nat × Nat):=[(1002,1),(1003,29),(1000,1000),(1001,1001)]
def tq37:=fun x0 x1 x2=>([(1,I x0),(2,S x1),(3,I 0),(4,x2),(5, .ptr 5 0),(10, .ptr 10 0)]:List (Nat × AV))
def bq17:=fun x0 x1 x2 x3=>(.box 24 [I x0,S x1,I 0,I x2, .tsl 5 (List.map idc x3) 300]:Blk)
def hq35:=fun x0 x1 x2 x3=>([(10,(bq3 0 [] 0 0)),(11,(bq17 x0 x1 x2 x3))]:List (Nat × Blk))
def sq15:=fun x0 x1 x2 x3 x4 x5 x6 x7 x8=>(⟨tq35 x0,hq33 x1 x2 x3 x4++hq10 x0++hq30 x5 x6 x7 x8⟩:St)
def tq39:=fun x0 x1 x2 x3 x4=>([(1, .ptr 1 0),(3, .tsl 5 (List.map idc x0) 300),(33, .agg [I x1,S x2,I x3,I x4])]:List (Nat × AV))
def sq16:=fun x0 x1 x2 x3 x4 x5 x6 x7 x8=>(⟨tq39 x0 x1 x2 x3 x4,hq31++hq10 x0++hq30 x5 x6 x7 x8⟩:St)
def tq38:=fun x0 x1 x2 x3=>([(10, .ptr 10 0),(11, .ptr 11 0),(13, .fn x0 [] [.ptr 1002 0]),(20,x1),(21,I x2),(22,I x3)]:List (Nat × AV))
def hq36:=fun x0 x1 x2 x3=>([(1000,(bq12 x0 x1 x2 x3)),(1001,(bq11 x3)),(1002, .box 93 [.ptr 1000 0])]:List (Nat × Blk))
def nq2:List (Nat × Nat):=[(1000,1000),(1001,1001),(1002,1002)]
def sq13:=fun x0 x1 x2 x3=>(⟨[(0, .ptr 1002 0)],hq36 x0 x1 x2 x3⟩:St)
def sq14:=fun x0 x1 x2 x3 x4 x5 x6 x7=>(⟨tq25 (.bsl 1003 1) 1 x0,hq35 3 x1 x2 x3++hq10 x3++hq34 x4 x5 x6 x7⟩:St)
def sq19:=fun x0 x1 x2 x3 x4 x5 x6 x7 x8=>(⟨tq25 (.bsl 1003 2) 2 x0,hq29 x1 x2 x3 x4++hq10 x4++hq46 x5 x6 x7 x8⟩:St)
def hq37:=fun x0 x1 x2 x3 x4=>([(1000,(bq12 x0 x1 x2 x3)),(1001,(bq11 x3)),(1002, .box 9 [S x4])]:List (Nat × Blk))
def nq3:List (Nat × Nat):=[(1002,401),(1000,1000),(1001,1001)]
def bq13:Blk:=.box 99 [.fn (.func 106) [.ptr 1000 0] [], .fn (.func 104) [] [.ptr 1002 0], .fn (.func 107) [.ptr 1000 0] []]
def hq27:=fun x0 x1 x2 x3=>([(1000,(bq12 x0 x1 x2 x3)),(1001,(bq11 x3)),(1002, .box 93 [.ptr 1000 0]),(1003,bq13)]:List (Nat × Blk))
def sq17:=fun x0 x1 x2 x3 x4 x5 x6 x7 x8=>(⟨tq25 (.bsl 1003 3) 3 x0,hq29 x1 x2 x3 x4++hq10 x4++hq27 x5 x6 x7 x8⟩:St)
def hq38:=fun x0=>([(32, .arr 24 5 (List.map idc x0).length)]:List (Nat × Blk))
def sq18:=fun x0 x1 x2 x3 x4=>(⟨[(2, .tsl 5 (List.map idc x0) 32)],hq38 x0++hq30 x1 x2 x3 x4⟩:St)
def tq40:=fun x0=>([(1, .ptr 1 0),(3, .tsl 5 (List.map idc x0) 32)]:List (Nat × AV))
def hq39:=fun x0=>([(1, .box 93 [.ptr 1000 0]),(32, .arr 24 5 (List.map idc x0).length)]:List (Nat × Blk))
def tq41:=fun x0=>([(1, .ptr 1 0),(3, .tsl 5 (List.map idc x0) 32),(4, .ptr 4 0)]:List (Nat × AV))
def hq40:=fun x0 x1=>([(1, .box 93 [.ptr 1000 0]),(4,(bq9 x0)),(32, .arr 24 5 (List.map idc x1).length)]:List (Nat × Blk))
def hq41:=fun x0 x1 x2 x3=>([(1000,(bq12 x0 x1 x2 x3)),(1001,(bq11 x3)),(1002, .box 93 [.ptr 1000 0]),(1003,(bq3 0 [] 0 0))]:List (Nat × Blk))
def tq42:=fun x0=>([(1, .fn x0 [] [.ptr 1002 0, .ptr 1003 0]),(4, .ptr 1901 0),(5, .ptr 1902 0)]:List (Nat × AV))
def hq42:=fun x0=>([(1900, .box 93 [.ptr 1000 0]),(1901, .box 4 [B x0]),(1902, .box 9 [S []])]:List (Nat × Blk))
def nq4:List (Nat × Nat):=[(1000,1000),(1001,1001),(1002,1002),(1003,1003)]
def hq43:=fun x0 x1 x2 x3 x4=>([(1000,(bq12 x0 x1 x2 x3)),(1001,(bq11 x3)),(1002, .box 93 [.ptr 1000 0]),(1003, .box 24 (bxc (GN.cs x4)))]:List (Nat × Blk))
def nq5:List (Nat × Nat):=[(1000,1000),(1001,1001),(1002,1900),(1003,1901),(1004,1902)]
def hq44:=fun x0=>([(1002, .box 93 [.ptr 1000 0]),(1003, .box 4 [B x0]),(1004, .box 9 [S []])]:List (Nat × Blk))
def tq43:List (Nat × AV):=[(0, .ptr 1002 0),(1, .ptr 1003 0),(2, .ptr 1004 0),(3, .p (.val (.nilIface))),(8,B true)]
def tq44:=fun x0=>([(0, .ptr 1002 0),(1, .ptr 1003 0),(2, .ptr 1004 0),(3, .ifc 149 (.agg [I x0])),(8,B false)]:List (Nat × AV))
def tq45:=fun x0=>([(0, .ptr 1002 0),(1, .ptr 1003 0),(2, .ptr 1004 0),(3, .ifc 149 (.agg [I x0]))]:List (Nat × AV))
def tq46:=fun x0=>([(0, .ptr 1002 0),(1, .ptr 1003 0),(2, .ptr 1004 0),(3, .ifc 149 (.agg [I x0])),(4, .ptr 4 0),(5,B true)]:List (Nat × AV))
def hq45:=fun x0=>([(4, .box 149 [I x0])]:List (Nat × Blk))
def tq47:=fun x0=>([(0, .ptr 1002 0),(1, .ptr 1003 0),(2, .ptr 1004 0),(3, .ifc 149 (.agg [I x0])),(4, .ptr 4 0),(15,B false)]:List (Nat × AV))
def tq48:List (Nat × AV):=[(0, .ptr 1002 0),(1, .ptr 1003 0),(2, .ptr 1004 0),(4, .ptr 4 0)]
def tq49:List (Nat × AV):=[(0, .ptr 1002 0),(1, .ptr 1003 0),(2, .ptr 1004 0)]
abbrev amDg65 (x:List GDg):Go.Abs.Blk:=.arr 65 2 (mDg x).length
abbrev amI24 (x:List (List PV)):Go.Abs.Blk:=.arr 24 5 (mI x).length
theorem g_r_item_ok (n:Nat) (a0r:GPr):∀ r,g_r_item n a0r=some r→ACall Tryz.prog 75 [pZ0] (Go.Abs.look [(1000, .box 95 [.p (.sl 4 (mTk a0r.tks)),I a0r.pos,I a0r.length, .tsl 2 (mDg a0r.dg) 1103]),(1103,amDg65 a0r.dg)]) (heapR (excX (fun r:GN × GPr=>((.ret (ag (GN.cs r.1)),[(1000, .box 95 [.p (.sl 4 (mTk r.2.tks)),I r.2.pos,I r.2.length, .tsl 2 (mDg r.2.dg) 1103]),(1103,amDg65 r.2.dg)]):AEnd × List (Nat × Blk))) (fun e:Int × GPr=>((.panic (.ifc 149 (.agg [I e.1])),[(1000, .box 95 [.p (.sl 4 (mTk e.2.tks)),I e.2.pos,I e.2.length, .tsl 2 (mDg e.2.dg) 1103]),(1103,amDg65 e.2.dg)]):AEnd × List (Nat × Blk)))) r):=by
 refine acall_sim (X:=excX (fun r:GN × GPr=>((.ret (ag (GN.cs r.1)),(hq25 r.2.tks r.2.pos r.2.length r.2.dg)):AEnd × List (Nat × Blk))) (fun e:Int × GPr=>((.panic (.ifc 149 (.agg [I e.1])),(hq25 e.2.tks e.2.pos e.2.length e.2.dg)):AEnd × List (Nat × Blk)))) (hq25 a0r.tks a0r.pos a0r.length a0r.dg) Tryz.func75 rfl Tryz.ntmps75 rfl ?_
 unfold g_r_item
 refine sRK tfm ⟨[qq 1,qq 2],hq11++hq25 a0r.tks a0r.pos a0r.length a0r.dg⟩ krf (sS (sPK ⟨[qq 1,qq 2],hq11++hq25 a0r.tks a0r.pos a0r.length a0r.dg⟩ krf (sim_hstF [0] 3 3 [1,2,3,4] tfm rfl krf krf (lates_cons (late_read pZ0 krf rfl) (lates_nil)) krf (f_enter (f:=100) (args:=[.p (.val (.func (.func 101) #[] #[]))]) (dst:=some 9) krf krf rfl (sc_inline (hc:=[]) (args':=[.p (.val (.func (.func 101) #[] #[]))]) [(1,401)] [] [] Tryz.func100 rfl Tryz.ntmps100 rfl krf krf krf (sRK tfm (sq6 (.func (.func 101) #[] #[])) krf (sRK tfm (sq7 (.func (.func 101) #[] #[])) krf ?_)))))))
 refine sT (iq_ret (.id) [1] [] (.fn (.func 116) [] [.ptr 1 0]) krf krf (kf [0] krf (lates_cons (late_read pZ0 krf rfl) (lates_nil)) krf (f_enter (f:=99) (args:=[pZ0, .fn (.func 116) [] [.ptr 401 0]]) (dst:=some 10) krf krf rfl (sc_inline (hc:=(hq26 a0r.tks a0r.pos a0r.length a0r.dg (.func (.func 101) #[] #[]))) (args':=[pZ0, .fn (.func 116) [] [pZ2]]) nq0 [] [] Tryz.func99 rfl Tryz.ntmps99 rfl krf krf krf (sRK tfm ⟨tq29 (.func 116),hq13++hq26 a0r.tks a0r.pos a0r.length a0r.dg (.func (.func 101) #[] #[])⟩ krf (sS (sG ?_)))))))
 refine xR 1 krf ?_
 refine xs_ro [.ro [.id, .id, .id, .sl 2]] krf (g_r_peek_2_ok n a0r) krf krf kff (fun r1=>?_)
 refine xR 2 krf (xE (sNK ⟨tq30 (.func 116),hq14 r1++hq26 a0r.tks a0r.pos a0r.length a0r.dg (.func (.func 101) #[] #[])⟩ krf (sim_cps (fun _=>⟨tq21,hq14 r1++hq26 a0r.tks a0r.pos a0r.length a0r.dg (.func (.func 101) #[] #[])⟩:Unit→St) (fun _=>g_r_item_j2 n a0r r1) ?_ ?_)))
 rotate_left
 ·refine sBi (fun j60=>⟨tq28 j60,hq14 r1++hq26 a0r.tks a0r.pos a0r.length a0r.dg (.func (.func 101) #[] #[])⟩:Bool→St) ?_ ?_
  rotate_left
  ·rintro j60
   refine sC j60 krf ?_ ?_
   ·refine sG (xR 1 krf ?_)
    refine xs_roE [.ro [.id, .id, .id, .sl 2]] krf (g_r_fail_2_ok n a0r) krf krf kff kff (fun r65=>?_) (fun e66=>?_)
    ·refine xE ?_
     exact kqK (k:=fun _=>g_r_item_j2 n a0r r1) () krf
    refine kq_p (iq_p [1000,1001,1002] [] krf (qh_p _ rfl (sq_p ?_)))
    exact hq_p [1000,1103] [] krf krf krf
   refine sK ?_
   exact kqK (k:=fun _=>g_r_item_j2 n a0r r1) () krf
  refine sG (xR 4 krf ?_)
  refine xS (eqI r1.Kind 0) (fun h61=>?_) (fun h61=>?_)
  ·refine xN (want_ft krf h61) krf (xR 4 krf (xE ?_))
   exact nqK true krf
  refine xO (want_ff krf h61) krf (xR 1 krf (xIn (hq23 (.func (.func 101) #[] #[])) [.agg [I r1.Kind,S r1.Text,I r1.N,I r1.At],pZ0] [(1000,1002)] [] [] krf Tryz.func116 rfl Tryz.ntmps116 rfl krf krf krf (sRK tfm (sq10 r1 (.func (.func 101) #[] #[])) krf (sBi (fun j62=>⟨[(3,B j62)],hq23 (.func (.func 101) #[] #[])⟩:Bool→St) ?_ ?_))))
  ·refine sG (xR 4 krf ?_)
   refine xS (eqI r1.Kind 1) (fun h63=>?_) (fun h63=>?_)
   ·refine xO (want_tt krf h63) krf (xR 2 krf ?_)
    refine xC [] krf (g_r_item_1_ok n r1.Text) krf krf kff (fun r64=>?_)
    refine xR 2 krf (xE ?_)
    exact nqK r64 krf
   refine xN (want_tf krf h63) krf (xR 5 krf (xE ?_))
   exact nqK false krf
  rintro j62
  refine sT (iq_ret (.id) [1000] [] (B j62) krf krf (kr0 (xR 2 krf (xE ?_))))
  exact nqK (!j62) krf
 rintro _
 show SimE (g_r_item_j2 n a0r r1) _ _ _ _ _ _
 unfold g_r_item_j2
 refine sRK tfm ⟨[qq 4,qq 5],hq14 r1++hq26 a0r.tks (wi (a0r.pos+1)) a0r.length a0r.dg (.func (.func 101) #[] #[])⟩ krf (sRK tfm ⟨[qq 4],hq15 r1++hq26 a0r.tks (wi (a0r.pos+1)) a0r.length a0r.dg (.func (.func 101) #[] #[])⟩ krf (sT (iq_ret (.id) [1000,1001,1002] [] (.agg [I r1.Kind,S r1.Text,I r1.N,I r1.At]) krf krf (kf [] krf (lates_nil) krf (f_q [0] krf krf (lates_cons (late_read pZ0 krf rfl) (lates_nil)) (f_op [] rfl krf krf (lates_nil) krf (f_end ?_)))))))
 refine sNK ⟨tq22,hq16 r1++hq25 a0r.tks (wi (a0r.pos+1)) a0r.length a0r.dg⟩ krf (sS (sim_hst [0] [0] [(1,[]),(2,[]),(3,[]),(4,[])] tfm rfl krf krf (h_enter (f:=100) (args:=[.p (.val (.func (.func 103) #[] #[]))]) (dst:=some 12) krf krf (sc_inline (hc:=[]) (args':=[.p (.val (.func (.func 103) #[] #[]))]) [(1,401)] [] [] Tryz.func100 rfl Tryz.ntmps100 rfl krf krf krf (sRK tfm (sq6 (.func (.func 103) #[] #[])) krf (sRK tfm (sq7 (.func (.func 103) #[] #[])) krf (sT ?_)))))))
 refine iq_ret (.id) [1] [] (.fn (.func 116) [] [.ptr 1 0]) krf krf (kh [0] krf (lates_cons (late_read pZ0 krf rfl) (lates_nil)) krf (h_enter (f:=99) (args:=[pZ0, .fn (.func 116) [] [.ptr 401 0]]) (dst:=some 13) krf krf (sc_inline (hc:=(hq26 a0r.tks (wi (a0r.pos+1)) a0r.length a0r.dg (.func (.func 103) #[] #[]))) (args':=[pZ0, .fn (.func 116) [] [pZ2]]) nq0 [] [] Tryz.func99 rfl Tryz.ntmps99 rfl krf krf krf (sRK tfm ⟨tq29 (.func 116),hq13++hq26 a0r.tks (wi (a0r.pos+1)) a0r.length a0r.dg (.func (.func 103) #[] #[])⟩ krf (sS (sG (xR 1 krf ?_)))))))
 refine xs_ro [.ro [.id, .id, .id, .sl 2]] krf (g_r_peek_2_ok n (⟨a0r.tks,wi (a0r.pos+1),a0r.length,a0r.dg⟩:GPr)) krf krf kff (fun r3=>?_)
 refine xR 2 krf (xE (sNK ⟨tq30 (.func 116),hq14 r3++hq26 a0r.tks (wi (a0r.pos+1)) a0r.length a0r.dg (.func (.func 103) #[] #[])⟩ krf (sim_cps (fun _=>⟨tq21,hq14 r3++hq26 a0r.tks (wi (a0r.pos+1)) a0r.length a0r.dg (.func (.func 103) #[] #[])⟩:Unit→St) (fun _=>g_r_item_j4 n a0r r1 r3) ?_ ?_)))
 rotate_left
 ·refine sBi (fun j53=>⟨tq28 j53,hq14 r3++hq26 a0r.tks (wi (a0r.pos+1)) a0r.length a0r.dg (.func (.func 103) #[] #[])⟩:Bool→St) ?_ ?_
  rotate_left
  ·rintro j53
   refine sC j53 krf ?_ ?_
   ·refine sG (xR 1 krf ?_)
    refine xs_roE [.ro [.id, .id, .id, .sl 2]] krf (g_r_fail_2_ok n (⟨a0r.tks,wi (a0r.pos+1),a0r.length,a0r.dg⟩:GPr)) krf krf kff kff (fun r58=>?_) (fun e59=>?_)
    ·refine xE ?_
     exact kqK (k:=fun _=>g_r_item_j4 n a0r r1 r3) () krf
    refine kq_p (iq_p [1000,1001,1002] [] krf (qh_p _ rfl (sq_p ?_)))
    exact hq_p [1000,1103] [] krf krf krf
   refine sK ?_
   exact kqK (k:=fun _=>g_r_item_j4 n a0r r1 r3) () krf
  refine sG (xR 4 krf ?_)
  refine xS (eqI r3.Kind 0) (fun h54=>?_) (fun h54=>?_)
  ·refine xN (want_ft krf h54) krf (xR 4 krf (xE ?_))
   exact nqK true krf
  refine xO (want_ff krf h54) krf (xR 1 krf (xIn (hq23 (.func (.func 103) #[] #[])) [.agg [I r3.Kind,S r3.Text,I r3.N,I r3.At],pZ0] [(1000,1002)] [] [] krf Tryz.func116 rfl Tryz.ntmps116 rfl krf krf krf (sRK tfm (sq10 r3 (.func (.func 103) #[] #[])) krf (sBi (fun j55=>⟨[(3,B j55)],hq23 (.func (.func 103) #[] #[])⟩:Bool→St) ?_ ?_))))
  ·refine sG (xR 4 krf ?_)
   refine xS (eqI r3.Kind 1) (fun h56=>?_) (fun h56=>?_)
   ·refine xO (want_tt krf h56) krf (xR 2 krf ?_)
    refine xC [] krf (g_p_notKey_ok n r3.Text) krf krf kff (fun r57=>?_)
    refine xR 2 krf (xE ?_)
    exact nqK r57 krf
   refine xN (want_tf krf h56) krf (xR 5 krf (xE ?_))
   exact nqK false krf
  rintro j55
  refine sT (iq_ret (.id) [1000] [] (B j55) krf krf (kr0 (xR 2 krf (xE ?_))))
  exact nqK (!j55) krf
 rintro _
 show SimE (g_r_item_j4 n a0r r1 r3) _ _ _ _ _ _
 unfold g_r_item_j4
 refine sRK tfm ⟨[qq 4,qq 5],hq14 r3++hq26 a0r.tks (wi ((wi (a0r.pos+1))+1)) a0r.length a0r.dg (.func (.func 103) #[] #[])⟩ krf (sRK tfm ⟨[qq 4],hq15 r3++hq26 a0r.tks (wi ((wi (a0r.pos+1))+1)) a0r.length a0r.dg (.func (.func 103) #[] #[])⟩ krf (sT (iq_ret (.id) [1000,1001,1002] [] (.agg [I r3.Kind,S r3.Text,I r3.N,I r3.At]) krf krf (kh [] krf (lates_nil) krf (h_op [] krf krf (lates_nil) (h_op [] krf krf (lates_nil) (h_end ?_)))))))
 refine sNK ⟨[qq 1,qq 2,qq 3,(4,S r3.Text)],hq16 r1++hq25 a0r.tks (wi ((wi (a0r.pos+1))+1)) a0r.length a0r.dg⟩ krf (sS (sG (xR 2 krf ?_)))
 refine xC [] krf (g_p_kindOf_ok n r1.Text) krf krf kff (fun r5=>?_)
 refine xR 1 krf (xE (sNK ⟨tq31 r3 r5,hq16 r1++hq25 a0r.tks (wi ((wi (a0r.pos+1))+1)) a0r.length a0r.dg⟩ krf (sS (sRK tfm ⟨[qq 1,qq 2,qq 3,(4,S r3.Text),(5,I r5),(19,B (eqI r5 7))],hq16 r1++hq25 a0r.tks (wi ((wi (a0r.pos+1))+1)) a0r.length a0r.dg⟩ krf (sC (eqI r5 7) krf ?_ ?_)))))
 rotate_left
 ·refine sK (sNK ⟨tq31 r3 r5,hq16 r1++hq25 a0r.tks (wi ((wi (a0r.pos+1))+1)) a0r.length a0r.dg⟩ krf (sRK tfm ⟨[qq 1,qq 2,qq 3,(4,S r3.Text),(5,I r5),(7, .fn (.func 108) [] [.ptr 1 0])],hq16 r1++hq25 a0r.tks (wi ((wi (a0r.pos+1))+1)) a0r.length a0r.dg⟩ krf (sS (sG (xR 7 krf (xIn (hq46 a0r.tks (wi ((wi (a0r.pos+1))+1)) a0r.length a0r.dg) [.agg [I r1.Kind,S r1.Text,I r1.N,I r1.At],I 2,S r3.Text,I r5, .bsl 1003 2] [(1002,1),(1003,38),(1000,1000),(1001,1103)] [] [] krf Tryz.func39 rfl Tryz.ntmps39 rfl krf krf krf (sRK tfm ⟨tq23 2 r3 r5 (.bsl 1003 2),hq8 r1++hq46 a0r.tks (wi ((wi (a0r.pos+1))+1)) a0r.length a0r.dg⟩ krf ?_)))))))
  refine sRK tfm ⟨tq24 (.bsl 1003 2),hq28 r3 r5 r1++hq46 a0r.tks (wi ((wi (a0r.pos+1))+1)) a0r.length a0r.dg⟩ krf (sim_cps (fun (j35_1,j35_2,j35_3,j35_4)=>⟨[qq 10,qq 11],hq29 r3 r5 r1 j35_1++hq6 j35_1++hq46 j35_2 j35_3 j35_4 a0r.dg⟩:ty3→St) (fun (j35_1,j35_2,j35_3,j35_4)=>g_r_item_j35 a0r r1 r3 r5 j35_1 j35_2 j35_3 j35_4) ?_ ?_)
  ·rintro ⟨j35_1,j35_2,j35_3,j35_4⟩
   show SimE (g_r_item_j35 a0r r1 r3 r5 j35_1 j35_2 j35_3 j35_4) _ _ _ _ _ _
   unfold g_r_item_j35
   refine sRK tfm ⟨[qq 10],[(10,(bq15 r3 r5 r1 j35_1))]++hq6 j35_1++hq46 j35_2 j35_3 j35_4 a0r.dg⟩ krf (sT (iq_ret (.agg [.id, .id, .id, .id, .sl 5]) [1000,1001,1002,1003] [] (.agg [I 2,S r3.Text,I r5,I r1.At, .p (.sl 5 (mI j35_1))]) krf krf (kr0 (xR 1 krf (xE (sNK ⟨[qq 2],[(2,(bq9 ⟨2,r3.Text,r5,r1.At,j35_1⟩))]++hq25 j35_2 j35_3 j35_4 a0r.dg⟩ krf (sT ?_)))))))
   exact hq_ret (.id) [1000,1103] [] krf krf krf krf
  refine sRK tfm ⟨tq25 (.bsl 1003 2) 2 0,hq28 r3 r5 r1++hq46 a0r.tks (wi ((wi (a0r.pos+1))+1)) a0r.length a0r.dg⟩ krf (sB (sim_unroll 2 (sRK tfm ⟨tq26 (.bsl 1003 2) 2 0 true,hq28 r3 r5 r1++hq46 a0r.tks (wi ((wi (a0r.pos+1))+1)) a0r.length a0r.dg⟩ krf (sS (sim_condT krf (sK (sNK ⟨tq25 (.bsl 1003 2) 2 0,hq28 r3 r5 r1++hq46 a0r.tks (wi ((wi (a0r.pos+1))+1)) a0r.length a0r.dg⟩ krf ?_)))))))
  refine sS (sB (sRK tfm ⟨tq32 (.func 106) (.bsl 1003 2) 2 0,hq28 r3 r5 r1++hq46 a0r.tks (wi ((wi (a0r.pos+1))+1)) a0r.length a0r.dg⟩ krf (sPK ⟨tq32 (.func 106) (.bsl 1003 2) 2 0,hq28 r3 r5 r1++hq46 a0r.tks (wi ((wi (a0r.pos+1))+1)) a0r.length a0r.dg⟩ krf (sim_weak (weak_pn 24 5 300 [] [(11,4)] krf) (sim_hst [0,1,2] [0,1] [(3,[]),(4,[]),(5,[]),(6,[])] tfm rfl krf krf (h_enter (f:=106) (args:=[pZ0]) (dst:=some 29) krf krf (sc_inline (hc:=(hq30 a0r.tks (wi ((wi (a0r.pos+1))+1)) a0r.length a0r.dg)) (args':=[pZ0]) [(1000,1000),(1001,1001)] [] [] Tryz.func106 rfl Tryz.ntmps106 rfl krf krf krf ?_)))))))
  refine sRK tfm (sq11 a0r.tks (wi ((wi (a0r.pos+1))+1)) a0r.length a0r.dg) krf (sRK tfm ⟨tq33,hq31++hq30 a0r.tks (wi ((wi (a0r.pos+1))+1)) a0r.length a0r.dg⟩ krf (sBi (fun (j36_1,j36_2,j36_3,j36_4)=>⟨[(3, .tsl 5 (mI j36_1) 300)],hq6 j36_1++hq30 j36_2 j36_3 j36_4 a0r.dg⟩:ty3→St) ?_ ?_))
  ·refine sS (sG (xR 1 krf ?_))
   refine xs_ro [.ro [.id, .id, .id, .sl 2]] krf (g_r_peek_2_ok n (⟨a0r.tks,wi ((wi (a0r.pos+1))+1),a0r.length,a0r.dg⟩:GPr)) krf krf kff (fun r37=>?_)
   refine xR 2 krf (xE (sNK ⟨tq34,hq32 r37++hq30 a0r.tks (wi ((wi (a0r.pos+1))+1)) a0r.length a0r.dg⟩ krf (sB (sPK ⟨tq34,hq32 r37++hq30 a0r.tks (wi ((wi (a0r.pos+1))+1)) a0r.length a0r.dg⟩ krf (sim_weak (weak_pn 24 5 300 [3] [] krf) (sim_loop (fun (l38_1,l38_2,l38_3,l38_4,l38_5,l38_6,l38_7,l38_8)=>(sq12 l38_1 l38_5 l38_6 l38_7 l38_8 l38_2 l38_3 l38_4 a0r.dg):ty5→St) (wsK krf) ?_))))))
   rintro recl38 ⟨l38_1,l38_2,l38_3,l38_4,l38_5,l38_6,l38_7,l38_8⟩
   show SimE (g_r_item_l38 n a0r recl38 l38_1 l38_2 l38_3 l38_4 l38_5 l38_6 l38_7 l38_8) _ _ _ _ _ _
   unfold g_r_item_l38
   refine sS (sBi (fun j39=>⟨tq36 l38_1 j39,hq33 l38_5 l38_6 l38_7 l38_8++hq6 l38_1++hq30 l38_2 l38_3 l38_4 a0r.dg⟩:Bool→St) ?_ ?_)
   ·refine sG (xR 4 krf ?_)
    refine xS (eqI l38_5 1) (fun h40=>?_) (fun h40=>?_)
    ·refine xO (want_tt krf h40) krf (xR 1 krf ?_)
     refine xC [] krf (g_p_isAttr_ok n l38_6) krf krf kff (fun r41=>?_)
     refine xR 1 krf (xE ?_)
     exact nqK r41 krf
    refine xN (want_tf krf h40) krf (xR 3 krf (xE ?_))
    exact nqK false krf
   rintro j39
   refine sC j39 krf ?_ ?_
   rotate_left
   ·refine sim_exit (sq_x (kq_x (bq_hit ?_)))
    exact nqK (l38_1,l38_2,l38_3,l38_4) krf
   refine sK (sNK (sq12 l38_1 l38_5 l38_6 l38_7 l38_8 l38_2 l38_3 l38_4 a0r.dg) krf (sS (sB (sRK tfm (sq12 l38_1 l38_5 l38_6 l38_7 l38_8 l38_2 (wi (l38_3+1)) l38_4 a0r.dg) krf (sG (xR 6 krf (xIn (hq34 l38_2 (wi (l38_3+1)) l38_4 a0r.dg) [.agg [I l38_5,S l38_6,I l38_7,I l38_8],I 3,S l38_6,I 0, .bsl 1003 1] nq1 [] [] krf Tryz.func39 rfl Tryz.ntmps39 rfl krf krf krf ?_)))))))
   refine sRK tfm ⟨tq37 3 l38_6 (.bsl 1003 1),[(5,(bq0 l38_5 l38_6 l38_7 l38_8)),(10,(bq3 0 [] 0 0))]++hq34 l38_2 (wi (l38_3+1)) l38_4 a0r.dg⟩ krf (sRK tfm ⟨tq24 (.bsl 1003 1),hq9 3 l38_6 0 l38_8++hq34 l38_2 (wi (l38_3+1)) l38_4 a0r.dg⟩ krf (sBi (fun (j42_1,j42_2,j42_3,j42_4)=>⟨[qq 10,qq 11],hq35 3 l38_6 l38_8 j42_1++hq6 j42_1++hq34 j42_2 j42_3 j42_4 a0r.dg⟩:ty3→St) ?_ ?_))
   rotate_left
   ·rintro ⟨j42_1,j42_2,j42_3,j42_4⟩
    refine sRK tfm ⟨[qq 10],[(10,(bq17 3 l38_6 l38_8 j42_1))]++hq6 j42_1++hq34 j42_2 j42_3 j42_4 a0r.dg⟩ krf (sT (iq_ret (.agg [.id, .id, .id, .id, .sl 5]) [1000,1001,1002,1003] [] (.agg [I 3,S l38_6,I 0,I l38_8, .p (.sl 5 (mI j42_1))]) krf krf (kr0 (xR 1 krf (xF krf krf (aop_app (e:=24) (S:=5) (by_:=64) (enc:=idc) (tk:=300) (l:=l38_1) (l2:=[GN.cs (⟨3,l38_6,0,l38_8,j42_1⟩:GN)]) (xv:=.tsl 5 (mI [GN.cs (⟨3,l38_6,0,l38_8,j42_1⟩:GN)]) 31) rfl krf krf rfl krf krf krf rfl krf) (xR 1 krf (xE ?_)))))))
    refine bq_n (sNK (sq15 (l38_1++[GN.cs (⟨3,l38_6,0,l38_8,j42_1⟩:GN)]) l38_5 l38_6 l38_7 l38_8 j42_2 j42_3 j42_4 a0r.dg) krf (sS (sRK tfm (sq16 (l38_1++[GN.cs (⟨3,l38_6,0,l38_8,j42_1⟩:GN)]) l38_5 l38_6 l38_7 l38_8 j42_2 j42_3 j42_4 a0r.dg) krf (sL tfm krf (sNK (sq15 (l38_1++[GN.cs (⟨3,l38_6,0,l38_8,j42_1⟩:GN)]) l38_5 l38_6 l38_7 l38_8 j42_2 j42_3 j42_4 a0r.dg) krf (sG (xR 1 krf ?_)))))))
    refine xs_ro [.ro [.id, .id, .id, .sl 2]] krf (g_r_peek_2_ok n (⟨j42_2,j42_3,j42_4,a0r.dg⟩:GPr)) krf krf kff (fun r44=>?_)
    refine xR 1 krf (xE ?_)
    exact kqK (l38_1++[GN.cs (⟨3,l38_6,0,l38_8,j42_1⟩:GN)],j42_2,j42_3,j42_4,r44.Kind,r44.Text,r44.N,r44.At) krf
   refine sRK tfm ⟨tq25 (.bsl 1003 1) 1 0,hq9 3 l38_6 0 l38_8++hq34 l38_2 (wi (l38_3+1)) l38_4 a0r.dg⟩ krf (sB (sim_unroll 1 (sRK tfm ⟨tq26 (.bsl 1003 1) 1 0 true,hq9 3 l38_6 0 l38_8++hq34 l38_2 (wi (l38_3+1)) l38_4 a0r.dg⟩ krf (sS (sim_condT krf (sK (sNK ⟨tq25 (.bsl 1003 1) 1 0,hq9 3 l38_6 0 l38_8++hq34 l38_2 (wi (l38_3+1)) l38_4 a0r.dg⟩ krf ?_)))))))
   refine sS (sB (sRK tfm ⟨tq38 (.func 118) (.bsl 1003 1) 1 0,hq9 3 l38_6 0 l38_8++hq34 l38_2 (wi (l38_3+1)) l38_4 a0r.dg⟩ krf (sPK ⟨tq38 (.func 118) (.bsl 1003 1) 1 0,hq9 3 l38_6 0 l38_8++hq34 l38_2 (wi (l38_3+1)) l38_4 a0r.dg⟩ krf (sim_weak (weak_pn 24 5 300 [] [(11,4)] krf) (sim_hst [0,1,2] [0,1] [(3,[]),(4,[]),(5,[]),(6,[])] tfm rfl krf krf (h_enter (f:=118) (args:=[pZ2]) (dst:=some 29) krf krf (sc_inline (hc:=(hq36 l38_2 (wi (l38_3+1)) l38_4 a0r.dg)) (args':=[pZ2]) nq2 [] [] Tryz.func118 rfl Tryz.ntmps118 rfl krf krf krf ?_)))))))
   refine sRK tfm (sq13 l38_2 (wi (l38_3+1)) l38_4 a0r.dg) krf (sS (sG (xR 1 krf (xs_enter (f:=119) (args:=[pZ0, .p (.val (.func (.func 103) #[] #[]))]) krf krf krf ?_))))
   refine sc_hold 1000 3 1001 65 2 (mDg a0r.dg).length (mDg a0r.dg) ⟨[0,2],[1000,1002],[],[]⟩ krf krf rfl (fun _ _ _=>by kernel_rfl) (fun hu43w hu43l hu43c=>?_)
   refine sc_heap [(1000,1000)] [] [] (g_r_values_ok n (⟨l38_2,wi (l38_3+1),l38_4,[]⟩:GPr) hu43w hu43l hu43c) krf krf krf kff kff (fun r43=>?_)
   refine k_hold _ rfl krf krf (kr0 (xR 1 krf (xE (sNK ⟨[(1, .p (.sl 5 (mI r43.1)))],hq36 r43.2.tks r43.2.pos r43.2.length a0r.dg⟩ krf (sT (iq_ret (.id) [1000,1001,1002] [] (.p (.sl 5 (mI r43.1))) krf krf (kh [0,1] krf (lates_cons (late_read (.ptr 11 4) krf rfl) (lates_cons (late_tsl (S:=5) (t:=300) (ty:=24) (es:=mI []) krf krf rfl) (lates_nil))) krf ?_)))))))
   refine h_if [] rfl krf krf (aop_appL (e:=24) (S:=5) (by_:=64) (enc:=idc) (tk:=300) (l:=[]) (l2:=r43.1) (xv:=.p (.sl 5 (mI r43.1))) rfl krf krf rfl krf krf krf krf) (fun _=>lates_nil) (h_op [] krf krf (lates_nil) (h_op [] krf krf (lates_nil) (h_end (bq_n (sNK (sq14 0 l38_6 l38_8 ([]++r43.1) r43.2.tks r43.2.pos r43.2.length a0r.dg) krf (sL tfm krf (ru_n ⟨[10,11,20,21,22],[10,11,300,1000,1001,1002,1003],[],[]⟩ (sq14 1 l38_6 l38_8 ([]++r43.1) r43.2.tks r43.2.pos r43.2.length a0r.dg) krf ?_)))))))
   refine sRK tfm ⟨tq26 (.bsl 1003 1) 1 1 false,hq35 3 l38_6 l38_8 ([]++r43.1)++hq10 ([]++r43.1)++hq34 r43.2.tks r43.2.pos r43.2.length a0r.dg⟩ krf (sS (sim_condF krf (sim_exit (sq_x (ru_x (bq_hit ?_))))))
   exact nqK ([]++r43.1,r43.2.tks,r43.2.pos,r43.2.length) krf
  rintro ⟨j36_1,j36_2,j36_3,j36_4⟩
  refine sRK tfm ⟨[(2, .tsl 5 (mI j36_1) 300)],hq6 j36_1++hq30 j36_2 j36_3 j36_4 a0r.dg⟩ krf (sT (iq_ret (.sl 5) [1000,1001] [] (.p (.sl 5 (mI j36_1))) krf krf (kh [0,1] krf (lates_cons (late_read (.ptr 11 4) krf rfl) (lates_cons (late_tsl (S:=5) (t:=300) (ty:=24) (es:=mI []) krf krf rfl) (lates_nil))) krf (h_if [] rfl krf krf (aop_appL (e:=24) (S:=5) (by_:=64) (enc:=idc) (tk:=300) (l:=[]) (l2:=j36_1) (xv:=.p (.sl 5 (mI j36_1))) rfl krf krf rfl krf krf krf krf) (fun _=>lates_nil) (h_op [] krf krf (lates_nil) (h_op [] krf krf (lates_nil) (h_end ?_)))))))
  refine bq_n (sNK (sq19 0 r3 r5 r1 ([]++j36_1) j36_2 j36_3 j36_4 a0r.dg) krf (sL tfm krf (ru_n ⟨[10,11,20,21,22],[10,11,300,1000,1001,1002,1003],[],[]⟩ (sq19 1 r3 r5 r1 ([]++j36_1) j36_2 j36_3 j36_4 a0r.dg) krf (sRK tfm ⟨tq26 (.bsl 1003 2) 2 1 true,hq29 r3 r5 r1 ([]++j36_1)++hq10 ([]++j36_1)++hq46 j36_2 j36_3 j36_4 a0r.dg⟩ krf (sS (sim_condT krf (sK ?_)))))))
  refine sNK (sq19 1 r3 r5 r1 ([]++j36_1) j36_2 j36_3 j36_4 a0r.dg) krf (sS (sB (sRK tfm ⟨tq38 (.func 108) (.bsl 1003 2) 2 1,hq29 r3 r5 r1 ([]++j36_1)++hq10 ([]++j36_1)++hq46 j36_2 j36_3 j36_4 a0r.dg⟩ krf (sim_hst [0,1,2] [0,1] [(3,[]),(4,[]),(5,[]),(6,[])] tfm rfl krf krf (h_enter (f:=108) (args:=[pZ2]) (dst:=some 29) krf krf (sc_inline (hc:=(hq36 j36_2 j36_3 j36_4 a0r.dg)) (args':=[pZ2]) nq2 [] [] Tryz.func108 rfl Tryz.ntmps108 rfl krf krf krf (sRK tfm (sq13 j36_2 j36_3 j36_4 a0r.dg) krf ?_)))))))
  refine sS (sim_hst [0] [0] [(1,[]),(2,[])] tfm rfl krf krf (h_enter (f:=105) (args:=[S [59]]) (dst:=some 3) krf krf (sc_inline (hc:=[]) (args':=[S [59]]) [(1,401)] [] [] Tryz.func105 rfl Tryz.ntmps105 rfl krf krf krf (sRK tfm ⟨[qq 1],hq20 [59]⟩ krf (sRK tfm (sq8 [59]) krf (sT (iq_ret (.id) [1] [] (.fn (.func 117) [] [.ptr 1 0]) krf krf ?_)))))))
  refine kh [0] krf (lates_cons (late_read pZ0 krf rfl) (lates_nil)) krf (h_enter (f:=99) (args:=[pZ0, .fn (.func 117) [] [.ptr 401 0]]) (dst:=some 4) krf krf (sc_inline (hc:=(hq37 j36_2 j36_3 j36_4 a0r.dg [59])) (args':=[pZ0, .fn (.func 117) [] [pZ2]]) nq3 [] [] Tryz.func99 rfl Tryz.ntmps99 rfl krf krf krf (sRK tfm ⟨tq29 (.func 117),hq13++hq37 j36_2 j36_3 j36_4 a0r.dg [59]⟩ krf (sS (sG (xR 1 krf ?_))))))
  refine xs_ro [.ro [.id, .id, .id, .sl 2]] krf (g_r_peek_2_ok n (⟨j36_2,j36_3,j36_4,a0r.dg⟩:GPr)) krf krf kff (fun r45=>?_)
  refine xR 2 krf (xE (sNK ⟨tq30 (.func 117),hq14 r45++hq37 j36_2 j36_3 j36_4 a0r.dg [59]⟩ krf (sim_cps (fun _=>⟨tq21,hq14 r45++hq37 j36_2 j36_3 j36_4 a0r.dg [59]⟩:Unit→St) (fun _=>g_r_item_j46 a0r r1 r3 r5 j36_1 j36_2 j36_3 j36_4) ?_ ?_)))
  ·rintro _
   show SimE (g_r_item_j46 a0r r1 r3 r5 j36_1 j36_2 j36_3 j36_4) _ _ _ _ _ _
   unfold g_r_item_j46
   refine sRK tfm ⟨[qq 4,qq 5],hq14 r45++hq37 j36_2 (wi (j36_3+1)) j36_4 a0r.dg [59]⟩ krf (sRK tfm ⟨[qq 4],hq15 r45++hq37 j36_2 (wi (j36_3+1)) j36_4 a0r.dg [59]⟩ krf (sT (iq_ret (.id) [1000,1001,1002] [] (.agg [I r45.Kind,S r45.Text,I r45.N,I r45.At]) krf krf (kh [] krf (lates_nil) krf (h_end (sNK ⟨[],hq36 j36_2 (wi (j36_3+1)) j36_4 a0r.dg⟩ krf (sRK tfm ⟨[(1,zS)],hq36 j36_2 (wi (j36_3+1)) j36_4 a0r.dg⟩ krf ?_)))))))
   refine sT (iq_ret (.sl 5) [1000,1001,1002] [] (.p (.sl 5 (mI []))) krf krf (kh [0,1] krf (lates_cons (late_read (.ptr 11 4) krf rfl) (lates_cons (late_tsl (S:=5) (t:=300) (ty:=24) (es:=mI ([]++j36_1)) krf krf rfl) (lates_nil))) krf (h_if [] rfl krf krf (aop_appL (e:=24) (S:=5) (by_:=64) (enc:=idc) (tk:=300) (l:=[]++j36_1) (l2:=[]) (xv:=.p (.sl 5 (mI []))) rfl krf krf rfl krf krf krf krf) (fun _=>lates_nil) (h_op [] krf krf (lates_nil) (h_op [] krf krf (lates_nil) (h_end (bq_n ?_)))))))
   refine sNK (sq19 1 r3 r5 r1 (([]++j36_1)++[]) j36_2 (wi (j36_3+1)) j36_4 a0r.dg) krf (sL tfm krf (ru_n ⟨[10,11,20,21,22],[10,11,300,1000,1001,1002,1003],[],[]⟩ (sq19 2 r3 r5 r1 (([]++j36_1)++[]) j36_2 (wi (j36_3+1)) j36_4 a0r.dg) krf (sRK tfm ⟨tq26 (.bsl 1003 2) 2 2 false,hq29 r3 r5 r1 (([]++j36_1)++[])++hq10 (([]++j36_1)++[])++hq46 j36_2 (wi (j36_3+1)) j36_4 a0r.dg⟩ krf (sS (sim_condF krf (sim_exit (sq_x ?_)))))))
   refine ru_x (bq_hit ?_)
   exact kqK (k:=fun (j35_1,j35_2,j35_3,j35_4)=>g_r_item_j35 a0r r1 r3 r5 j35_1 j35_2 j35_3 j35_4) (([]++j36_1)++[],j36_2,wi (j36_3+1),j36_4) krf
  refine sBi (fun j47=>⟨tq28 j47,hq14 r45++hq37 j36_2 j36_3 j36_4 a0r.dg [59]⟩:Bool→St) ?_ ?_
  rotate_left
  ·rintro j47
   refine sC j47 krf ?_ ?_
   rotate_left
   ·refine sK ?_
    exact kqK (k:=fun _=>g_r_item_j46 a0r r1 r3 r5 j36_1 j36_2 j36_3 j36_4) () krf
   refine sG (xR 1 krf ?_)
   refine xs_roE [.ro [.id, .id, .id, .sl 2]] krf (g_r_fail_2_ok n (⟨j36_2,j36_3,j36_4,a0r.dg⟩:GPr)) krf krf kff kff (fun r51=>?_) (fun e52=>?_)
   ·refine xE ?_
    exact kqK (k:=fun _=>g_r_item_j46 a0r r1 r3 r5 j36_1 j36_2 j36_3 j36_4) () krf
   refine kq_p (iq_p [1000,1001,1002] [] krf (qh_p _ rfl (sq_p (iq_p [1000,1001,1002] [] krf (qh_p _ rfl (bq_p (sq_p ?_)))))))
   refine ru_p (bq_p (kq_p (iq_p [1000,1001,1002,1003] [] krf (sq_p ?_))))
   exact hq_p [1000,1103] [] krf krf krf
  refine sG (xR 4 krf ?_)
  refine xS (eqI r45.Kind 0) (fun h48=>?_) (fun h48=>?_)
  ·refine xN (want_ft krf h48) krf (xR 4 krf (xE ?_))
   exact nqK true krf
  refine xO (want_ff krf h48) krf (xR 1 krf (xIn (hq22 [59]) [.agg [I r45.Kind,S r45.Text,I r45.N,I r45.At],pZ0] [(1000,1002)] [] [] krf Tryz.func117 rfl Tryz.ntmps117 rfl krf krf krf (sRK tfm (sq9 r45 [59]) krf (sBi (fun j49=>⟨[(3,B j49)],hq22 [59]⟩:Bool→St) ?_ ?_))))
  ·refine sG (xR 4 krf ?_)
   refine xS (eqI r45.Kind 3) (fun h50=>?_) (fun h50=>?_)
   ·refine xO (want_tt krf h50) krf (xR 5 krf (xE ?_))
    exact nqK (eqS r45.Text [59]) krf
   refine xN (want_tf krf h50) krf (xR 5 krf (xE ?_))
   exact nqK false krf
  rintro j49
  refine sT (iq_ret (.id) [1000] [] (B j49) krf krf (kr0 (xR 2 krf (xE ?_))))
  exact nqK (!j49) krf
 refine sRK tfm ⟨[qq 1,qq 2,qq 3,(4,S r3.Text),(5,I r5),(6, .fn (.func 104) [] [.ptr 1 0])],hq16 r1++hq25 a0r.tks (wi ((wi (a0r.pos+1))+1)) a0r.length a0r.dg⟩ krf (sS (sG (xR 9 krf (xIn (hq27 a0r.tks (wi ((wi (a0r.pos+1))+1)) a0r.length a0r.dg) [.agg [I r1.Kind,S r1.Text,I r1.N,I r1.At],I 2,S r3.Text,I r5, .bsl 1003 3] [(1002,1),(1003,29),(1000,1000),(1001,1103)] [] [] krf Tryz.func39 rfl Tryz.ntmps39 rfl krf krf krf (sRK tfm ⟨tq23 2 r3 r5 (.bsl 1003 3),hq8 r1++hq27 a0r.tks (wi ((wi (a0r.pos+1))+1)) a0r.length a0r.dg⟩ krf (sRK tfm ⟨tq24 (.bsl 1003 3),hq28 r3 r5 r1++hq27 a0r.tks (wi ((wi (a0r.pos+1))+1)) a0r.length a0r.dg⟩ krf (sim_cps (fun (j6_1,j6_2,j6_3,j6_4,j6_5)=>⟨[qq 10,qq 11],hq29 r3 r5 r1 j6_1++hq6 j6_1++hq27 j6_2 j6_3 j6_4 j6_5⟩:ty1→St) (fun (j6_1,j6_2,j6_3,j6_4,j6_5)=>g_r_item_j6 r1 r3 r5 j6_1 j6_2 j6_3 j6_4 j6_5) ?_ ?_)))))))
 ·rintro ⟨j6_1,j6_2,j6_3,j6_4,j6_5⟩
  show SimE (g_r_item_j6 r1 r3 r5 j6_1 j6_2 j6_3 j6_4 j6_5) _ _ _ _ _ _
  unfold g_r_item_j6
  refine sRK tfm ⟨[qq 10],[(10,(bq15 r3 r5 r1 j6_1))]++hq6 j6_1++hq27 j6_2 j6_3 j6_4 j6_5⟩ krf (sT (iq_ret (.agg [.id, .id, .id, .id, .sl 5]) [1000,1001,1002,1003] [] (.agg [I 2,S r3.Text,I r5,I r1.At, .p (.sl 5 (mI j6_1))]) krf krf (kr0 (xR 1 krf (xE (sNK ⟨[qq 2],[(2,(bq9 ⟨2,r3.Text,r5,r1.At,j6_1⟩))]++hq25 j6_2 j6_3 j6_4 j6_5⟩ krf (sT ?_)))))))
  refine sq_r ?_
  exact hq_ret (.id) [1000,1103] [] krf krf krf krf
 refine sRK tfm ⟨tq25 (.bsl 1003 3) 3 0,hq28 r3 r5 r1++hq27 a0r.tks (wi ((wi (a0r.pos+1))+1)) a0r.length a0r.dg⟩ krf (sB (sim_unroll 3 (sRK tfm ⟨tq26 (.bsl 1003 3) 3 0 true,hq28 r3 r5 r1++hq27 a0r.tks (wi ((wi (a0r.pos+1))+1)) a0r.length a0r.dg⟩ krf (sS (sim_condT krf (sK (sNK ⟨tq25 (.bsl 1003 3) 3 0,hq28 r3 r5 r1++hq27 a0r.tks (wi ((wi (a0r.pos+1))+1)) a0r.length a0r.dg⟩ krf ?_)))))))
 refine sS (sB (sRK tfm ⟨tq32 (.func 106) (.bsl 1003 3) 3 0,hq28 r3 r5 r1++hq27 a0r.tks (wi ((wi (a0r.pos+1))+1)) a0r.length a0r.dg⟩ krf (sPK ⟨tq32 (.func 106) (.bsl 1003 3) 3 0,hq28 r3 r5 r1++hq27 a0r.tks (wi ((wi (a0r.pos+1))+1)) a0r.length a0r.dg⟩ krf (sim_weak (weak_pn 24 5 300 [] [(11,4)] krf) (sim_hst [0,1,2] [0,1] [(3,[]),(4,[]),(5,[]),(6,[])] tfm rfl krf krf (h_enter (f:=106) (args:=[pZ0]) (dst:=some 29) krf krf (sc_inline (hc:=(hq30 a0r.tks (wi ((wi (a0r.pos+1))+1)) a0r.length a0r.dg)) (args':=[pZ0]) [(1000,1000),(1001,1001)] [] [] Tryz.func106 rfl Tryz.ntmps106 rfl krf krf krf ?_)))))))
 refine sRK tfm (sq11 a0r.tks (wi ((wi (a0r.pos+1))+1)) a0r.length a0r.dg) krf (sRK tfm ⟨tq33,hq31++hq30 a0r.tks (wi ((wi (a0r.pos+1))+1)) a0r.length a0r.dg⟩ krf (sBi (fun (j7_1,j7_2,j7_3,j7_4)=>⟨[(3, .tsl 5 (mI j7_1) 300)],hq6 j7_1++hq30 j7_2 j7_3 j7_4 a0r.dg⟩:ty3→St) ?_ ?_))
 ·refine sS (sG (xR 1 krf ?_))
  refine xs_ro [.ro [.id, .id, .id, .sl 2]] krf (g_r_peek_2_ok n (⟨a0r.tks,wi ((wi (a0r.pos+1))+1),a0r.length,a0r.dg⟩:GPr)) krf krf kff (fun r8=>?_)
  refine xR 2 krf (xE (sNK ⟨tq34,hq32 r8++hq30 a0r.tks (wi ((wi (a0r.pos+1))+1)) a0r.length a0r.dg⟩ krf (sB (sPK ⟨tq34,hq32 r8++hq30 a0r.tks (wi ((wi (a0r.pos+1))+1)) a0r.length a0r.dg⟩ krf (sim_weak (weak_pn 24 5 300 [3] [] krf) (sim_loop (fun (l9_1,l9_2,l9_3,l9_4,l9_5,l9_6,l9_7,l9_8)=>(sq12 l9_1 l9_5 l9_6 l9_7 l9_8 l9_2 l9_3 l9_4 a0r.dg):ty5→St) (wsK krf) ?_))))))
  rintro recl9 ⟨l9_1,l9_2,l9_3,l9_4,l9_5,l9_6,l9_7,l9_8⟩
  show SimE (g_r_item_l9 n a0r recl9 l9_1 l9_2 l9_3 l9_4 l9_5 l9_6 l9_7 l9_8) _ _ _ _ _ _
  unfold g_r_item_l9
  refine sS (sBi (fun j10=>⟨tq36 l9_1 j10,hq33 l9_5 l9_6 l9_7 l9_8++hq6 l9_1++hq30 l9_2 l9_3 l9_4 a0r.dg⟩:Bool→St) ?_ ?_)
  ·refine sG (xR 4 krf ?_)
   refine xS (eqI l9_5 1) (fun h11=>?_) (fun h11=>?_)
   ·refine xO (want_tt krf h11) krf (xR 1 krf ?_)
    refine xC [] krf (g_p_isAttr_ok n l9_6) krf krf kff (fun r12=>?_)
    refine xR 1 krf (xE ?_)
    exact nqK r12 krf
   refine xN (want_tf krf h11) krf (xR 3 krf (xE ?_))
   exact nqK false krf
  rintro j10
  refine sC j10 krf ?_ ?_
  rotate_left
  ·refine sim_exit (sq_x (kq_x (bq_hit ?_)))
   exact nqK (l9_1,l9_2,l9_3,l9_4) krf
  refine sK (sNK (sq12 l9_1 l9_5 l9_6 l9_7 l9_8 l9_2 l9_3 l9_4 a0r.dg) krf (sS (sB (sRK tfm (sq12 l9_1 l9_5 l9_6 l9_7 l9_8 l9_2 (wi (l9_3+1)) l9_4 a0r.dg) krf (sG (xR 6 krf (xIn (hq34 l9_2 (wi (l9_3+1)) l9_4 a0r.dg) [.agg [I l9_5,S l9_6,I l9_7,I l9_8],I 3,S l9_6,I 0, .bsl 1003 1] nq1 [] [] krf Tryz.func39 rfl Tryz.ntmps39 rfl krf krf krf ?_)))))))
  refine sRK tfm ⟨tq37 3 l9_6 (.bsl 1003 1),[(5,(bq0 l9_5 l9_6 l9_7 l9_8)),(10,(bq3 0 [] 0 0))]++hq34 l9_2 (wi (l9_3+1)) l9_4 a0r.dg⟩ krf (sRK tfm ⟨tq24 (.bsl 1003 1),hq9 3 l9_6 0 l9_8++hq34 l9_2 (wi (l9_3+1)) l9_4 a0r.dg⟩ krf (sBi (fun (j13_1,j13_2,j13_3,j13_4)=>⟨[qq 10,qq 11],hq35 3 l9_6 l9_8 j13_1++hq6 j13_1++hq34 j13_2 j13_3 j13_4 a0r.dg⟩:ty3→St) ?_ ?_))
  rotate_left
  ·rintro ⟨j13_1,j13_2,j13_3,j13_4⟩
   refine sRK tfm ⟨[qq 10],[(10,(bq17 3 l9_6 l9_8 j13_1))]++hq6 j13_1++hq34 j13_2 j13_3 j13_4 a0r.dg⟩ krf (sT (iq_ret (.agg [.id, .id, .id, .id, .sl 5]) [1000,1001,1002,1003] [] (.agg [I 3,S l9_6,I 0,I l9_8, .p (.sl 5 (mI j13_1))]) krf krf (kr0 (xR 1 krf (xF krf krf (aop_app (e:=24) (S:=5) (by_:=64) (enc:=idc) (tk:=300) (l:=l9_1) (l2:=[GN.cs (⟨3,l9_6,0,l9_8,j13_1⟩:GN)]) (xv:=.tsl 5 (mI [GN.cs (⟨3,l9_6,0,l9_8,j13_1⟩:GN)]) 31) rfl krf krf rfl krf krf krf rfl krf) (xR 1 krf (xE ?_)))))))
   refine bq_n (sNK (sq15 (l9_1++[GN.cs (⟨3,l9_6,0,l9_8,j13_1⟩:GN)]) l9_5 l9_6 l9_7 l9_8 j13_2 j13_3 j13_4 a0r.dg) krf (sS (sRK tfm (sq16 (l9_1++[GN.cs (⟨3,l9_6,0,l9_8,j13_1⟩:GN)]) l9_5 l9_6 l9_7 l9_8 j13_2 j13_3 j13_4 a0r.dg) krf (sL tfm krf (sNK (sq15 (l9_1++[GN.cs (⟨3,l9_6,0,l9_8,j13_1⟩:GN)]) l9_5 l9_6 l9_7 l9_8 j13_2 j13_3 j13_4 a0r.dg) krf (sG (xR 1 krf ?_)))))))
   refine xs_ro [.ro [.id, .id, .id, .sl 2]] krf (g_r_peek_2_ok n (⟨j13_2,j13_3,j13_4,a0r.dg⟩:GPr)) krf krf kff (fun r15=>?_)
   refine xR 1 krf (xE ?_)
   exact kqK (l9_1++[GN.cs (⟨3,l9_6,0,l9_8,j13_1⟩:GN)],j13_2,j13_3,j13_4,r15.Kind,r15.Text,r15.N,r15.At) krf
  refine sRK tfm ⟨tq25 (.bsl 1003 1) 1 0,hq9 3 l9_6 0 l9_8++hq34 l9_2 (wi (l9_3+1)) l9_4 a0r.dg⟩ krf (sB (sim_unroll 1 (sRK tfm ⟨tq26 (.bsl 1003 1) 1 0 true,hq9 3 l9_6 0 l9_8++hq34 l9_2 (wi (l9_3+1)) l9_4 a0r.dg⟩ krf (sS (sim_condT krf (sK (sNK ⟨tq25 (.bsl 1003 1) 1 0,hq9 3 l9_6 0 l9_8++hq34 l9_2 (wi (l9_3+1)) l9_4 a0r.dg⟩ krf ?_)))))))
  refine sS (sB (sRK tfm ⟨tq38 (.func 118) (.bsl 1003 1) 1 0,hq9 3 l9_6 0 l9_8++hq34 l9_2 (wi (l9_3+1)) l9_4 a0r.dg⟩ krf (sPK ⟨tq38 (.func 118) (.bsl 1003 1) 1 0,hq9 3 l9_6 0 l9_8++hq34 l9_2 (wi (l9_3+1)) l9_4 a0r.dg⟩ krf (sim_weak (weak_pn 24 5 300 [] [(11,4)] krf) (sim_hst [0,1,2] [0,1] [(3,[]),(4,[]),(5,[]),(6,[])] tfm rfl krf krf (h_enter (f:=118) (args:=[pZ2]) (dst:=some 29) krf krf (sc_inline (hc:=(hq36 l9_2 (wi (l9_3+1)) l9_4 a0r.dg)) (args':=[pZ2]) nq2 [] [] Tryz.func118 rfl Tryz.ntmps118 rfl krf krf krf ?_)))))))
  refine sRK tfm (sq13 l9_2 (wi (l9_3+1)) l9_4 a0r.dg) krf (sS (sG (xR 1 krf (xs_enter (f:=119) (args:=[pZ0, .p (.val (.func (.func 103) #[] #[]))]) krf krf krf ?_))))
  refine sc_hold 1000 3 1001 65 2 (mDg a0r.dg).length (mDg a0r.dg) ⟨[0,2],[1000,1002],[],[]⟩ krf krf rfl (fun _ _ _=>by kernel_rfl) (fun hu14w hu14l hu14c=>?_)
  refine sc_heap [(1000,1000)] [] [] (g_r_values_ok n (⟨l9_2,wi (l9_3+1),l9_4,[]⟩:GPr) hu14w hu14l hu14c) krf krf krf kff kff (fun r14=>?_)
  refine k_hold _ rfl krf krf (kr0 (xR 1 krf (xE (sNK ⟨[(1, .p (.sl 5 (mI r14.1)))],hq36 r14.2.tks r14.2.pos r14.2.length a0r.dg⟩ krf (sT (iq_ret (.id) [1000,1001,1002] [] (.p (.sl 5 (mI r14.1))) krf krf (kh [0,1] krf (lates_cons (late_read (.ptr 11 4) krf rfl) (lates_cons (late_tsl (S:=5) (t:=300) (ty:=24) (es:=mI []) krf krf rfl) (lates_nil))) krf ?_)))))))
  refine h_if [] rfl krf krf (aop_appL (e:=24) (S:=5) (by_:=64) (enc:=idc) (tk:=300) (l:=[]) (l2:=r14.1) (xv:=.p (.sl 5 (mI r14.1))) rfl krf krf rfl krf krf krf krf) (fun _=>lates_nil) (h_op [] krf krf (lates_nil) (h_op [] krf krf (lates_nil) (h_end (bq_n (sNK (sq14 0 l9_6 l9_8 ([]++r14.1) r14.2.tks r14.2.pos r14.2.length a0r.dg) krf (sL tfm krf (ru_n ⟨[10,11,20,21,22],[10,11,300,1000,1001,1002,1003],[],[]⟩ (sq14 1 l9_6 l9_8 ([]++r14.1) r14.2.tks r14.2.pos r14.2.length a0r.dg) krf ?_)))))))
  refine sRK tfm ⟨tq26 (.bsl 1003 1) 1 1 false,hq35 3 l9_6 l9_8 ([]++r14.1)++hq10 ([]++r14.1)++hq34 r14.2.tks r14.2.pos r14.2.length a0r.dg⟩ krf (sS (sim_condF krf (sim_exit (sq_x (ru_x (bq_hit ?_))))))
  exact nqK ([]++r14.1,r14.2.tks,r14.2.pos,r14.2.length) krf
 rintro ⟨j7_1,j7_2,j7_3,j7_4⟩
 refine sRK tfm ⟨[(2, .tsl 5 (mI j7_1) 300)],hq6 j7_1++hq30 j7_2 j7_3 j7_4 a0r.dg⟩ krf (sT (iq_ret (.sl 5) [1000,1001] [] (.p (.sl 5 (mI j7_1))) krf krf (kh [0,1] krf (lates_cons (late_read (.ptr 11 4) krf rfl) (lates_cons (late_tsl (S:=5) (t:=300) (ty:=24) (es:=mI []) krf krf rfl) (lates_nil))) krf (h_if [] rfl krf krf (aop_appL (e:=24) (S:=5) (by_:=64) (enc:=idc) (tk:=300) (l:=[]) (l2:=j7_1) (xv:=.p (.sl 5 (mI j7_1))) rfl krf krf rfl krf krf krf krf) (fun _=>lates_nil) (h_op [] krf krf (lates_nil) (h_op [] krf krf (lates_nil) (h_end ?_)))))))
 refine bq_n (sNK (sq17 0 r3 r5 r1 ([]++j7_1) j7_2 j7_3 j7_4 a0r.dg) krf (sL tfm krf (ru_n ⟨[10,11,20,21,22],[10,11,300,1000,1001,1002,1003],[],[]⟩ (sq17 1 r3 r5 r1 ([]++j7_1) j7_2 j7_3 j7_4 a0r.dg) krf (sRK tfm ⟨tq26 (.bsl 1003 3) 3 1 true,hq29 r3 r5 r1 ([]++j7_1)++hq10 ([]++j7_1)++hq27 j7_2 j7_3 j7_4 a0r.dg⟩ krf (sS (sim_condT krf (sK ?_)))))))
 refine sNK (sq17 1 r3 r5 r1 ([]++j7_1) j7_2 j7_3 j7_4 a0r.dg) krf (sS (sB (sRK tfm ⟨tq38 (.func 104) (.bsl 1003 3) 3 1,hq29 r3 r5 r1 ([]++j7_1)++hq10 ([]++j7_1)++hq27 j7_2 j7_3 j7_4 a0r.dg⟩ krf (sim_hst [0,1,2] [0,1] [(3,[]),(4,[]),(5,[]),(6,[])] tfm rfl krf krf (h_enter (f:=104) (args:=[pZ2]) (dst:=some 29) krf krf (sc_inline (hc:=(hq36 j7_2 j7_3 j7_4 a0r.dg)) (args':=[pZ2]) nq2 [] [] Tryz.func104 rfl Tryz.ntmps104 rfl krf krf krf (sRK tfm (sq13 j7_2 j7_3 j7_4 a0r.dg) krf ?_)))))))
 refine sS (sim_hst [0] [0] [(1,[]),(2,[])] tfm rfl krf krf (h_enter (f:=105) (args:=[S [123]]) (dst:=some 3) krf krf (sc_inline (hc:=[]) (args':=[S [123]]) [(1,401)] [] [] Tryz.func105 rfl Tryz.ntmps105 rfl krf krf krf (sRK tfm ⟨[qq 1],hq20 [123]⟩ krf (sRK tfm (sq8 [123]) krf (sT (iq_ret (.id) [1] [] (.fn (.func 117) [] [.ptr 1 0]) krf krf ?_)))))))
 refine kh [0] krf (lates_cons (late_read pZ0 krf rfl) (lates_nil)) krf (h_enter (f:=99) (args:=[pZ0, .fn (.func 117) [] [.ptr 401 0]]) (dst:=some 4) krf krf (sc_inline (hc:=(hq37 j7_2 j7_3 j7_4 a0r.dg [123])) (args':=[pZ0, .fn (.func 117) [] [pZ2]]) nq3 [] [] Tryz.func99 rfl Tryz.ntmps99 rfl krf krf krf (sRK tfm ⟨tq29 (.func 117),hq13++hq37 j7_2 j7_3 j7_4 a0r.dg [123]⟩ krf (sS (sG (xR 1 krf ?_))))))
 refine xs_ro [.ro [.id, .id, .id, .sl 2]] krf (g_r_peek_2_ok n (⟨j7_2,j7_3,j7_4,a0r.dg⟩:GPr)) krf krf kff (fun r16=>?_)
 refine xR 2 krf (xE (sNK ⟨tq30 (.func 117),hq14 r16++hq37 j7_2 j7_3 j7_4 a0r.dg [123]⟩ krf (sim_cps (fun _=>⟨tq21,hq14 r16++hq37 j7_2 j7_3 j7_4 a0r.dg [123]⟩:Unit→St) (fun _=>g_r_item_j17 n a0r r1 r3 r5 j7_1 j7_2 j7_3 j7_4) ?_ ?_)))
 rotate_left
 ·refine sBi (fun j29=>⟨tq28 j29,hq14 r16++hq37 j7_2 j7_3 j7_4 a0r.dg [123]⟩:Bool→St) ?_ ?_
  rotate_left
  ·rintro j29
   refine sC j29 krf ?_ ?_
   rotate_left
   ·refine sK ?_
    exact kqK (k:=fun _=>g_r_item_j17 n a0r r1 r3 r5 j7_1 j7_2 j7_3 j7_4) () krf
   refine sG (xR 1 krf ?_)
   refine xs_roE [.ro [.id, .id, .id, .sl 2]] krf (g_r_fail_2_ok n (⟨j7_2,j7_3,j7_4,a0r.dg⟩:GPr)) krf krf kff kff (fun r33=>?_) (fun e34=>?_)
   ·refine xE ?_
    exact kqK (k:=fun _=>g_r_item_j17 n a0r r1 r3 r5 j7_1 j7_2 j7_3 j7_4) () krf
   refine kq_p (iq_p [1000,1001,1002] [] krf (qh_p _ rfl (sq_p (iq_p [1000,1001,1002] [] krf (qh_p _ rfl (bq_p (sq_p ?_)))))))
   refine ru_p (bq_p (kq_p (iq_p [1000,1001,1002,1003] [] krf (sq_p (sq_p ?_)))))
   exact hq_p [1000,1103] [] krf krf krf
  refine sG (xR 4 krf ?_)
  refine xS (eqI r16.Kind 0) (fun h30=>?_) (fun h30=>?_)
  ·refine xN (want_ft krf h30) krf (xR 4 krf (xE ?_))
   exact nqK true krf
  refine xO (want_ff krf h30) krf (xR 1 krf (xIn (hq22 [123]) [.agg [I r16.Kind,S r16.Text,I r16.N,I r16.At],pZ0] [(1000,1002)] [] [] krf Tryz.func117 rfl Tryz.ntmps117 rfl krf krf krf (sRK tfm (sq9 r16 [123]) krf (sBi (fun j31=>⟨[(3,B j31)],hq22 [123]⟩:Bool→St) ?_ ?_))))
  ·refine sG (xR 4 krf ?_)
   refine xS (eqI r16.Kind 3) (fun h32=>?_) (fun h32=>?_)
   ·refine xO (want_tt krf h32) krf (xR 5 krf (xE ?_))
    exact nqK (eqS r16.Text [123]) krf
   refine xN (want_tf krf h32) krf (xR 5 krf (xE ?_))
   exact nqK false krf
  rintro j31
  refine sT (iq_ret (.id) [1000] [] (B j31) krf krf (kr0 (xR 2 krf (xE ?_))))
  exact nqK (!j31) krf
 rintro _
 show SimE (g_r_item_j17 n a0r r1 r3 r5 j7_1 j7_2 j7_3 j7_4) _ _ _ _ _ _
 unfold g_r_item_j17
 refine sRK tfm ⟨[qq 4,qq 5],hq14 r16++hq37 j7_2 (wi (j7_3+1)) j7_4 a0r.dg [123]⟩ krf (sRK tfm ⟨[qq 4],hq15 r16++hq37 j7_2 (wi (j7_3+1)) j7_4 a0r.dg [123]⟩ krf (sT (iq_ret (.id) [1000,1001,1002] [] (.agg [I r16.Kind,S r16.Text,I r16.N,I r16.At]) krf krf (kh [] krf (lates_nil) krf (h_end (sNK ⟨[],hq36 j7_2 (wi (j7_3+1)) j7_4 a0r.dg⟩ krf (sRK tfm ⟨[(1,zS)],hq36 j7_2 (wi (j7_3+1)) j7_4 a0r.dg⟩ krf ?_)))))))
 refine sT (iq_ret (.sl 5) [1000,1001,1002] [] (.p (.sl 5 (mI []))) krf krf (kh [0,1] krf (lates_cons (late_read (.ptr 11 4) krf rfl) (lates_cons (late_tsl (S:=5) (t:=300) (ty:=24) (es:=mI ([]++j7_1)) krf krf rfl) (lates_nil))) krf (h_if [] rfl krf krf (aop_appL (e:=24) (S:=5) (by_:=64) (enc:=idc) (tk:=300) (l:=[]++j7_1) (l2:=[]) (xv:=.p (.sl 5 (mI []))) rfl krf krf rfl krf krf krf krf) (fun _=>lates_nil) (h_op [] krf krf (lates_nil) (h_op [] krf krf (lates_nil) (h_end (bq_n ?_)))))))
 refine sNK (sq17 1 r3 r5 r1 (([]++j7_1)++[]) j7_2 (wi (j7_3+1)) j7_4 a0r.dg) krf (sL tfm krf (ru_n ⟨[10,11,20,21,22],[10,11,300,1000,1001,1002,1003],[],[]⟩ (sq17 2 r3 r5 r1 (([]++j7_1)++[]) j7_2 (wi (j7_3+1)) j7_4 a0r.dg) krf (sRK tfm ⟨tq26 (.bsl 1003 3) 3 2 true,hq29 r3 r5 r1 (([]++j7_1)++[])++hq10 (([]++j7_1)++[])++hq27 j7_2 (wi (j7_3+1)) j7_4 a0r.dg⟩ krf (sS (sim_condT krf (sK (sNK (sq17 2 r3 r5 r1 (([]++j7_1)++[]) j7_2 (wi (j7_3+1)) j7_4 a0r.dg) krf ?_)))))))
 refine sBi (fun (j18_1,j18_2,j18_3,j18_4,j18_5)=>⟨tq25 (.bsl 1003 3) 3 2,hq29 r3 r5 r1 j18_1++hq6 j18_1++hq27 j18_2 j18_3 j18_4 j18_5⟩:ty1→St) ?_ ?_
 rotate_left
 ·rintro ⟨j18_1,j18_2,j18_3,j18_4,j18_5⟩
  refine sL tfm krf (ru_n ⟨[10,11,20,21,22],[10,11,300,1000,1001,1002,1003],[],[]⟩ ⟨tq25 (.bsl 1003 3) 3 3,hq29 r3 r5 r1 j18_1++hq6 j18_1++hq27 j18_2 j18_3 j18_4 j18_5⟩ krf (sRK tfm ⟨tq26 (.bsl 1003 3) 3 3 false,hq29 r3 r5 r1 j18_1++hq6 j18_1++hq27 j18_2 j18_3 j18_4 j18_5⟩ krf (sS (sim_condF krf (sim_exit (sq_x (ru_x ?_)))))))
  refine bq_hit ?_
  exact kqK (k:=fun (j6_1,j6_2,j6_3,j6_4,j6_5)=>g_r_item_j6 r1 r3 r5 j6_1 j6_2 j6_3 j6_4 j6_5) (j18_1,j18_2,j18_3,j18_4,j18_5) krf
 refine sB (sRK tfm ⟨tq32 (.func 107) (.bsl 1003 3) 3 2,hq29 r3 r5 r1 (([]++j7_1)++[])++hq10 (([]++j7_1)++[])++hq27 j7_2 (wi (j7_3+1)) j7_4 a0r.dg⟩ krf (sim_hst [0,1,2] [0,1] [(3,[]),(4,[]),(5,[]),(6,[])] tfm rfl krf krf (h_enter (f:=107) (args:=[pZ0]) (dst:=some 29) krf krf (sc_inline (hc:=(hq30 j7_2 (wi (j7_3+1)) j7_4 a0r.dg)) (args':=[pZ0]) [(1000,1000),(1001,1001)] [] [] Tryz.func107 rfl Tryz.ntmps107 rfl krf krf krf (sRK tfm (sq11 j7_2 (wi (j7_3+1)) j7_4 a0r.dg) krf (sRK tfm ⟨tq33,hq31++hq30 j7_2 (wi (j7_3+1)) j7_4 a0r.dg⟩ krf (sim_cps (fun (j19_1,j19_2,j19_3,j19_4,j19_5)=>⟨[(3, .tsl 5 (mI j19_1) 32)],hq38 j19_1++hq30 j19_2 j19_3 j19_4 j19_5⟩:ty1→St) (fun (j19_1,j19_2,j19_3,j19_4,j19_5)=>g_r_item_j19 j7_1 j19_1 j19_2 j19_3 j19_4 j19_5) ?_ ?_)))))))
 ·rintro ⟨j19_1,j19_2,j19_3,j19_4,j19_5⟩
  show SimE (g_r_item_j19 j7_1 j19_1 j19_2 j19_3 j19_4 j19_5) _ _ _ _ _ _
  unfold g_r_item_j19
  refine sRK tfm (sq18 j19_1 j19_2 j19_3 j19_4 j19_5) krf (sT (iq_ret (.sl 5) [1000,1001] [] (.p (.sl 5 (mI j19_1))) krf krf (kh [0,1] krf (lates_cons (late_read (.ptr 11 4) krf rfl) (lates_cons (late_tsl (S:=5) (t:=300) (ty:=24) (es:=mI (([]++j7_1)++[])) krf krf rfl) (lates_nil))) krf (h_if [] rfl krf krf (aop_appL (e:=24) (S:=5) (by_:=64) (enc:=idc) (tk:=300) (l:=([]++j7_1)++[]) (l2:=j19_1) (xv:=.p (.sl 5 (mI j19_1))) rfl krf krf rfl krf krf krf krf) (fun _=>lates_nil) (h_op [] krf krf (lates_nil) (h_op [] krf krf (lates_nil) (h_end ?_)))))))
  refine bq_n ?_
  exact nqK ((([]++j7_1)++[])++j19_1,j19_2,j19_3,j19_4,j19_5) krf
 refine sB (sPK ⟨tq33,hq31++hq30 j7_2 (wi (j7_3+1)) j7_4 a0r.dg⟩ krf (sim_weak (weak_pn 24 5 32 [3] [] krf) (sim_loop (fun (l20_1,l20_2,l20_3,l20_4,l20_5)=>⟨tq40 l20_1,hq39 l20_1++hq30 l20_2 l20_3 l20_4 l20_5⟩:ty1→St) (wsK krf) ?_)))
 rintro recl20 ⟨l20_1,l20_2,l20_3,l20_4,l20_5⟩
 show SimE (g_r_item_l20 n j7_1 recl20 l20_1 l20_2 l20_3 l20_4 l20_5) _ _ _ _ _ _
 unfold g_r_item_l20
 refine sS (sS (sG (xR 1 krf ?_)))
 refine xs_ro [.ro [.id, .id, .id, .sl 2]] krf (g_r_full_ok n (⟨l20_2,l20_3,l20_4,l20_5⟩:GPr)) krf krf kff (fun r21=>?_)
 refine xR 1 krf (xE (sNK ⟨[qq 1,(3, .tsl 5 (mI l20_1) 32),(9,B (!r21))],hq39 l20_1++hq30 l20_2 l20_3 l20_4 l20_5⟩ krf (sC (!r21) krf ?_ ?_)))
 rotate_left
 ·refine sim_exit (sq_x (kq_x (bq_hit ?_)))
  exact kqK (k:=fun (j19_1,j19_2,j19_3,j19_4,j19_5)=>g_r_item_j19 j7_1 j19_1 j19_2 j19_3 j19_4 j19_5) (l20_1,l20_2,l20_3,l20_4,l20_5) krf
 refine sK (sNK ⟨tq40 l20_1,hq39 l20_1++hq30 l20_2 l20_3 l20_4 l20_5⟩ krf (sB (sS (sS (sim_hst [1] [1] [(0,[]),(2,[]),(3,[])] tfm rfl krf krf (h_enter (f:=105) (args:=[S [125]]) (dst:=some 10) krf krf (sc_inline (hc:=[]) (args':=[S [125]]) [(1,401)] [] [] Tryz.func105 rfl Tryz.ntmps105 rfl krf krf krf ?_)))))))
 refine sRK tfm ⟨[qq 1],hq20 [125]⟩ krf (sRK tfm (sq8 [125]) krf (sT (iq_ret (.id) [1] [] (.fn (.func 117) [] [.ptr 1 0]) krf krf (kh [1] krf (lates_cons (late_read pZ0 krf rfl) (lates_nil)) krf (h_enter (f:=114) (args:=[pZ0]) (dst:=some 12) krf krf ?_)))))
 refine sc_ro [.ro [.id, .id, .id, .sl 2]] (g_r_peek_2_ok n (⟨l20_2,l20_3,l20_4,l20_5⟩:GPr)) krf krf kff (fun r22=>?_)
 refine kh [] krf (lates_nil) krf (h_enter (f:=117) (args:=[.agg [I r22.Kind,S r22.Text,I r22.N,I r22.At], .ptr 401 0]) (dst:=some 13) krf krf (sc_inline (hc:=(hq22 [125])) (args':=[.agg [I r22.Kind,S r22.Text,I r22.N,I r22.At],pZ0]) [(1000,401)] [] [] Tryz.func117 rfl Tryz.ntmps117 rfl krf krf krf (sRK tfm (sq9 r22 [125]) krf (sBi (fun j23=>⟨[(3,B j23)],hq22 [125]⟩:Bool→St) ?_ ?_))))
 ·refine sG (xR 4 krf ?_)
  refine xS (eqI r22.Kind 3) (fun h24=>?_) (fun h24=>?_)
  ·refine xO (want_tt krf h24) krf (xR 5 krf (xE ?_))
   exact nqK (eqS r22.Text [125]) krf
  refine xN (want_tf krf h24) krf (xR 5 krf (xE ?_))
  exact nqK false krf
 rintro j23
 refine sT (iq_ret (.id) [1000] [] (B j23) krf krf (kh [] krf (lates_nil) krf (h_end (sNK ⟨[qq 1,(3, .tsl 5 (mI l20_1) 32),(13,B j23)],hq39 l20_1++hq30 l20_2 l20_3 l20_4 l20_5⟩ krf (sC j23 krf ?_ ?_)))))
 ·refine sRK tfm ⟨[(3, .tsl 5 (mI l20_1) 32)],hq38 l20_1++hq30 l20_2 (wi (l20_3+1)) l20_4 l20_5⟩ krf (sRK tfm (sq18 l20_1 l20_2 (wi (l20_3+1)) l20_4 l20_5) krf (sT (sq_r (bq_r (kq_r (bq_r (kq_r ?_)))))))
  refine iq_ret (.sl 5) [1000,1001] [] (.p (.sl 5 (mI l20_1))) krf krf (kh [0,1] krf (lates_cons (late_read (.ptr 11 4) krf rfl) (lates_cons (late_tsl (S:=5) (t:=300) (ty:=24) (es:=mI (([]++j7_1)++[])) krf krf rfl) (lates_nil))) krf (h_if [] rfl krf krf (aop_appL (e:=24) (S:=5) (by_:=64) (enc:=idc) (tk:=300) (l:=([]++j7_1)++[]) (l2:=l20_1) (xv:=.p (.sl 5 (mI l20_1))) rfl krf krf rfl krf krf krf krf) (fun _=>lates_nil) (h_op [] krf krf (lates_nil) (h_op [] krf krf (lates_nil) (h_end (bq_n ?_))))))
  exact nqK ((([]++j7_1)++[])++l20_1,l20_2,wi (l20_3+1),l20_4,l20_5) krf
 refine sK (sNK ⟨tq40 l20_1,hq39 l20_1++hq30 l20_2 l20_3 l20_4 l20_5⟩ krf (sRK tfm ⟨tq41 l20_1,[(1, .box 93 [pZ0]),(4,(bq3 0 [] 0 0)),(32,amI24 l20_1)]++hq30 l20_2 l20_3 l20_4 l20_5⟩ krf (sBi (fun (j25_1,j25_2,j25_3,j25_4,j25_5,j25_6,j25_7,j25_8,j25_9,j25_10,j25_11)=>⟨[qq 1,(3, .tsl 5 (mI l20_1) 32),qq 4,(5,B j25_1),(6,S j25_2)],hq40 ⟨j25_7,j25_8,j25_9,j25_10,j25_11⟩ l20_1++hq30 j25_3 j25_4 j25_5 j25_6⟩:(Bool × (List UInt8) × (List GTk) × Int × Int × (List GDg) × Int × (List UInt8) × Int × Int × (List (List PV)))→St) ?_ ?_)))
 rotate_left
 ·rintro ⟨j25_1,j25_2,j25_3,j25_4,j25_5,j25_6,j25_7,j25_8,j25_9,j25_10,j25_11⟩
  refine sRK tfm ⟨[qq 1,(3, .tsl 5 (mI l20_1) 32),qq 4,(6,S j25_2),(28,B j25_1)],hq40 ⟨j25_7,j25_8,j25_9,j25_10,j25_11⟩ l20_1++hq30 j25_3 j25_4 j25_5 j25_6⟩ krf (sC j25_1 krf ?_ ?_)
  ·refine sG (xR 3 krf (xF krf krf (aop_app (e:=24) (S:=5) (by_:=64) (enc:=idc) (tk:=32) (l:=l20_1) (l2:=[GN.cs (⟨j25_7,j25_8,j25_9,j25_10,j25_11⟩:GN)]) (xv:=.tsl 5 (mI [GN.cs (⟨j25_7,j25_8,j25_9,j25_10,j25_11⟩:GN)]) 31) rfl krf krf rfl krf krf krf rfl krf) (xR 1 krf (xE (bq_n ?_)))))
   exact kqK (l20_1++[GN.cs (⟨j25_7,j25_8,j25_9,j25_10,j25_11⟩:GN)],j25_3,j25_4,j25_5,j25_6) krf
  refine sRK tfm ⟨[qq 1,(3, .tsl 5 (mI l20_1) 32),(34,B (!eqS j25_2 [59]))],hq39 l20_1++hq30 j25_3 j25_4 j25_5 j25_6⟩ krf (sC (!eqS j25_2 [59]) krf ?_ ?_)
  ·refine sRK tfm (sq18 l20_1 j25_3 j25_4 j25_5 j25_6) krf (sT (bq_r (kq_r (bq_r (kq_r (iq_ret (.sl 5) [1000,1001] [] (.p (.sl 5 (mI l20_1))) krf krf (kh [0,1] krf (lates_cons (late_read (.ptr 11 4) krf rfl) (lates_cons (late_tsl (S:=5) (t:=300) (ty:=24) (es:=mI (([]++j7_1)++[])) krf krf rfl) (lates_nil))) krf ?_)))))))
   refine h_if [] rfl krf krf (aop_appL (e:=24) (S:=5) (by_:=64) (enc:=idc) (tk:=300) (l:=([]++j7_1)++[]) (l2:=l20_1) (xv:=.p (.sl 5 (mI l20_1))) rfl krf krf rfl krf krf krf krf) (fun _=>lates_nil) (h_op [] krf krf (lates_nil) (h_op [] krf krf (lates_nil) (h_end (bq_n ?_))))
   exact nqK ((([]++j7_1)++[])++l20_1,j25_3,j25_4,j25_5,j25_6) krf
  refine sK (bq_n ?_)
  exact kqK (l20_1,j25_3,j25_4,j25_5,j25_6) krf
 refine sG (xR 2 krf (xs_enter (f:=73) (args:=[pZ0, .fn (.func 120) [] [.ptr 1 0, .ptr 4 0]]) krf krf krf ?_))
 refine sc_inlineD (hc:=(hq41 l20_2 l20_3 l20_4 l20_5)) (args':=[pZ0, .fn (.func 120) [] [pZ2,pZ3]]) [(1002,1),(1003,4),(1000,1000),(1001,1001)] [] [] (⟨_,_,_,_,_,_,[2,4,5],6,_,rfl,rfl,rfl,rfl,rfl,rfl,rfl,rfl,by decide⟩:Deferrer2 Tryz.f73 97) [(2,1900),(4,1901),(5,1902)] Tryz.func73 Tryz.ntmps73 krf krf krf krf krf tfm rfl krf krf ?_
 refine sPK ⟨tq42 (.func 120),hq41 l20_2 l20_3 l20_4 l20_5++hq42 false⟩ krf (sS (sG (xR 1 krf (xIn (hq41 l20_2 l20_3 l20_4 l20_5) [pZ2,pZ3] nq4 [] [] krf Tryz.func120 rfl Tryz.ntmps120 rfl krf krf krf (sG (xR 1 krf (xs_enter (f:=121) (args:=[pZ0]) krf krf krf ?_)))))))
 refine sc_hold 1000 3 1001 65 2 (mDg l20_5).length (mDg l20_5) ⟨[0,1,2],[1000,1002,1003],[],[]⟩ krf krf rfl (fun _ _ _=>by kernel_rfl) (fun hu26w hu26l hu26c=>?_)
 refine sc_heapE [(1000,1000)] [] [] (g_r_article_ok n (⟨l20_2,l20_3,l20_4,[]⟩:GPr) hu26w hu26l hu26c) krf krf krf kff kff kff kff (fun r26=>?_) (fun e27=>?_)
 ·refine k_hold _ rfl krf krf (kr0 (xR 1 krf (xE (iq_n (.id) [1000,1001,1002,1003] [] (.tup []) krf krf (kr0 (xE (sNK ⟨[(4, .ptr 1901 0),(5, .ptr 1902 0)],hq43 r26.2.tks r26.2.pos r26.2.length l20_5 r26.1++hq42 false⟩ krf ?_)))))))
  refine sRK tfm ⟨[(4, .ptr 1901 0),(5, .ptr 1902 0)],hq43 r26.2.tks r26.2.pos r26.2.length l20_5 r26.1++hq42 true⟩ krf (sT ?_)
  refine dI_end (⟨Tryz.f97,_,_,_,6,3,_,_,Tryz.func97,rfl,rfl,rfl,rfl,rfl,rfl,rfl,by decide,by decide⟩:Recoverer Tryz.prog 97) nq5 (hq30 r26.2.tks r26.2.pos r26.2.length l20_5++hq44 true) (.p (.val (.nilIface))) [pZ2,pZ3, .ptr 1004 0] [] rfl krf krf krf krf ?_
  refine sS (sRK tfm ⟨tq43,hq30 r26.2.tks r26.2.pos r26.2.length l20_5++hq44 true⟩ krf (sim_condT krf (sT (sq_r (cl_ret [1000,1001,1002,1003,1004] [] krf krf (iq_ret (.id) [1000,1001,1002,1003] [] (.tup [B true,S []]) krf krf (kr0 ?_)))))))
  refine xR 5 krf (xE ?_)
  exact nqK (true,[],r26.2.tks,r26.2.pos,r26.2.length,l20_5,r26.1.Kind,r26.1.Name,r26.1.N,r26.1.At,r26.1.Kids) krf
 refine q_hold _ rfl krf krf (iq_p [1000,1001,1002,1003] [] krf (sq_p ?_))
 refine dI_end (⟨Tryz.f97,_,_,_,6,3,_,_,Tryz.func97,rfl,rfl,rfl,rfl,rfl,rfl,rfl,by decide,by decide⟩:Recoverer Tryz.prog 97) nq5 (hq30 e27.2.tks e27.2.pos e27.2.length l20_5++hq44 false) (.ifc 149 (.agg [I e27.1])) [pZ2,pZ3, .ptr 1004 0] [] rfl krf krf krf krf ?_
 refine sS (sRK tfm ⟨tq44 e27.1,hq30 e27.2.tks e27.2.pos e27.2.length l20_5++hq44 false⟩ krf (sim_condF krf (sK (sNK ⟨tq45 e27.1,hq30 e27.2.tks e27.2.pos e27.2.length l20_5++hq44 false⟩ krf (sRK tfm ⟨tq46 e27.1,hq45 e27.1++hq30 e27.2.tks e27.2.pos e27.2.length l20_5++hq44 false⟩ krf (sS (sRK tfm ⟨tq47 e27.1,hq45 e27.1++hq30 e27.2.tks e27.2.pos e27.2.length l20_5++hq44 false⟩ krf ?_)))))))
 refine sim_condF krf (sK (sNK ⟨tq48,hq45 e27.1++hq30 e27.2.tks e27.2.pos e27.2.length l20_5++hq44 false⟩ krf (sS (sDr tfm rfl (xR 9 krf (xF krf krf (aop_app (e:=65) (S:=2) (by_:=16) (enc:=GDg.cs) (tk:=1001) (l:=l20_5) (l2:=[(⟨7,e27.1⟩:GDg)]) (xv:=.tsl 2 (mDg [(⟨7,e27.1⟩:GDg)]) 25) rfl krf krf rfl krf krf krf rfl krf) (xR 3 krf ?_)))))))
 refine xED krf (sNK ⟨tq49,hq30 e27.2.tks e27.2.pos e27.2.length (l20_5++[(⟨7,e27.1⟩:GDg)])++hq44 false⟩ krf (sG (xR 1 krf (xs_enter (f:=98) (args:=[pZ0]) krf krf krf ?_))))
 refine sc_hold 1000 3 1001 65 2 (mDg (l20_5++[(⟨7,e27.1⟩:GDg)])).length (mDg (l20_5++[(⟨7,e27.1⟩:GDg)])) ⟨[0,1,2,29],[1000,1002,1003,1004],[],[]⟩ krf krf rfl (fun _ _ _=>by kernel_rfl) (fun hu28w hu28l hu28c=>?_)
 refine sc_heap [(1000,1000)] [] [] (g_r_skip_ok n (⟨e27.2.tks,e27.2.pos,e27.2.length,[]⟩:GPr) hu28w hu28l hu28c) krf krf krf kff kff (fun r28=>?_)
 refine k_hold _ rfl krf krf (kr0 (xR 2 krf (xE (cl_n [1000,1001,1002,1003,1004] [] krf krf (iq_ret (.id) [1000,1001,1002,1003] [] (.tup [B false,S r28.1]) krf krf (kr0 (xR 5 krf ?_)))))))
 refine xE ?_
 exact nq_n (false,r28.1,r28.2.tks,r28.2.pos,r28.2.length,l20_5++[(⟨7,e27.1⟩:GDg)],0,[],0,0,[]) ⟨[1,3,4,5,6],[1,4,32,1000,1001],[],[(4,[.id, .id, .id, .id, .sl 5])]⟩ krf
def g_p_count_l1 (a0n:GN) (a1limit:Int) (rf_parser_count:GN→Int→Option Int) (recl1:(Int × Int)→Option Int) (l1_1:Int) (l1_2:Int):Option Int :=
 cond (ltI l1_2 (lenI (List.map idc a0n.Kids)))
  ((Option.bind (getI a0n.Kids l1_2) GN.of).bind fun x2 =>
  cond (ltI a1limit l1_1)
   (some l1_1)
   ((rf_parser_count x2 (wi (a1limit - l1_1))).bind fun r3 =>
   recl1 (wi (l1_1+r3),wi (l1_2+1))))
  (some l1_1)
def g_p_count_body (n:Nat) (rf_parser_count:GN→Int→Option Int) (a0n:GN) (a1limit:Int):Option Int :=
 loopN (fun recl1 (l1_1,l1_2)=>g_p_count_l1 a0n a1limit rf_parser_count recl1 l1_1 l1_2) n (1,0)
def g_p_count:Nat→GN→Int→Option Int
 | 0,_,_=>none
 | n+1,a0n,a1limit=>g_p_count_body n (g_p_count n) a0n a1limit
def hq47:=fun x0=>([(2, .box 24 (bxc (GN.cs x0)))]:List (Nat × Blk))
def sq20:=fun x0 x1=>(⟨[(1,I x0),(2, .ptr 2 0)],hq47 x1⟩:St)
def tq50:=fun x0 x1=>([(1,I x0),(2, .ptr 2 0),(5,I x1)]:List (Nat × AV))
def tq51:=fun x0 x1 x2 x3=>([(1,I x0),(5,I x1),(9, .p (.sl 5 (List.map idc (GN.Kids x2)))),(10,I (lenI (List.map idc (GN.Kids x2)))),(11,I x3)]:List (Nat × AV))
def tq52:=fun x0 x1 x2 x3=>([(1,I x0),(5,I x1),(7, .ptr 7 0),(9, .p (.sl 5 (List.map idc (GN.Kids x2)))),(10,I (lenI (List.map idc (GN.Kids x2)))),(11,I x3)]:List (Nat × AV))
def hq48:=fun x0=>([(7, .box 24 (bxc (GN.cs x0)))]:List (Nat × Blk))
theorem g_p_count_ok (n:Nat) (a0n:GN) (a1limit:Int):∀ r,g_p_count n a0n a1limit=some r→PCall Tryz.prog 41 [ag (GN.cs a0n),I a1limit] (.ret (I r)):=by
 induction n generalizing a0n a1limit with
 | zero=>intro r hr; cases (show (none:Option Int)=some r from hr)
 | succ n ih =>
 show ∀ r,g_p_count_body n (g_p_count n) a0n a1limit=some r→_
 generalize g_p_count n=rf_parser_count at ih ⊢
 refine pcall_sim (X:=fun r:Int=>AEnd.ret (I r)) Tryz.func41 rfl Tryz.ntmps41 rfl ?_
 unfold g_p_count_body
 refine sRK tfm (sq20 a1limit a0n) krf (sRK tfm ⟨tq50 a1limit 1,hq47 a0n⟩ krf (sS (sRK tfm ⟨tq51 a1limit 1 a0n 0,[]⟩ krf (sB (sim_loop (fun (l1_1,l1_2)=>⟨tq51 a1limit l1_1 a0n l1_2,[]⟩:(Int × Int)→St) (wsK krf) ?_)))))
 rintro recl1 ⟨l1_1,l1_2⟩
 show SimE (g_p_count_l1 a0n a1limit rf_parser_count recl1 l1_1 l1_2) _ _ _ _ _ _
 unfold g_p_count_l1
 refine sRK tfm ⟨[(1,I a1limit),(5,I l1_1),(9, .p (.sl 5 (mI a0n.Kids))),(10,I (lenI (mI a0n.Kids))),(11,I l1_2),(12,B (ltI l1_2 (lenI (mI a0n.Kids))))],[]⟩ krf (sS (sC (ltI l1_2 (lenI (mI a0n.Kids))) krf ?_ ?_))
 rotate_left
 ·refine sim_exit (sq_x (kq_x (bq_hit (sNK ⟨[(5,I l1_1)],[]⟩ krf (sRK tfm ⟨[(4,I l1_1)],[]⟩ krf (sT ?_))))))
  exact qR (.id) krf krf krf
 refine sK (sNK ⟨tq51 a1limit l1_1 a0n l1_2,[]⟩ krf (sS (sB (sS (sG ?_)))))
 refine xG krf krf (aop_idxR (e:=24) (S:=5) (enc:=GN.cs) (dec:=GN.of) (l:=a0n.Kids) (k:=.i64) (n:=l1_2) (sv:=.p (.sl 5 (mI a0n.Kids))) GN.of_cs rfl krf krf krf krf krf) (fun x2=>?_)
 refine xR 3 krf (xE (sNK ⟨tq52 a1limit l1_1 a0n l1_2,hq48 x2⟩ krf (sS (sRK tfm ⟨[(1,I a1limit),(5,I l1_1),qq 7,(9, .p (.sl 5 (mI a0n.Kids))),(10,I (lenI (mI a0n.Kids))),(11,I l1_2),(17,B (ltI a1limit l1_1))],hq48 x2⟩ krf (sC (ltI a1limit l1_1) krf ?_ ?_)))))
 ·refine sRK tfm ⟨[(4,I l1_1)],[]⟩ krf (sT (sq_r (bq_r (sq_r (kq_r (bq_r (sq_r ?_)))))))
  exact qR (.id) krf krf krf
 refine sK (sNK ⟨tq52 a1limit l1_1 a0n l1_2,hq48 x2⟩ krf (sG (xR 5 krf ?_)))
 refine xC [] krf (ih x2 (wi (a1limit - l1_1))) krf krf kff (fun r3=>?_)
 refine xR 2 krf (xE (bq_n (sNK ⟨tq51 a1limit (wi (l1_1+r3)) a0n l1_2,[]⟩ krf (sL tfm krf ?_))))
 exact kqK (wi (l1_1+r3),wi (l1_2+1)) krf
def g_p_Parse_l4 (n:Nat) (recl4:ty1→Option ty1) (l4_1:List (List PV)) (l4_2:List GTk) (l4_3:Int) (l4_4:Int) (l4_5:List GDg):Option ty1 :=
 (cond (ltI l4_3 (lenI (List.map GTk.cs l4_2)))
  ((g_r_full n (⟨l4_2,l4_3,l4_4,l4_5⟩:GPr)).bind fun r7 =>
  some (!r7))
  (some false)).bind fun j5 =>
 cond j5
  (((g_r_item n (⟨l4_2,l4_3,l4_4,l4_5⟩:GPr)).bind (exc (fun r9 =>
   some (true,r9.2.tks,r9.2.pos,r9.2.length,r9.2.dg,r9.1.Kind,r9.1.Name,r9.1.N,r9.1.At,r9.1.Kids)) fun e10=>cond (roomB (List.length (e10.2.dg++[(⟨7,e10.1⟩:GDg)])) 16) (
   (g_r_skip n (⟨e10.2.tks,e10.2.pos,e10.2.length,[]⟩:GPr)).bind fun r11 =>
   some (false,r11.2.tks,r11.2.pos,r11.2.length,e10.2.dg++[(⟨7,e10.1⟩:GDg)],0,[],0,0,[])) none)).bind fun (j8_1,j8_2,j8_3,j8_4,j8_5,j8_6,j8_7,j8_8,j8_9,j8_10) =>
  cond j8_1
   (cond (roomB (List.length (l4_1++[GN.cs (⟨j8_6,j8_7,j8_8,j8_9,j8_10⟩:GN)])) 64) (
    recl4 (l4_1++[GN.cs (⟨j8_6,j8_7,j8_8,j8_9,j8_10⟩:GN)],j8_2,j8_3,j8_4,j8_5)) none)
   (recl4 (l4_1,j8_2,j8_3,j8_4,j8_5)))
  (some (l4_1,l4_2,l4_3,l4_4,l4_5))
def g_p_Parse (n:Nat) (a0z:List UInt8):Option (GN × (List GDg)) :=
 (g_x_Lex n a0z).bind fun r1 =>
 cond (!eqI r1.2.1 0)
  (some ((⟨0,[],0,0,[]⟩:GN),[(⟨r1.2.1,r1.2.2⟩:GDg)]))
  (((loopN (fun recl4 (l4_1,l4_2,l4_3,l4_4,l4_5)=>g_p_Parse_l4 n recl4 l4_1 l4_2 l4_3 l4_4 l4_5) n ([],r1.1,0,lenI a0z,[])).bind fun (j3_1,j3_2,j3_3,j3_4,j3_5) =>
  cond (roomB (List.length ([]++j3_1)) 64) (
   some ([]++j3_1,j3_2,j3_3,j3_4,j3_5)) none).bind fun (j2_1,j2_2,j2_3,j2_4,j2_5) =>
  cond (ltI 0 (lenI (List.map GDg.cs j2_5)))
   (some ((⟨0,[],0,0,[]⟩:GN),j2_5))
   ((g_p_count n (⟨1,[],0,0,j2_1⟩:GN) 1500).bind fun r12 =>
   cond (ltI 1500 r12)
    (some ((⟨0,[],0,0,[]⟩:GN),[(⟨2,0⟩:GDg)]))
    (some ((⟨1,[],0,0,j2_1⟩:GN),[]))))
def bq19:=fun x0=>(.arr 65 2 (List.map GDg.cs [x0]).length:Blk)
def bq20:=fun x0 x1=>(.box 95 [.p (.sl 4 (List.map GTk.cs x0)),I 0,I (x1), .p (.val (.slice none 0 0))]:Blk)
def bq21:Blk:=.box 99 [.fn (.func 40) [.ptr 1000 0] []]
def hq49:=fun x0 x1=>([(1000,(bq20 x0 (x1))),(1001,bq21)]:List (Nat × Blk))
def bq22:=fun x0 x1 x2 x3=>(.box 95 [.p (.sl 4 (List.map GTk.cs x0)),I x1,I x2, .tsl 2 (List.map GDg.cs x3) 700]:Blk)
def hq50:=fun x0 x1 x2 x3=>([(1000,(bq22 x0 x1 x2 x3)),(1001,bq21)]:List (Nat × Blk))
def hq51:=fun x0 x1=>([(32, .arr 24 5 (List.map idc x0).length),(700,(bq11 x1))]:List (Nat × Blk))
def hq52:=fun x0 x1 x2 x3=>([(1000,(bq22 x0 x1 x2 x3))]:List (Nat × Blk))
def hq53:=fun x0 x1=>([(1, .box 93 [.ptr 1000 0]),(32, .arr 24 5 (List.map idc x0).length),(700,(bq11 x1))]:List (Nat × Blk))
def hq54:=fun x0 x1 x2=>([(1, .box 93 [.ptr 1000 0]),(4,(bq9 x0)),(32, .arr 24 5 (List.map idc x1).length),(700,(bq11 x2))]:List (Nat × Blk))
def bq23:=fun x0 x1 x2 x3=>(.box 95 [.p (.sl 4 (List.map GTk.cs x0)),I x1,I x2, .tsl 2 (List.map GDg.cs x3) 1000]:Blk)
def hq55:=fun x0 x1 x2 x3=>([(1000,(bq11 x0)),(1001,(bq23 x1 x2 x3 x0)),(1002, .box 93 [.ptr 1001 0]),(1003,(bq3 0 [] 0 0))]:List (Nat × Blk))
def hq56:=fun x0=>([(1900, .box 93 [.ptr 1001 0]),(1901, .box 4 [B x0]),(1902, .box 9 [S []])]:List (Nat × Blk))
def hq57:=fun x0 x1 x2 x3 x4=>([(1000,(bq11 x0)),(1001,(bq23 x1 x2 x3 x0)),(1002, .box 93 [.ptr 1001 0]),(1003, .box 24 (bxc (GN.cs x4)))]:List (Nat × Blk))
def hq58:=fun x0 x1 x2 x3=>([(1000,(bq11 x0)),(1001,(bq23 x1 x2 x3 x0))]:List (Nat × Blk))
def hq59:=fun x0=>([(1002, .box 93 [.ptr 1001 0]),(1003, .box 4 [B x0]),(1004, .box 9 [S []])]:List (Nat × Blk))
theorem g_p_Parse_ok (n:Nat) (a0z:List UInt8):∀ r,g_p_Parse n a0z=some r→PCall Tryz.prog 21 [S a0z] (.ret (.tup [ag (GN.cs r.1), .p (.sl 2 (mDg r.2))])):=by
 refine pcall_sim (X:=fun r:GN × (List GDg)=>AEnd.ret (.tup [ag (GN.cs r.1), .p (.sl 2 (mDg r.2))])) Tryz.func21 rfl Tryz.ntmps21 rfl ?_
 unfold g_p_Parse
 refine sRK tfm ⟨[(0,S a0z),qq 2],[(2,(bq3 0 [] 0 0))]⟩ krf (sS (sG (xR 1 krf ?_)))
 refine xC [] krf (g_x_Lex_ok n a0z) krf krf kff (fun r1=>?_)
 refine xR 7 krf (xE (sNK ⟨[(0,S a0z),qq 2,(4, .p (.sl 4 (mTk r1.1))),(5,I r1.2.1),(6,I r1.2.2)],[(2,(bq3 0 [] 0 0))]⟩ krf (sS (sRK tfm ⟨[(0,S a0z),qq 2,(4, .p (.sl 4 (mTk r1.1))),(5,I r1.2.1),(6,I r1.2.2),(16,B (!eqI r1.2.1 0))],[(2,(bq3 0 [] 0 0))]⟩ krf (sC (!eqI r1.2.1 0) krf ?_ ?_)))))
 ·refine sRK tfm ⟨[qq 2,(3, .tsl 2 (mDg [(⟨r1.2.1,r1.2.2⟩:GDg)]) 21)],[(2,(bq3 0 [] 0 0)),(21,(bq19 (⟨r1.2.1,r1.2.2⟩:GDg)))]⟩ krf (sT (sq_r ?_))
  exact qR (.agg [.agg [.id, .id, .id, .id, .sl 5], .sl 2]) krf krf krf
 refine sK (sNK ⟨[(0,S a0z),qq 2,(4, .p (.sl 4 (mTk r1.1)))],[(2,(bq3 0 [] 0 0))]⟩ krf (sRK tfm ⟨[qq 2,(7, .ptr 26 0)],[(2,(bq3 0 [] 0 0)),(26,(bq20 r1.1 (lenI a0z)))]⟩ krf (sS (sG (xR 4 krf (xIn (hq49 r1.1 (lenI a0z)) [.agg [I 0,S [],I 0,I 0],I 1,S [],I 0, .bsl 1001 1] [(1000,26),(1001,30),(700,700)] [] [] krf Tryz.func39 rfl Tryz.ntmps39 rfl krf krf krf (sRK tfm ⟨tq37 1 [] (.bsl 1001 1),[(5, .box 98 [I 0,S [],I 0,I 0]),(10,(bq3 0 [] 0 0))]++hq49 r1.1 (lenI a0z)⟩ krf ?_)))))))
 refine sRK tfm ⟨tq24 (.bsl 1001 1),hq9 1 [] 0 0++hq49 r1.1 (lenI a0z)⟩ krf (sBi (fun (j2_1,j2_2,j2_3,j2_4,j2_5)=>⟨[qq 10,qq 11],hq35 1 [] 0 j2_1++hq6 j2_1++[(700,(bq11 j2_5))]++hq50 j2_2 j2_3 j2_4 j2_5⟩:ty1→St) ?_ ?_)
 rotate_left
 ·rintro ⟨j2_1,j2_2,j2_3,j2_4,j2_5⟩
  refine sRK tfm ⟨[qq 10],[(10,(bq17 1 [] 0 j2_1))]++hq6 j2_1++[(700,(bq11 j2_5))]++hq50 j2_2 j2_3 j2_4 j2_5⟩ krf (sT (iq_ret (.agg [.id, .id, .id, .id, .sl 5]) [700,1000,1001] [] (.agg [I 1,S [],I 0,I 0, .p (.sl 5 (mI j2_1))]) krf krf (kr0 (xR 2 krf (xE (sNK ⟨[qq 2,(7, .ptr 26 0),qq 8],[(2,(bq3 0 [] 0 0)),(8,(bq9 ⟨1,[],0,0,j2_1⟩)),(26,(bq22 j2_2 j2_3 j2_4 j2_5)),(700,(bq11 j2_5))]⟩ krf (sS ?_)))))))
  refine sRK tfm ⟨[qq 2,(7, .ptr 26 0),qq 8,(37,B (ltI 0 (lenI (mDg j2_5))))],[(2,(bq3 0 [] 0 0)),(8,(bq9 ⟨1,[],0,0,j2_1⟩)),(26,(bq22 j2_2 j2_3 j2_4 j2_5)),(700,(bq11 j2_5))]⟩ krf (sC (ltI 0 (lenI (mDg j2_5))) krf ?_ ?_)
  ·refine sRK tfm ⟨[qq 2,(3, .tsl 2 (mDg j2_5) 700)],[(2,(bq3 0 [] 0 0)),(700,(bq11 j2_5))]⟩ krf (sT (sq_r ?_))
   exact qR (.agg [.agg [.id, .id, .id, .id, .sl 5], .sl 2]) krf krf krf
  refine sK (sNK ⟨[qq 2,qq 8],[(2,(bq3 0 [] 0 0)),(8,(bq9 ⟨1,[],0,0,j2_1⟩))]⟩ krf (sS (sS (sG (xR 1 krf ?_)))))
  refine xC [] krf (g_p_count_ok n (⟨1,[],0,0,j2_1⟩:GN) 1500) krf krf kff (fun r12=>?_)
  refine xR 1 krf (xE (sNK ⟨[qq 2,qq 8,(45,B (ltI 1500 r12))],[(2,(bq3 0 [] 0 0)),(8,(bq9 ⟨1,[],0,0,j2_1⟩))]⟩ krf (sC (ltI 1500 r12) krf ?_ ?_)))
  ·refine sRK tfm ⟨[qq 2,(3, .tsl 2 (mDg [(⟨2,0⟩:GDg)]) 48)],[(2,(bq3 0 [] 0 0)),(48,(bq19 (⟨2,0⟩:GDg)))]⟩ krf (sT (sq_r ?_))
   exact qR (.agg [.agg [.id, .id, .id, .id, .sl 5], .sl 2]) krf krf krf
  refine sK (sNK ⟨[qq 2,qq 8],[(2,(bq3 0 [] 0 0)),(8,(bq9 ⟨1,[],0,0,j2_1⟩))]⟩ krf (sRK tfm ⟨[qq 2,(3,zS)],[(2,(bq9 ⟨1,[],0,0,j2_1⟩))]⟩ krf (sT ?_)))
  exact qR (.agg [.id, .sl 2]) krf krf krf
 refine sRK tfm ⟨tq25 (.bsl 1001 1) 1 0,hq9 1 [] 0 0++hq49 r1.1 (lenI a0z)⟩ krf (sB (sim_unroll 1 (sRK tfm ⟨tq26 (.bsl 1001 1) 1 0 true,hq9 1 [] 0 0++hq49 r1.1 (lenI a0z)⟩ krf (sS (sim_condT krf (sK (sNK ⟨tq25 (.bsl 1001 1) 1 0,hq9 1 [] 0 0++hq49 r1.1 (lenI a0z)⟩ krf ?_)))))))
 refine sS (sB (sRK tfm ⟨tq32 (.func 40) (.bsl 1001 1) 1 0,hq9 1 [] 0 0++hq49 r1.1 (lenI a0z)⟩ krf (sPK ⟨tq32 (.func 40) (.bsl 1001 1) 1 0,hq9 1 [] 0 0++hq49 r1.1 (lenI a0z)⟩ krf (sim_weak (weak_pn 24 5 300 [] [(11,4)] krf) (sim_hst [0,1,2] [0,1] [(3,[]),(4,[]),(5,[]),(6,[])] tfm rfl krf krf (h_enter (f:=40) (args:=[pZ0]) (dst:=some 29) krf krf (sc_inline (hc:=[(1000,(bq20 r1.1 (lenI a0z)))]) (args':=[pZ0]) [(1000,1000),(700,700)] [] [] Tryz.func40 rfl Tryz.ntmps40 rfl krf krf krf ?_)))))))
 refine sRK tfm ⟨[qq 1],hq31++[(1000,(bq20 r1.1 (lenI a0z)))]⟩ krf (sRK tfm ⟨tq33,hq31++[(1000,(bq20 r1.1 (lenI a0z)))]⟩ krf (sBi (fun (j3_1,j3_2,j3_3,j3_4,j3_5)=>⟨[(3, .tsl 5 (mI j3_1) 32)],hq51 j3_1 j3_5++hq52 j3_2 j3_3 j3_4 j3_5⟩:ty1→St) ?_ ?_))
 rotate_left
 ·rintro ⟨j3_1,j3_2,j3_3,j3_4,j3_5⟩
  refine sRK tfm ⟨[(2, .tsl 5 (mI j3_1) 32)],hq51 j3_1 j3_5++hq52 j3_2 j3_3 j3_4 j3_5⟩ krf (sT (iq_ret (.sl 5) [700,1000] [] (.p (.sl 5 (mI j3_1))) krf krf (kh [0,1] krf (lates_cons (late_read (.ptr 11 4) krf rfl) (lates_cons (late_tsl (S:=5) (t:=300) (ty:=24) (es:=mI []) krf krf rfl) (lates_nil))) krf (h_if [] rfl krf krf (aop_appL (e:=24) (S:=5) (by_:=64) (enc:=idc) (tk:=300) (l:=[]) (l2:=j3_1) (xv:=.p (.sl 5 (mI j3_1))) rfl krf krf rfl krf krf krf krf) (fun _=>lates_nil) (h_op [] krf krf (lates_nil) (h_op [] krf krf (lates_nil) (h_end ?_)))))))
  refine bq_n (sNK ⟨tq25 (.bsl 1001 1) 1 0,hq35 1 [] 0 ([]++j3_1)++hq10 ([]++j3_1)++[(700,(bq11 j3_5))]++hq50 j3_2 j3_3 j3_4 j3_5⟩ krf (sL tfm krf (ru_n ⟨[10,11,20,21,22],[10,11,300,700,1000,1001],[],[]⟩ ⟨tq25 (.bsl 1001 1) 1 1,hq35 1 [] 0 ([]++j3_1)++hq10 ([]++j3_1)++[(700,(bq11 j3_5))]++hq50 j3_2 j3_3 j3_4 j3_5⟩ krf (sRK tfm ⟨tq26 (.bsl 1001 1) 1 1 false,hq35 1 [] 0 ([]++j3_1)++hq10 ([]++j3_1)++[(700,(bq11 j3_5))]++hq50 j3_2 j3_3 j3_4 j3_5⟩ krf (sS (sim_condF krf (sim_exit ?_)))))))
  refine sq_x (ru_x (bq_hit ?_))
  exact nqK ([]++j3_1,j3_2,j3_3,j3_4,j3_5) krf
 refine sB (sPK ⟨tq33,hq31++[(1000,(bq20 r1.1 (lenI a0z)))]⟩ krf (sim_weak (Weak.trans (weak_pn 24 5 32 [3] [] krf) (weak_pn 65 2 700 [] [(1000,3)] krf)) (sim_loop (fun (l4_1,l4_2,l4_3,l4_4,l4_5)=>⟨tq40 l4_1,hq53 l4_1 l4_5++hq52 l4_2 l4_3 l4_4 l4_5⟩:ty1→St) (wsK krf) ?_)))
 rintro recl4 ⟨l4_1,l4_2,l4_3,l4_4,l4_5⟩
 show SimE (g_p_Parse_l4 n recl4 l4_1 l4_2 l4_3 l4_4 l4_5) _ _ _ _ _ _
 unfold g_p_Parse_l4
 refine sS (sBi (fun j5=>⟨[qq 1,(3, .tsl 5 (mI l4_1) 32),(21,B j5)],hq53 l4_1 l4_5++hq52 l4_2 l4_3 l4_4 l4_5⟩:Bool→St) ?_ ?_)
 ·refine sDr tfm rfl (xR 11 krf ?_)
  refine xS (ltI l4_3 (lenI (mTk l4_2))) (fun h6=>?_) (fun h6=>?_)
  ·refine xO (want_tt krf h6) krf (xs_seqL rfl krf krf ?_)
   refine xs_ro [.ro [.id, .id, .id, .sl 2]] krf (g_r_full_ok n (⟨l4_2,l4_3,l4_4,l4_5⟩:GPr)) krf krf kff (fun r7=>?_)
   refine xR 2 krf (xE ?_)
   exact nqK (!r7) krf
  refine xN (want_tf krf h6) krf (xR 3 krf (xED krf ?_))
  exact nqK false krf
 rintro j5
 refine sC j5 krf ?_ ?_
 rotate_left
 ·refine sim_exit (sq_x (kq_x (bq_hit ?_)))
  exact nqK (l4_1,l4_2,l4_3,l4_4,l4_5) krf
 refine sK (sNK ⟨tq40 l4_1,hq53 l4_1 l4_5++hq52 l4_2 l4_3 l4_4 l4_5⟩ krf (sB (sRK tfm ⟨tq41 l4_1,[(1, .box 93 [pZ0]),(4,(bq3 0 [] 0 0)),(32,amI24 l4_1),(700,(bq11 l4_5))]++hq52 l4_2 l4_3 l4_4 l4_5⟩ krf (sBi (fun (j8_1,j8_2,j8_3,j8_4,j8_5,j8_6,j8_7,j8_8,j8_9,j8_10)=>⟨[qq 1,(3, .tsl 5 (mI l4_1) 32),qq 4,(5,B j8_1)],hq54 ⟨j8_6,j8_7,j8_8,j8_9,j8_10⟩ l4_1 j8_5++hq52 j8_2 j8_3 j8_4 j8_5⟩:(Bool × (List GTk) × Int × Int × (List GDg) × Int × (List UInt8) × Int × Int × (List (List PV)))→St) ?_ ?_))))
 rotate_left
 ·rintro ⟨j8_1,j8_2,j8_3,j8_4,j8_5,j8_6,j8_7,j8_8,j8_9,j8_10⟩
  refine sRK tfm ⟨[qq 1,(3, .tsl 5 (mI l4_1) 32),qq 4,(28,B j8_1)],hq54 ⟨j8_6,j8_7,j8_8,j8_9,j8_10⟩ l4_1 j8_5++hq52 j8_2 j8_3 j8_4 j8_5⟩ krf (sC j8_1 krf ?_ ?_)
  ·refine sG (xR 3 krf (xF krf krf (aop_app (e:=24) (S:=5) (by_:=64) (enc:=idc) (tk:=32) (l:=l4_1) (l2:=[GN.cs (⟨j8_6,j8_7,j8_8,j8_9,j8_10⟩:GN)]) (xv:=.tsl 5 (mI [GN.cs (⟨j8_6,j8_7,j8_8,j8_9,j8_10⟩:GN)]) 31) rfl krf krf rfl krf krf krf rfl krf) (xR 1 krf (xE (bq_n ?_)))))
   exact kqK (l4_1++[GN.cs (⟨j8_6,j8_7,j8_8,j8_9,j8_10⟩:GN)],j8_2,j8_3,j8_4,j8_5) krf
  refine sK (bq_n ?_)
  exact kqK (l4_1,j8_2,j8_3,j8_4,j8_5) krf
 refine sG (xR 2 krf (xs_enter (f:=73) (args:=[pZ0, .fn (.func 74) [] [.ptr 1 0, .ptr 4 0]]) krf krf krf ?_))
 refine sc_inlineD (hc:=(hq55 l4_5 l4_2 l4_3 l4_4)) (args':=[pZ1, .fn (.func 74) [] [pZ2,pZ3]]) [(1002,1),(1003,4),(1000,700),(1001,1000)] [] [] (⟨_,_,_,_,_,_,[2,4,5],6,_,rfl,rfl,rfl,rfl,rfl,rfl,rfl,rfl,by decide⟩:Deferrer2 Tryz.f73 97) [(2,1900),(4,1901),(5,1902)] Tryz.func73 Tryz.ntmps73 krf krf krf krf krf tfm rfl krf krf ?_
 refine sPK ⟨tq42 (.func 74),hq55 l4_5 l4_2 l4_3 l4_4++hq56 false⟩ krf (sS (sG (xR 1 krf (xIn (hq55 l4_5 l4_2 l4_3 l4_4) [pZ2,pZ3] nq4 [] [] krf Tryz.func74 rfl Tryz.ntmps74 rfl krf krf krf (sG (xR 1 krf ?_))))))
 refine xs_heapE [(1000,1001),(1103,1000)] [] [] krf (g_r_item_ok n (⟨l4_2,l4_3,l4_4,l4_5⟩:GPr)) krf krf krf kff kff kff kff (fun r9=>?_) (fun e10=>?_)
 ·refine xR 1 krf (xE (iq_n (.id) [1000,1001,1002,1003] [] (.tup []) krf krf (kr0 (xE (sNK ⟨[(4, .ptr 1901 0),(5, .ptr 1902 0)],hq57 r9.2.dg r9.2.tks r9.2.pos r9.2.length r9.1++hq56 false⟩ krf (sRK tfm ⟨[(4, .ptr 1901 0),(5, .ptr 1902 0)],hq57 r9.2.dg r9.2.tks r9.2.pos r9.2.length r9.1++hq56 true⟩ krf (sT ?_)))))))
  refine dI_end (⟨Tryz.f97,_,_,_,6,3,_,_,Tryz.func97,rfl,rfl,rfl,rfl,rfl,rfl,rfl,by decide,by decide⟩:Recoverer Tryz.prog 97) nq5 (hq58 r9.2.dg r9.2.tks r9.2.pos r9.2.length++hq59 true) (.p (.val (.nilIface))) [pZ2,pZ3, .ptr 1004 0] [] rfl krf krf krf krf ?_
  refine sS (sRK tfm ⟨tq43,hq58 r9.2.dg r9.2.tks r9.2.pos r9.2.length++hq59 true⟩ krf (sim_condT krf (sT (sq_r (cl_ret [1000,1001,1002,1003,1004] [] krf krf (iq_ret (.id) [1000,1001,1002,1003] [] (.tup [B true,S []]) krf krf (kr0 ?_)))))))
  refine xR 5 krf (xE ?_)
  exact nqK (true,r9.2.tks,r9.2.pos,r9.2.length,r9.2.dg,r9.1.Kind,r9.1.Name,r9.1.N,r9.1.At,r9.1.Kids) krf
 refine iq_p [1000,1001,1002,1003] [] krf (sq_p ?_)
 refine dI_end (⟨Tryz.f97,_,_,_,6,3,_,_,Tryz.func97,rfl,rfl,rfl,rfl,rfl,rfl,rfl,by decide,by decide⟩:Recoverer Tryz.prog 97) nq5 (hq58 e10.2.dg e10.2.tks e10.2.pos e10.2.length++hq59 false) (.ifc 149 (.agg [I e10.1])) [pZ2,pZ3, .ptr 1004 0] [] rfl krf krf krf krf ?_
 refine sS (sRK tfm ⟨tq44 e10.1,hq58 e10.2.dg e10.2.tks e10.2.pos e10.2.length++hq59 false⟩ krf (sim_condF krf (sK (sNK ⟨tq45 e10.1,hq58 e10.2.dg e10.2.tks e10.2.pos e10.2.length++hq59 false⟩ krf (sRK tfm ⟨tq46 e10.1,hq45 e10.1++hq58 e10.2.dg e10.2.tks e10.2.pos e10.2.length++hq59 false⟩ krf (sS (sRK tfm ⟨tq47 e10.1,hq45 e10.1++hq58 e10.2.dg e10.2.tks e10.2.pos e10.2.length++hq59 false⟩ krf ?_)))))))
 refine sim_condF krf (sK (sNK ⟨tq48,hq45 e10.1++hq58 e10.2.dg e10.2.tks e10.2.pos e10.2.length++hq59 false⟩ krf (sS (sDr tfm rfl (xR 9 krf (xF krf krf (aop_app (e:=65) (S:=2) (by_:=16) (enc:=GDg.cs) (tk:=1000) (l:=e10.2.dg) (l2:=[(⟨7,e10.1⟩:GDg)]) (xv:=.tsl 2 (mDg [(⟨7,e10.1⟩:GDg)]) 25) rfl krf krf rfl krf krf krf rfl krf) (xR 3 krf ?_)))))))
 refine xED krf (sNK ⟨tq49,hq58 (e10.2.dg++[(⟨7,e10.1⟩:GDg)]) e10.2.tks e10.2.pos e10.2.length++hq59 false⟩ krf (sG (xR 1 krf (xs_enter (f:=98) (args:=[pZ1]) krf krf krf ?_))))
 refine sc_hold 1001 3 1000 65 2 (mDg (e10.2.dg++[(⟨7,e10.1⟩:GDg)])).length (mDg (e10.2.dg++[(⟨7,e10.1⟩:GDg)])) ⟨[0,1,2,29],[1001,1002,1003,1004],[],[]⟩ krf krf rfl (fun _ _ _=>by kernel_rfl) (fun hu11w hu11l hu11c=>?_)
 refine sc_heap [(1000,1001)] [] [] (g_r_skip_ok n (⟨e10.2.tks,e10.2.pos,e10.2.length,[]⟩:GPr) hu11w hu11l hu11c) krf krf krf kff kff (fun r11=>?_)
 refine k_hold _ rfl krf krf (kr0 (xR 2 krf (xE (cl_n [1000,1001,1002,1003,1004] [] krf krf (iq_ret (.id) [1000,1001,1002,1003] [] (.tup [B false,S r11.1]) krf krf (kr0 (xR 5 krf ?_)))))))
 refine xE ?_
 exact nq_n (false,r11.2.tks,r11.2.pos,r11.2.length,e10.2.dg++[(⟨7,e10.1⟩:GDg)],0,[],0,0,[]) ⟨[1,3,4,5],[1,4,32,700,1000],[],[(4,[.id, .id, .id, .id, .sl 5])]⟩ krf
def g_p_goodWord_l7 (a0text:List UInt8) (recl7:Int→Option Bool) (l7:Int):Option Bool :=
 cond (ltI l7 (lenI a0text))
  ((getI a0text l7).bind fun x8 =>
  (cond (leI 97 (b2i x8))
   (cond (leI (b2i x8) 122)
    (some false)
    (cond (leI 48 (b2i x8))
     (cond (leI (b2i x8) 57)
      (some false)
      (some (!(eqI (b2i x8) 95))))
     (some (!(eqI (b2i x8) 95)))))
   (cond (leI 48 (b2i x8))
    (cond (leI (b2i x8) 57)
     (some false)
     (some (!(eqI (b2i x8) 95))))
    (some (!(eqI (b2i x8) 95))))).bind fun j9 =>
  cond j9
   (some false)
   (recl7 (wi (l7+1))))
  (some true)
def g_p_goodWord (n:Nat) (a0text:List UInt8):Option Bool :=
 (cond (ltI (lenI a0text) 1)
  (some true)
  (cond (ltI 12 (lenI a0text))
   (some true)
   ((getI a0text 0).bind fun x4 =>
   cond (ltI (b2i x4) 97)
    (some true)
    ((getI a0text 0).bind fun x6 =>
    some (ltI 122 (b2i x6)))))).bind fun j1 =>
 cond j1
  (some false)
  (loopN (fun recl7 l7=>g_p_goodWord_l7 a0text recl7 l7) n 1)
theorem g_p_goodWord_ok (n:Nat) (a0text:List UInt8):∀ r,g_p_goodWord n a0text=some r→PCall Tryz.prog 109 [S a0text] (.ret (B r)):=by
 refine pcall_sim (X:=fun r:Bool=>AEnd.ret (B r)) Tryz.func109 rfl Tryz.ntmps109 rfl ?_
 unfold g_p_goodWord
 refine sRK tfm ⟨[(0,S a0text)],[]⟩ krf (sS (sBi (fun j1=>⟨[(0,S a0text),(22,B j1)],[]⟩:Bool→St) ?_ ?_))
 ·refine sG (xR 4 krf ?_)
  refine xS (ltI (lenI a0text) 1) (fun h2=>?_) (fun h2=>?_)
  ·refine xN (want_ft krf h2) krf (xR 13 krf (xE ?_))
   exact nqK true krf
  refine xO (want_ff krf h2) krf (xR 4 krf ?_)
  refine xS (ltI 12 (lenI a0text)) (fun h3=>?_) (fun h3=>?_)
  ·refine xN (want_ft krf h3) krf (xR 8 krf (xE ?_))
   exact nqK true krf
  refine xO (want_ff krf h3) krf ?_
  refine xG krf krf (aop_sidx (l:=a0text) (k:=.i64) (n:=0) rfl krf krf krf) (fun x4=>?_)
  refine xR 3 krf ?_
  refine xS (ltI (b2i x4) 97) (fun h5=>?_) (fun h5=>?_)
  ·refine xN (want_ft krf h5) krf (xR 3 krf (xE ?_))
   exact nqK true krf
  refine xO (want_ff krf h5) krf ?_
  refine xG krf krf (aop_sidx (l:=a0text) (k:=.i64) (n:=0) rfl krf krf krf) (fun x6=>?_)
  refine xR 2 krf (xE ?_)
  exact nqK (ltI 122 (b2i x6)) krf
 rintro j1
 refine sC j1 krf ?_ ?_
 ·refine sRK tfm ⟨[(2,B false)],[]⟩ krf (sT (sq_r ?_))
  exact qR (.id) krf krf krf
 refine sK (sNK ⟨[(0,S a0text)],[]⟩ krf (sS (sRK tfm ⟨[(0,S a0text),(3,I 1)],[]⟩ krf (sB (sim_loop (fun l7=>⟨[(0,S a0text),(3,I l7)],[]⟩:Int→St) (wsK krf) ?_)))))
 rintro recl7 l7
 show SimE (g_p_goodWord_l7 a0text recl7 l7) _ _ _ _ _ _
 unfold g_p_goodWord_l7
 refine sS (sRK tfm ⟨[(0,S a0text),(3,I l7),(26,B (ltI l7 (lenI a0text)))],[]⟩ krf (sC (ltI l7 (lenI a0text)) krf ?_ ?_))
 rotate_left
 ·refine sim_exit (sq_x (kq_x (bq_hit (sNK ⟨[],[]⟩ krf (sRK tfm ⟨[(2,B true)],[]⟩ krf (sT ?_))))))
  exact qR (.id) krf krf krf
 refine sK (sNK ⟨[(0,S a0text),(3,I l7)],[]⟩ krf (sS (sB (sS (sG (xR 2 krf ?_))))))
 refine xG krf krf (aop_sidx (l:=a0text) (k:=.i64) (n:=l7) rfl krf krf krf) (fun x8=>?_)
 refine xR 1 krf (xE (sNK ⟨[(0,S a0text),(3,I l7),(4,B8 (b2i x8))],[]⟩ krf (sBi (fun j9=>⟨[(0,S a0text),(3,I l7),(50,B j9)],[]⟩:Bool→St) ?_ ?_)))
 rotate_left
 ·rintro j9
  refine sC j9 krf ?_ ?_
  ·refine sRK tfm ⟨[(2,B false)],[]⟩ krf (sT (bq_r (sq_r (kq_r (bq_r (sq_r ?_))))))
   exact qR (.id) krf krf krf
  refine sK (bq_n (sNK ⟨[(0,S a0text),(3,I l7)],[]⟩ krf (sL tfm krf ?_)))
  exact kqK (wi (l7+1)) krf
 refine sG (xR 3 krf ?_)
 refine xS (leI 97 (b2i x8)) (fun h10=>?_) (fun h10=>?_)
 rotate_left
 ·refine xN (want_tf krf h10) krf (xR 6 krf ?_)
  refine xS (leI 48 (b2i x8)) (fun h14=>?_) (fun h14=>?_)
  ·refine xO (want_tt krf h14) krf (xR 4 krf ?_)
   refine xS (leI (b2i x8) 57) (fun h15=>?_) (fun h15=>?_)
   ·refine xN (want_ft krf h15) krf (xR 3 krf (xE ?_))
    exact nqK false krf
   refine xO (want_ff krf h15) krf (xR 3 krf (xE ?_))
   exact nqK (!(eqI (b2i x8) 95)) krf
  refine xN (want_tf krf h14) krf (xR 8 krf (xE ?_))
  exact nqK (!(eqI (b2i x8) 95)) krf
 refine xO (want_tt krf h10) krf (xR 3 krf ?_)
 refine xS (leI (b2i x8) 122) (fun h11=>?_) (fun h11=>?_)
 ·refine xN (want_ft krf h11) krf (xR 11 krf (xE ?_))
  exact nqK false krf
 refine xO (want_ff krf h11) krf (xR 2 krf ?_)
 refine xS (leI 48 (b2i x8)) (fun h12=>?_) (fun h12=>?_)
 ·refine xO (want_tt krf h12) krf (xR 4 krf ?_)
  refine xS (leI (b2i x8) 57) (fun h13=>?_) (fun h13=>?_)
  ·refine xN (want_ft krf h13) krf (xR 3 krf (xE ?_))
   exact nqK false krf
  refine xO (want_ff krf h13) krf (xR 3 krf (xE ?_))
  exact nqK (!(eqI (b2i x8) 95)) krf
 refine xN (want_tf krf h12) krf (xR 8 krf (xE ?_))
 exact nqK (!(eqI (b2i x8) 95)) krf
def g_p_goodName (n:Nat) (a0text:List UInt8):Option Bool :=
 (g_p_goodWord n a0text).bind fun r1 =>
 cond r1
  ((g_p_isKey n a0text).bind fun r3 =>
  some (!r3))
  (some false)
theorem g_p_goodName_ok (n:Nat) (a0text:List UInt8):∀ r,g_p_goodName n a0text=some r→PCall Tryz.prog 76 [S a0text] (.ret (B r)):=by
 refine pcall_sim (X:=fun r:Bool=>AEnd.ret (B r)) Tryz.func76 rfl Tryz.ntmps76 rfl ?_
 unfold g_p_goodName
 refine sRK tfm ⟨[(0,S a0text)],[]⟩ krf (sS (sG (xR 1 krf ?_)))
 refine xC [] krf (g_p_goodWord_ok n a0text) krf krf kff (fun r1=>?_)
 refine xR 1 krf ?_
 refine xS r1 (fun h2=>?_) (fun h2=>?_)
 ·refine xO (want_tt krf h2) krf ?_
  refine xC [] krf (g_p_isKey_ok n a0text) krf krf kff (fun r3=>?_)
  refine xR 3 krf (xE (sNK ⟨[(2,B (!r3))],[]⟩ krf (sT ?_)))
  exact qR (.id) krf krf krf
 refine xN (want_tf krf h2) krf (xR 4 krf (xE (sNK ⟨[(2,B false)],[]⟩ krf (sT ?_))))
 exact qR (.id) krf krf krf
def g_p_validValue (n:Nat) (a0n:GN) (a1words:Bool):Option Bool :=
 cond (!eqI (lenI (List.map idc a0n.Kids)) 0)
  (some false)
  (cond (eqI a0n.Kind 5)
   (cond (eqI a0n.N 0)
    ((g_p_goodName n a0n.Name).bind fun r2 =>
    cond r2
     (some true)
     (cond a1words
      ((g_p_isWord n a0n.Name).bind fun r5 =>
      some r5)
      (some false)))
    (some false))
   (cond (eqI a0n.Kind 6)
    (cond (eqS a0n.Name [])
     (cond (leI 0 a0n.N)
      (some (leI a0n.N 1000000))
      (some false))
     (some false))
    (some false)))
def sq21:=fun x0 x1=>(⟨[(1,B x0),(2, .ptr 2 0)],hq47 x1⟩:St)
theorem g_p_validValue_ok (n:Nat) (a0n:GN) (a1words:Bool):∀ r,g_p_validValue n a0n a1words=some r→PCall Tryz.prog 113 [ag (GN.cs a0n),B a1words] (.ret (B r)):=by
 refine pcall_sim (X:=fun r:Bool=>AEnd.ret (B r)) Tryz.func113 rfl Tryz.ntmps113 rfl ?_
 unfold g_p_validValue
 refine sRK tfm (sq21 a1words a0n) krf (sS (sRK tfm ⟨[(1,B a1words),qq 2,(8,B (!eqI (lenI (mI a0n.Kids)) 0))],hq47 a0n⟩ krf (sC (!eqI (lenI (mI a0n.Kids)) 0) krf ?_ ?_)))
 ·refine sRK tfm ⟨[(4,B false)],[]⟩ krf (sT (sq_r ?_))
  exact qR (.id) krf krf krf
 refine sK (sNK (sq21 a1words a0n) krf (sS (sRK tfm ⟨[(1,B a1words),qq 2,(10,I a0n.Kind)],hq47 a0n⟩ krf (sB (sRK tfm ⟨[(1,B a1words),qq 2,(10,I a0n.Kind),(11,B (eqI a0n.Kind 5))],hq47 a0n⟩ krf (sC (eqI a0n.Kind 5) krf ?_ ?_))))))
 rotate_left
 ·refine sRK tfm ⟨[qq 2,(29,B (eqI a0n.Kind 6))],hq47 a0n⟩ krf (sC (eqI a0n.Kind 6) krf ?_ ?_)
  rotate_left
  ·refine sK (bq_n (sNK ⟨[],[]⟩ krf (sRK tfm ⟨[(4,B false)],[]⟩ krf (sT ?_))))
   exact qR (.id) krf krf krf
  refine sS (sG (xR 4 krf ?_))
  refine xS (eqS a0n.Name []) (fun h6=>?_) (fun h6=>?_)
  rotate_left
  ·refine xN (want_tf krf h6) krf (xR 9 krf (xE (sNK ⟨[(4,B false)],[]⟩ krf (sT (bq_r (sq_r ?_))))))
   exact qR (.id) krf krf krf
  refine xO (want_tt krf h6) krf (xR 4 krf ?_)
  refine xS (leI 0 a0n.N) (fun h7=>?_) (fun h7=>?_)
  ·refine xO (want_tt krf h7) krf (xR 4 krf (xE (sNK ⟨[(4,B (leI a0n.N 1000000))],[]⟩ krf (sT (bq_r (sq_r ?_))))))
   exact qR (.id) krf krf krf
  refine xN (want_tf krf h7) krf (xR 4 krf (xE (sNK ⟨[(4,B false)],[]⟩ krf (sT (bq_r (sq_r ?_))))))
  exact qR (.id) krf krf krf
 refine sS (sG (xR 4 krf ?_))
 refine xS (eqI a0n.N 0) (fun h1=>?_) (fun h1=>?_)
 rotate_left
 ·refine xN (want_tf krf h1) krf (xR 12 krf (xE (sNK ⟨[(4,B false)],[]⟩ krf (sT (bq_r (sq_r ?_))))))
  exact qR (.id) krf krf krf
 refine xO (want_tt krf h1) krf (xR 1 krf ?_)
 refine xC [] krf (g_p_goodName_ok n a0n.Name) krf krf kff (fun r2=>?_)
 refine xR 1 krf ?_
 refine xS r2 (fun h3=>?_) (fun h3=>?_)
 ·refine xN (want_ft krf h3) krf (xR 8 krf (xE (sNK ⟨[(4,B true)],[]⟩ krf (sT (bq_r (sq_r ?_))))))
  exact qR (.id) krf krf krf
 refine xO (want_ff krf h3) krf (xR 1 krf ?_)
 refine xS a1words (fun h4=>?_) (fun h4=>?_)
 ·refine xO (want_tt krf h4) krf (xR 1 krf ?_)
  refine xC [] krf (g_p_isWord_ok n a0n.Name) krf krf kff (fun r5=>?_)
  refine xR 4 krf (xE (sNK ⟨[(4,B r5)],[]⟩ krf (sT (bq_r (sq_r ?_)))))
  exact qR (.id) krf krf krf
 refine xN (want_tf krf h4) krf (xR 6 krf (xE (sNK ⟨[(4,B false)],[]⟩ krf (sT (bq_r (sq_r ?_))))))
 exact qR (.id) krf krf krf
def g_p_validPart_l9 (n:Nat) (a0n:GN) (a1left:Int) (recl9:Int→Option (Bool × Int)) (l9:Int):Option (Bool × Int) :=
 cond (ltI l9 (lenI (List.map idc a0n.Kids)))
  ((Option.bind (getI a0n.Kids l9) GN.of).bind fun x10 =>
  (g_p_validValue n x10 (eqI a0n.Kind 4)).bind fun r11 =>
  cond (!r11)
   (some (false,wi (a1left - (lenI (List.map idc a0n.Kids)))))
   (recl9 (wi (l9+1))))
  (some (true,wi (a1left - (lenI (List.map idc a0n.Kids)))))
def g_p_validPart (n:Nat) (a0n:GN) (a1left:Int):Option (Bool × Int) :=
 cond (!eqI a0n.N 0)
  (some (false,a1left))
  ((cond (eqI a0n.Kind 3)
   ((g_p_isAttr n a0n.Name).bind fun r3 =>
   some (!r3))
   (some false)).bind fun j1 =>
  cond j1
   (some (false,a1left))
   ((cond (eqI a0n.Kind 4)
    ((g_p_isArticle n a0n.Name).bind fun r6 =>
    some (!r6))
    (some false)).bind fun j4 =>
   cond j4
    (some (false,a1left))
    ((cond (!eqI a0n.Kind 3)
     (some (!eqI a0n.Kind 4))
     (some false)).bind fun j7 =>
    cond j7
     (some (false,a1left))
     (cond (ltI (wi (a1left - (lenI (List.map idc a0n.Kids)))) 0)
      (some (false,wi (a1left - (lenI (List.map idc a0n.Kids)))))
      (loopN (fun recl9 l9=>g_p_validPart_l9 n a0n a1left recl9 l9) n 0)))))
def hq60:=fun x0=>([(1001, .box 3 [I x0])]:List (Nat × Blk))
def sq22:=fun x0 x1=>(⟨[(1, .ptr 1001 0),(2, .ptr 2 0)],hq47 x0++hq60 x1⟩:St)
def tq53:=fun x0=>([(1, .ptr 1001 0),(2, .ptr 2 0),(5,B x0)]:List (Nat × AV))
def bq24:=fun x0=>(.box 3 [I x0]:Blk)
def hq61:=fun x0=>([(1001,(bq24 x0))]:List (Nat × Blk))
def tq54:=fun x0 x1 x2=>([(5,B x0),(57, .p (.sl 5 (List.map idc (GN.Kids x1)))),(58,I (lenI (List.map idc (GN.Kids x1)))),(59,I x2)]:List (Nat × AV))
theorem g_p_validPart_ok (n:Nat) (a0n:GN) (a1left:Int):∀ r,g_p_validPart n a0n a1left=some r→ACall Tryz.prog 77 [ag (GN.cs a0n),pZ1] (Go.Abs.look [(1001, .box 3 [I a1left])]) (heapR (fun r:Bool × Int=>((.ret (B r.1),[(1001, .box 3 [I r.2])]):AEnd × List (Nat × Blk))) r):=by
 refine acall_sim (X:=fun r:Bool × Int=>((.ret (B r.1),(hq60 r.2)):AEnd × List (Nat × Blk))) (hq60 a1left) Tryz.func77 rfl Tryz.ntmps77 rfl ?_
 unfold g_p_validPart
 refine sRK tfm (sq22 a0n a1left) krf (sRK tfm ⟨tq53 (eqI a0n.Kind 4),hq47 a0n++hq60 a1left⟩ krf (sS (sB (sRK tfm ⟨[(1,pZ1),qq 2,(5,B (eqI a0n.Kind 4)),(11,B (!eqI a0n.N 0))],hq47 a0n++hq60 a1left⟩ krf (sC (!eqI a0n.N 0) krf ?_ ?_)))))
 ·refine sRK tfm ⟨[(4,B false)],hq60 a1left⟩ krf (sT (bq_r (sq_r ?_)))
  exact hq_ret (.id) [1001] [] krf krf krf krf
 refine sBi (fun j1=>⟨[(1,pZ1),qq 2,(5,B (eqI a0n.Kind 4)),(15,B j1)],hq47 a0n++hq60 a1left⟩:Bool→St) ?_ ?_
 ·refine sG (xR 4 krf ?_)
  refine xS (eqI a0n.Kind 3) (fun h2=>?_) (fun h2=>?_)
  ·refine xO (want_tt krf h2) krf (xR 1 krf ?_)
   refine xC [] krf (g_p_isAttr_ok n a0n.Name) krf krf kff (fun r3=>?_)
   refine xR 3 krf (xE ?_)
   exact nqK (!r3) krf
  refine xN (want_tf krf h2) krf (xR 5 krf (xE ?_))
  exact nqK false krf
 rintro j1
 refine sC j1 krf ?_ ?_
 ·refine sRK tfm ⟨[(4,B false)],hq60 a1left⟩ krf (sT (bq_r (sq_r ?_)))
  exact hq_ret (.id) [1001] [] krf krf krf krf
 refine sBi (fun j4=>⟨[(1,pZ1),qq 2,(5,B (eqI a0n.Kind 4)),(25,B j4)],hq47 a0n++hq60 a1left⟩:Bool→St) ?_ ?_
 ·refine sG (xR 4 krf ?_)
  refine xS (eqI a0n.Kind 4) (fun h5=>?_) (fun h5=>?_)
  ·refine xO (want_tt krf h5) krf (xR 1 krf ?_)
   refine xC [] krf (g_p_isArticle_ok n a0n.Name) krf krf kff (fun r6=>?_)
   refine xR 3 krf (xE ?_)
   exact nqK (!r6) krf
  refine xN (want_tf krf h5) krf (xR 5 krf (xE ?_))
  exact nqK false krf
 rintro j4
 refine sC j4 krf ?_ ?_
 ·refine sRK tfm ⟨[(4,B false)],hq60 a1left⟩ krf (sT (bq_r (sq_r ?_)))
  exact hq_ret (.id) [1001] [] krf krf krf krf
 refine sBi (fun j7=>⟨[(1,pZ1),qq 2,(5,B (eqI a0n.Kind 4)),(35,B j7)],hq47 a0n++hq60 a1left⟩:Bool→St) ?_ ?_
 ·refine sG (xR 4 krf ?_)
  refine xS (!eqI a0n.Kind 3) (fun h8=>?_) (fun h8=>?_)
  ·refine xO (want_tt krf h8) krf (xR 4 krf (xE ?_))
   exact nqK (!eqI a0n.Kind 4) krf
  refine xN (want_tf krf h8) krf (xR 4 krf (xE ?_))
  exact nqK false krf
 rintro j7
 refine sC j7 krf ?_ ?_
 ·refine sRK tfm ⟨[(4,B false)],hq60 a1left⟩ krf (sT (bq_r (sq_r ?_)))
  exact hq_ret (.id) [1001] [] krf krf krf krf
 refine sK (bq_n (sNK ⟨tq53 (eqI a0n.Kind 4),hq47 a0n++hq60 a1left⟩ krf (sRK tfm ⟨tq53 (eqI a0n.Kind 4),hq47 a0n++hq61 (wi (a1left - (lenI (mI a0n.Kids))))⟩ krf (sS (sRK tfm ⟨[qq 2,(5,B (eqI a0n.Kind 4)),(55,B (ltI (wi (a1left - (lenI (mI a0n.Kids)))) 0))],hq47 a0n++hq61 (wi (a1left - (lenI (mI a0n.Kids))))⟩ krf (sC (ltI (wi (a1left - (lenI (mI a0n.Kids)))) 0) krf ?_ ?_))))))
 ·refine sRK tfm ⟨[(4,B false)],hq61 (wi (a1left - (lenI (mI a0n.Kids))))⟩ krf (sT (sq_r ?_))
  exact hq_ret (.id) [1001] [] krf krf krf krf
 refine sK (sNK ⟨[qq 2,(5,B (eqI a0n.Kind 4))],hq47 a0n++hq61 (wi (a1left - (lenI (mI a0n.Kids))))⟩ krf (sS (sRK tfm ⟨tq54 (eqI a0n.Kind 4) a0n 0,hq61 (wi (a1left - (lenI (mI a0n.Kids))))⟩ krf (sB (sim_loop (fun l9=>⟨tq54 (eqI a0n.Kind 4) a0n l9,hq61 (wi (a1left - (lenI (mI a0n.Kids))))⟩:Int→St) (wsK krf) ?_)))))
 rintro recl9 l9
 show SimE (g_p_validPart_l9 n a0n a1left recl9 l9) _ _ _ _ _ _
 unfold g_p_validPart_l9
 refine sRK tfm ⟨[(5,B (eqI a0n.Kind 4)),(57, .p (.sl 5 (mI a0n.Kids))),(58,I (lenI (mI a0n.Kids))),(59,I l9),(60,B (ltI l9 (lenI (mI a0n.Kids))))],hq61 (wi (a1left - (lenI (mI a0n.Kids))))⟩ krf (sS (sC (ltI l9 (lenI (mI a0n.Kids))) krf ?_ ?_))
 rotate_left
 ·refine sim_exit (sq_x (kq_x (bq_hit (sNK ⟨[],hq61 (wi (a1left - (lenI (mI a0n.Kids))))⟩ krf (sRK tfm ⟨[(4,B true)],hq61 (wi (a1left - (lenI (mI a0n.Kids))))⟩ krf (sT ?_))))))
  exact hq_ret (.id) [1001] [] krf krf krf krf
 refine sK (sNK ⟨tq54 (eqI a0n.Kind 4) a0n l9,hq61 (wi (a1left - (lenI (mI a0n.Kids))))⟩ krf (sS (sB (sS (sG ?_)))))
 refine xG krf krf (aop_idxR (e:=24) (S:=5) (enc:=GN.cs) (dec:=GN.of) (l:=a0n.Kids) (k:=.i64) (n:=l9) (sv:=.p (.sl 5 (mI a0n.Kids))) GN.of_cs rfl krf krf krf krf krf) (fun x10=>?_)
 refine xR 3 krf (xE (sNK ⟨[(5,B (eqI a0n.Kind 4)),qq 7,(57, .p (.sl 5 (mI a0n.Kids))),(58,I (lenI (mI a0n.Kids))),(59,I l9)],hq48 x10++hq61 (wi (a1left - (lenI (mI a0n.Kids))))⟩ krf (sS (sG (xR 2 krf ?_)))))
 refine xC [] krf (g_p_validValue_ok n x10 (eqI a0n.Kind 4)) krf krf kff (fun r11=>?_)
 refine xR 1 krf (xE (sNK ⟨[(5,B (eqI a0n.Kind 4)),(57, .p (.sl 5 (mI a0n.Kids))),(58,I (lenI (mI a0n.Kids))),(59,I l9),(66,B (!r11))],hq61 (wi (a1left - (lenI (mI a0n.Kids))))⟩ krf (sC (!r11) krf ?_ ?_)))
 ·refine sRK tfm ⟨[(4,B false)],hq61 (wi (a1left - (lenI (mI a0n.Kids))))⟩ krf (sT (bq_r (sq_r (kq_r (bq_r (sq_r ?_))))))
  exact hq_ret (.id) [1001] [] krf krf krf krf
 refine sK (bq_n (sNK ⟨tq54 (eqI a0n.Kind 4) a0n l9,hq61 (wi (a1left - (lenI (mI a0n.Kids))))⟩ krf (sL tfm krf ?_)))
 exact kqK (wi (l9+1)) krf
def g_p_validItem_j6 (a0n:GN) (j6_1:Bool) (j6_2:Int):Option (Bool × Int) :=
 cond (!j6_1)
  (some (true,j6_2))
  (some (eqI a0n.N 7,j6_2))
def g_p_validItem_j10 (n:Nat) (l8_2:Int) (l8_3:Int) (recl8:(Bool × Int × Int)→Option (Bool × Int)) (x9:GN) (j10:Bool):Option (Bool × Int) :=
 (g_p_validPart n x9 l8_3).bind fun r11 =>
 cond (!r11.1)
  (some (false,r11.2))
  (recl8 (j10,wi (l8_2+1),r11.2))
def g_p_validItem_l8 (n:Nat) (a0n:GN) (recl8:(Bool × Int × Int)→Option (Bool × Int)) (l8_1:Bool) (l8_2:Int) (l8_3:Int):Option (Bool × Int) :=
 cond (ltI l8_2 (lenI (List.map idc a0n.Kids)))
  ((Option.bind (getI a0n.Kids l8_2) GN.of).bind fun x9 =>
  cond (eqI x9.Kind 4)
   (g_p_validItem_j10 n l8_2 l8_3 recl8 x9 true)
   (cond l8_1
    (some (false,l8_3))
    (g_p_validItem_j10 n l8_2 l8_3 recl8 x9 l8_1)))
  (g_p_validItem_j6 a0n l8_1 l8_3)
def g_p_validItem (n:Nat) (a0n:GN) (a1left:Int):Option (Bool × Int) :=
 (cond (!eqI a0n.Kind 2)
  (some true)
  (cond (ltI a0n.N 1)
   (some true)
   (cond (ltI 7 a0n.N)
    (some true)
    ((g_p_goodName n a0n.Name).bind fun r5 =>
    some (!r5))))).bind fun j1 =>
 cond j1
  (some (false,a1left))
  (cond (ltI (wi (a1left - (lenI (List.map idc a0n.Kids)))) 0)
   (some (false,wi (a1left - (lenI (List.map idc a0n.Kids)))))
   (loopN (fun recl8 (l8_1,l8_2,l8_3)=>g_p_validItem_l8 n a0n recl8 l8_1 l8_2 l8_3) n (false,0,wi (a1left - (lenI (List.map idc a0n.Kids))))))
def sq23:=fun x0 x1=>(⟨[(1, .ptr 1001 0),(2, .ptr 2 0)],hq47 x0++hq61 x1⟩:St)
def tq55:=fun x0 x1 x2=>([(1, .ptr 1001 0),(2, .ptr 2 0),(5,B x0),(40, .p (.sl 5 (List.map idc (GN.Kids x1)))),(41,I (lenI (List.map idc (GN.Kids x1)))),(42,I x2)]:List (Nat × AV))
def tq56:=fun x0 x1 x2=>([(1, .ptr 1001 0),(2, .ptr 2 0),(5,B x0),(7, .ptr 7 0),(40, .p (.sl 5 (List.map idc (GN.Kids x1)))),(41,I (lenI (List.map idc (GN.Kids x1)))),(42,I x2)]:List (Nat × AV))
def hq62:=fun x0 x1=>([(2, .box 24 (bxc (GN.cs x0))),(7, .box 24 (bxc (GN.cs x1)))]:List (Nat × Blk))
theorem g_p_validItem_ok (n:Nat) (a0n:GN) (a1left:Int):∀ r,g_p_validItem n a0n a1left=some r→ACall Tryz.prog 42 [ag (GN.cs a0n),pZ1] (Go.Abs.look [(1001, .box 3 [I a1left])]) (heapR (fun r:Bool × Int=>((.ret (B r.1),[(1001, .box 3 [I r.2])]):AEnd × List (Nat × Blk))) r):=by
 refine acall_sim (X:=fun r:Bool × Int=>((.ret (B r.1),(hq60 r.2)):AEnd × List (Nat × Blk))) (hq60 a1left) Tryz.func42 rfl Tryz.ntmps42 rfl ?_
 unfold g_p_validItem
 refine sRK tfm (sq22 a0n a1left) krf (sS (sBi (fun j1=>⟨[(1,pZ1),qq 2,(26,B j1)],hq47 a0n++hq60 a1left⟩:Bool→St) ?_ ?_))
 ·refine sG (xR 4 krf ?_)
  refine xS (!eqI a0n.Kind 2) (fun h2=>?_) (fun h2=>?_)
  ·refine xN (want_ft krf h2) krf (xR 14 krf (xE ?_))
   exact nqK true krf
  refine xO (want_ff krf h2) krf (xR 4 krf ?_)
  refine xS (ltI a0n.N 1) (fun h3=>?_) (fun h3=>?_)
  ·refine xN (want_ft krf h3) krf (xR 9 krf (xE ?_))
   exact nqK true krf
  refine xO (want_ff krf h3) krf (xR 4 krf ?_)
  refine xS (ltI 7 a0n.N) (fun h4=>?_) (fun h4=>?_)
  ·refine xN (want_ft krf h4) krf (xR 4 krf (xE ?_))
   exact nqK true krf
  refine xO (want_ff krf h4) krf (xR 1 krf ?_)
  refine xC [] krf (g_p_goodName_ok n a0n.Name) krf krf kff (fun r5=>?_)
  refine xR 2 krf (xE ?_)
  exact nqK (!r5) krf
 rintro j1
 refine sC j1 krf ?_ ?_
 ·refine sRK tfm ⟨[(4,B false)],hq60 a1left⟩ krf (sT (sq_r ?_))
  exact hq_ret (.id) [1001] [] krf krf krf krf
 refine sK (sNK (sq22 a0n a1left) krf (sRK tfm (sq23 a0n (wi (a1left - (lenI (mI a0n.Kids))))) krf (sS (sRK tfm ⟨[(1,pZ1),qq 2,(38,B (ltI (wi (a1left - (lenI (mI a0n.Kids)))) 0))],hq47 a0n++hq61 (wi (a1left - (lenI (mI a0n.Kids))))⟩ krf (sC (ltI (wi (a1left - (lenI (mI a0n.Kids)))) 0) krf ?_ ?_)))))
 ·refine sRK tfm ⟨[(4,B false)],hq61 (wi (a1left - (lenI (mI a0n.Kids))))⟩ krf (sT (sq_r ?_))
  exact hq_ret (.id) [1001] [] krf krf krf krf
 refine sK (sNK (sq23 a0n (wi (a1left - (lenI (mI a0n.Kids))))) krf (sRK tfm ⟨tq53 false,hq47 a0n++hq61 (wi (a1left - (lenI (mI a0n.Kids))))⟩ krf (sim_cps (fun (j6_1,j6_2)=>⟨[qq 2,(5,B j6_1)],hq47 a0n++hq60 j6_2⟩:(Bool × Int)→St) (fun (j6_1,j6_2)=>g_p_validItem_j6 a0n j6_1 j6_2) ?_ ?_)))
 ·rintro ⟨j6_1,j6_2⟩
  show SimE (g_p_validItem_j6 a0n j6_1 j6_2) _ _ _ _ _ _
  unfold g_p_validItem_j6
  refine sS (sG (xR 3 krf ?_))
  refine xS (!j6_1) (fun h7=>?_) (fun h7=>?_)
  ·refine xN (want_ft krf h7) krf (xR 4 krf (xE (sNK ⟨[(4,B true)],hq60 j6_2⟩ krf (sT ?_))))
   exact hq_ret (.id) [1001] [] krf krf krf krf
  refine xO (want_ff krf h7) krf (xR 4 krf (xE (sNK ⟨[(4,B (eqI a0n.N 7))],hq60 j6_2⟩ krf (sT ?_))))
  exact hq_ret (.id) [1001] [] krf krf krf krf
 refine sRK tfm ⟨tq55 false a0n 0,hq47 a0n++hq61 (wi (a1left - (lenI (mI a0n.Kids))))⟩ krf (sB (sim_loop (fun (l8_1,l8_2,l8_3)=>⟨tq55 l8_1 a0n l8_2,hq47 a0n++hq60 l8_3⟩:(Bool × Int × Int)→St) (wsK krf) ?_))
 rintro recl8 ⟨l8_1,l8_2,l8_3⟩
 show SimE (g_p_validItem_l8 n a0n recl8 l8_1 l8_2 l8_3) _ _ _ _ _ _
 unfold g_p_validItem_l8
 refine sRK tfm ⟨[(1,pZ1),qq 2,(5,B l8_1),(40, .p (.sl 5 (mI a0n.Kids))),(41,I (lenI (mI a0n.Kids))),(42,I l8_2),(43,B (ltI l8_2 (lenI (mI a0n.Kids))))],hq47 a0n++hq60 l8_3⟩ krf (sS (sC (ltI l8_2 (lenI (mI a0n.Kids))) krf ?_ ?_))
 rotate_left
 ·refine sim_exit (sq_x (kq_x (bq_hit ?_)))
  exact kqK (k:=fun (j6_1,j6_2)=>g_p_validItem_j6 a0n j6_1 j6_2) (l8_1,l8_3) krf
 refine sK (sNK ⟨tq55 l8_1 a0n l8_2,hq47 a0n++hq60 l8_3⟩ krf (sS (sB (sS (sG ?_)))))
 refine xG krf krf (aop_idxR (e:=24) (S:=5) (enc:=GN.cs) (dec:=GN.of) (l:=a0n.Kids) (k:=.i64) (n:=l8_2) (sv:=.p (.sl 5 (mI a0n.Kids))) GN.of_cs rfl krf krf krf krf krf) (fun x9=>?_)
 refine xR 3 krf (xE (sNK ⟨tq56 l8_1 a0n l8_2,hq62 a0n x9++hq60 l8_3⟩ krf (sim_cps (fun j10=>⟨tq56 j10 a0n l8_2,hq62 a0n x9++hq60 l8_3⟩:Bool→St) (fun j10=>g_p_validItem_j10 n l8_2 l8_3 recl8 x9 j10) ?_ ?_)))
 rotate_left
 ·refine sRK tfm ⟨[(1,pZ1),qq 2,(5,B l8_1),qq 7,(40, .p (.sl 5 (mI a0n.Kids))),(41,I (lenI (mI a0n.Kids))),(42,I l8_2),(48,B (eqI x9.Kind 4))],hq62 a0n x9++hq60 l8_3⟩ krf (sC (eqI x9.Kind 4) krf ?_ ?_)
  ·refine sL tfm krf ?_
   exact kqK (k:=fun j10=>g_p_validItem_j10 n l8_2 l8_3 recl8 x9 j10) true krf
  refine sRK tfm ⟨[(1,pZ1),qq 2,(5,B l8_1),qq 7,(40, .p (.sl 5 (mI a0n.Kids))),(41,I (lenI (mI a0n.Kids))),(42,I l8_2),(49,B l8_1)],hq62 a0n x9++hq60 l8_3⟩ krf (sC l8_1 krf ?_ ?_)
  ·refine sRK tfm ⟨[(4,B false)],hq60 l8_3⟩ krf (sT (kq_r (bq_r (sq_r (kq_r (bq_r (kq_r ?_)))))))
   exact hq_ret (.id) [1001] [] krf krf krf krf
  refine sK ?_
  exact kqK (k:=fun j10=>g_p_validItem_j10 n l8_2 l8_3 recl8 x9 j10) l8_1 krf
 rintro j10
 show SimE (g_p_validItem_j10 n l8_2 l8_3 recl8 x9 j10) _ _ _ _ _ _
 unfold g_p_validItem_j10
 refine sS (sG (xR 2 krf ?_))
 refine xs_heap [(1001,1001)] [] [] krf (g_p_validPart_ok n x9 l8_3) krf krf krf kff kff (fun r11=>?_)
 refine xR 1 krf (xE (sNK ⟨[(1,pZ1),qq 2,(5,B j10),(40, .p (.sl 5 (mI a0n.Kids))),(41,I (lenI (mI a0n.Kids))),(42,I l8_2),(53,B (!r11.1))],hq47 a0n++hq60 r11.2⟩ krf (sC (!r11.1) krf ?_ ?_)))
 ·refine sRK tfm ⟨[(4,B false)],hq60 r11.2⟩ krf (sT (bq_r (sq_r (kq_r (bq_r (kq_r ?_))))))
  exact hq_ret (.id) [1001] [] krf krf krf krf
 refine sK (bq_n (sNK ⟨tq55 j10 a0n l8_2,hq47 a0n++hq60 r11.2⟩ krf (sL tfm krf ?_)))
 exact kqK (j10,wi (l8_2+1),r11.2) krf
def g_p_Valid_l5 (n:Nat) (a0n:GN) (recl5:(Int × Int)→Option Bool) (l5_1:Int) (l5_2:Int):Option Bool :=
 cond (ltI l5_1 (lenI (List.map idc a0n.Kids)))
  ((Option.bind (getI a0n.Kids l5_1) GN.of).bind fun x6 =>
  (g_p_validItem n x6 l5_2).bind fun r7 =>
  cond (!r7.1)
   (some false)
   (recl5 (wi (l5_1+1),r7.2)))
  (some true)
def g_p_Valid (n:Nat) (a0n:GN):Option Bool :=
 (cond (!eqI a0n.Kind 1)
  (some true)
  (cond (!eqS a0n.Name [])
   (some true)
   (cond (!eqI a0n.N 0)
    (some true)
    (some (ltI (wi (1499 - (lenI (List.map idc a0n.Kids)))) 0))))).bind fun j1 =>
 cond j1
  (some false)
  (loopN (fun recl5 (l5_1,l5_2)=>g_p_Valid_l5 n a0n recl5 l5_1 l5_2) n (0,wi (1499 - (lenI (List.map idc a0n.Kids)))))
def hq63:=fun x0=>([(1, .box 24 (bxc (GN.cs x0)))]:List (Nat × Blk))
def hq64:=fun x0 x1=>([(1, .box 24 (bxc (GN.cs x0))),(3,(bq24 x1))]:List (Nat × Blk))
def tq57:=fun x0 x1=>([(3, .ptr 3 0),(28, .p (.sl 5 (List.map idc (GN.Kids x0)))),(29,I (lenI (List.map idc (GN.Kids x0)))),(30,I x1)]:List (Nat × AV))
abbrev bGN24 (x:GN):Go.Abs.Blk:=.box 24 (bxc (GN.cs x))
theorem g_p_Valid_ok (n:Nat) (a0n:GN):∀ r,g_p_Valid n a0n=some r→PCall Tryz.prog 24 [ag (GN.cs a0n)] (.ret (B r)):=by
 refine pcall_sim (X:=fun r:Bool=>AEnd.ret (B r)) Tryz.func24 rfl Tryz.ntmps24 rfl ?_
 unfold g_p_Valid
 refine sRK tfm ⟨[qq 1],hq63 a0n⟩ krf (sRK tfm ⟨[qq 1,qq 3],hq64 a0n (wi (1499 - (lenI (mI a0n.Kids))))⟩ krf (sS (sBi (fun j1=>⟨[qq 1,qq 3,(26,B j1)],hq64 a0n (wi (1499 - (lenI (mI a0n.Kids))))⟩:Bool→St) ?_ ?_)))
 ·refine sG (xR 4 krf ?_)
  refine xS (!eqI a0n.Kind 1) (fun h2=>?_) (fun h2=>?_)
  ·refine xN (want_ft krf h2) krf (xR 12 krf (xE ?_))
   exact nqK true krf
  refine xO (want_ff krf h2) krf (xR 4 krf ?_)
  refine xS (!eqS a0n.Name []) (fun h3=>?_) (fun h3=>?_)
  ·refine xN (want_ft krf h3) krf (xR 7 krf (xE ?_))
   exact nqK true krf
  refine xO (want_ff krf h3) krf (xR 4 krf ?_)
  refine xS (!eqI a0n.N 0) (fun h4=>?_) (fun h4=>?_)
  ·refine xN (want_ft krf h4) krf (xR 2 krf (xE ?_))
   exact nqK true krf
  refine xO (want_ff krf h4) krf (xR 2 krf (xE ?_))
  exact nqK (ltI (wi (1499 - (lenI (mI a0n.Kids)))) 0) krf
 rintro j1
 refine sC j1 krf ?_ ?_
 ·refine sRK tfm ⟨[(2,B false)],[]⟩ krf (sT (sq_r ?_))
  exact qR (.id) krf krf krf
 refine sK (sNK ⟨[qq 1,qq 3],hq64 a0n (wi (1499 - (lenI (mI a0n.Kids))))⟩ krf (sS (sRK tfm ⟨tq57 a0n 0,[(3,(bq24 (wi (1499 - (lenI (mI a0n.Kids))))))]⟩ krf (sB (sim_loop (fun (l5_1,l5_2)=>⟨tq57 a0n l5_1,[(3, .box 3 [I l5_2])]⟩:(Int × Int)→St) (wsK krf) ?_)))))
 rintro recl5 ⟨l5_1,l5_2⟩
 show SimE (g_p_Valid_l5 n a0n recl5 l5_1 l5_2) _ _ _ _ _ _
 unfold g_p_Valid_l5
 refine sRK tfm ⟨[qq 3,(28, .p (.sl 5 (mI a0n.Kids))),(29,I (lenI (mI a0n.Kids))),(30,I l5_1),(31,B (ltI l5_1 (lenI (mI a0n.Kids))))],[(3, .box 3 [I l5_2])]⟩ krf (sS (sC (ltI l5_1 (lenI (mI a0n.Kids))) krf ?_ ?_))
 rotate_left
 ·refine sim_exit (sq_x (kq_x (bq_hit (sNK ⟨[],[]⟩ krf (sRK tfm ⟨[(2,B true)],[]⟩ krf (sT ?_))))))
  exact qR (.id) krf krf krf
 refine sK (sNK ⟨tq57 a0n l5_1,[(3, .box 3 [I l5_2])]⟩ krf (sS (sB (sS (sG ?_)))))
 refine xG krf krf (aop_idxR (e:=24) (S:=5) (enc:=GN.cs) (dec:=GN.of) (l:=a0n.Kids) (k:=.i64) (n:=l5_1) (sv:=.p (.sl 5 (mI a0n.Kids))) GN.of_cs rfl krf krf krf krf krf) (fun x6=>?_)
 refine xR 3 krf (xE (sNK ⟨[qq 3,qq 5,(28, .p (.sl 5 (mI a0n.Kids))),(29,I (lenI (mI a0n.Kids))),(30,I l5_1)],[(3, .box 3 [I l5_2]),(5,bGN24 x6)]⟩ krf (sS (sG (xR 1 krf ?_)))))
 refine xs_heap [(1001,3)] [] [] krf (g_p_validItem_ok n x6 l5_2) krf krf krf kff kff (fun r7=>?_)
 refine xR 1 krf (xE (sNK ⟨[qq 3,(28, .p (.sl 5 (mI a0n.Kids))),(29,I (lenI (mI a0n.Kids))),(30,I l5_1),(36,B (!r7.1))],[(3, .box 3 [I r7.2])]⟩ krf (sC (!r7.1) krf ?_ ?_)))
 ·refine sRK tfm ⟨[(2,B false)],[]⟩ krf (sT (bq_r (sq_r (kq_r (bq_r (sq_r ?_))))))
  exact qR (.id) krf krf krf
 refine sK (bq_n (sNK ⟨tq57 a0n l5_1,[(3, .box 3 [I r7.2])]⟩ krf (sL tfm krf ?_)))
 exact kqK (wi (l5_1+1),r7.2) krf
def g_site_rule_of_l1 (a0u_0:List Int) (a1kind:Int) (recl1:Int→Option Bool) (l1:Int):Option Bool :=
 cond (ltI l1 (lenI (List.map ci a0u_0)))
  ((getI a0u_0 l1).bind fun x2 =>
  cond (eqI x2 a1kind)
   (some true)
   (recl1 (wi (l1+1))))
  (some false)
def g_site_rule_of (n:Nat) (a0u_0:List Int) (a0u_1:Bool) (a1kind:Int):Option Bool :=
 loopN (fun recl1 l1=>g_site_rule_of_l1 a0u_0 a1kind recl1 l1) n 0
def tq58:=fun x0 x1 x2=>([(1,I x0),(8, .p (.sl 1 (List.map ci x1))),(9,I (lenI (List.map ci x1))),(10,I x2)]:List (Nat × AV))
theorem g_site_rule_of_ok (n:Nat) (a0u_0:List Int) (a0u_1:Bool) (a1kind:Int) (hw0_2:FV):∀ r,g_site_rule_of n a0u_0 a0u_1 a1kind=some r→PCall Tryz.prog 83 [.agg [.p (.sl 1 (List.map ci a0u_0)),B a0u_1, .p (.val (fv hw0_2))],I a1kind] (.ret (B r)):=by
 refine pcall_sim (X:=fun r:Bool=>AEnd.ret (B r)) Tryz.func83 rfl Tryz.ntmps83 rfl ?_
 unfold g_site_rule_of
 refine sRK tfm ⟨[(1,I a1kind),qq 2],[(2, .box 111 [.p (.sl 1 (List.map ci a0u_0)),B a0u_1, .p (.val (fv hw0_2))])]⟩ krf (sS (sRK tfm ⟨tq58 a1kind a0u_0 0,[]⟩ krf (sB (sim_loop (fun l1=>⟨tq58 a1kind a0u_0 l1,[]⟩:Int→St) (wsK krf) ?_))))
 rintro recl1 l1
 show SimE (g_site_rule_of_l1 a0u_0 a1kind recl1 l1) _ _ _ _ _ _
 unfold g_site_rule_of_l1
 refine sRK tfm ⟨[(1,I a1kind),(8, .p (.sl 1 (List.map ci a0u_0))),(9,I (lenI (List.map ci a0u_0))),(10,I l1),(11,B (ltI l1 (lenI (List.map ci a0u_0))))],[]⟩ krf (sS (sC (ltI l1 (lenI (List.map ci a0u_0))) krf ?_ ?_))
 rotate_left
 ·refine sim_exit (sq_x (kq_x (bq_hit (sNK ⟨[],[]⟩ krf (sRK tfm ⟨[(4,B false)],[]⟩ krf (sT ?_))))))
  exact qR (.id) krf krf krf
 refine sK (sNK ⟨tq58 a1kind a0u_0 l1,[]⟩ krf (sS (sB (sS (sG ?_)))))
 refine xG krf krf (aop_idx (e:=3) (S:=1) (enc:=ci) (l:=a0u_0) (k:=.i64) (n:=l1) (sv:=.p (.sl 1 (List.map ci a0u_0))) rfl krf krf krf krf krf) (fun x2=>?_)
 refine xR 2 krf (xE (sNK ⟨[(1,I a1kind),(6,I x2),(8, .p (.sl 1 (List.map ci a0u_0))),(9,I (lenI (List.map ci a0u_0))),(10,I l1)],[]⟩ krf (sRK tfm ⟨[(1,I a1kind),(8, .p (.sl 1 (List.map ci a0u_0))),(9,I (lenI (List.map ci a0u_0))),(10,I l1),(16,B (eqI x2 a1kind))],[]⟩ krf (sC (eqI x2 a1kind) krf ?_ ?_))))
 ·refine sRK tfm ⟨[(4,B true)],[]⟩ krf (sT (bq_r (sq_r (kq_r (bq_r (sq_r ?_))))))
  exact qR (.id) krf krf krf
 refine sK (bq_n (sNK ⟨tq58 a1kind a0u_0 l1,[]⟩ krf (sL tfm krf ?_)))
 exact kqK (wi (l1+1)) krf
def g_site_span_holds (n:Nat) (a0s:GSp) (a1n:Int):Option Bool :=
 cond (leI a0s.from_ a1n)
  (some (leI a1n a0s.to_))
  (some false)
theorem g_site_span_holds_ok (n:Nat) (a0s:GSp) (a1n:Int):∀ r,g_site_span_holds n a0s a1n=some r→PCall Tryz.prog 64 [.agg [I a0s.from_,I a0s.to_],I a1n] (.ret (B r)):=by
 refine pcall_sim (X:=fun r:Bool=>AEnd.ret (B r)) Tryz.func64 rfl Tryz.ntmps64 rfl ?_
 unfold g_site_span_holds
 refine sRK tfm ⟨[(1,I a1n),qq 2],[(2, .box 103 [I a0s.from_,I a0s.to_])]⟩ krf (sS (sG (xR 5 krf ?_)))
 refine xS (leI a0s.from_ a1n) (fun h1=>?_) (fun h1=>?_)
 ·refine xO (want_tt krf h1) krf (xR 5 krf (xE (sNK ⟨[(4,B (leI a1n a0s.to_))],[]⟩ krf (sT ?_))))
  exact qR (.id) krf krf krf
 refine xN (want_tf krf h1) krf (xR 5 krf (xE (sNK ⟨[(4,B false)],[]⟩ krf (sT ?_))))
 exact qR (.id) krf krf krf
def g_site_numbers_l2 (n:Nat) (a0attr:GN) (a1spans:List GSp) (recl2:((List Int) × Int)→Option (Except (Int × Int) (List Int))) (l2_1:List Int) (l2_2:Int):Option (Except (Int × Int) (List Int)) :=
 cond (ltI l2_2 (lenI (List.map idc a0attr.Kids)))
  ((Option.bind (getI a0attr.Kids l2_2) GN.of).bind fun x3 =>
  (getI a1spans l2_2).bind fun x4 =>
  (g_site_span_holds n x4 x3.N).bind fun r5 =>
  cond (!r5)
   (some (.error (3,a0attr.At)))
   ((getI l2_1 l2_2).bind fun x6 =>
   recl2 (List.set l2_1 (Int.toNat l2_2) x3.N,wi (l2_2+1))))
  (some (.ok l2_1))
def g_site_numbers_j1 (n:Nat) (a0attr:GN) (a1spans:List GSp):Option (Except (Int × Int) (List Int)) :=
 cond (makeB (lenI (List.map GSp.cs a1spans)) (lenI (List.map GSp.cs a1spans)) 8) (
  loopN (fun recl2 (l2_1,l2_2)=>g_site_numbers_l2 n a0attr a1spans recl2 l2_1 l2_2) n (List.replicate (Int.toNat (lenI (List.map GSp.cs a1spans))) 0,0)) none
def g_site_numbers_l7 (n:Nat) (a0attr:GN) (a1spans:List GSp) (recl7:Int→Option (Except (Int × Int) (List Int))) (l7:Int):Option (Except (Int × Int) (List Int)) :=
 cond (ltI l7 (lenI (List.map idc a0attr.Kids)))
  ((Option.bind (getI a0attr.Kids l7) GN.of).bind fun x8 =>
  cond (!eqI x8.Kind 6)
   (some (.error (9,a0attr.At)))
   (recl7 (wi (l7+1))))
  (g_site_numbers_j1 n a0attr a1spans)
def g_site_numbers (n:Nat) (a0attr:GN) (a1spans:List GSp):Option (Except (Int × Int) (List Int)) :=
 cond (!eqI (lenI (List.map idc a0attr.Kids)) (lenI (List.map GSp.cs a1spans)))
  (some (.error (9,a0attr.At)))
  (loopN (fun recl7 l7=>g_site_numbers_l7 n a0attr a1spans recl7 l7) n 0)
def tq59:=fun x0=>([(1, .p (.sl 2 (List.map GSp.cs x0))),(2, .ptr 2 0)]:List (Nat × AV))
def hq65:=fun x0=>([(3, .box 24 (bxc (GN.cs x0)))]:List (Nat × Blk))
def sq24:=fun x0 x1=>(⟨[(0,I x0),(3, .ptr 3 0)],hq65 x1⟩:St)
def tq62:=fun x0 x1 x2=>([(1, .p (.sl 2 (List.map GSp.cs x0))),(2, .ptr 2 0),(19, .p (.sl 5 (List.map idc (GN.Kids x1)))),(20,I (lenI (List.map idc (GN.Kids x1)))),(21,I x2)]:List (Nat × AV))
def hq66:=fun x0 x1=>([(2, .box 24 (bxc (GN.cs x0))),(33,x1)]:List (Nat × Blk))
def tq60:=fun x0 x1 x2 x3=>([(1, .p (.sl 2 (List.map GSp.cs x0))),(2, .ptr 2 0),(7,x1),(35, .p (.sl 5 (List.map idc (GN.Kids x2)))),(36,I (lenI (List.map idc (GN.Kids x2)))),(37,I x3)]:List (Nat × AV))
def sq25:=fun x0 x1 x2 x3 x4=>(⟨tq60 x0 x1 x2 x3,hq66 x2 x4⟩:St)
def tq61:=fun x0 x1 x2 x3=>([(1, .p (.sl 2 (List.map GSp.cs x0))),(2, .ptr 2 0),(7,x1),(8,I x2),(9, .ptr 9 0),(35, .p (.sl 5 (List.map idc (GN.Kids x3)))),(36,I (lenI (List.map idc (GN.Kids x3)))),(37,I x2)]:List (Nat × AV))
def hq67:=fun x0 x1 x2=>([(2, .box 24 (bxc (GN.cs x0))),(9, .box 24 (bxc (GN.cs x1))),(33,x2)]:List (Nat × Blk))
theorem g_site_numbers_ok (n:Nat) (a0attr:GN) (a1spans:List GSp):∀ r,g_site_numbers n a0attr a1spans=some r→PCall Tryz.prog 47 [ag (GN.cs a0attr), .p (.sl 2 (mSp a1spans))] (excE (fun r:List Int=>(.p (.sl 1 (List.map ci r)):AV)) (fun e:(Int × Int)=>(.ifc 116 (.agg [I e.1,I e.2]):AV)) r):=by
 refine pcall_sim (X:=excE (fun r:List Int=>(.p (.sl 1 (List.map ci r)):AV)) (fun e:(Int × Int)=>(.ifc 116 (.agg [I e.1,I e.2]):AV))) Tryz.func47 rfl Tryz.ntmps47 rfl ?_
 unfold g_site_numbers
 refine sRK tfm ⟨tq59 a1spans,hq47 a0attr⟩ krf (sS (sRK tfm ⟨[(1, .p (.sl 2 (mSp a1spans))),qq 2,(15,B (!eqI (lenI (mI a0attr.Kids)) (lenI (mSp a1spans))))],hq47 a0attr⟩ krf (sC (!eqI (lenI (mI a0attr.Kids)) (lenI (mSp a1spans))) krf ?_ ?_)))
 ·refine sG (xR 1 krf (xIn [] [I 9, .agg [I a0attr.Kind,S a0attr.Name,I a0attr.N,I a0attr.At, .p (.sl 5 (mI a0attr.Kids))]] [] [] [] krf Tryz.func49 rfl Tryz.ntmps49 rfl krf krf krf (sRK tfm (sq24 9 a0attr) krf (sG (xR 6 krf (xPa 116 (.agg [I 9,I a0attr.At]) krf rfl krf (iq_p [] [] krf ?_)))))))
  refine sq_p ?_
  exact rq_p krf krf
 refine sK (sNK ⟨tq59 a1spans,hq47 a0attr⟩ krf (sim_cps (fun _=>⟨tq59 a1spans,hq47 a0attr⟩:Unit→St) (fun _=>g_site_numbers_j1 n a0attr a1spans) ?_ ?_))
 rotate_left
 ·refine sRK tfm ⟨tq62 a1spans a0attr 0,hq47 a0attr⟩ krf (sB (sim_loop (fun l7=>⟨tq62 a1spans a0attr l7,hq47 a0attr⟩:Int→St) (wsK krf) ?_))
  rintro recl7 l7
  show SimE (g_site_numbers_l7 n a0attr a1spans recl7 l7) _ _ _ _ _ _
  unfold g_site_numbers_l7
  refine sRK tfm ⟨[(1, .p (.sl 2 (mSp a1spans))),qq 2,(19, .p (.sl 5 (mI a0attr.Kids))),(20,I (lenI (mI a0attr.Kids))),(21,I l7),(22,B (ltI l7 (lenI (mI a0attr.Kids))))],hq47 a0attr⟩ krf (sS (sC (ltI l7 (lenI (mI a0attr.Kids))) krf ?_ ?_))
  rotate_left
  ·refine sim_exit (sq_x (kq_x (bq_hit ?_)))
   exact kqK (k:=fun _=>g_site_numbers_j1 n a0attr a1spans) () krf
  refine sK (sNK ⟨tq62 a1spans a0attr l7,hq47 a0attr⟩ krf (sS (sB (sS (sG ?_)))))
  refine xG krf krf (aop_idxR (e:=24) (S:=5) (enc:=GN.cs) (dec:=GN.of) (l:=a0attr.Kids) (k:=.i64) (n:=l7) (sv:=.p (.sl 5 (mI a0attr.Kids))) GN.of_cs rfl krf krf krf krf krf) (fun x8=>?_)
  refine xR 3 krf (xE (sNK ⟨[(1, .p (.sl 2 (mSp a1spans))),qq 2,qq 6,(19, .p (.sl 5 (mI a0attr.Kids))),(20,I (lenI (mI a0attr.Kids))),(21,I l7)],[(2,bGN24 a0attr),(6,bGN24 x8)]⟩ krf (sRK tfm ⟨[(1, .p (.sl 2 (mSp a1spans))),qq 2,(19, .p (.sl 5 (mI a0attr.Kids))),(20,I (lenI (mI a0attr.Kids))),(21,I l7),(27,B (!eqI x8.Kind 6))],hq47 a0attr⟩ krf (sC (!eqI x8.Kind 6) krf ?_ ?_))))
  ·refine sG (xR 1 krf (xIn [] [I 9, .agg [I a0attr.Kind,S a0attr.Name,I a0attr.N,I a0attr.At, .p (.sl 5 (mI a0attr.Kids))]] [] [] [] krf Tryz.func49 rfl Tryz.ntmps49 rfl krf krf krf (sRK tfm (sq24 9 a0attr) krf (sG (xR 6 krf (xPa 116 (.agg [I 9,I a0attr.At]) krf rfl krf (iq_p [] [] krf ?_)))))))
   refine bq_p (sq_p (kq_p (bq_p (kq_p ?_))))
   exact rq_p krf krf
  refine sK (bq_n (sNK ⟨tq62 a1spans a0attr l7,hq47 a0attr⟩ krf (sL tfm krf ?_)))
  exact kqK (wi (l7+1)) krf
 rintro _
 show SimE (g_site_numbers_j1 n a0attr a1spans) _ _ _ _ _ _
 unfold g_site_numbers_j1
 refine sS (sG (xR 2 krf (xF krf krf (aop_make (e:=3) (S:=1) (by_:=8) (d:=33) (enc:=ci) (z0:=0) (k:=.i64) (k':=.i64) (l:=lenI (mSp a1spans)) (c:=lenI (mSp a1spans)) rfl rfl krf krf rfl krf krf krf krf) (xR 1 krf (xE (sNK ⟨[(1, .p (.sl 2 (mSp a1spans))),qq 2,(7, .vsl 1 33 (List.map ci (List.replicate (Int.toNat (lenI (mSp a1spans))) 0)).length)],hq66 a0attr (.vec 3 1 (List.map ci (List.replicate (Int.toNat (lenI (mSp a1spans))) 0)))⟩ krf (sS ?_)))))))
 refine sRK tfm (sq25 a1spans (.vsl 1 33 (List.map ci (List.replicate (Int.toNat (lenI (mSp a1spans))) 0)).length) a0attr 0 (.vec 3 1 (List.map ci (List.replicate (Int.toNat (lenI (mSp a1spans))) 0)))) krf (sB (sim_loop (fun (l2_1,l2_2)=>(sq25 a1spans (.vsl 1 33 (List.map ci l2_1).length) a0attr l2_2 (.vec 3 1 (List.map ci l2_1))):((List Int) × Int)→St) (wsK krf) ?_))
 rintro recl2 ⟨l2_1,l2_2⟩
 show SimE (g_site_numbers_l2 n a0attr a1spans recl2 l2_1 l2_2) _ _ _ _ _ _
 unfold g_site_numbers_l2
 refine sRK tfm ⟨[(1, .p (.sl 2 (mSp a1spans))),qq 2,(7, .vsl 1 33 (List.map ci l2_1).length),(35, .p (.sl 5 (mI a0attr.Kids))),(36,I (lenI (mI a0attr.Kids))),(37,I l2_2),(38,B (ltI l2_2 (lenI (mI a0attr.Kids))))],hq66 a0attr (.vec 3 1 (List.map ci l2_1))⟩ krf (sS (sC (ltI l2_2 (lenI (mI a0attr.Kids))) krf ?_ ?_))
 rotate_left
 ·refine sim_exit (sq_x (kq_x (bq_hit (sNK ⟨[(7, .vsl 1 33 (List.map ci l2_1).length)],[(33, .vec 3 1 (List.map ci l2_1))]⟩ krf (sim_weak (weak_vfz 33 3 1 (List.map ci l2_1) [(List.map ci l2_1).length] krf krf zq krf krf) (sRK tfm ⟨[(4, .p (.sl 1 (List.map ci l2_1)))],[]⟩ krf (sT ?_)))))))
  exact qR (.id) krf krf krf
 refine sK (sNK (sq25 a1spans (.vsl 1 33 (List.map ci l2_1).length) a0attr l2_2 (.vec 3 1 (List.map ci l2_1))) krf (sS (sB (sS (sG (xR 1 krf ?_))))))
 refine xG krf krf (aop_idxR (e:=24) (S:=5) (enc:=GN.cs) (dec:=GN.of) (l:=a0attr.Kids) (k:=.i64) (n:=l2_2) (sv:=.p (.sl 5 (mI a0attr.Kids))) GN.of_cs rfl krf krf krf krf krf) (fun x3=>?_)
 refine xR 4 krf (xE (sNK ⟨tq61 a1spans (.vsl 1 33 (List.map ci l2_1).length) l2_2 a0attr,hq67 a0attr x3 (.vec 3 1 (List.map ci l2_1))⟩ krf (sS (sS (sDr tfm rfl (xR 2 krf ?_))))))
 refine xG krf krf (aop_idx (e:=103) (S:=2) (enc:=GSp.cs) (l:=a1spans) (k:=.i64) (n:=l2_2) (sv:=.p (.sl 2 (mSp a1spans))) rfl krf krf krf krf krf) (fun x4=>?_)
 refine xR 3 krf ?_
 refine xC [] krf (g_site_span_holds_ok n x4 x3.N) krf krf kff (fun r5=>?_)
 refine xR 1 krf (xED krf (sNK ⟨[(1, .p (.sl 2 (mSp a1spans))),qq 2,(7, .vsl 1 33 (List.map ci l2_1).length),(8,I l2_2),qq 9,(35, .p (.sl 5 (mI a0attr.Kids))),(36,I (lenI (mI a0attr.Kids))),(37,I l2_2),(49,B (!r5))],hq67 a0attr x3 (.vec 3 1 (List.map ci l2_1))⟩ krf (sC (!r5) krf ?_ ?_)))
 ·refine sG (xR 1 krf (xIn [] [I 3, .agg [I a0attr.Kind,S a0attr.Name,I a0attr.N,I a0attr.At, .p (.sl 5 (mI a0attr.Kids))]] [] [] [] krf Tryz.func49 rfl Tryz.ntmps49 rfl krf krf krf (sRK tfm (sq24 3 a0attr) krf (sG (xR 6 krf (xPa 116 (.agg [I 3,I a0attr.At]) krf rfl krf (iq_p [] [] krf ?_)))))))
  refine sq_p (bq_p (sq_p (kq_p (bq_p (sq_p ?_)))))
  exact rq_p krf krf
 refine sK (sNK ⟨tq61 a1spans (.vsl 1 33 (List.map ci l2_1).length) l2_2 a0attr,hq67 a0attr x3 (.vec 3 1 (List.map ci l2_1))⟩ krf (sG (xR 4 krf ?_)))
 refine xs_getH krf krf (aop_vidx (e:=3) (S:=1) (tk:=33) (ty:=3) (enc:=ci) (l:=l2_1) (k:=.i64) (n:=l2_2) (nn:=(List.map ci l2_1).length) rfl krf krf krf krf krf zq) (fun x6 hx6=>?_)
 refine xs_u krf krf (aop_vst (S:=1) (tb:=3) (tk:=33) (n:=Int.toNat l2_2) (f:=0) (enc:=ci) (l:=l2_1) (v:=x6) (v':=x3.N) (xv:=I x3.N) rfl krf krf krf (getI_at hx6) krf) (xE (bq_n (sNK (sq25 a1spans (.vsl 1 33 (List.map ci l2_1).length) a0attr l2_2 (.vec 3 1 (List.map ci (List.set l2_1 (Int.toNat l2_2) x3.N)))) krf (sL tfm krf ?_))))
 exact kq_e  (List.set l2_1 (Int.toNat l2_2) x3.N,wi (l2_2+1)) ⟨[1,2,7,35,36,37],[2,33],[],[]⟩ (sq25 a1spans (.vsl 1 33 (List.map ci l2_1).length) a0attr (wi (l2_2+1)) (.vec 3 1 (List.map ci (List.set l2_1 (Int.toNat l2_2) x3.N)))) krf zq
def hc0_srn (yI:GN) (yC:GCo) (yK:GCt) (yG:GCg) (yB:GBay) (yS:GSite) (yF:Bool) (yD:List GDg) (h7_m:List ((List UInt8) × Bool)) (h8_m:List ((List UInt8) × GTh)) (h10_m:List ((List UInt8) × Bool)):List (Nat × Blk):=[(1000, .box 108 ([.ptr 1001 0]++bxc (GN.cs yI)++[.mv 1010]++bxc (GCo.cs yC)++bxc (GCt.cs yK)++bxc (GCg.cs yG)++[S yB.Name,I yB.Charger])),(1001, .box 74 [.tsl 11 (List.map GCo.cs yS.Conductors) 1002, .tsl 1 (List.map GOwner.cs yS.Owners) 1003, .tsl 4 (List.map GCt.cs yS.Contracts) 1004, .tsl 8 (List.map GCg.cs yS.Chargers) 1005, .tsl 2 (List.map GBay.cs yS.Bays) 1006, .mv 1007,B yF, .mv 1008, .tsl 2 (List.map GDg.cs yD) 1009]),(1002, .arr 49 11 (List.map GCo.cs yS.Conductors).length),(1003, .arr 52 1 (List.map GOwner.cs yS.Owners).length),(1004, .arr 54 4 (List.map GCt.cs yS.Contracts).length),(1005, .arr 56 8 (List.map GCg.cs yS.Chargers).length),(1006, .arr 58 2 (List.map GBay.cs yS.Bays).length),(1007, .mp (mpL mk_msb mv_msb h7_m)),(1008, .mp (mpL mk_mst mv_mst h8_m)),(1009, .arr 65 2 (List.map GDg.cs yD).length),(1010, .mp (mpL mk_msb mv_msb h10_m)),(1011, .arr 3 1 (List.map ci [1,2]).length)]
def kp_srn:List Nat:=[1000,1001,1002,1003,1004,1005,1006,1007,1008,1009,1010,1011]
def g_sr_name_j5 (a1attr:GN):Option (Except (Int × Int) Int) :=
 some (.error (8,a1attr.At))
def g_sr_name_l6 (a1attr:GN) (h8_m:List ((List UInt8) × GTh)) (x4:GN) (recl6:Int→Option (Except (Int × Int) Int)) (l6:Int):Option (Except (Int × Int) Int) :=
 cond (ltI l6 (lenI (List.map ci [1,2])))
  ((getI [1,2] l6).bind fun x7 =>
  cond (eqI x7 ((mgetD me_mst x4.Name (⟨0,0⟩:GTh) h8_m).kind))
   (some (.ok ((mgetD me_mst x4.Name (⟨0,0⟩:GTh) h8_m).index)))
   (recl6 (wi (l6+1))))
  (g_sr_name_j5 a1attr)
def g_sr_name (n:Nat) (a1attr:GN) (yI:GN) (yC:GCo) (yK:GCt) (yG:GCg) (yB:GBay) (yS:GSite) (yF:Bool) (yD:List GDg) (h7_m:List ((List UInt8) × Bool)) (h8_m:List ((List UInt8) × GTh)) (h10_m:List ((List UInt8) × Bool)):Option (Except (Int × Int) Int) :=
 (cond (!eqI (lenI (List.map idc a1attr.Kids)) 1)
  (some true)
  ((Option.bind (getI a1attr.Kids 0) GN.of).bind fun x3 =>
  some (!eqI x3.Kind 5))).bind fun j1 =>
 cond j1
  (some (.error (9,a1attr.At)))
  ((Option.bind (getI a1attr.Kids 0) GN.of).bind fun x4 =>
  cond (mhas me_mst x4.Name h8_m)
   (loopN (fun recl6 l6=>g_sr_name_l6 a1attr h8_m x4 recl6 l6) n 0)
   (g_sr_name_j5 a1attr))
def hp_srn (yI:GN) (yC:GCo) (yK:GCt) (yG:GCg) (yB:GBay) (yS:GSite) (yF:Bool) (yD:List GDg) (h7_m:List ((List UInt8) × Bool)) (h8_m:List ((List UInt8) × GTh)) (h10_m:List ((List UInt8) × Bool)):List (Nat × Blk):=hc0_srn yI yC yK yG yB yS yF yD h7_m h8_m h10_m
def tq63:=fun x0=>([(0, .ptr 1000 0),(2, .tsl 1 (List.map ci x0) 1011),(4, .ptr 4 0)]:List (Nat × AV))
def hq68:=fun x0=>([(4, .box 24 (bxc (GN.cs x0)))]:List (Nat × Blk))
def tq64:=fun x0 x1=>([(0, .ptr 1000 0),(2, .tsl 1 (List.map ci x0) 1011),(4, .ptr 4 0),(22,B x1)]:List (Nat × AV))
def tq65:=fun x0 x1=>([(2, .tsl 1 (List.map ci x0) 1011),(4, .ptr 4 0),(7, .ptr 7 0),(8,B x1)]:List (Nat × AV))
def bq25:=fun x0=>(.box 137 (bxc (GTh.cs x0)):Blk)
def hq69:=fun x0 x1=>([(4, .box 24 (bxc (GN.cs x0))),(7,(bq25 x1))]:List (Nat × Blk))
def tq66:=fun x0 x1=>([(2, .tsl 1 (List.map ci x0) 1011),(4, .ptr 4 0),(7, .ptr 7 0),(41,B x1)]:List (Nat × AV))
def tq67:=fun x0 x1 x2=>([(4, .ptr 4 0),(7, .ptr 7 0),(42, .tsl 1 (List.map ci x0) 1011),(43,I (lenI (List.map ci x1))),(44,I x2)]:List (Nat × AV))
def tq68:=fun x0 x1 x2 x3=>([(4, .ptr 4 0),(7, .ptr 7 0),(42, .tsl 1 (List.map ci x0) 1011),(43,I (lenI (List.map ci x1))),(44,I x2),(45,B x3)]:List (Nat × AV))
def tq69:=fun x0 x1 x2 x3=>([(4, .ptr 4 0),(7, .ptr 7 0),(10,I x0),(42, .tsl 1 (List.map ci x1) 1011),(43,I (lenI (List.map ci x2))),(44,I x3)]:List (Nat × AV))
def tq70:=fun x0 x1 x2 x3=>([(4, .ptr 4 0),(7, .ptr 7 0),(42, .tsl 1 (List.map ci x0) 1011),(43,I (lenI (List.map ci x1))),(44,I x2),(51,B x3)]:List (Nat × AV))
theorem g_sr_name_ok (n:Nat) (a1attr:GN) (yI:GN) (yC:GCo) (yK:GCt) (yG:GCg) (yB:GBay) (yS:GSite) (yF:Bool) (yD:List GDg) (h7_m:List ((List UInt8) × Bool)) (h8_m:List ((List UInt8) × GTh)) (h10_m:List ((List UInt8) × Bool)):∀ r,g_sr_name n a1attr yI yC yK yG yB yS yF yD h7_m h8_m h10_m=some r→ACall Tryz.prog 45 [pZ0,ag (GN.cs a1attr), .tsl 1 (List.map ci [1,2]) 1011] (Go.Abs.look (hp_srn yI yC yK yG yB yS yF yD h7_m h8_m h10_m)) (heapR (excX (fun r:Int=>((.ret (I r),hp_srn yI yC yK yG yB yS yF yD h7_m h8_m h10_m):AEnd × List (Nat × Blk))) (fun e:(Int × Int)=>((.panic (.ifc 116 (.agg [I e.1,I e.2])),hp_srn yI yC yK yG yB yS yF yD h7_m h8_m h10_m):AEnd × List (Nat × Blk)))) r):=by
 refine acall_sim (X:=excX (fun r:Int=>((.ret (I r),hp_srn yI yC yK yG yB yS yF yD h7_m h8_m h10_m):AEnd × List (Nat × Blk))) (fun e:(Int × Int)=>((.panic (.ifc 116 (.agg [I e.1,I e.2])),hp_srn yI yC yK yG yB yS yF yD h7_m h8_m h10_m):AEnd × List (Nat × Blk)))) (hp_srn yI yC yK yG yB yS yF yD h7_m h8_m h10_m) Tryz.func45 rfl Tryz.ntmps45 rfl ?_
 unfold g_sr_name
 refine sRK tfm ⟨tq63 [1,2],hq68 a1attr++hc0_srn yI yC yK yG yB yS yF yD h7_m h8_m h10_m⟩ krf (sS (sBi (fun j1=>⟨tq64 [1,2] j1,hq68 a1attr++hc0_srn yI yC yK yG yB yS yF yD h7_m h8_m h10_m⟩:Bool→St) ?_ ?_))
 ·refine sG (xR 5 krf ?_)
  refine xS (!eqI (lenI (mI a1attr.Kids)) 1) (fun h2=>?_) (fun h2=>?_)
  ·refine xN (want_ft krf h2) krf (xR 6 krf (xE ?_))
   exact nqK true krf
  refine xO (want_ff krf h2) krf (xR 1 krf ?_)
  refine xG krf krf (aop_idxR (e:=24) (S:=5) (enc:=GN.cs) (dec:=GN.of) (l:=a1attr.Kids) (k:=.i64) (n:=0) (sv:=.p (.sl 5 (mI a1attr.Kids))) GN.of_cs rfl krf krf krf krf krf) (fun x3=>?_)
  refine xR 4 krf (xE ?_)
  exact nqK (!eqI x3.Kind 5) krf
 rintro j1
 refine sC j1 krf ?_ ?_
 ·refine sG (xR 1 krf (xIn [] [I 9, .agg [I a1attr.Kind,S a1attr.Name,I a1attr.N,I a1attr.At, .p (.sl 5 (mI a1attr.Kids))]] [] [] [] krf Tryz.func49 rfl Tryz.ntmps49 rfl krf krf krf (sRK tfm (sq24 9 a1attr) krf (sG (xR 6 krf (xPa 116 (.agg [I 9,I a1attr.At]) krf rfl krf (iq_p [] [] krf ?_)))))))
  refine sq_p ?_
  exact hq_p kp_srn [] krf krf krf
 refine sK (sNK ⟨tq63 [1,2],hq68 a1attr++hc0_srn yI yC yK yG yB yS yF yD h7_m h8_m h10_m⟩ krf (sS (sDr tfm rfl (xR 9 krf ?_))))
 refine xG krf krf (aop_idxR (e:=24) (S:=5) (enc:=GN.cs) (dec:=GN.of) (l:=a1attr.Kids) (k:=.i64) (n:=0) (sv:=.p (.sl 5 (mI a1attr.Kids))) GN.of_cs rfl krf krf krf krf krf) (fun x4=>?_)
 refine xR 2 krf ?_
 refine xs_u krf krf (aop_look (kt:=9) (e:=137) (ke:=mk_mst) (ve:=mv_mst) (eq:=me_mst) (b:=1008) (m:=h8_m) (k:=x4.Name) (z0:=(⟨0,0⟩:GTh)) rfl krf krf krf krf krf kff (fun _ _=>eqV_strK rfl _ _) krf) ?_
 refine xR 6 krf (xED krf (sNK ⟨tq65 [1,2] (mhas me_mst x4.Name h8_m),hq69 a1attr (mgetD me_mst x4.Name (⟨0,0⟩:GTh) h8_m)++hc0_srn yI yC yK yG yB yS yF yD h7_m h8_m h10_m⟩ krf (sim_cps (fun _=>⟨[qq 4],hq68 a1attr++hc0_srn yI yC yK yG yB yS yF yD h7_m h8_m h10_m⟩:Unit→St) (fun _=>g_sr_name_j5 a1attr) ?_ ?_)))
 ·rintro _
  show SimE (g_sr_name_j5 a1attr) _ _ _ _ _ _
  unfold g_sr_name_j5
  refine sS (sG (xR 1 krf (xIn [] [I 8, .agg [I a1attr.Kind,S a1attr.Name,I a1attr.N,I a1attr.At, .p (.sl 5 (mI a1attr.Kids))]] [] [] [] krf Tryz.func49 rfl Tryz.ntmps49 rfl krf krf krf (sRK tfm (sq24 8 a1attr) krf (sG (xR 6 krf (xPa 116 (.agg [I 8,I a1attr.At]) krf rfl krf ?_)))))))
  refine iq_p [] [] krf (sq_p ?_)
  exact hq_p kp_srn [] krf krf krf
 refine sRK tfm ⟨tq66 [1,2] (mhas me_mst x4.Name h8_m),hq69 a1attr (mgetD me_mst x4.Name (⟨0,0⟩:GTh) h8_m)++hc0_srn yI yC yK yG yB yS yF yD h7_m h8_m h10_m⟩ krf (sC (mhas me_mst x4.Name h8_m) krf ?_ ?_)
 rotate_left
 ·refine sK ?_
  exact kqK (k:=fun _=>g_sr_name_j5 a1attr) () krf
 refine sRK tfm ⟨tq67 [1,2] [1,2] 0,hq69 a1attr (mgetD me_mst x4.Name (⟨0,0⟩:GTh) h8_m)++hc0_srn yI yC yK yG yB yS yF yD h7_m h8_m h10_m⟩ krf (sB (sim_loop (fun l6=>⟨tq67 [1,2] [1,2] l6,hq69 a1attr (mgetD me_mst x4.Name (⟨0,0⟩:GTh) h8_m)++hc0_srn yI yC yK yG yB yS yF yD h7_m h8_m h10_m⟩:Int→St) (wsK krf) ?_))
 rintro recl6 l6
 show SimE (g_sr_name_l6 a1attr h8_m x4 recl6 l6) _ _ _ _ _ _
 unfold g_sr_name_l6
 refine sRK tfm ⟨tq68 [1,2] [1,2] l6 (ltI l6 (lenI (List.map ci [1,2]))),hq69 a1attr (mgetD me_mst x4.Name (⟨0,0⟩:GTh) h8_m)++hc0_srn yI yC yK yG yB yS yF yD h7_m h8_m h10_m⟩ krf (sS (sC (ltI l6 (lenI (List.map ci [1,2]))) krf ?_ ?_))
 rotate_left
 ·refine sim_exit (sq_x (kq_x (bq_hit ?_)))
  exact kqK (k:=fun _=>g_sr_name_j5 a1attr) () krf
 refine sK (sNK ⟨tq67 [1,2] [1,2] l6,hq69 a1attr (mgetD me_mst x4.Name (⟨0,0⟩:GTh) h8_m)++hc0_srn yI yC yK yG yB yS yF yD h7_m h8_m h10_m⟩ krf (sS (sB (sS (sG ?_)))))
 refine xG krf krf (aop_idx (e:=3) (S:=1) (enc:=ci) (l:=[1,2]) (k:=.i64) (n:=l6) (sv:=.tsl 1 (List.map ci [1,2]) 1011) rfl krf krf krf krf krf) (fun x7=>?_)
 refine xR 2 krf (xE (sNK ⟨tq69 x7 [1,2] [1,2] l6,hq69 a1attr (mgetD me_mst x4.Name (⟨0,0⟩:GTh) h8_m)++hc0_srn yI yC yK yG yB yS yF yD h7_m h8_m h10_m⟩ krf (sRK tfm ⟨tq70 [1,2] [1,2] l6 (eqI x7 ((mgetD me_mst x4.Name (⟨0,0⟩:GTh) h8_m).kind)),hq69 a1attr (mgetD me_mst x4.Name (⟨0,0⟩:GTh) h8_m)++hc0_srn yI yC yK yG yB yS yF yD h7_m h8_m h10_m⟩ krf (sC (eqI x7 ((mgetD me_mst x4.Name (⟨0,0⟩:GTh) h8_m).kind)) krf ?_ ?_))))
 ·refine sRK tfm ⟨[(6,I ((mgetD me_mst x4.Name (⟨0,0⟩:GTh) h8_m).index))],hc0_srn yI yC yK yG yB yS yF yD h7_m h8_m h10_m⟩ krf (sT (bq_r (sq_r (kq_r (bq_r (kq_r ?_))))))
  exact hq_ret (.id) kp_srn [] krf krf krf krf
 refine sK (bq_n (sNK ⟨tq67 [1,2] [1,2] l6,hq69 a1attr (mgetD me_mst x4.Name (⟨0,0⟩:GTh) h8_m)++hc0_srn yI yC yK yG yB yS yF yD h7_m h8_m h10_m⟩ krf (sL tfm krf ?_)))
 exact kqK (wi (l6+1)) krf
def hc0_srn_2 (yI:GN) (yC:GCo) (yK:GCt) (yG:GCg) (yB:GBay) (yS:GSite) (yF:Bool) (yD:List GDg) (h7_m:List ((List UInt8) × Bool)) (h8_m:List ((List UInt8) × GTh)) (h10_m:List ((List UInt8) × Bool)):List (Nat × Blk):=[(1000, .box 108 ([.ptr 1001 0]++bxc (GN.cs yI)++[.mv 1010]++bxc (GCo.cs yC)++bxc (GCt.cs yK)++bxc (GCg.cs yG)++[S yB.Name,I yB.Charger])),(1001, .box 74 [.tsl 11 (List.map GCo.cs yS.Conductors) 1002, .tsl 1 (List.map GOwner.cs yS.Owners) 1003, .tsl 4 (List.map GCt.cs yS.Contracts) 1004, .tsl 8 (List.map GCg.cs yS.Chargers) 1005, .tsl 2 (List.map GBay.cs yS.Bays) 1006, .mv 1007,B yF, .mv 1008, .tsl 2 (List.map GDg.cs yD) 1009]),(1002, .arr 49 11 (List.map GCo.cs yS.Conductors).length),(1003, .arr 52 1 (List.map GOwner.cs yS.Owners).length),(1004, .arr 54 4 (List.map GCt.cs yS.Contracts).length),(1005, .arr 56 8 (List.map GCg.cs yS.Chargers).length),(1006, .arr 58 2 (List.map GBay.cs yS.Bays).length),(1007, .mp (mpL mk_msb mv_msb h7_m)),(1008, .mp (mpL mk_mst mv_mst h8_m)),(1009, .arr 65 2 (List.map GDg.cs yD).length),(1010, .mp (mpL mk_msb mv_msb h10_m)),(1011, .arr 3 1 (List.map ci [3]).length)]
def kp_srn_2:List Nat:=[1000,1001,1002,1003,1004,1005,1006,1007,1008,1009,1010,1011]
def g_sr_name_2_j5 (a1attr:GN):Option (Except (Int × Int) Int) :=
 some (.error (8,a1attr.At))
def g_sr_name_2_l6 (a1attr:GN) (h8_m:List ((List UInt8) × GTh)) (x4:GN) (recl6:Int→Option (Except (Int × Int) Int)) (l6:Int):Option (Except (Int × Int) Int) :=
 cond (ltI l6 (lenI (List.map ci [3])))
  ((getI [3] l6).bind fun x7 =>
  cond (eqI x7 ((mgetD me_mst x4.Name (⟨0,0⟩:GTh) h8_m).kind))
   (some (.ok ((mgetD me_mst x4.Name (⟨0,0⟩:GTh) h8_m).index)))
   (recl6 (wi (l6+1))))
  (g_sr_name_2_j5 a1attr)
def g_sr_name_2 (n:Nat) (a1attr:GN) (yI:GN) (yC:GCo) (yK:GCt) (yG:GCg) (yB:GBay) (yS:GSite) (yF:Bool) (yD:List GDg) (h7_m:List ((List UInt8) × Bool)) (h8_m:List ((List UInt8) × GTh)) (h10_m:List ((List UInt8) × Bool)):Option (Except (Int × Int) Int) :=
 (cond (!eqI (lenI (List.map idc a1attr.Kids)) 1)
  (some true)
  ((Option.bind (getI a1attr.Kids 0) GN.of).bind fun x3 =>
  some (!eqI x3.Kind 5))).bind fun j1 =>
 cond j1
  (some (.error (9,a1attr.At)))
  ((Option.bind (getI a1attr.Kids 0) GN.of).bind fun x4 =>
  cond (mhas me_mst x4.Name h8_m)
   (loopN (fun recl6 l6=>g_sr_name_2_l6 a1attr h8_m x4 recl6 l6) n 0)
   (g_sr_name_2_j5 a1attr))
def hp_srn_2 (yI:GN) (yC:GCo) (yK:GCt) (yG:GCg) (yB:GBay) (yS:GSite) (yF:Bool) (yD:List GDg) (h7_m:List ((List UInt8) × Bool)) (h8_m:List ((List UInt8) × GTh)) (h10_m:List ((List UInt8) × Bool)):List (Nat × Blk):=hc0_srn_2 yI yC yK yG yB yS yF yD h7_m h8_m h10_m
def sq26:=fun x0 x1 x2 x3 x4 x5 x6 x7 x8 x9 x10 x11 x12 x13=>(⟨tq67 [3] [3] x0,hq69 x1 x2++hc0_srn_2 x3 x4 x5 x6 x7 x8 x9 x10 x11 x12 x13⟩:St)
theorem g_sr_name_2_ok (n:Nat) (a1attr:GN) (yI:GN) (yC:GCo) (yK:GCt) (yG:GCg) (yB:GBay) (yS:GSite) (yF:Bool) (yD:List GDg) (h7_m:List ((List UInt8) × Bool)) (h8_m:List ((List UInt8) × GTh)) (h10_m:List ((List UInt8) × Bool)):∀ r,g_sr_name_2 n a1attr yI yC yK yG yB yS yF yD h7_m h8_m h10_m=some r→ACall Tryz.prog 45 [pZ0,ag (GN.cs a1attr), .tsl 1 (List.map ci [3]) 1011] (Go.Abs.look (hp_srn_2 yI yC yK yG yB yS yF yD h7_m h8_m h10_m)) (heapR (excX (fun r:Int=>((.ret (I r),hp_srn_2 yI yC yK yG yB yS yF yD h7_m h8_m h10_m):AEnd × List (Nat × Blk))) (fun e:(Int × Int)=>((.panic (.ifc 116 (.agg [I e.1,I e.2])),hp_srn_2 yI yC yK yG yB yS yF yD h7_m h8_m h10_m):AEnd × List (Nat × Blk)))) r):=by
 refine acall_sim (X:=excX (fun r:Int=>((.ret (I r),hp_srn_2 yI yC yK yG yB yS yF yD h7_m h8_m h10_m):AEnd × List (Nat × Blk))) (fun e:(Int × Int)=>((.panic (.ifc 116 (.agg [I e.1,I e.2])),hp_srn_2 yI yC yK yG yB yS yF yD h7_m h8_m h10_m):AEnd × List (Nat × Blk)))) (hp_srn_2 yI yC yK yG yB yS yF yD h7_m h8_m h10_m) Tryz.func45 rfl Tryz.ntmps45 rfl ?_
 unfold g_sr_name_2
 refine sRK tfm ⟨tq63 [3],hq68 a1attr++hc0_srn_2 yI yC yK yG yB yS yF yD h7_m h8_m h10_m⟩ krf (sS (sBi (fun j1=>⟨tq64 [3] j1,hq68 a1attr++hc0_srn_2 yI yC yK yG yB yS yF yD h7_m h8_m h10_m⟩:Bool→St) ?_ ?_))
 ·refine sG (xR 5 krf ?_)
  refine xS (!eqI (lenI (mI a1attr.Kids)) 1) (fun h2=>?_) (fun h2=>?_)
  ·refine xN (want_ft krf h2) krf (xR 6 krf (xE ?_))
   exact nqK true krf
  refine xO (want_ff krf h2) krf (xR 1 krf ?_)
  refine xG krf krf (aop_idxR (e:=24) (S:=5) (enc:=GN.cs) (dec:=GN.of) (l:=a1attr.Kids) (k:=.i64) (n:=0) (sv:=.p (.sl 5 (mI a1attr.Kids))) GN.of_cs rfl krf krf krf krf krf) (fun x3=>?_)
  refine xR 4 krf (xE ?_)
  exact nqK (!eqI x3.Kind 5) krf
 rintro j1
 refine sC j1 krf ?_ ?_
 ·refine sG (xR 1 krf (xIn [] [I 9, .agg [I a1attr.Kind,S a1attr.Name,I a1attr.N,I a1attr.At, .p (.sl 5 (mI a1attr.Kids))]] [] [] [] krf Tryz.func49 rfl Tryz.ntmps49 rfl krf krf krf (sRK tfm (sq24 9 a1attr) krf (sG (xR 6 krf (xPa 116 (.agg [I 9,I a1attr.At]) krf rfl krf (iq_p [] [] krf ?_)))))))
  refine sq_p ?_
  exact hq_p kp_srn_2 [] krf krf krf
 refine sK (sNK ⟨tq63 [3],hq68 a1attr++hc0_srn_2 yI yC yK yG yB yS yF yD h7_m h8_m h10_m⟩ krf (sS (sDr tfm rfl (xR 9 krf ?_))))
 refine xG krf krf (aop_idxR (e:=24) (S:=5) (enc:=GN.cs) (dec:=GN.of) (l:=a1attr.Kids) (k:=.i64) (n:=0) (sv:=.p (.sl 5 (mI a1attr.Kids))) GN.of_cs rfl krf krf krf krf krf) (fun x4=>?_)
 refine xR 2 krf ?_
 refine xs_u krf krf (aop_look (kt:=9) (e:=137) (ke:=mk_mst) (ve:=mv_mst) (eq:=me_mst) (b:=1008) (m:=h8_m) (k:=x4.Name) (z0:=(⟨0,0⟩:GTh)) rfl krf krf krf krf krf kff (fun _ _=>eqV_strK rfl _ _) krf) ?_
 refine xR 6 krf (xED krf (sNK ⟨tq65 [3] (mhas me_mst x4.Name h8_m),hq69 a1attr (mgetD me_mst x4.Name (⟨0,0⟩:GTh) h8_m)++hc0_srn_2 yI yC yK yG yB yS yF yD h7_m h8_m h10_m⟩ krf (sim_cps (fun _=>⟨[qq 4],hq68 a1attr++hc0_srn_2 yI yC yK yG yB yS yF yD h7_m h8_m h10_m⟩:Unit→St) (fun _=>g_sr_name_2_j5 a1attr) ?_ ?_)))
 ·rintro _
  show SimE (g_sr_name_2_j5 a1attr) _ _ _ _ _ _
  unfold g_sr_name_2_j5
  refine sS (sG (xR 1 krf (xIn [] [I 8, .agg [I a1attr.Kind,S a1attr.Name,I a1attr.N,I a1attr.At, .p (.sl 5 (mI a1attr.Kids))]] [] [] [] krf Tryz.func49 rfl Tryz.ntmps49 rfl krf krf krf (sRK tfm (sq24 8 a1attr) krf (sG (xR 6 krf (xPa 116 (.agg [I 8,I a1attr.At]) krf rfl krf ?_)))))))
  refine iq_p [] [] krf (sq_p ?_)
  exact hq_p kp_srn_2 [] krf krf krf
 refine sRK tfm ⟨tq66 [3] (mhas me_mst x4.Name h8_m),hq69 a1attr (mgetD me_mst x4.Name (⟨0,0⟩:GTh) h8_m)++hc0_srn_2 yI yC yK yG yB yS yF yD h7_m h8_m h10_m⟩ krf (sC (mhas me_mst x4.Name h8_m) krf ?_ ?_)
 rotate_left
 ·refine sK ?_
  exact kqK (k:=fun _=>g_sr_name_2_j5 a1attr) () krf
 refine sRK tfm (sq26 0 a1attr (mgetD me_mst x4.Name (⟨0,0⟩:GTh) h8_m) yI yC yK yG yB yS yF yD h7_m h8_m h10_m) krf (sB (sim_loop (fun l6=>(sq26 l6 a1attr (mgetD me_mst x4.Name (⟨0,0⟩:GTh) h8_m) yI yC yK yG yB yS yF yD h7_m h8_m h10_m):Int→St) (wsK krf) ?_))
 rintro recl6 l6
 show SimE (g_sr_name_2_l6 a1attr h8_m x4 recl6 l6) _ _ _ _ _ _
 unfold g_sr_name_2_l6
 refine sRK tfm ⟨tq68 [3] [3] l6 (ltI l6 (lenI (List.map ci [3]))),hq69 a1attr (mgetD me_mst x4.Name (⟨0,0⟩:GTh) h8_m)++hc0_srn_2 yI yC yK yG yB yS yF yD h7_m h8_m h10_m⟩ krf (sS (sC (ltI l6 (lenI (List.map ci [3]))) krf ?_ ?_))
 rotate_left
 ·refine sim_exit (sq_x (kq_x (bq_hit ?_)))
  exact kqK (k:=fun _=>g_sr_name_2_j5 a1attr) () krf
 refine sK (sNK (sq26 l6 a1attr (mgetD me_mst x4.Name (⟨0,0⟩:GTh) h8_m) yI yC yK yG yB yS yF yD h7_m h8_m h10_m) krf (sS (sB (sS (sG ?_)))))
 refine xG krf krf (aop_idx (e:=3) (S:=1) (enc:=ci) (l:=[3]) (k:=.i64) (n:=l6) (sv:=.tsl 1 (List.map ci [3]) 1011) rfl krf krf krf krf krf) (fun x7=>?_)
 refine xR 2 krf (xE (sNK ⟨tq69 x7 [3] [3] l6,hq69 a1attr (mgetD me_mst x4.Name (⟨0,0⟩:GTh) h8_m)++hc0_srn_2 yI yC yK yG yB yS yF yD h7_m h8_m h10_m⟩ krf (sRK tfm ⟨tq70 [3] [3] l6 (eqI x7 ((mgetD me_mst x4.Name (⟨0,0⟩:GTh) h8_m).kind)),hq69 a1attr (mgetD me_mst x4.Name (⟨0,0⟩:GTh) h8_m)++hc0_srn_2 yI yC yK yG yB yS yF yD h7_m h8_m h10_m⟩ krf (sC (eqI x7 ((mgetD me_mst x4.Name (⟨0,0⟩:GTh) h8_m).kind)) krf ?_ ?_))))
 ·refine sRK tfm ⟨[(6,I ((mgetD me_mst x4.Name (⟨0,0⟩:GTh) h8_m).index))],hc0_srn_2 yI yC yK yG yB yS yF yD h7_m h8_m h10_m⟩ krf (sT (bq_r (sq_r (kq_r (bq_r (kq_r ?_))))))
  exact hq_ret (.id) kp_srn_2 [] krf krf krf krf
 refine sK (bq_n (sNK (sq26 l6 a1attr (mgetD me_mst x4.Name (⟨0,0⟩:GTh) h8_m) yI yC yK yG yB yS yF yD h7_m h8_m h10_m) krf (sL tfm krf ?_)))
 exact kqK (wi (l6+1)) krf
def g_site_phases_l5 (a0attr:GN) (r3:List Int) (recl5:(Int × Int × Int)→Option (Except (Int × Int) Int)) (l5_1:Int) (l5_2:Int) (l5_3:Int):Option (Except (Int × Int) Int) :=
 cond (ltI l5_3 (lenI (List.map ci r3)))
  ((getI r3 l5_3).bind fun x6 =>
  cond (leI x6 l5_2)
   (some (.error (3,a0attr.At)))
   (cond (!ltI (wi (x6 - 1)) 0) (
    recl5 (bOr .i64 l5_1 (shlI .i64 1 (wi (x6 - 1))),x6,wi (l5_3+1))) none))
  (some (.ok l5_1))
def g_site_phases (n:Nat) (a0attr:GN):Option (Except (Int × Int) Int) :=
 (cond (ltI (lenI (List.map idc a0attr.Kids)) 1)
  (some true)
  (some (ltI 3 (lenI (List.map idc a0attr.Kids))))).bind fun j1 =>
 cond j1
  (some (.error (9,a0attr.At)))
  (cond (sliceB 0 (lenI (List.map idc a0attr.Kids)) (List.length [(⟨1,3⟩:GSp),(⟨1,3⟩:GSp),(⟨1,3⟩:GSp)])) (
   (g_site_numbers n a0attr (List.drop (Int.toNat 0) (List.take (Int.toNat (lenI (List.map idc a0attr.Kids))) [(⟨1,3⟩:GSp),(⟨1,3⟩:GSp),(⟨1,3⟩:GSp)]))).bind (exc (fun r3 =>
    loopN (fun recl5 (l5_1,l5_2,l5_3)=>g_site_phases_l5 a0attr r3 recl5 l5_1 l5_2 l5_3) n (0,0,0)) fun e4=>some (.error (e4.1,e4.2)))) none)
def bq26:=fun x0=>(.arr 103 2 (List.map GSp.cs [x0,x0,x0]).length:Blk)
def tq71:=fun x0 x1 x2 x3=>([(1, .ptr 1 0),(4,I x0),(5,I x1),(30, .p (.sl 1 (List.map ci x2))),(31,I (lenI (List.map ci x2))),(32,I x3)]:List (Nat × AV))
def tq72:=fun x0 x1 x2 x3=>([(1, .ptr 1 0),(4,I x0),(7,I x1),(30, .p (.sl 1 (List.map ci x2))),(31,I (lenI (List.map ci x2))),(32,I x3)]:List (Nat × AV))
theorem g_site_phases_ok (n:Nat) (a0attr:GN):∀ r,g_site_phases n a0attr=some r→PCall Tryz.prog 52 [ag (GN.cs a0attr)] (excE (fun r:Int=>(I r:AV)) (fun e:(Int × Int)=>(.ifc 116 (.agg [I e.1,I e.2]):AV)) r):=by
 refine pcall_sim (X:=excE (fun r:Int=>(I r:AV)) (fun e:(Int × Int)=>(.ifc 116 (.agg [I e.1,I e.2]):AV))) Tryz.func52 rfl Tryz.ntmps52 rfl ?_
 unfold g_site_phases
 refine sRK tfm ⟨[qq 1],hq63 a0attr⟩ krf (sS (sBi (fun j1=>⟨[qq 1,(17,B j1)],hq63 a0attr⟩:Bool→St) ?_ ?_))
 ·refine sG (xR 5 krf ?_)
  refine xS (ltI (lenI (mI a0attr.Kids)) 1) (fun h2=>?_) (fun h2=>?_)
  ·refine xN (want_ft krf h2) krf (xR 4 krf (xE ?_))
   exact nqK true krf
  refine xO (want_ff krf h2) krf (xR 4 krf (xE ?_))
  exact nqK (ltI 3 (lenI (mI a0attr.Kids))) krf
 rintro j1
 refine sC j1 krf ?_ ?_
 ·refine sG (xR 1 krf (xIn [] [I 9, .agg [I a0attr.Kind,S a0attr.Name,I a0attr.N,I a0attr.At, .p (.sl 5 (mI a0attr.Kids))]] [] [] [] krf Tryz.func49 rfl Tryz.ntmps49 rfl krf krf krf (sRK tfm (sq24 9 a0attr) krf (sG (xR 6 krf (xPa 116 (.agg [I 9,I a0attr.At]) krf rfl krf (iq_p [] [] krf ?_)))))))
  refine sq_p ?_
  exact rq_p krf krf
 refine sK (sNK ⟨[qq 1],hq63 a0attr⟩ krf (sRK tfm ⟨[qq 1,(3, .tsl 2 (mSp [(⟨1,3⟩:GSp),(⟨1,3⟩:GSp),(⟨1,3⟩:GSp)]) 23)],[(1,bGN24 a0attr),(23,(bq26 (⟨1,3⟩:GSp)))]⟩ krf (sRK tfm ⟨[qq 1,(3, .tsl 2 (mSp [(⟨1,3⟩:GSp),(⟨1,3⟩:GSp),(⟨1,3⟩:GSp)]) 23),(4,I 0),(5,I 0)],[(1,bGN24 a0attr),(23,(bq26 (⟨1,3⟩:GSp)))]⟩ krf (sS (sS (sim_drwP 8 tfm rfl krf (xR 6 krf ?_)))))))
 refine xF krf krf (aop_slice (e:=103) (S:=2) (enc:=GSp.cs) (l:=[(⟨1,3⟩:GSp),(⟨1,3⟩:GSp),(⟨1,3⟩:GSp)]) (sv:=.tsl 2 (mSp [(⟨1,3⟩:GSp),(⟨1,3⟩:GSp),(⟨1,3⟩:GSp)]) 23) (a:=0) (b:=lenI (mI a0attr.Kids)) rfl krf krf krf krf krf krf) (xs_seqL rfl krf krf ?_)
 refine xs_exc [] krf (g_site_numbers_ok n a0attr (List.drop (Int.toNat 0) (List.take (Int.toNat (lenI (mI a0attr.Kids))) [(⟨1,3⟩:GSp),(⟨1,3⟩:GSp),(⟨1,3⟩:GSp)]))) krf krf kff kff (fun r3=>?_) (fun e4=>?_)
 rotate_left
 ·refine qd_p rfl (sq_p (sq_p ?_))
  exact rq_p krf krf
 refine xR 1 krf (xE (qd_n (sNK ⟨tq71 0 0 r3 0,hq63 a0attr⟩ krf (sB (sim_loop (fun (l5_1,l5_2,l5_3)=>⟨tq71 l5_1 l5_2 r3 l5_3,hq63 a0attr⟩:(Int × Int × Int)→St) (wsK krf) ?_)))))
 rintro recl5 ⟨l5_1,l5_2,l5_3⟩
 show SimE (g_site_phases_l5 a0attr r3 recl5 l5_1 l5_2 l5_3) _ _ _ _ _ _
 unfold g_site_phases_l5
 refine sRK tfm ⟨[qq 1,(4,I l5_1),(5,I l5_2),(30, .p (.sl 1 (List.map ci r3))),(31,I (lenI (List.map ci r3))),(32,I l5_3),(33,B (ltI l5_3 (lenI (List.map ci r3))))],hq63 a0attr⟩ krf (sS (sC (ltI l5_3 (lenI (List.map ci r3))) krf ?_ ?_))
 rotate_left
 ·refine sim_exit (sq_x (kq_x (bq_hit (sNK ⟨[(4,I l5_1)],[]⟩ krf (sRK tfm ⟨[(2,I l5_1)],[]⟩ krf (sT ?_))))))
  exact qR (.id) krf krf krf
 refine sK (sNK ⟨tq71 l5_1 l5_2 r3 l5_3,hq63 a0attr⟩ krf (sS (sB (sS (sG ?_)))))
 refine xG krf krf (aop_idx (e:=3) (S:=1) (enc:=ci) (l:=r3) (k:=.i64) (n:=l5_3) (sv:=.p (.sl 1 (List.map ci r3))) rfl krf krf krf krf krf) (fun x6=>?_)
 refine xR 2 krf (xE (sNK ⟨[qq 1,(4,I l5_1),(5,I l5_2),(7,I x6),(30, .p (.sl 1 (List.map ci r3))),(31,I (lenI (List.map ci r3))),(32,I l5_3)],hq63 a0attr⟩ krf (sS (sRK tfm ⟨[qq 1,(4,I l5_1),(7,I x6),(30, .p (.sl 1 (List.map ci r3))),(31,I (lenI (List.map ci r3))),(32,I l5_3),(38,B (leI x6 l5_2))],hq63 a0attr⟩ krf (sC (leI x6 l5_2) krf ?_ ?_)))))
 ·refine sG (xR 1 krf (xIn [] [I 3, .agg [I a0attr.Kind,S a0attr.Name,I a0attr.N,I a0attr.At, .p (.sl 5 (mI a0attr.Kids))]] [] [] [] krf Tryz.func49 rfl Tryz.ntmps49 rfl krf krf krf (sRK tfm (sq24 3 a0attr) krf (sG (xR 6 krf (xPa 116 (.agg [I 3,I a0attr.At]) krf rfl krf (iq_p [] [] krf ?_)))))))
  refine sq_p (bq_p (sq_p (kq_p (bq_p (sq_p ?_)))))
  exact rq_p krf krf
 refine sK (sNK ⟨tq72 l5_1 x6 r3 l5_3,hq63 a0attr⟩ krf (sS (sG (xR 3 krf (xF krf krf (aop_shl (k:=.i64) (k':=.i64) (a:=1) (b:=wi (x6 - 1)) rfl krf krf) (xR 2 krf (xE ?_)))))))
 refine sNK ⟨tq72 (bOr .i64 l5_1 (shlI .i64 1 (wi (x6 - 1)))) x6 r3 l5_3,hq63 a0attr⟩ krf (sL tfm krf (bq_n (sNK ⟨tq71 (bOr .i64 l5_1 (shlI .i64 1 (wi (x6 - 1)))) x6 r3 l5_3,hq63 a0attr⟩ krf (sL tfm krf ?_))))
 exact kqK (bOr .i64 l5_1 (shlI .i64 1 (wi (x6 - 1))),x6,wi (l5_3+1)) krf
def hc0_srn_3 (yI:GN) (yC:GCo) (yK:GCt) (yG:GCg) (yB:GBay) (yS:GSite) (yF:Bool) (yD:List GDg) (h7_m:List ((List UInt8) × Bool)) (h8_m:List ((List UInt8) × GTh)) (h10_m:List ((List UInt8) × Bool)):List (Nat × Blk):=[(1000, .box 108 ([.ptr 1001 0]++bxc (GN.cs yI)++[.mv 1010]++bxc (GCo.cs yC)++bxc (GCt.cs yK)++bxc (GCg.cs yG)++[S yB.Name,I yB.Charger])),(1001, .box 74 [.tsl 11 (List.map GCo.cs yS.Conductors) 1002, .tsl 1 (List.map GOwner.cs yS.Owners) 1003, .tsl 4 (List.map GCt.cs yS.Contracts) 1004, .tsl 8 (List.map GCg.cs yS.Chargers) 1005, .tsl 2 (List.map GBay.cs yS.Bays) 1006, .mv 1007,B yF, .mv 1008, .tsl 2 (List.map GDg.cs yD) 1009]),(1002, .arr 49 11 (List.map GCo.cs yS.Conductors).length),(1003, .arr 52 1 (List.map GOwner.cs yS.Owners).length),(1004, .arr 54 4 (List.map GCt.cs yS.Contracts).length),(1005, .arr 56 8 (List.map GCg.cs yS.Chargers).length),(1006, .arr 58 2 (List.map GBay.cs yS.Bays).length),(1007, .mp (mpL mk_msb mv_msb h7_m)),(1008, .mp (mpL mk_mst mv_mst h8_m)),(1009, .arr 65 2 (List.map GDg.cs yD).length),(1010, .mp (mpL mk_msb mv_msb h10_m)),(1011, .arr 3 1 (List.map ci [5]).length)]
def kp_srn_3:List Nat:=[1000,1001,1002,1003,1004,1005,1006,1007,1008,1009,1010,1011]
def g_sr_name_3_j5 (a1attr:GN):Option (Except (Int × Int) Int) :=
 some (.error (8,a1attr.At))
def g_sr_name_3_l6 (a1attr:GN) (h8_m:List ((List UInt8) × GTh)) (x4:GN) (recl6:Int→Option (Except (Int × Int) Int)) (l6:Int):Option (Except (Int × Int) Int) :=
 cond (ltI l6 (lenI (List.map ci [5])))
  ((getI [5] l6).bind fun x7 =>
  cond (eqI x7 ((mgetD me_mst x4.Name (⟨0,0⟩:GTh) h8_m).kind))
   (some (.ok ((mgetD me_mst x4.Name (⟨0,0⟩:GTh) h8_m).index)))
   (recl6 (wi (l6+1))))
  (g_sr_name_3_j5 a1attr)
def g_sr_name_3 (n:Nat) (a1attr:GN) (yI:GN) (yC:GCo) (yK:GCt) (yG:GCg) (yB:GBay) (yS:GSite) (yF:Bool) (yD:List GDg) (h7_m:List ((List UInt8) × Bool)) (h8_m:List ((List UInt8) × GTh)) (h10_m:List ((List UInt8) × Bool)):Option (Except (Int × Int) Int) :=
 (cond (!eqI (lenI (List.map idc a1attr.Kids)) 1)
  (some true)
  ((Option.bind (getI a1attr.Kids 0) GN.of).bind fun x3 =>
  some (!eqI x3.Kind 5))).bind fun j1 =>
 cond j1
  (some (.error (9,a1attr.At)))
  ((Option.bind (getI a1attr.Kids 0) GN.of).bind fun x4 =>
  cond (mhas me_mst x4.Name h8_m)
   (loopN (fun recl6 l6=>g_sr_name_3_l6 a1attr h8_m x4 recl6 l6) n 0)
   (g_sr_name_3_j5 a1attr))
def hp_srn_3 (yI:GN) (yC:GCo) (yK:GCt) (yG:GCg) (yB:GBay) (yS:GSite) (yF:Bool) (yD:List GDg) (h7_m:List ((List UInt8) × Bool)) (h8_m:List ((List UInt8) × GTh)) (h10_m:List ((List UInt8) × Bool)):List (Nat × Blk):=hc0_srn_3 yI yC yK yG yB yS yF yD h7_m h8_m h10_m
def sq27:=fun x0 x1 x2 x3 x4 x5 x6 x7 x8 x9 x10 x11 x12 x13=>(⟨tq67 [5] [5] x0,hq69 x1 x2++hc0_srn_3 x3 x4 x5 x6 x7 x8 x9 x10 x11 x12 x13⟩:St)
theorem g_sr_name_3_ok (n:Nat) (a1attr:GN) (yI:GN) (yC:GCo) (yK:GCt) (yG:GCg) (yB:GBay) (yS:GSite) (yF:Bool) (yD:List GDg) (h7_m:List ((List UInt8) × Bool)) (h8_m:List ((List UInt8) × GTh)) (h10_m:List ((List UInt8) × Bool)):∀ r,g_sr_name_3 n a1attr yI yC yK yG yB yS yF yD h7_m h8_m h10_m=some r→ACall Tryz.prog 45 [pZ0,ag (GN.cs a1attr), .tsl 1 (List.map ci [5]) 1011] (Go.Abs.look (hp_srn_3 yI yC yK yG yB yS yF yD h7_m h8_m h10_m)) (heapR (excX (fun r:Int=>((.ret (I r),hp_srn_3 yI yC yK yG yB yS yF yD h7_m h8_m h10_m):AEnd × List (Nat × Blk))) (fun e:(Int × Int)=>((.panic (.ifc 116 (.agg [I e.1,I e.2])),hp_srn_3 yI yC yK yG yB yS yF yD h7_m h8_m h10_m):AEnd × List (Nat × Blk)))) r):=by
 refine acall_sim (X:=excX (fun r:Int=>((.ret (I r),hp_srn_3 yI yC yK yG yB yS yF yD h7_m h8_m h10_m):AEnd × List (Nat × Blk))) (fun e:(Int × Int)=>((.panic (.ifc 116 (.agg [I e.1,I e.2])),hp_srn_3 yI yC yK yG yB yS yF yD h7_m h8_m h10_m):AEnd × List (Nat × Blk)))) (hp_srn_3 yI yC yK yG yB yS yF yD h7_m h8_m h10_m) Tryz.func45 rfl Tryz.ntmps45 rfl ?_
 unfold g_sr_name_3
 refine sRK tfm ⟨tq63 [5],hq68 a1attr++hc0_srn_3 yI yC yK yG yB yS yF yD h7_m h8_m h10_m⟩ krf (sS (sBi (fun j1=>⟨tq64 [5] j1,hq68 a1attr++hc0_srn_3 yI yC yK yG yB yS yF yD h7_m h8_m h10_m⟩:Bool→St) ?_ ?_))
 ·refine sG (xR 5 krf ?_)
  refine xS (!eqI (lenI (mI a1attr.Kids)) 1) (fun h2=>?_) (fun h2=>?_)
  ·refine xN (want_ft krf h2) krf (xR 6 krf (xE ?_))
   exact nqK true krf
  refine xO (want_ff krf h2) krf (xR 1 krf ?_)
  refine xG krf krf (aop_idxR (e:=24) (S:=5) (enc:=GN.cs) (dec:=GN.of) (l:=a1attr.Kids) (k:=.i64) (n:=0) (sv:=.p (.sl 5 (mI a1attr.Kids))) GN.of_cs rfl krf krf krf krf krf) (fun x3=>?_)
  refine xR 4 krf (xE ?_)
  exact nqK (!eqI x3.Kind 5) krf
 rintro j1
 refine sC j1 krf ?_ ?_
 ·refine sG (xR 1 krf (xIn [] [I 9, .agg [I a1attr.Kind,S a1attr.Name,I a1attr.N,I a1attr.At, .p (.sl 5 (mI a1attr.Kids))]] [] [] [] krf Tryz.func49 rfl Tryz.ntmps49 rfl krf krf krf (sRK tfm (sq24 9 a1attr) krf (sG (xR 6 krf (xPa 116 (.agg [I 9,I a1attr.At]) krf rfl krf (iq_p [] [] krf ?_)))))))
  refine sq_p ?_
  exact hq_p kp_srn_3 [] krf krf krf
 refine sK (sNK ⟨tq63 [5],hq68 a1attr++hc0_srn_3 yI yC yK yG yB yS yF yD h7_m h8_m h10_m⟩ krf (sS (sDr tfm rfl (xR 9 krf ?_))))
 refine xG krf krf (aop_idxR (e:=24) (S:=5) (enc:=GN.cs) (dec:=GN.of) (l:=a1attr.Kids) (k:=.i64) (n:=0) (sv:=.p (.sl 5 (mI a1attr.Kids))) GN.of_cs rfl krf krf krf krf krf) (fun x4=>?_)
 refine xR 2 krf ?_
 refine xs_u krf krf (aop_look (kt:=9) (e:=137) (ke:=mk_mst) (ve:=mv_mst) (eq:=me_mst) (b:=1008) (m:=h8_m) (k:=x4.Name) (z0:=(⟨0,0⟩:GTh)) rfl krf krf krf krf krf kff (fun _ _=>eqV_strK rfl _ _) krf) ?_
 refine xR 6 krf (xED krf (sNK ⟨tq65 [5] (mhas me_mst x4.Name h8_m),hq69 a1attr (mgetD me_mst x4.Name (⟨0,0⟩:GTh) h8_m)++hc0_srn_3 yI yC yK yG yB yS yF yD h7_m h8_m h10_m⟩ krf (sim_cps (fun _=>⟨[qq 4],hq68 a1attr++hc0_srn_3 yI yC yK yG yB yS yF yD h7_m h8_m h10_m⟩:Unit→St) (fun _=>g_sr_name_3_j5 a1attr) ?_ ?_)))
 ·rintro _
  show SimE (g_sr_name_3_j5 a1attr) _ _ _ _ _ _
  unfold g_sr_name_3_j5
  refine sS (sG (xR 1 krf (xIn [] [I 8, .agg [I a1attr.Kind,S a1attr.Name,I a1attr.N,I a1attr.At, .p (.sl 5 (mI a1attr.Kids))]] [] [] [] krf Tryz.func49 rfl Tryz.ntmps49 rfl krf krf krf (sRK tfm (sq24 8 a1attr) krf (sG (xR 6 krf (xPa 116 (.agg [I 8,I a1attr.At]) krf rfl krf ?_)))))))
  refine iq_p [] [] krf (sq_p ?_)
  exact hq_p kp_srn_3 [] krf krf krf
 refine sRK tfm ⟨tq66 [5] (mhas me_mst x4.Name h8_m),hq69 a1attr (mgetD me_mst x4.Name (⟨0,0⟩:GTh) h8_m)++hc0_srn_3 yI yC yK yG yB yS yF yD h7_m h8_m h10_m⟩ krf (sC (mhas me_mst x4.Name h8_m) krf ?_ ?_)
 rotate_left
 ·refine sK ?_
  exact kqK (k:=fun _=>g_sr_name_3_j5 a1attr) () krf
 refine sRK tfm (sq27 0 a1attr (mgetD me_mst x4.Name (⟨0,0⟩:GTh) h8_m) yI yC yK yG yB yS yF yD h7_m h8_m h10_m) krf (sB (sim_loop (fun l6=>(sq27 l6 a1attr (mgetD me_mst x4.Name (⟨0,0⟩:GTh) h8_m) yI yC yK yG yB yS yF yD h7_m h8_m h10_m):Int→St) (wsK krf) ?_))
 rintro recl6 l6
 show SimE (g_sr_name_3_l6 a1attr h8_m x4 recl6 l6) _ _ _ _ _ _
 unfold g_sr_name_3_l6
 refine sRK tfm ⟨tq68 [5] [5] l6 (ltI l6 (lenI (List.map ci [5]))),hq69 a1attr (mgetD me_mst x4.Name (⟨0,0⟩:GTh) h8_m)++hc0_srn_3 yI yC yK yG yB yS yF yD h7_m h8_m h10_m⟩ krf (sS (sC (ltI l6 (lenI (List.map ci [5]))) krf ?_ ?_))
 rotate_left
 ·refine sim_exit (sq_x (kq_x (bq_hit ?_)))
  exact kqK (k:=fun _=>g_sr_name_3_j5 a1attr) () krf
 refine sK (sNK (sq27 l6 a1attr (mgetD me_mst x4.Name (⟨0,0⟩:GTh) h8_m) yI yC yK yG yB yS yF yD h7_m h8_m h10_m) krf (sS (sB (sS (sG ?_)))))
 refine xG krf krf (aop_idx (e:=3) (S:=1) (enc:=ci) (l:=[5]) (k:=.i64) (n:=l6) (sv:=.tsl 1 (List.map ci [5]) 1011) rfl krf krf krf krf krf) (fun x7=>?_)
 refine xR 2 krf (xE (sNK ⟨tq69 x7 [5] [5] l6,hq69 a1attr (mgetD me_mst x4.Name (⟨0,0⟩:GTh) h8_m)++hc0_srn_3 yI yC yK yG yB yS yF yD h7_m h8_m h10_m⟩ krf (sRK tfm ⟨tq70 [5] [5] l6 (eqI x7 ((mgetD me_mst x4.Name (⟨0,0⟩:GTh) h8_m).kind)),hq69 a1attr (mgetD me_mst x4.Name (⟨0,0⟩:GTh) h8_m)++hc0_srn_3 yI yC yK yG yB yS yF yD h7_m h8_m h10_m⟩ krf (sC (eqI x7 ((mgetD me_mst x4.Name (⟨0,0⟩:GTh) h8_m).kind)) krf ?_ ?_))))
 ·refine sRK tfm ⟨[(6,I ((mgetD me_mst x4.Name (⟨0,0⟩:GTh) h8_m).index))],hc0_srn_3 yI yC yK yG yB yS yF yD h7_m h8_m h10_m⟩ krf (sT (bq_r (sq_r (kq_r (bq_r (kq_r ?_))))))
  exact hq_ret (.id) kp_srn_3 [] krf krf krf krf
 refine sK (bq_n (sNK (sq27 l6 a1attr (mgetD me_mst x4.Name (⟨0,0⟩:GTh) h8_m) yI yC yK yG yB yS yF yD h7_m h8_m h10_m) krf (sL tfm krf ?_)))
 exact kqK (wi (l6+1)) krf
def hc0_sra (yS:GSite) (yF:Bool) (yD:List GDg) (h7_m:List ((List UInt8) × Bool)) (h8_m:List ((List UInt8) × GTh)):List (Nat × Blk):=[(1001, .box 74 [.tsl 11 (List.map GCo.cs yS.Conductors) 1002, .tsl 1 (List.map GOwner.cs yS.Owners) 1003, .tsl 4 (List.map GCt.cs yS.Contracts) 1004, .tsl 8 (List.map GCg.cs yS.Chargers) 1005, .tsl 2 (List.map GBay.cs yS.Bays) 1006, .mv 1007,B yF, .mv 1008, .tsl 2 (List.map GDg.cs yD) 1009]),(1002, .arr 49 11 (List.map GCo.cs yS.Conductors).length),(1003, .arr 52 1 (List.map GOwner.cs yS.Owners).length),(1004, .arr 54 4 (List.map GCt.cs yS.Contracts).length),(1005, .arr 56 8 (List.map GCg.cs yS.Chargers).length),(1006, .arr 58 2 (List.map GBay.cs yS.Bays).length),(1007, .mp (mpL mk_msb mv_msb h7_m)),(1008, .mp (mpL mk_mst mv_mst h8_m)),(1009, .arr 65 2 (List.map GDg.cs yD).length)]
def hc1_sra:List (Nat × Blk):=[(1011, .mf (mfT 1012 1013 1014 1015 1016 1017 1018 1019 1020 1021)),(1012, .arr 3 1 (List.map ci [1,2]).length),(1013, .box 103 [I 1,I 1000]),(1014, .arr 3 1 (List.map ci [2]).length),(1015, .box 104 [.tsl 1 (List.map ci [1,2]) 1012]),(1016, .arr 3 1 (List.map ci [4,5]).length),(1017, .arr 3 1 (List.map ci [4]).length),(1018, .arr 3 1 (List.map ci [4]).length),(1019, .arr 3 1 (List.map ci [5]).length),(1020, .box 103 [I 1,I 80]),(1021, .arr 3 1 (List.map ci [6]).length)]
def kp_sra:List Nat:=[1000,1001,1002,1003,1004,1005,1006,1007,1008,1009,1010,1011,1012,1013,1014,1015,1016,1017,1018,1019,1020,1021]
abbrev ty6:=(Int × GCo × GCt × GCg × GBay × (List ((List UInt8) × Bool)))
abbrev ty0:=(Except ((Int × Int) × GCo × GCt × GCg × GBay × (List ((List UInt8) × Bool))) (GCo × GCt × GCg × GBay × (List ((List UInt8) × Bool))))
def g_sr_attrs_j2 (l1_1:Int) (recl1:ty6→Option ty0) (j2_1:GCo) (j2_2:GCt) (j2_3:GCg) (j2_4:GBay) (j2_5:List ((List UInt8) × Bool)):Option ty0 :=
 recl1 (wi (l1_1+1),j2_1,j2_2,j2_3,j2_4,j2_5)
def g_sr_attrs_l52 (yS:GSite) (l1_1:Int) (l1_2:GCo) (l1_3:GCt) (l1_4:GCg) (l1_5:GBay) (l1_6:List ((List UInt8) × Bool)) (recl1:ty6→Option ty0) (x3:GN) (x51:Int) (recl52:Int→Option ty0) (l52:Int):Option ty0 :=
 cond (ltI l52 (lenI (List.map GCt.cs yS.Contracts)))
  ((getI yS.Contracts l52).bind fun x53 =>
  cond (eqI x53.Card x51)
   (some (.error ((5,x3.At),l1_2,(⟨l1_3.Name,l1_3.Owner,l1_3.Rank,x51⟩:GCt),l1_4,l1_5,mset me_msb x3.Name true l1_6)))
   (recl52 (wi (l52+1))))
  (g_sr_attrs_j2 l1_1 recl1 l1_2 (⟨l1_3.Name,l1_3.Owner,l1_3.Rank,x51⟩:GCt) l1_4 l1_5 (mset me_msb x3.Name true l1_6))
def g_sr_attrs_l1 (n:Nat) (yI:GN) (yS:GSite) (yF:Bool) (yD:List GDg) (h7_m:List ((List UInt8) × Bool)) (h8_m:List ((List UInt8) × GTh)) (recl1:ty6→Option ty0) (l1_1:Int) (l1_2:GCo) (l1_3:GCt) (l1_4:GCg) (l1_5:GBay) (l1_6:List ((List UInt8) × Bool)):Option ty0 :=
 cond (ltI l1_1 (lenI (List.map idc yI.Kids)))
  ((Option.bind (getI yI.Kids l1_1) GN.of).bind fun x3 =>
  cond (!eqI x3.Kind 3)
   (g_sr_attrs_j2 l1_1 recl1 l1_2 l1_3 l1_4 l1_5 l1_6)
   (cond (eqS x3.Name [108,105,109,105,116]&&true)
    ((g_site_rule_of n [1,2] false yI.N).bind fun r7 =>
    cond (!r7)
     (some (.error ((9,x3.At),l1_2,l1_3,l1_4,l1_5,l1_6)))
     (cond (mgetD me_msb x3.Name false l1_6)
      (some (.error ((5,x3.At),l1_2,l1_3,l1_4,l1_5,l1_6)))
      ((g_site_numbers n x3 [(⟨1,1000⟩:GSp)]).bind (exc (fun r8 =>
       (getI r8 0).bind fun x10 =>
       g_sr_attrs_j2 l1_1 recl1 (⟨l1_2.Name,l1_2.Up,x10,l1_2.Neutral,l1_2.Fuse,l1_2.Cable⟩:GCo) l1_3 l1_4 l1_5 (mset me_msb x3.Name true l1_6)) fun e9=>some (.error ((e9.1,e9.2),l1_2,l1_3,l1_4,l1_5,mset me_msb x3.Name true l1_6))))))
    (cond (eqS x3.Name [110,101,117,116,114,97,108]&&true)
     ((g_site_rule_of n [1,2] false yI.N).bind fun r13 =>
     cond (!r13)
      (some (.error ((9,x3.At),l1_2,l1_3,l1_4,l1_5,l1_6)))
      (cond (mgetD me_msb x3.Name false l1_6)
       (some (.error ((5,x3.At),l1_2,l1_3,l1_4,l1_5,l1_6)))
       ((g_site_numbers n x3 [(⟨1,1000⟩:GSp)]).bind (exc (fun r14 =>
        (getI r14 0).bind fun x16 =>
        g_sr_attrs_j2 l1_1 recl1 (⟨l1_2.Name,l1_2.Up,l1_2.Limit,x16,l1_2.Fuse,l1_2.Cable⟩:GCo) l1_3 l1_4 l1_5 (mset me_msb x3.Name true l1_6)) fun e15=>some (.error ((e15.1,e15.2),l1_2,l1_3,l1_4,l1_5,mset me_msb x3.Name true l1_6))))))
     (cond (eqS x3.Name [102,117,115,101]&&true)
      ((g_site_rule_of n [1,2] true yI.N).bind fun r19 =>
      cond (!r19)
       (some (.error ((9,x3.At),l1_2,l1_3,l1_4,l1_5,l1_6)))
       (cond (mgetD me_msb x3.Name false l1_6)
        (some (.error ((5,x3.At),l1_2,l1_3,l1_4,l1_5,l1_6)))
        ((g_site_numbers n x3 [(⟨1,1000⟩:GSp),(⟨0,1000000⟩:GSp)]).bind (exc (fun r20 =>
         (getI r20 0).bind fun x22 =>
         (getI r20 1).bind fun x23 =>
         g_sr_attrs_j2 l1_1 recl1 (⟨l1_2.Name,l1_2.Up,l1_2.Limit,l1_2.Neutral,(⟨x22,x23⟩:GFuse),l1_2.Cable⟩:GCo) l1_3 l1_4 l1_5 (mset me_msb x3.Name true l1_6)) fun e21=>some (.error ((e21.1,e21.2),l1_2,l1_3,l1_4,l1_5,mset me_msb x3.Name true l1_6))))))
      (cond (eqS x3.Name [116,104,101,114,109,97,108]&&true)
       ((g_site_rule_of n [1,2] true yI.N).bind fun r25 =>
       cond (!r25)
        (some (.error ((9,x3.At),l1_2,l1_3,l1_4,l1_5,l1_6)))
        (cond (mgetD me_msb x3.Name false l1_6)
         (some (.error ((5,x3.At),l1_2,l1_3,l1_4,l1_5,l1_6)))
         ((g_site_numbers n x3 [(⟨0,200000⟩:GSp),(⟨0,200000⟩:GSp),(⟨0,1000⟩:GSp),(⟨0,1000⟩:GSp),(⟨1,1000000⟩:GSp)]).bind (exc (fun r26 =>
          (getI r26 0).bind fun x28 =>
          (getI r26 1).bind fun x29 =>
          (getI r26 2).bind fun x30 =>
          (getI r26 3).bind fun x31 =>
          (getI r26 4).bind fun x32 =>
          g_sr_attrs_j2 l1_1 recl1 (⟨l1_2.Name,l1_2.Up,l1_2.Limit,l1_2.Neutral,l1_2.Fuse,(⟨x28,x29,x30,x31,x32⟩:GCable)⟩:GCo) l1_3 l1_4 l1_5 (mset me_msb x3.Name true l1_6)) fun e27=>some (.error ((e27.1,e27.2),l1_2,l1_3,l1_4,l1_5,mset me_msb x3.Name true l1_6))))))
       (cond (eqS x3.Name [102,114,111,109]&&true)
        ((g_site_rule_of n [2] false yI.N).bind fun r35 =>
        cond (!r35)
         (some (.error ((9,x3.At),l1_2,l1_3,l1_4,l1_5,l1_6)))
         (cond (mgetD me_msb x3.Name false l1_6)
          (some (.error ((5,x3.At),l1_2,l1_3,l1_4,l1_5,l1_6)))
          ((g_sr_name n x3 yI l1_2 l1_3 l1_4 l1_5 yS yF yD h7_m h8_m (mset me_msb x3.Name true l1_6)).bind (exc (fun r36 =>
           g_sr_attrs_j2 l1_1 recl1 (⟨l1_2.Name,r36,l1_2.Limit,l1_2.Neutral,l1_2.Fuse,l1_2.Cable⟩:GCo) l1_3 l1_4 l1_5 (mset me_msb x3.Name true l1_6)) fun e37=>some (.error ((e37.1,e37.2),l1_2,l1_3,l1_4,l1_5,mset me_msb x3.Name true l1_6))))))
        (cond (eqS x3.Name [111,119,110,101,114]&&true)
         ((g_site_rule_of n [4,5] false yI.N).bind fun r39 =>
         cond (!r39)
          (some (.error ((9,x3.At),l1_2,l1_3,l1_4,l1_5,l1_6)))
          (cond (mgetD me_msb x3.Name false l1_6)
           (some (.error ((5,x3.At),l1_2,l1_3,l1_4,l1_5,l1_6)))
           ((g_sr_name_2 n x3 yI l1_2 l1_3 l1_4 l1_5 yS yF yD h7_m h8_m (mset me_msb x3.Name true l1_6)).bind (exc (fun r40 =>
            g_sr_attrs_j2 l1_1 recl1 l1_2 (⟨l1_3.Name,r40,l1_3.Rank,l1_3.Card⟩:GCt) (⟨l1_4.Name,l1_4.At,l1_4.Phases,l1_4.Min,l1_4.Max,l1_4.Step,l1_4.Fallback,r40⟩:GCg) l1_5 (mset me_msb x3.Name true l1_6)) fun e41=>some (.error ((e41.1,e41.2),l1_2,l1_3,l1_4,l1_5,mset me_msb x3.Name true l1_6))))))
         (cond (eqS x3.Name [114,97,110,107]&&true)
          ((g_site_rule_of n [4] false yI.N).bind fun r43 =>
          cond (!r43)
           (some (.error ((9,x3.At),l1_2,l1_3,l1_4,l1_5,l1_6)))
           (cond (mgetD me_msb x3.Name false l1_6)
            (some (.error ((5,x3.At),l1_2,l1_3,l1_4,l1_5,l1_6)))
            ((g_site_numbers n x3 [(⟨1,9⟩:GSp)]).bind (exc (fun r44 =>
             (getI r44 0).bind fun x46 =>
             g_sr_attrs_j2 l1_1 recl1 l1_2 (⟨l1_3.Name,l1_3.Owner,x46,l1_3.Card⟩:GCt) l1_4 l1_5 (mset me_msb x3.Name true l1_6)) fun e45=>some (.error ((e45.1,e45.2),l1_2,l1_3,l1_4,l1_5,mset me_msb x3.Name true l1_6))))))
          (cond (eqS x3.Name [99,97,114,100]&&true)
           ((g_site_rule_of n [4] false yI.N).bind fun r48 =>
           cond (!r48)
            (some (.error ((9,x3.At),l1_2,l1_3,l1_4,l1_5,l1_6)))
            (cond (mgetD me_msb x3.Name false l1_6)
             (some (.error ((5,x3.At),l1_2,l1_3,l1_4,l1_5,l1_6)))
             ((g_site_numbers n x3 [(⟨1,1000000⟩:GSp)]).bind (exc (fun r49 =>
              (getI r49 0).bind fun x51 =>
              loopN (fun recl52 l52=>g_sr_attrs_l52 yS l1_1 l1_2 l1_3 l1_4 l1_5 l1_6 recl1 x3 x51 recl52 l52) n 0) fun e50=>some (.error ((e50.1,e50.2),l1_2,l1_3,l1_4,l1_5,mset me_msb x3.Name true l1_6))))))
           (cond (eqS x3.Name [97,116]&&true)
            ((g_site_rule_of n [5] false yI.N).bind fun r55 =>
            cond (!r55)
             (some (.error ((9,x3.At),l1_2,l1_3,l1_4,l1_5,l1_6)))
             (cond (mgetD me_msb x3.Name false l1_6)
              (some (.error ((5,x3.At),l1_2,l1_3,l1_4,l1_5,l1_6)))
              ((g_sr_name n x3 yI l1_2 l1_3 l1_4 l1_5 yS yF yD h7_m h8_m (mset me_msb x3.Name true l1_6)).bind (exc (fun r56 =>
               g_sr_attrs_j2 l1_1 recl1 l1_2 l1_3 (⟨l1_4.Name,r56,l1_4.Phases,l1_4.Min,l1_4.Max,l1_4.Step,l1_4.Fallback,l1_4.Owner⟩:GCg) l1_5 (mset me_msb x3.Name true l1_6)) fun e57=>some (.error ((e57.1,e57.2),l1_2,l1_3,l1_4,l1_5,mset me_msb x3.Name true l1_6))))))
            (cond (eqS x3.Name [112,104,97,115,101,115]&&true)
             ((g_site_rule_of n [5] false yI.N).bind fun r59 =>
             cond (!r59)
              (some (.error ((9,x3.At),l1_2,l1_3,l1_4,l1_5,l1_6)))
              (cond (mgetD me_msb x3.Name false l1_6)
               (some (.error ((5,x3.At),l1_2,l1_3,l1_4,l1_5,l1_6)))
               ((g_site_phases n x3).bind (exc (fun r60 =>
                g_sr_attrs_j2 l1_1 recl1 l1_2 l1_3 (⟨l1_4.Name,l1_4.At,r60,l1_4.Min,l1_4.Max,l1_4.Step,l1_4.Fallback,l1_4.Owner⟩:GCg) l1_5 (mset me_msb x3.Name true l1_6)) fun e61=>some (.error ((e61.1,e61.2),l1_2,l1_3,l1_4,l1_5,mset me_msb x3.Name true l1_6))))))
             (cond (eqS x3.Name [97,109,112,115]&&true)
              ((g_site_rule_of n [5] false yI.N).bind fun r64 =>
              cond (!r64)
               (some (.error ((9,x3.At),l1_2,l1_3,l1_4,l1_5,l1_6)))
               (cond (mgetD me_msb x3.Name false l1_6)
                (some (.error ((5,x3.At),l1_2,l1_3,l1_4,l1_5,l1_6)))
                ((g_site_numbers n x3 [(⟨1,80⟩:GSp),(⟨1,80⟩:GSp),(⟨1,80⟩:GSp)]).bind (exc (fun r65 =>
                 (getI r65 0).bind fun x67 =>
                 (getI r65 1).bind fun x68 =>
                 (getI r65 2).bind fun x69 =>
                 g_sr_attrs_j2 l1_1 recl1 l1_2 l1_3 (⟨l1_4.Name,l1_4.At,l1_4.Phases,x67,x68,x69,l1_4.Fallback,l1_4.Owner⟩:GCg) l1_5 (mset me_msb x3.Name true l1_6)) fun e66=>some (.error ((e66.1,e66.2),l1_2,l1_3,l1_4,l1_5,mset me_msb x3.Name true l1_6))))))
              (cond (eqS x3.Name [102,97,108,108,98,97,99,107]&&true)
               ((g_site_rule_of n [5] false yI.N).bind fun r71 =>
               cond (!r71)
                (some (.error ((9,x3.At),l1_2,l1_3,l1_4,l1_5,l1_6)))
                (cond (mgetD me_msb x3.Name false l1_6)
                 (some (.error ((5,x3.At),l1_2,l1_3,l1_4,l1_5,l1_6)))
                 ((g_site_numbers n x3 [(⟨0,80⟩:GSp)]).bind (exc (fun r72 =>
                  (getI r72 0).bind fun x74 =>
                  g_sr_attrs_j2 l1_1 recl1 l1_2 l1_3 (⟨l1_4.Name,l1_4.At,l1_4.Phases,l1_4.Min,l1_4.Max,l1_4.Step,x74,l1_4.Owner⟩:GCg) l1_5 (mset me_msb x3.Name true l1_6)) fun e73=>some (.error ((e73.1,e73.2),l1_2,l1_3,l1_4,l1_5,mset me_msb x3.Name true l1_6))))))
               (cond (eqS x3.Name [99,104,97,114,103,101,114]&&true)
                ((g_site_rule_of n [6] false yI.N).bind fun r76 =>
                cond (!r76)
                 (some (.error ((9,x3.At),l1_2,l1_3,l1_4,l1_5,l1_6)))
                 (cond (mgetD me_msb x3.Name false l1_6)
                  (some (.error ((5,x3.At),l1_2,l1_3,l1_4,l1_5,l1_6)))
                  ((g_sr_name_3 n x3 yI l1_2 l1_3 l1_4 l1_5 yS yF yD h7_m h8_m (mset me_msb x3.Name true l1_6)).bind (exc (fun r77 =>
                   g_sr_attrs_j2 l1_1 recl1 l1_2 l1_3 l1_4 (⟨l1_5.Name,r77⟩:GBay) (mset me_msb x3.Name true l1_6)) fun e78=>some (.error ((e78.1,e78.2),l1_2,l1_3,l1_4,l1_5,mset me_msb x3.Name true l1_6))))))
                (some (.error ((9,x3.At),l1_2,l1_3,l1_4,l1_5,l1_6)))))))))))))))))
  (some (.ok (l1_2,l1_3,l1_4,l1_5,l1_6)))
def g_sr_attrs (n:Nat) (yI:GN) (yC:GCo) (yK:GCt) (yG:GCg) (yB:GBay) (yS:GSite) (yF:Bool) (yD:List GDg) (h7_m:List ((List UInt8) × Bool)) (h8_m:List ((List UInt8) × GTh)) (h10_m:List ((List UInt8) × Bool)):Option ty0 :=
 loopN (fun recl1 (l1_1,l1_2,l1_3,l1_4,l1_5,l1_6)=>g_sr_attrs_l1 n yI yS yF yD h7_m h8_m recl1 l1_1 l1_2 l1_3 l1_4 l1_5 l1_6) n (0,yC,yK,yG,yB,h10_m)
def hp_sra (yI:GN) (yC:GCo) (yK:GCt) (yG:GCg) (yB:GBay) (yS:GSite) (yF:Bool) (yD:List GDg) (h7_m:List ((List UInt8) × Bool)) (h8_m:List ((List UInt8) × GTh)) (h10_m:List ((List UInt8) × Bool)):List (Nat × Blk):=[(1000, .box 108 ([.ptr 1001 0]++bxc (GN.cs yI)++[.mv 1010]++bxc (GCo.cs yC)++bxc (GCt.cs yK)++bxc (GCg.cs yG)++[S yB.Name,I yB.Charger]))]++hc0_sra yS yF yD h7_m h8_m++[(1010, .mp (mpL mk_msb mv_msb h10_m))]++hc1_sra
def tq73:=fun x0 x1=>([(0, .ptr 1000 0),(1, .mv 1011),(12, .p (.sl 5 (List.map idc (GN.Kids x0)))),(13,I (lenI (List.map idc (GN.Kids x0)))),(14,I x1)]:List (Nat × AV))
def bq27:=fun x0 x1 x2 x3 x4=>(.box 108 ([.ptr 1001 0]++bxc (GN.cs x0)++[.mv 1010]++bxc (GCo.cs x1)++bxc (GCt.cs x2)++bxc (GCg.cs x3)++[S (GBay.Name x4),I (GBay.Charger x4)]):Blk)
def hq70:=fun x0 x1 x2 x3 x4=>([(1000,(bq27 x0 x1 x2 x3 x4))]:List (Nat × Blk))
def hq71:=fun x0=>([(1010, .mp (mpL mk_msb mv_msb x0))]:List (Nat × Blk))
def sq28:=fun x0 x1 x2 x3 x4 x5 x6 x7 x8 x9 x10 x11=>(⟨tq73 x0 x1,hq70 x0 x2 x3 x4 x5++hc0_sra x6 x7 x8 x9 x10++hq71 x11++hc1_sra⟩:St)
def tq74:=fun x0 x1=>([(0, .ptr 1000 0),(1, .mv 1011),(5, .ptr 5 0),(12, .p (.sl 5 (List.map idc (GN.Kids x0)))),(13,I (lenI (List.map idc (GN.Kids x0)))),(14,I x1)]:List (Nat × AV))
def hq72:=fun x0=>([(5, .box 24 (bxc (GN.cs x0)))]:List (Nat × Blk))
def tq75:=fun x0 x1 x2=>([(0, .ptr 1000 0),(1, .mv 1011),(5, .ptr 5 0),(6, .ptr 6 0),(7,B x0),(12, .p (.sl 5 (List.map idc (GN.Kids x1)))),(13,I (lenI (List.map idc (GN.Kids x1)))),(14,I x2)]:List (Nat × AV))
def bq28:=fun x0 x1=>(.box 111 [.tsl 1 (List.map ci [1,2]) 1012,B x0, .fn x1 [] [.ptr 1013 0]]:Blk)
def hq73:=fun x0 x1 x2=>([(5, .box 24 (bxc (GN.cs x0))),(6,(bq28 x1 x2))]:List (Nat × Blk))
def sq29:=fun x0 x1 x2 x3 x4 x5 x6 x7 x8 x9 x10 x11 x12 x13 x14=>(⟨tq75 true x0 x1,hq73 x2 x3 x4++hq70 x0 x5 x6 x7 x8++hc0_sra x9 x10 x11 x12 x13++hq71 x14++hc1_sra⟩:St)
def tq76:=fun x0 x1 x2=>([(0, .ptr 1000 0),(1, .mv 1011),(5, .ptr 5 0),(6, .ptr 6 0),(12, .p (.sl 5 (List.map idc (GN.Kids x0)))),(13,I (lenI (List.map idc (GN.Kids x0)))),(14,I x1),(39,B x2)]:List (Nat × AV))
def sq30:=fun x0 x1 x2 x3 x4 x5 x6 x7 x8 x9 x10 x11 x12 x13 x14 x15=>(⟨tq76 x0 x1 x2,hq73 x3 x4 x5++hq70 x0 x6 x7 x8 x9++hc0_sra x10 x11 x12 x13 x14++hq71 x15++hc1_sra⟩:St)
def tq77:=fun x0 x1=>([(0, .ptr 1000 0),(1, .mv 1011),(5, .ptr 5 0),(6, .ptr 6 0),(12, .p (.sl 5 (List.map idc (GN.Kids x0)))),(13,I (lenI (List.map idc (GN.Kids x0)))),(14,I x1)]:List (Nat × AV))
def sq31:=fun x0 x1 x2 x3 x4 x5 x6 x7 x8 x9 x10 x11 x12 x13 x14=>(⟨tq77 x0 x1,hq73 x2 x3 x4++hq70 x0 x5 x6 x7 x8++hc0_sra x9 x10 x11 x12 x13++hq71 x14++hc1_sra⟩:St)
def tq78:=fun x0 x1 x2=>([(0, .ptr 1000 0),(1, .mv 1011),(5, .ptr 5 0),(6, .ptr 6 0),(12, .p (.sl 5 (List.map idc (GN.Kids x0)))),(13,I (lenI (List.map idc (GN.Kids x0)))),(14,I x1),(48,B x2)]:List (Nat × AV))
def sq32:=fun x0 x1 x2 x3 x4 x5 x6 x7 x8 x9 x10 x11 x12 x13 x14 x15=>(⟨tq78 x0 x1 x2,hq73 x3 x4 x5++hq70 x0 x6 x7 x8 x9++hc0_sra x10 x11 x12 x13 x14++hq71 x15++hc1_sra⟩:St)
def hq74:=fun x0 x1=>([(1010, .mp (mpL mk_msb mv_msb x0)),(1011, .box 103 [I 1,I x1])]:List (Nat × Blk))
def nq6:List (Nat × Nat):=[(1000,1000),(1001,1001),(1002,1002),(1003,1003),(1004,1004),(1005,1005),(1006,1006),(1007,1007),(1008,1008),(1009,1009),(1010,1010),(1011,1013)]
def tq79:List (Nat × AV):=[(0, .ptr 1000 0),(2, .ptr 1011 0),(4, .ptr 4 0)]
def sq33:=fun x0 x1 x2 x3 x4 x5 x6 x7 x8 x9 x10 x11 x12=>(⟨tq79,hq68 x0++hq70 x1 x2 x3 x4 x5++hc0_sra x6 x7 x8 x9 x10++hq74 x11 x12⟩:St)
def tq80:=fun x0=>([(0, .ptr 1000 0),(5, .p (.sl 1 (List.map ci x0)))]:List (Nat × AV))
def bq29:Blk:=.box 111 [.tsl 1 (List.map ci [1,2]) 1012,B true, .p (.val (.func (.func 81) #[] #[]))]
def hq75:=fun x0=>([(5, .box 24 (bxc (GN.cs x0))),(6,bq29)]:List (Nat × Blk))
def sq34:=fun x0 x1 x2 x3 x4 x5 x6 x7 x8 x9 x10 x11 x12=>(⟨tq77 x0 x1,hq75 x2++hq70 x0 x3 x4 x5 x6++hc0_sra x7 x8 x9 x10 x11++hq71 x12++hc1_sra⟩:St)
def nq7:List (Nat × Nat):=[(1000,1000),(1001,1001),(1002,1002),(1003,1003),(1004,1004),(1005,1005),(1006,1006),(1007,1007),(1008,1008),(1009,1009),(1010,1010)]
def sq35:=fun x0 x1 x2 x3 x4 x5 x6 x7 x8 x9 x10 x11=>(⟨[(0, .ptr 1000 0),(3, .ptr 3 0)],hq65 x0++hq70 x1 x2 x3 x4 x5++hc0_sra x6 x7 x8 x9 x10++hq71 x11⟩:St)
def bq30:Blk:=.box 111 [.tsl 1 (List.map ci [2]) 1014,B false, .fn (.func 82) [] [.ptr 1015 0]]
def hq76:=fun x0=>([(5, .box 24 (bxc (GN.cs x0))),(6,bq30)]:List (Nat × Blk))
def sq36:=fun x0 x1 x2 x3 x4 x5 x6 x7 x8 x9 x10 x11 x12=>(⟨tq77 x0 x1,hq76 x2++hq70 x0 x3 x4 x5 x6++hc0_sra x7 x8 x9 x10 x11++hq71 x12++hc1_sra⟩:St)
def bq31:Blk:=.box 104 [.tsl 1 (List.map ci [1,2]) 1011]
def hq77:=fun x0=>([(1010, .mp (mpL mk_msb mv_msb x0)),(1011, .arr 3 1 (List.map ci [1,2]).length),(1012,bq31)]:List (Nat × Blk))
def bq32:Blk:=.box 111 [.tsl 1 (List.map ci [4,5]) 1016,B false, .p (.val (.func (.func 44) #[] #[]))]
def hq78:=fun x0=>([(5, .box 24 (bxc (GN.cs x0))),(6,bq32)]:List (Nat × Blk))
def sq37:=fun x0 x1 x2 x3 x4 x5 x6 x7 x8 x9 x10 x11 x12=>(⟨tq77 x0 x1,hq78 x2++hq70 x0 x3 x4 x5 x6++hc0_sra x7 x8 x9 x10 x11++hq71 x12++hc1_sra⟩:St)
def nq8:List (Nat × Nat):=[(1000,1000),(1001,1001),(1002,1002),(1003,1003),(1004,1004),(1005,1005),(1006,1006),(1007,1007),(1008,1008),(1009,1009),(1010,1010),(1011,7)]
def bq33:Blk:=.box 111 [.tsl 1 (List.map ci [4]) 1017,B false, .p (.val (.func (.func 46) #[] #[]))]
def hq79:=fun x0=>([(5, .box 24 (bxc (GN.cs x0))),(6,bq33)]:List (Nat × Blk))
def sq38:=fun x0 x1 x2 x3 x4 x5 x6 x7 x8 x9 x10 x11 x12=>(⟨tq77 x0 x1,hq79 x2++hq70 x0 x3 x4 x5 x6++hc0_sra x7 x8 x9 x10 x11++hq71 x12++hc1_sra⟩:St)
def bq34:Blk:=.box 111 [.tsl 1 (List.map ci [4]) 1018,B false, .p (.val (.func (.func 48) #[] #[]))]
def hq80:=fun x0=>([(5, .box 24 (bxc (GN.cs x0))),(6,bq34)]:List (Nat × Blk))
def sq39:=fun x0 x1 x2 x3 x4 x5 x6 x7 x8 x9 x10 x11 x12=>(⟨tq77 x0 x1,hq80 x2++hq70 x0 x3 x4 x5 x6++hc0_sra x7 x8 x9 x10 x11++hq71 x12++hc1_sra⟩:St)
def bq35:=fun x0 x1 x2 x3 x4 x5=>(.box 108 ([.ptr 1001 0]++bxc (GN.cs x0)++[.mv 1010]++bxc (GCo.cs x1)++[S (GCt.Name x2),I (GCt.Owner x2),I (GCt.Rank x2),I x3]++bxc (GCg.cs x4)++[S (GBay.Name x5),I (GBay.Charger x5)]):Blk)
def hq81:=fun x0 x1 x2 x3 x4 x5=>([(1000,(bq35 x0 x1 x2 x3 x4 x5))]:List (Nat × Blk))
def tq81:=fun x0 x1=>([(0, .ptr 1000 0),(3, .ptr 3 0),(23, .tsl 4 (List.map GCt.cs (GSite.Contracts x0)) 1004),(24,I (lenI (List.map GCt.cs (GSite.Contracts x0)))),(25,I x1)]:List (Nat × AV))
def sq40:=fun x0 x1 x2 x3 x4 x5 x6 x7 x8 x9 x10 x11 x12 x13=>(⟨tq81 x0 x1,hq65 x2++hq81 x3 x4 x5 x6 x7 x8++hc0_sra x0 x9 x10 x11 x12++hq71 x13⟩:St)
def bq36:=fun x0=>(.box 111 [.tsl 1 (List.map ci [5]) 1019,B false, .p (.val x0)]:Blk)
def hq82:=fun x0 x1=>([(5, .box 24 (bxc (GN.cs x0))),(6,(bq36 x1))]:List (Nat × Blk))
def sq41:=fun x0 x1 x2 x3 x4 x5 x6 x7 x8 x9 x10 x11 x12 x13=>(⟨tq75 true x0 x1,hq82 x2 x3++hq70 x0 x4 x5 x6 x7++hc0_sra x8 x9 x10 x11 x12++hq71 x13++hc1_sra⟩:St)
def sq42:=fun x0 x1 x2 x3 x4 x5 x6 x7 x8 x9 x10 x11 x12 x13 x14=>(⟨tq76 x0 x1 x2,hq82 x3 x4++hq70 x0 x5 x6 x7 x8++hc0_sra x9 x10 x11 x12 x13++hq71 x14++hc1_sra⟩:St)
def sq43:=fun x0 x1 x2 x3 x4 x5 x6 x7 x8 x9 x10 x11 x12 x13=>(⟨tq77 x0 x1,hq82 x2 x3++hq70 x0 x4 x5 x6 x7++hc0_sra x8 x9 x10 x11 x12++hq71 x13++hc1_sra⟩:St)
def sq44:=fun x0 x1 x2 x3 x4 x5 x6 x7 x8 x9 x10 x11 x12 x13 x14=>(⟨tq78 x0 x1 x2,hq82 x3 x4++hq70 x0 x5 x6 x7 x8++hc0_sra x9 x10 x11 x12 x13++hq71 x14++hc1_sra⟩:St)
def bq37:Blk:=.box 111 [.tsl 1 (List.map ci [5]) 1019,B false, .fn (.func 53) [] [.ptr 1020 0]]
def hq83:=fun x0=>([(5, .box 24 (bxc (GN.cs x0))),(6,bq37)]:List (Nat × Blk))
def sq45:=fun x0 x1 x2 x3 x4 x5 x6 x7 x8 x9 x10 x11 x12=>(⟨tq77 x0 x1,hq83 x2++hq70 x0 x3 x4 x5 x6++hc0_sra x7 x8 x9 x10 x11++hq71 x12++hc1_sra⟩:St)
def hq85:=fun x0=>([(5, .box 24 (bxc (GN.cs x0))),(6, .box 111 [.p (.val (.slice none 0 0)),B false, .p (.val (.nilFunc))])]:List (Nat × Blk))
def bq38:Blk:=.box 111 [.tsl 1 (List.map ci [6]) 1021,B false, .p (.val (.func (.func 55) #[] #[]))]
def hq84:=fun x0=>([(5, .box 24 (bxc (GN.cs x0))),(6,bq38)]:List (Nat × Blk))
def sq46:=fun x0 x1 x2 x3 x4 x5 x6 x7 x8 x9 x10 x11 x12=>(⟨tq77 x0 x1,hq84 x2++hq70 x0 x3 x4 x5 x6++hc0_sra x7 x8 x9 x10 x11++hq71 x12++hc1_sra⟩:St)
abbrev bGCt54 (x:GCt):Go.Abs.Blk:=.box 54 (bxc (GCt.cs x))
theorem g_sr_attrs_ok (n:Nat) (yI:GN) (yC:GCo) (yK:GCt) (yG:GCg) (yB:GBay) (yS:GSite) (yF:Bool) (yD:List GDg) (h7_m:List ((List UInt8) × Bool)) (h8_m:List ((List UInt8) × GTh)) (h10_m:List ((List UInt8) × Bool)):∀ r,g_sr_attrs n yI yC yK yG yB yS yF yD h7_m h8_m h10_m=some r→ACall Tryz.prog 58 [pZ0, .mv 1011] (Go.Abs.look (hp_sra yI yC yK yG yB yS yF yD h7_m h8_m h10_m)) (heapR (excX (fun r:GCo × GCt × GCg × GBay × (List ((List UInt8) × Bool))=>((.ret (.tup []),hp_sra yI r.1 r.2.1 r.2.2.1 r.2.2.2.1 yS yF yD h7_m h8_m r.2.2.2.2):AEnd × List (Nat × Blk))) (fun e:(Int × Int) × GCo × GCt × GCg × GBay × (List ((List UInt8) × Bool))=>((.panic (.ifc 116 (.agg [I e.1.1,I e.1.2])),hp_sra yI e.2.1 e.2.2.1 e.2.2.2.1 e.2.2.2.2.1 yS yF yD h7_m h8_m e.2.2.2.2.2):AEnd × List (Nat × Blk)))) r):=by
 refine acall_sim (X:=excX (fun r:GCo × GCt × GCg × GBay × (List ((List UInt8) × Bool))=>((.ret (.tup []),hp_sra yI r.1 r.2.1 r.2.2.1 r.2.2.2.1 yS yF yD h7_m h8_m r.2.2.2.2):AEnd × List (Nat × Blk))) (fun e:(Int × Int) × GCo × GCt × GCg × GBay × (List ((List UInt8) × Bool))=>((.panic (.ifc 116 (.agg [I e.1.1,I e.1.2])),hp_sra yI e.2.1 e.2.2.1 e.2.2.2.1 e.2.2.2.2.1 yS yF yD h7_m h8_m e.2.2.2.2.2):AEnd × List (Nat × Blk)))) (hp_sra yI yC yK yG yB yS yF yD h7_m h8_m h10_m) Tryz.func58 rfl Tryz.ntmps58 rfl ?_
 unfold g_sr_attrs
 refine sRK tfm (sq28 yI 0 yC yK yG yB yS yF yD h7_m h8_m h10_m) krf (sB (sim_loop (fun (l1_1,l1_2,l1_3,l1_4,l1_5,l1_6)=>(sq28 yI l1_1 l1_2 l1_3 l1_4 l1_5 yS yF yD h7_m h8_m l1_6):ty6→St) (wsK krf) ?_))
 rintro recl1 ⟨l1_1,l1_2,l1_3,l1_4,l1_5,l1_6⟩
 show SimE (g_sr_attrs_l1 n yI yS yF yD h7_m h8_m recl1 l1_1 l1_2 l1_3 l1_4 l1_5 l1_6) _ _ _ _ _ _
 unfold g_sr_attrs_l1
 refine sRK tfm ⟨[(0,pZ0),(1, .mv 1011),(12, .p (.sl 5 (mI yI.Kids))),(13,I (lenI (mI yI.Kids))),(14,I l1_1),(15,B (ltI l1_1 (lenI (mI yI.Kids))))],hq70 yI l1_2 l1_3 l1_4 l1_5++hc0_sra yS yF yD h7_m h8_m++hq71 l1_6++hc1_sra⟩ krf (sS (sC (ltI l1_1 (lenI (mI yI.Kids))) krf ?_ ?_))
 rotate_left
 ·refine sim_exit (sq_x (kq_x (bq_hit ?_)))
  exact hq_n (.id) kp_sra [] krf krf krf krf
 refine sK (sNK (sq28 yI l1_1 l1_2 l1_3 l1_4 l1_5 yS yF yD h7_m h8_m l1_6) krf (sim_cps (fun (j2_1,j2_2,j2_3,j2_4,j2_5)=>(sq28 yI l1_1 j2_1 j2_2 j2_3 j2_4 yS yF yD h7_m h8_m j2_5):(GCo × GCt × GCg × GBay × (List ((List UInt8) × Bool)))→St) (fun (j2_1,j2_2,j2_3,j2_4,j2_5)=>g_sr_attrs_j2 l1_1 recl1 j2_1 j2_2 j2_3 j2_4 j2_5) ?_ ?_))
 ·rintro ⟨j2_1,j2_2,j2_3,j2_4,j2_5⟩
  show SimE (g_sr_attrs_j2 l1_1 recl1 j2_1 j2_2 j2_3 j2_4 j2_5) _ _ _ _ _ _
  unfold g_sr_attrs_j2
  refine sL tfm krf ?_
  exact kqK (wi (l1_1+1),j2_1,j2_2,j2_3,j2_4,j2_5) krf
 refine sB (sS (sG ?_))
 refine xG krf krf (aop_idxR (e:=24) (S:=5) (enc:=GN.cs) (dec:=GN.of) (l:=yI.Kids) (k:=.i64) (n:=l1_1) (sv:=.p (.sl 5 (mI yI.Kids))) GN.of_cs rfl krf krf krf krf krf) (fun x3=>?_)
 refine xR 3 krf (xE (sNK ⟨tq74 yI l1_1,hq72 x3++hq70 yI l1_2 l1_3 l1_4 l1_5++hc0_sra yS yF yD h7_m h8_m++hq71 l1_6++hc1_sra⟩ krf (sS (sRK tfm ⟨[(0,pZ0),(1, .mv 1011),qq 5,(12, .p (.sl 5 (mI yI.Kids))),(13,I (lenI (mI yI.Kids))),(14,I l1_1),(20,B (!eqI x3.Kind 3))],hq72 x3++hq70 yI l1_2 l1_3 l1_4 l1_5++hc0_sra yS yF yD h7_m h8_m++hq71 l1_6++hc1_sra⟩ krf (sC (!eqI x3.Kind 3) krf ?_ ?_)))))
 ·refine sim_exit (sq_x (bq_hit ?_))
  exact kqK (k:=fun (j2_1,j2_2,j2_3,j2_4,j2_5)=>g_sr_attrs_j2 l1_1 recl1 j2_1 j2_2 j2_3 j2_4 j2_5) (l1_2,l1_3,l1_4,l1_5,l1_6) krf
 refine sK (sNK ⟨tq74 yI l1_1,hq72 x3++hq70 yI l1_2 l1_3 l1_4 l1_5++hc0_sra yS yF yD h7_m h8_m++hq71 l1_6++hc1_sra⟩ krf (sS (sG (xR 3 krf ?_))))
 refine xS (eqS x3.Name [108,105,109,105,116]&&true) (fun h5=>?_) (fun h5=>?_)
 ·refine xs_u krf krf (aop_mfT (kt:=9) (e:=111) (b:=1011) (w:=x3.Name) (ok:=true) (es:=(mfT 1012 1013 1014 1015 1016 1017 1018 1019 1020 1021)) (v:=.agg [.tsl 1 (List.map ci [1,2]) 1012,B false, .fn (.func 78) [] [.ptr 1013 0]]) rfl krf krf krf krf krf (findF_t h5)) (xR 6 krf (xE (sNK (sq29 yI l1_1 x3 false (.func 78) l1_2 l1_3 l1_4 l1_5 yS yF yD h7_m h8_m l1_6) krf (sS (sS (sDr tfm rfl (xR 9 krf ?_)))))))
  refine xs_seqL rfl krf krf (xs_enter (f:=83) (args:=[.agg [.tsl 1 (List.map ci [1,2]) 1012,B false, .fn (.func 78) [] [.ptr 1013 0]],I yI.N]) krf krf krf ?_)
  refine sc_raw 2 rfl (fun hw6=>?_)
  refine sc_pure [.agg [.sl 1, .id, .id], .id] (g_site_rule_of_ok n [1,2] false yI.N hw6) krf krf kff (fun r7=>?_)
  refine kr0 (xR 2 krf (xE (sNK (sq30 yI l1_1 (!r7) x3 false (.func 78) l1_2 l1_3 l1_4 l1_5 yS yF yD h7_m h8_m l1_6) krf (sC (!r7) krf ?_ ?_))))
  ·refine sG (xR 1 krf (xIn [] [I 9, .agg [I x3.Kind,S x3.Name,I x3.N,I x3.At, .p (.sl 5 (mI x3.Kids))]] [] [] [] krf Tryz.func49 rfl Tryz.ntmps49 rfl krf krf krf (sRK tfm ⟨[(0,I 9),qq 3],hq65 x3⟩ krf (sG (xR 6 krf (xPa 116 (.agg [I 9,I x3.At]) krf rfl krf (iq_p [] [] krf ?_)))))))
   refine sq_p (bq_p (kq_p (kq_p (bq_p ?_))))
   exact hq_p kp_sra [] krf krf krf
  refine sK (sNK (sq31 yI l1_1 x3 false (.func 78) l1_2 l1_3 l1_4 l1_5 yS yF yD h7_m h8_m l1_6) krf (sS (sS (sDr tfm rfl (xR 6 krf ?_)))))
  refine xs_u krf krf (aop_look (kt:=9) (e:=4) (ke:=mk_msb) (ve:=mv_msb) (eq:=me_msb) (b:=1010) (m:=l1_6) (k:=x3.Name) (z0:=false) rfl krf krf krf krf krf kff (fun _ _=>eqV_strK rfl _ _) krf) ?_
  refine xED krf (sNK (sq32 yI l1_1 (mgetD me_msb x3.Name false l1_6) x3 false (.func 78) l1_2 l1_3 l1_4 l1_5 yS yF yD h7_m h8_m l1_6) krf (sC (mgetD me_msb x3.Name false l1_6) krf ?_ ?_))
  ·refine sG (xR 1 krf (xIn [] [I 5, .agg [I x3.Kind,S x3.Name,I x3.N,I x3.At, .p (.sl 5 (mI x3.Kids))]] [] [] [] krf Tryz.func49 rfl Tryz.ntmps49 rfl krf krf krf (sRK tfm ⟨[(0,I 5),qq 3],hq65 x3⟩ krf (sG (xR 6 krf (xPa 116 (.agg [I 5,I x3.At]) krf rfl krf (iq_p [] [] krf ?_)))))))
   refine sq_p (bq_p (kq_p (kq_p (bq_p ?_))))
   exact hq_p kp_sra [] krf krf krf
  refine sK (sNK (sq31 yI l1_1 x3 false (.func 78) l1_2 l1_3 l1_4 l1_5 yS yF yD h7_m h8_m l1_6) krf (sS (sDr tfm rfl (xR 6 krf ?_))))
  refine xs_u krf krf (aop_mset (kt:=9) (e:=4) (ke:=mk_msb) (ve:=mv_msb) (eq:=me_msb) (b:=1010) (m:=l1_6) (k:=x3.Name) (v:=true) rfl krf krf krf krf krf krf kff (fun _ _=>eqV_strK rfl _ _)) ?_
  refine xED krf (sNK (sq31 yI l1_1 x3 false (.func 78) l1_2 l1_3 l1_4 l1_5 yS yF yD h7_m h8_m (mset me_msb x3.Name true l1_6)) krf (sG (xR 4 krf (xIn ((hq70 yI l1_2 l1_3 l1_4 l1_5)++hc0_sra yS yF yD h7_m h8_m++(hq74 (mset me_msb x3.Name true l1_6) 1000)) [pZ0, .agg [I x3.Kind,S x3.Name,I x3.N,I x3.At, .p (.sl 5 (mI x3.Kids))], .ptr 1011 0] nq6 [] [] krf Tryz.func78 rfl Tryz.ntmps78 rfl krf krf krf (sRK tfm (sq33 x3 yI l1_2 l1_3 l1_4 l1_5 yS yF yD h7_m h8_m (mset me_msb x3.Name true l1_6) 1000) krf (sG (xR 4 krf ?_)))))))
  refine xs_exc [.id, .sl 2] krf (g_site_numbers_ok n x3 [(⟨1,1000⟩:GSp)]) krf krf kff kff (fun r8=>?_) (fun e9=>?_)
  ·refine xG krf krf (aop_idx (e:=3) (S:=1) (enc:=ci) (l:=r8) (k:=.i64) (n:=0) (sv:=.p (.sl 1 (List.map ci r8))) rfl krf krf krf krf krf) (fun x10=>?_)
   refine xR 5 krf (xE (iq_n (.id) [1000,1001,1002,1003,1004,1005,1006,1007,1008,1009,1010,1011] [] (.tup []) krf krf (kr0 (xE (bq_n ?_)))))
   exact kqK (k:=fun (j2_1,j2_2,j2_3,j2_4,j2_5)=>g_sr_attrs_j2 l1_1 recl1 j2_1 j2_2 j2_3 j2_4 j2_5) ((⟨l1_2.Name,l1_2.Up,x10,l1_2.Neutral,l1_2.Fuse,l1_2.Cable⟩:GCo),l1_3,l1_4,l1_5,mset me_msb x3.Name true l1_6) krf
  refine iq_p [1000,1001,1002,1003,1004,1005,1006,1007,1008,1009,1010,1011] [] krf (bq_p (kq_p (kq_p (bq_p ?_))))
  exact hq_p kp_sra [] krf krf krf
 refine xS (eqS x3.Name [110,101,117,116,114,97,108]&&true) (fun h11=>?_) (fun h11=>?_)
 ·refine xs_u krf krf (aop_mfT (kt:=9) (e:=111) (b:=1011) (w:=x3.Name) (ok:=true) (es:=(mfT 1012 1013 1014 1015 1016 1017 1018 1019 1020 1021)) (v:=.agg [.tsl 1 (List.map ci [1,2]) 1012,B false, .fn (.func 79) [] [.ptr 1013 0]]) rfl krf krf krf krf krf (findF_f h5 (findF_t h11))) (xR 6 krf (xE (sNK (sq29 yI l1_1 x3 false (.func 79) l1_2 l1_3 l1_4 l1_5 yS yF yD h7_m h8_m l1_6) krf (sS (sS (sDr tfm rfl (xR 9 krf ?_)))))))
  refine xs_seqL rfl krf krf (xs_enter (f:=83) (args:=[.agg [.tsl 1 (List.map ci [1,2]) 1012,B false, .fn (.func 79) [] [.ptr 1013 0]],I yI.N]) krf krf krf ?_)
  refine sc_raw 2 rfl (fun hw12=>?_)
  refine sc_pure [.agg [.sl 1, .id, .id], .id] (g_site_rule_of_ok n [1,2] false yI.N hw12) krf krf kff (fun r13=>?_)
  refine kr0 (xR 2 krf (xE (sNK (sq30 yI l1_1 (!r13) x3 false (.func 79) l1_2 l1_3 l1_4 l1_5 yS yF yD h7_m h8_m l1_6) krf (sC (!r13) krf ?_ ?_))))
  ·refine sG (xR 1 krf (xIn [] [I 9, .agg [I x3.Kind,S x3.Name,I x3.N,I x3.At, .p (.sl 5 (mI x3.Kids))]] [] [] [] krf Tryz.func49 rfl Tryz.ntmps49 rfl krf krf krf (sRK tfm ⟨[(0,I 9),qq 3],hq65 x3⟩ krf (sG (xR 6 krf (xPa 116 (.agg [I 9,I x3.At]) krf rfl krf (iq_p [] [] krf ?_)))))))
   refine sq_p (bq_p (kq_p (kq_p (bq_p ?_))))
   exact hq_p kp_sra [] krf krf krf
  refine sK (sNK (sq31 yI l1_1 x3 false (.func 79) l1_2 l1_3 l1_4 l1_5 yS yF yD h7_m h8_m l1_6) krf (sS (sS (sDr tfm rfl (xR 6 krf ?_)))))
  refine xs_u krf krf (aop_look (kt:=9) (e:=4) (ke:=mk_msb) (ve:=mv_msb) (eq:=me_msb) (b:=1010) (m:=l1_6) (k:=x3.Name) (z0:=false) rfl krf krf krf krf krf kff (fun _ _=>eqV_strK rfl _ _) krf) ?_
  refine xED krf (sNK (sq32 yI l1_1 (mgetD me_msb x3.Name false l1_6) x3 false (.func 79) l1_2 l1_3 l1_4 l1_5 yS yF yD h7_m h8_m l1_6) krf (sC (mgetD me_msb x3.Name false l1_6) krf ?_ ?_))
  ·refine sG (xR 1 krf (xIn [] [I 5, .agg [I x3.Kind,S x3.Name,I x3.N,I x3.At, .p (.sl 5 (mI x3.Kids))]] [] [] [] krf Tryz.func49 rfl Tryz.ntmps49 rfl krf krf krf (sRK tfm ⟨[(0,I 5),qq 3],hq65 x3⟩ krf (sG (xR 6 krf (xPa 116 (.agg [I 5,I x3.At]) krf rfl krf (iq_p [] [] krf ?_)))))))
   refine sq_p (bq_p (kq_p (kq_p (bq_p ?_))))
   exact hq_p kp_sra [] krf krf krf
  refine sK (sNK (sq31 yI l1_1 x3 false (.func 79) l1_2 l1_3 l1_4 l1_5 yS yF yD h7_m h8_m l1_6) krf (sS (sDr tfm rfl (xR 6 krf ?_))))
  refine xs_u krf krf (aop_mset (kt:=9) (e:=4) (ke:=mk_msb) (ve:=mv_msb) (eq:=me_msb) (b:=1010) (m:=l1_6) (k:=x3.Name) (v:=true) rfl krf krf krf krf krf krf kff (fun _ _=>eqV_strK rfl _ _)) ?_
  refine xED krf (sNK (sq31 yI l1_1 x3 false (.func 79) l1_2 l1_3 l1_4 l1_5 yS yF yD h7_m h8_m (mset me_msb x3.Name true l1_6)) krf (sG (xR 4 krf (xIn ((hq70 yI l1_2 l1_3 l1_4 l1_5)++hc0_sra yS yF yD h7_m h8_m++(hq74 (mset me_msb x3.Name true l1_6) 1000)) [pZ0, .agg [I x3.Kind,S x3.Name,I x3.N,I x3.At, .p (.sl 5 (mI x3.Kids))], .ptr 1011 0] nq6 [] [] krf Tryz.func79 rfl Tryz.ntmps79 rfl krf krf krf (sRK tfm (sq33 x3 yI l1_2 l1_3 l1_4 l1_5 yS yF yD h7_m h8_m (mset me_msb x3.Name true l1_6) 1000) krf (sG (xR 4 krf ?_)))))))
  refine xs_exc [.id, .sl 2] krf (g_site_numbers_ok n x3 [(⟨1,1000⟩:GSp)]) krf krf kff kff (fun r14=>?_) (fun e15=>?_)
  ·refine xG krf krf (aop_idx (e:=3) (S:=1) (enc:=ci) (l:=r14) (k:=.i64) (n:=0) (sv:=.p (.sl 1 (List.map ci r14))) rfl krf krf krf krf krf) (fun x16=>?_)
   refine xR 5 krf (xE (iq_n (.id) [1000,1001,1002,1003,1004,1005,1006,1007,1008,1009,1010,1011] [] (.tup []) krf krf (kr0 (xE (bq_n ?_)))))
   exact kqK (k:=fun (j2_1,j2_2,j2_3,j2_4,j2_5)=>g_sr_attrs_j2 l1_1 recl1 j2_1 j2_2 j2_3 j2_4 j2_5) ((⟨l1_2.Name,l1_2.Up,l1_2.Limit,x16,l1_2.Fuse,l1_2.Cable⟩:GCo),l1_3,l1_4,l1_5,mset me_msb x3.Name true l1_6) krf
  refine iq_p [1000,1001,1002,1003,1004,1005,1006,1007,1008,1009,1010,1011] [] krf (bq_p (kq_p (kq_p (bq_p ?_))))
  exact hq_p kp_sra [] krf krf krf
 refine xS (eqS x3.Name [102,117,115,101]&&true) (fun h17=>?_) (fun h17=>?_)
 ·refine xs_u krf krf (aop_mfT (kt:=9) (e:=111) (b:=1011) (w:=x3.Name) (ok:=true) (es:=(mfT 1012 1013 1014 1015 1016 1017 1018 1019 1020 1021)) (v:=.agg [.tsl 1 (List.map ci [1,2]) 1012,B true, .fn (.func 80) [] [.ptr 1013 0]]) rfl krf krf krf krf krf (findF_f h5 (findF_f h11 (findF_t h17)))) (xR 6 krf (xE (sNK (sq29 yI l1_1 x3 true (.func 80) l1_2 l1_3 l1_4 l1_5 yS yF yD h7_m h8_m l1_6) krf (sS (sS (sDr tfm rfl (xR 9 krf ?_)))))))
  refine xs_seqL rfl krf krf (xs_enter (f:=83) (args:=[.agg [.tsl 1 (List.map ci [1,2]) 1012,B true, .fn (.func 80) [] [.ptr 1013 0]],I yI.N]) krf krf krf ?_)
  refine sc_raw 2 rfl (fun hw18=>?_)
  refine sc_pure [.agg [.sl 1, .id, .id], .id] (g_site_rule_of_ok n [1,2] true yI.N hw18) krf krf kff (fun r19=>?_)
  refine kr0 (xR 2 krf (xE (sNK (sq30 yI l1_1 (!r19) x3 true (.func 80) l1_2 l1_3 l1_4 l1_5 yS yF yD h7_m h8_m l1_6) krf (sC (!r19) krf ?_ ?_))))
  ·refine sG (xR 1 krf (xIn [] [I 9, .agg [I x3.Kind,S x3.Name,I x3.N,I x3.At, .p (.sl 5 (mI x3.Kids))]] [] [] [] krf Tryz.func49 rfl Tryz.ntmps49 rfl krf krf krf (sRK tfm ⟨[(0,I 9),qq 3],hq65 x3⟩ krf (sG (xR 6 krf (xPa 116 (.agg [I 9,I x3.At]) krf rfl krf (iq_p [] [] krf ?_)))))))
   refine sq_p (bq_p (kq_p (kq_p (bq_p ?_))))
   exact hq_p kp_sra [] krf krf krf
  refine sK (sNK (sq31 yI l1_1 x3 true (.func 80) l1_2 l1_3 l1_4 l1_5 yS yF yD h7_m h8_m l1_6) krf (sS (sS (sDr tfm rfl (xR 6 krf ?_)))))
  refine xs_u krf krf (aop_look (kt:=9) (e:=4) (ke:=mk_msb) (ve:=mv_msb) (eq:=me_msb) (b:=1010) (m:=l1_6) (k:=x3.Name) (z0:=false) rfl krf krf krf krf krf kff (fun _ _=>eqV_strK rfl _ _) krf) ?_
  refine xED krf (sNK (sq32 yI l1_1 (mgetD me_msb x3.Name false l1_6) x3 true (.func 80) l1_2 l1_3 l1_4 l1_5 yS yF yD h7_m h8_m l1_6) krf (sC (mgetD me_msb x3.Name false l1_6) krf ?_ ?_))
  ·refine sG (xR 1 krf (xIn [] [I 5, .agg [I x3.Kind,S x3.Name,I x3.N,I x3.At, .p (.sl 5 (mI x3.Kids))]] [] [] [] krf Tryz.func49 rfl Tryz.ntmps49 rfl krf krf krf (sRK tfm ⟨[(0,I 5),qq 3],hq65 x3⟩ krf (sG (xR 6 krf (xPa 116 (.agg [I 5,I x3.At]) krf rfl krf (iq_p [] [] krf ?_)))))))
   refine sq_p (bq_p (kq_p (kq_p (bq_p ?_))))
   exact hq_p kp_sra [] krf krf krf
  refine sK (sNK (sq31 yI l1_1 x3 true (.func 80) l1_2 l1_3 l1_4 l1_5 yS yF yD h7_m h8_m l1_6) krf (sS (sDr tfm rfl (xR 6 krf ?_))))
  refine xs_u krf krf (aop_mset (kt:=9) (e:=4) (ke:=mk_msb) (ve:=mv_msb) (eq:=me_msb) (b:=1010) (m:=l1_6) (k:=x3.Name) (v:=true) rfl krf krf krf krf krf krf kff (fun _ _=>eqV_strK rfl _ _)) ?_
  refine xED krf (sNK (sq31 yI l1_1 x3 true (.func 80) l1_2 l1_3 l1_4 l1_5 yS yF yD h7_m h8_m (mset me_msb x3.Name true l1_6)) krf (sG (xR 4 krf (xIn ((hq70 yI l1_2 l1_3 l1_4 l1_5)++hc0_sra yS yF yD h7_m h8_m++(hq74 (mset me_msb x3.Name true l1_6) 1000)) [pZ0, .agg [I x3.Kind,S x3.Name,I x3.N,I x3.At, .p (.sl 5 (mI x3.Kids))], .ptr 1011 0] nq6 [] [] krf Tryz.func80 rfl Tryz.ntmps80 rfl krf krf krf (sRK tfm (sq33 x3 yI l1_2 l1_3 l1_4 l1_5 yS yF yD h7_m h8_m (mset me_msb x3.Name true l1_6) 1000) krf (sS (sG ?_)))))))
  refine xR 4 krf ?_
  refine xs_exc [.id, .sl 2] krf (g_site_numbers_ok n x3 [(⟨1,1000⟩:GSp),(⟨0,1000000⟩:GSp)]) krf krf kff kff (fun r20=>?_) (fun e21=>?_)
  ·refine xR 1 krf (xE (sNK ⟨tq80 r20,hq70 yI l1_2 l1_3 l1_4 l1_5++hc0_sra yS yF yD h7_m h8_m++hq74 (mset me_msb x3.Name true l1_6) 1000⟩ krf (sDr tfm rfl (xR 2 krf ?_))))
   refine xG krf krf (aop_idx (e:=3) (S:=1) (enc:=ci) (l:=r20) (k:=.i64) (n:=0) (sv:=.p (.sl 1 (List.map ci r20))) rfl krf krf krf krf krf) (fun x22=>?_)
   refine xR 2 krf ?_
   refine xG krf krf (aop_idx (e:=3) (S:=1) (enc:=ci) (l:=r20) (k:=.i64) (n:=1) (sv:=.p (.sl 1 (List.map ci r20))) rfl krf krf krf krf krf) (fun x23=>?_)
   refine xR 6 krf (xED krf (iq_n (.id) [1000,1001,1002,1003,1004,1005,1006,1007,1008,1009,1010,1011] [] (.tup []) krf krf (kr0 (xE (bq_n ?_)))))
   exact kqK (k:=fun (j2_1,j2_2,j2_3,j2_4,j2_5)=>g_sr_attrs_j2 l1_1 recl1 j2_1 j2_2 j2_3 j2_4 j2_5) ((⟨l1_2.Name,l1_2.Up,l1_2.Limit,l1_2.Neutral,(⟨x22,x23⟩:GFuse),l1_2.Cable⟩:GCo),l1_3,l1_4,l1_5,mset me_msb x3.Name true l1_6) krf
  refine sq_p (iq_p [1000,1001,1002,1003,1004,1005,1006,1007,1008,1009,1010,1011] [] krf (bq_p (kq_p (kq_p (bq_p ?_)))))
  exact hq_p kp_sra [] krf krf krf
 refine xS (eqS x3.Name [116,104,101,114,109,97,108]&&true) (fun h24=>?_) (fun h24=>?_)
 ·refine xs_u krf krf (aop_mfT (kt:=9) (e:=111) (b:=1011) (w:=x3.Name) (ok:=true) (es:=(mfT 1012 1013 1014 1015 1016 1017 1018 1019 1020 1021)) (v:=.agg [.tsl 1 (List.map ci [1,2]) 1012,B true, .p (.val (.func (.func 81) #[] #[]))]) rfl krf krf krf krf krf (findF_f h5 (findF_f h11 (findF_f h17 (findF_t h24))))) (xR 6 krf (xE (sNK ⟨tq75 true yI l1_1,hq75 x3++hq70 yI l1_2 l1_3 l1_4 l1_5++hc0_sra yS yF yD h7_m h8_m++hq71 l1_6++hc1_sra⟩ krf (sS (sS (sDr tfm rfl (xR 9 krf ?_)))))))
  refine xC [.agg [.sl 1, .id, .id], .id] krf (g_site_rule_of_ok n [1,2] true yI.N (.func 81,#[],#[])) krf krf kff (fun r25=>?_)
  refine xR 2 krf (xED krf (sNK ⟨tq76 yI l1_1 (!r25),hq75 x3++hq70 yI l1_2 l1_3 l1_4 l1_5++hc0_sra yS yF yD h7_m h8_m++hq71 l1_6++hc1_sra⟩ krf (sC (!r25) krf ?_ ?_)))
  ·refine sG (xR 1 krf (xIn [] [I 9, .agg [I x3.Kind,S x3.Name,I x3.N,I x3.At, .p (.sl 5 (mI x3.Kids))]] [] [] [] krf Tryz.func49 rfl Tryz.ntmps49 rfl krf krf krf (sRK tfm ⟨[(0,I 9),qq 3],hq65 x3⟩ krf (sG (xR 6 krf (xPa 116 (.agg [I 9,I x3.At]) krf rfl krf (iq_p [] [] krf ?_)))))))
   refine sq_p (bq_p (kq_p (kq_p (bq_p ?_))))
   exact hq_p kp_sra [] krf krf krf
  refine sK (sNK (sq34 yI l1_1 x3 l1_2 l1_3 l1_4 l1_5 yS yF yD h7_m h8_m l1_6) krf (sS (sS (sDr tfm rfl (xR 6 krf ?_)))))
  refine xs_u krf krf (aop_look (kt:=9) (e:=4) (ke:=mk_msb) (ve:=mv_msb) (eq:=me_msb) (b:=1010) (m:=l1_6) (k:=x3.Name) (z0:=false) rfl krf krf krf krf krf kff (fun _ _=>eqV_strK rfl _ _) krf) ?_
  refine xED krf (sNK ⟨tq78 yI l1_1 (mgetD me_msb x3.Name false l1_6),hq75 x3++hq70 yI l1_2 l1_3 l1_4 l1_5++hc0_sra yS yF yD h7_m h8_m++hq71 l1_6++hc1_sra⟩ krf (sC (mgetD me_msb x3.Name false l1_6) krf ?_ ?_))
  ·refine sG (xR 1 krf (xIn [] [I 5, .agg [I x3.Kind,S x3.Name,I x3.N,I x3.At, .p (.sl 5 (mI x3.Kids))]] [] [] [] krf Tryz.func49 rfl Tryz.ntmps49 rfl krf krf krf (sRK tfm ⟨[(0,I 5),qq 3],hq65 x3⟩ krf (sG (xR 6 krf (xPa 116 (.agg [I 5,I x3.At]) krf rfl krf (iq_p [] [] krf ?_)))))))
   refine sq_p (bq_p (kq_p (kq_p (bq_p ?_))))
   exact hq_p kp_sra [] krf krf krf
  refine sK (sNK (sq34 yI l1_1 x3 l1_2 l1_3 l1_4 l1_5 yS yF yD h7_m h8_m l1_6) krf (sS (sDr tfm rfl (xR 6 krf ?_))))
  refine xs_u krf krf (aop_mset (kt:=9) (e:=4) (ke:=mk_msb) (ve:=mv_msb) (eq:=me_msb) (b:=1010) (m:=l1_6) (k:=x3.Name) (v:=true) rfl krf krf krf krf krf krf kff (fun _ _=>eqV_strK rfl _ _)) ?_
  refine xED krf (sNK (sq34 yI l1_1 x3 l1_2 l1_3 l1_4 l1_5 yS yF yD h7_m h8_m (mset me_msb x3.Name true l1_6)) krf (sG (xR 4 krf (xIn ((hq70 yI l1_2 l1_3 l1_4 l1_5)++hc0_sra yS yF yD h7_m h8_m++(hq71 (mset me_msb x3.Name true l1_6))) [pZ0, .agg [I x3.Kind,S x3.Name,I x3.N,I x3.At, .p (.sl 5 (mI x3.Kids))]] nq7 [] [] krf Tryz.func81 rfl Tryz.ntmps81 rfl krf krf krf (sRK tfm (sq35 x3 yI l1_2 l1_3 l1_4 l1_5 yS yF yD h7_m h8_m (mset me_msb x3.Name true l1_6)) krf (sS (sG ?_)))))))
  refine xR 7 krf ?_
  refine xs_exc [.id, .sl 2] krf (g_site_numbers_ok n x3 [(⟨0,200000⟩:GSp),(⟨0,200000⟩:GSp),(⟨0,1000⟩:GSp),(⟨0,1000⟩:GSp),(⟨1,1000000⟩:GSp)]) krf krf kff kff (fun r26=>?_) (fun e27=>?_)
  rotate_left
  ·refine sq_p (iq_p [1000,1001,1002,1003,1004,1005,1006,1007,1008,1009,1010] [] krf (bq_p (kq_p (kq_p (bq_p ?_)))))
   exact hq_p kp_sra [] krf krf krf
  refine xR 1 krf (xE (sNK ⟨[(0,pZ0),(4, .p (.sl 1 (List.map ci r26)))],hq70 yI l1_2 l1_3 l1_4 l1_5++hc0_sra yS yF yD h7_m h8_m++hq71 (mset me_msb x3.Name true l1_6)⟩ krf (sDr tfm rfl (xR 2 krf ?_))))
  refine xG krf krf (aop_idx (e:=3) (S:=1) (enc:=ci) (l:=r26) (k:=.i64) (n:=0) (sv:=.p (.sl 1 (List.map ci r26))) rfl krf krf krf krf krf) (fun x28=>?_)
  refine xR 2 krf ?_
  refine xG krf krf (aop_idx (e:=3) (S:=1) (enc:=ci) (l:=r26) (k:=.i64) (n:=1) (sv:=.p (.sl 1 (List.map ci r26))) rfl krf krf krf krf krf) (fun x29=>?_)
  refine xR 2 krf ?_
  refine xG krf krf (aop_idx (e:=3) (S:=1) (enc:=ci) (l:=r26) (k:=.i64) (n:=2) (sv:=.p (.sl 1 (List.map ci r26))) rfl krf krf krf krf krf) (fun x30=>?_)
  refine xR 2 krf ?_
  refine xG krf krf (aop_idx (e:=3) (S:=1) (enc:=ci) (l:=r26) (k:=.i64) (n:=3) (sv:=.p (.sl 1 (List.map ci r26))) rfl krf krf krf krf krf) (fun x31=>?_)
  refine xR 2 krf ?_
  refine xG krf krf (aop_idx (e:=3) (S:=1) (enc:=ci) (l:=r26) (k:=.i64) (n:=4) (sv:=.p (.sl 1 (List.map ci r26))) rfl krf krf krf krf krf) (fun x32=>?_)
  refine xR 6 krf (xED krf (iq_n (.id) [1000,1001,1002,1003,1004,1005,1006,1007,1008,1009,1010] [] (.tup []) krf krf (kr0 (xE (bq_n ?_)))))
  exact kqK (k:=fun (j2_1,j2_2,j2_3,j2_4,j2_5)=>g_sr_attrs_j2 l1_1 recl1 j2_1 j2_2 j2_3 j2_4 j2_5) ((⟨l1_2.Name,l1_2.Up,l1_2.Limit,l1_2.Neutral,l1_2.Fuse,(⟨x28,x29,x30,x31,x32⟩:GCable)⟩:GCo),l1_3,l1_4,l1_5,mset me_msb x3.Name true l1_6) krf
 refine xS (eqS x3.Name [102,114,111,109]&&true) (fun h33=>?_) (fun h33=>?_)
 ·refine xs_u krf krf (aop_mfT (kt:=9) (e:=111) (b:=1011) (w:=x3.Name) (ok:=true) (es:=(mfT 1012 1013 1014 1015 1016 1017 1018 1019 1020 1021)) (v:=.agg [.tsl 1 (List.map ci [2]) 1014,B false, .fn (.func 82) [] [.ptr 1015 0]]) rfl krf krf krf krf krf (findF_f h5 (findF_f h11 (findF_f h17 (findF_f h24 (findF_t h33)))))) (xR 6 krf (xE (sNK ⟨tq75 true yI l1_1,hq76 x3++hq70 yI l1_2 l1_3 l1_4 l1_5++hc0_sra yS yF yD h7_m h8_m++hq71 l1_6++hc1_sra⟩ krf (sS (sS (sDr tfm rfl (xR 9 krf ?_)))))))
  refine xs_seqL rfl krf krf (xs_enter (f:=83) (args:=[.agg [.tsl 1 (List.map ci [2]) 1014,B false, .fn (.func 82) [] [.ptr 1015 0]],I yI.N]) krf krf krf ?_)
  refine sc_raw 2 rfl (fun hw34=>?_)
  refine sc_pure [.agg [.sl 1, .id, .id], .id] (g_site_rule_of_ok n [2] false yI.N hw34) krf krf kff (fun r35=>?_)
  refine kr0 (xR 2 krf (xE (sNK ⟨tq76 yI l1_1 (!r35),hq76 x3++hq70 yI l1_2 l1_3 l1_4 l1_5++hc0_sra yS yF yD h7_m h8_m++hq71 l1_6++hc1_sra⟩ krf (sC (!r35) krf ?_ ?_))))
  ·refine sG (xR 1 krf (xIn [] [I 9, .agg [I x3.Kind,S x3.Name,I x3.N,I x3.At, .p (.sl 5 (mI x3.Kids))]] [] [] [] krf Tryz.func49 rfl Tryz.ntmps49 rfl krf krf krf (sRK tfm ⟨[(0,I 9),qq 3],hq65 x3⟩ krf (sG (xR 6 krf (xPa 116 (.agg [I 9,I x3.At]) krf rfl krf (iq_p [] [] krf ?_)))))))
   refine sq_p (bq_p (kq_p (kq_p (bq_p ?_))))
   exact hq_p kp_sra [] krf krf krf
  refine sK (sNK (sq36 yI l1_1 x3 l1_2 l1_3 l1_4 l1_5 yS yF yD h7_m h8_m l1_6) krf (sS (sS (sDr tfm rfl (xR 6 krf ?_)))))
  refine xs_u krf krf (aop_look (kt:=9) (e:=4) (ke:=mk_msb) (ve:=mv_msb) (eq:=me_msb) (b:=1010) (m:=l1_6) (k:=x3.Name) (z0:=false) rfl krf krf krf krf krf kff (fun _ _=>eqV_strK rfl _ _) krf) ?_
  refine xED krf (sNK ⟨tq78 yI l1_1 (mgetD me_msb x3.Name false l1_6),hq76 x3++hq70 yI l1_2 l1_3 l1_4 l1_5++hc0_sra yS yF yD h7_m h8_m++hq71 l1_6++hc1_sra⟩ krf (sC (mgetD me_msb x3.Name false l1_6) krf ?_ ?_))
  ·refine sG (xR 1 krf (xIn [] [I 5, .agg [I x3.Kind,S x3.Name,I x3.N,I x3.At, .p (.sl 5 (mI x3.Kids))]] [] [] [] krf Tryz.func49 rfl Tryz.ntmps49 rfl krf krf krf (sRK tfm ⟨[(0,I 5),qq 3],hq65 x3⟩ krf (sG (xR 6 krf (xPa 116 (.agg [I 5,I x3.At]) krf rfl krf (iq_p [] [] krf ?_)))))))
   refine sq_p (bq_p (kq_p (kq_p (bq_p ?_))))
   exact hq_p kp_sra [] krf krf krf
  refine sK (sNK (sq36 yI l1_1 x3 l1_2 l1_3 l1_4 l1_5 yS yF yD h7_m h8_m l1_6) krf (sS (sDr tfm rfl (xR 6 krf ?_))))
  refine xs_u krf krf (aop_mset (kt:=9) (e:=4) (ke:=mk_msb) (ve:=mv_msb) (eq:=me_msb) (b:=1010) (m:=l1_6) (k:=x3.Name) (v:=true) rfl krf krf krf krf krf krf kff (fun _ _=>eqV_strK rfl _ _)) ?_
  refine xED krf (sNK (sq36 yI l1_1 x3 l1_2 l1_3 l1_4 l1_5 yS yF yD h7_m h8_m (mset me_msb x3.Name true l1_6)) krf (sG (xR 4 krf (xIn ((hq70 yI l1_2 l1_3 l1_4 l1_5)++hc0_sra yS yF yD h7_m h8_m++(hq77 (mset me_msb x3.Name true l1_6))) [pZ0, .agg [I x3.Kind,S x3.Name,I x3.N,I x3.At, .p (.sl 5 (mI x3.Kids))], .ptr 1012 0] [(1000,1000),(1001,1001),(1002,1002),(1003,1003),(1004,1004),(1005,1005),(1006,1006),(1007,1007),(1008,1008),(1009,1009),(1010,1010),(1011,1012),(1012,1015)] [] [] krf Tryz.func82 rfl Tryz.ntmps82 rfl krf krf krf (sRK tfm ⟨[(0,pZ0),(2, .ptr 1012 0),qq 4],hq68 x3++hq70 yI l1_2 l1_3 l1_4 l1_5++hc0_sra yS yF yD h7_m h8_m++hq77 (mset me_msb x3.Name true l1_6)⟩ krf (sG (xR 4 krf ?_)))))))
  refine xs_heapE [(1000,1000),(1001,1001),(1002,1002),(1003,1003),(1004,1004),(1005,1005),(1006,1006),(1007,1007),(1008,1008),(1009,1009),(1010,1010),(1011,1011)] [] [] krf (g_sr_name_ok n x3 yI l1_2 l1_3 l1_4 l1_5 yS yF yD h7_m h8_m (mset me_msb x3.Name true l1_6)) krf krf krf kff kff kff kff (fun r36=>?_) (fun e37=>?_)
  ·refine xR 4 krf (xE (iq_n (.id) [1000,1001,1002,1003,1004,1005,1006,1007,1008,1009,1010,1011,1012] [] (.tup []) krf krf (kr0 (xE (bq_n ?_)))))
   exact kqK (k:=fun (j2_1,j2_2,j2_3,j2_4,j2_5)=>g_sr_attrs_j2 l1_1 recl1 j2_1 j2_2 j2_3 j2_4 j2_5) ((⟨l1_2.Name,r36,l1_2.Limit,l1_2.Neutral,l1_2.Fuse,l1_2.Cable⟩:GCo),l1_3,l1_4,l1_5,mset me_msb x3.Name true l1_6) krf
  refine iq_p [1000,1001,1002,1003,1004,1005,1006,1007,1008,1009,1010,1011,1012] [] krf (bq_p (kq_p (kq_p (bq_p ?_))))
  exact hq_p kp_sra [] krf krf krf
 refine xS (eqS x3.Name [111,119,110,101,114]&&true) (fun h38=>?_) (fun h38=>?_)
 ·refine xs_u krf krf (aop_mfT (kt:=9) (e:=111) (b:=1011) (w:=x3.Name) (ok:=true) (es:=(mfT 1012 1013 1014 1015 1016 1017 1018 1019 1020 1021)) (v:=.agg [.tsl 1 (List.map ci [4,5]) 1016,B false, .p (.val (.func (.func 44) #[] #[]))]) rfl krf krf krf krf krf (findF_f h5 (findF_f h11 (findF_f h17 (findF_f h24 (findF_f h33 (findF_t h38))))))) (xR 6 krf (xE (sNK ⟨tq75 true yI l1_1,hq78 x3++hq70 yI l1_2 l1_3 l1_4 l1_5++hc0_sra yS yF yD h7_m h8_m++hq71 l1_6++hc1_sra⟩ krf (sS (sS (sDr tfm rfl (xR 9 krf ?_)))))))
  refine xC [.agg [.sl 1, .id, .id], .id] krf (g_site_rule_of_ok n [4,5] false yI.N (.func 44,#[],#[])) krf krf kff (fun r39=>?_)
  refine xR 2 krf (xED krf (sNK ⟨tq76 yI l1_1 (!r39),hq78 x3++hq70 yI l1_2 l1_3 l1_4 l1_5++hc0_sra yS yF yD h7_m h8_m++hq71 l1_6++hc1_sra⟩ krf (sC (!r39) krf ?_ ?_)))
  ·refine sG (xR 1 krf (xIn [] [I 9, .agg [I x3.Kind,S x3.Name,I x3.N,I x3.At, .p (.sl 5 (mI x3.Kids))]] [] [] [] krf Tryz.func49 rfl Tryz.ntmps49 rfl krf krf krf (sRK tfm ⟨[(0,I 9),qq 3],hq65 x3⟩ krf (sG (xR 6 krf (xPa 116 (.agg [I 9,I x3.At]) krf rfl krf (iq_p [] [] krf ?_)))))))
   refine sq_p (bq_p (kq_p (kq_p (bq_p ?_))))
   exact hq_p kp_sra [] krf krf krf
  refine sK (sNK (sq37 yI l1_1 x3 l1_2 l1_3 l1_4 l1_5 yS yF yD h7_m h8_m l1_6) krf (sS (sS (sDr tfm rfl (xR 6 krf ?_)))))
  refine xs_u krf krf (aop_look (kt:=9) (e:=4) (ke:=mk_msb) (ve:=mv_msb) (eq:=me_msb) (b:=1010) (m:=l1_6) (k:=x3.Name) (z0:=false) rfl krf krf krf krf krf kff (fun _ _=>eqV_strK rfl _ _) krf) ?_
  refine xED krf (sNK ⟨tq78 yI l1_1 (mgetD me_msb x3.Name false l1_6),hq78 x3++hq70 yI l1_2 l1_3 l1_4 l1_5++hc0_sra yS yF yD h7_m h8_m++hq71 l1_6++hc1_sra⟩ krf (sC (mgetD me_msb x3.Name false l1_6) krf ?_ ?_))
  ·refine sG (xR 1 krf (xIn [] [I 5, .agg [I x3.Kind,S x3.Name,I x3.N,I x3.At, .p (.sl 5 (mI x3.Kids))]] [] [] [] krf Tryz.func49 rfl Tryz.ntmps49 rfl krf krf krf (sRK tfm ⟨[(0,I 5),qq 3],hq65 x3⟩ krf (sG (xR 6 krf (xPa 116 (.agg [I 5,I x3.At]) krf rfl krf (iq_p [] [] krf ?_)))))))
   refine sq_p (bq_p (kq_p (kq_p (bq_p ?_))))
   exact hq_p kp_sra [] krf krf krf
  refine sK (sNK (sq37 yI l1_1 x3 l1_2 l1_3 l1_4 l1_5 yS yF yD h7_m h8_m l1_6) krf (sS (sDr tfm rfl (xR 6 krf ?_))))
  refine xs_u krf krf (aop_mset (kt:=9) (e:=4) (ke:=mk_msb) (ve:=mv_msb) (eq:=me_msb) (b:=1010) (m:=l1_6) (k:=x3.Name) (v:=true) rfl krf krf krf krf krf krf kff (fun _ _=>eqV_strK rfl _ _)) ?_
  refine xED krf (sNK (sq37 yI l1_1 x3 l1_2 l1_3 l1_4 l1_5 yS yF yD h7_m h8_m (mset me_msb x3.Name true l1_6)) krf (sG (xR 4 krf (xIn ((hq70 yI l1_2 l1_3 l1_4 l1_5)++hc0_sra yS yF yD h7_m h8_m++(hq71 (mset me_msb x3.Name true l1_6))) [pZ0, .agg [I x3.Kind,S x3.Name,I x3.N,I x3.At, .p (.sl 5 (mI x3.Kids))]] nq7 [] [] krf Tryz.func44 rfl Tryz.ntmps44 rfl krf krf krf (sRK tfm (sq35 x3 yI l1_2 l1_3 l1_4 l1_5 yS yF yD h7_m h8_m (mset me_msb x3.Name true l1_6)) krf (sS (sG ?_)))))))
  refine xR 3 krf ?_
  refine xs_heapE nq8 [] [] krf (g_sr_name_2_ok n x3 yI l1_2 l1_3 l1_4 l1_5 yS yF yD h7_m h8_m (mset me_msb x3.Name true l1_6)) krf krf krf kff kff kff kff (fun r40=>?_) (fun e41=>?_)
  ·refine xR 1 krf (xE (sNK ⟨[(0,pZ0),(4,I r40)],hq70 yI l1_2 l1_3 l1_4 l1_5++hc0_sra yS yF yD h7_m h8_m++hq71 (mset me_msb x3.Name true l1_6)⟩ krf (sL tfm krf (iq_n (.id) [1000,1001,1002,1003,1004,1005,1006,1007,1008,1009,1010] [] (.tup []) krf krf (kr0 (xE (bq_n ?_)))))))
   exact kqK (k:=fun (j2_1,j2_2,j2_3,j2_4,j2_5)=>g_sr_attrs_j2 l1_1 recl1 j2_1 j2_2 j2_3 j2_4 j2_5) (l1_2,(⟨l1_3.Name,r40,l1_3.Rank,l1_3.Card⟩:GCt),(⟨l1_4.Name,l1_4.At,l1_4.Phases,l1_4.Min,l1_4.Max,l1_4.Step,l1_4.Fallback,r40⟩:GCg),l1_5,mset me_msb x3.Name true l1_6) krf
  refine sq_p (iq_p [1000,1001,1002,1003,1004,1005,1006,1007,1008,1009,1010] [] krf (bq_p (kq_p (kq_p (bq_p ?_)))))
  exact hq_p kp_sra [] krf krf krf
 refine xS (eqS x3.Name [114,97,110,107]&&true) (fun h42=>?_) (fun h42=>?_)
 ·refine xs_u krf krf (aop_mfT (kt:=9) (e:=111) (b:=1011) (w:=x3.Name) (ok:=true) (es:=(mfT 1012 1013 1014 1015 1016 1017 1018 1019 1020 1021)) (v:=.agg [.tsl 1 (List.map ci [4]) 1017,B false, .p (.val (.func (.func 46) #[] #[]))]) rfl krf krf krf krf krf (findF_f h5 (findF_f h11 (findF_f h17 (findF_f h24 (findF_f h33 (findF_f h38 (findF_t h42)))))))) (xR 6 krf (xE (sNK ⟨tq75 true yI l1_1,hq79 x3++hq70 yI l1_2 l1_3 l1_4 l1_5++hc0_sra yS yF yD h7_m h8_m++hq71 l1_6++hc1_sra⟩ krf (sS (sS (sDr tfm rfl (xR 9 krf ?_)))))))
  refine xC [.agg [.sl 1, .id, .id], .id] krf (g_site_rule_of_ok n [4] false yI.N (.func 46,#[],#[])) krf krf kff (fun r43=>?_)
  refine xR 2 krf (xED krf (sNK ⟨tq76 yI l1_1 (!r43),hq79 x3++hq70 yI l1_2 l1_3 l1_4 l1_5++hc0_sra yS yF yD h7_m h8_m++hq71 l1_6++hc1_sra⟩ krf (sC (!r43) krf ?_ ?_)))
  ·refine sG (xR 1 krf (xIn [] [I 9, .agg [I x3.Kind,S x3.Name,I x3.N,I x3.At, .p (.sl 5 (mI x3.Kids))]] [] [] [] krf Tryz.func49 rfl Tryz.ntmps49 rfl krf krf krf (sRK tfm ⟨[(0,I 9),qq 3],hq65 x3⟩ krf (sG (xR 6 krf (xPa 116 (.agg [I 9,I x3.At]) krf rfl krf (iq_p [] [] krf ?_)))))))
   refine sq_p (bq_p (kq_p (kq_p (bq_p ?_))))
   exact hq_p kp_sra [] krf krf krf
  refine sK (sNK (sq38 yI l1_1 x3 l1_2 l1_3 l1_4 l1_5 yS yF yD h7_m h8_m l1_6) krf (sS (sS (sDr tfm rfl (xR 6 krf ?_)))))
  refine xs_u krf krf (aop_look (kt:=9) (e:=4) (ke:=mk_msb) (ve:=mv_msb) (eq:=me_msb) (b:=1010) (m:=l1_6) (k:=x3.Name) (z0:=false) rfl krf krf krf krf krf kff (fun _ _=>eqV_strK rfl _ _) krf) ?_
  refine xED krf (sNK ⟨tq78 yI l1_1 (mgetD me_msb x3.Name false l1_6),hq79 x3++hq70 yI l1_2 l1_3 l1_4 l1_5++hc0_sra yS yF yD h7_m h8_m++hq71 l1_6++hc1_sra⟩ krf (sC (mgetD me_msb x3.Name false l1_6) krf ?_ ?_))
  ·refine sG (xR 1 krf (xIn [] [I 5, .agg [I x3.Kind,S x3.Name,I x3.N,I x3.At, .p (.sl 5 (mI x3.Kids))]] [] [] [] krf Tryz.func49 rfl Tryz.ntmps49 rfl krf krf krf (sRK tfm ⟨[(0,I 5),qq 3],hq65 x3⟩ krf (sG (xR 6 krf (xPa 116 (.agg [I 5,I x3.At]) krf rfl krf (iq_p [] [] krf ?_)))))))
   refine sq_p (bq_p (kq_p (kq_p (bq_p ?_))))
   exact hq_p kp_sra [] krf krf krf
  refine sK (sNK (sq38 yI l1_1 x3 l1_2 l1_3 l1_4 l1_5 yS yF yD h7_m h8_m l1_6) krf (sS (sDr tfm rfl (xR 6 krf ?_))))
  refine xs_u krf krf (aop_mset (kt:=9) (e:=4) (ke:=mk_msb) (ve:=mv_msb) (eq:=me_msb) (b:=1010) (m:=l1_6) (k:=x3.Name) (v:=true) rfl krf krf krf krf krf krf kff (fun _ _=>eqV_strK rfl _ _)) ?_
  refine xED krf (sNK (sq38 yI l1_1 x3 l1_2 l1_3 l1_4 l1_5 yS yF yD h7_m h8_m (mset me_msb x3.Name true l1_6)) krf (sG (xR 4 krf (xIn ((hq70 yI l1_2 l1_3 l1_4 l1_5)++hc0_sra yS yF yD h7_m h8_m++(hq71 (mset me_msb x3.Name true l1_6))) [pZ0, .agg [I x3.Kind,S x3.Name,I x3.N,I x3.At, .p (.sl 5 (mI x3.Kids))]] nq7 [] [] krf Tryz.func46 rfl Tryz.ntmps46 rfl krf krf krf (sRK tfm (sq35 x3 yI l1_2 l1_3 l1_4 l1_5 yS yF yD h7_m h8_m (mset me_msb x3.Name true l1_6)) krf (sG (xR 4 krf ?_)))))))
  refine xs_exc [.id, .sl 2] krf (g_site_numbers_ok n x3 [(⟨1,9⟩:GSp)]) krf krf kff kff (fun r44=>?_) (fun e45=>?_)
  ·refine xG krf krf (aop_idx (e:=3) (S:=1) (enc:=ci) (l:=r44) (k:=.i64) (n:=0) (sv:=.p (.sl 1 (List.map ci r44))) rfl krf krf krf krf krf) (fun x46=>?_)
   refine xR 5 krf (xE (iq_n (.id) [1000,1001,1002,1003,1004,1005,1006,1007,1008,1009,1010] [] (.tup []) krf krf (kr0 (xE (bq_n ?_)))))
   exact kqK (k:=fun (j2_1,j2_2,j2_3,j2_4,j2_5)=>g_sr_attrs_j2 l1_1 recl1 j2_1 j2_2 j2_3 j2_4 j2_5) (l1_2,(⟨l1_3.Name,l1_3.Owner,x46,l1_3.Card⟩:GCt),l1_4,l1_5,mset me_msb x3.Name true l1_6) krf
  refine iq_p [1000,1001,1002,1003,1004,1005,1006,1007,1008,1009,1010] [] krf (bq_p (kq_p (kq_p (bq_p ?_))))
  exact hq_p kp_sra [] krf krf krf
 refine xS (eqS x3.Name [99,97,114,100]&&true) (fun h47=>?_) (fun h47=>?_)
 ·refine xs_u krf krf (aop_mfT (kt:=9) (e:=111) (b:=1011) (w:=x3.Name) (ok:=true) (es:=(mfT 1012 1013 1014 1015 1016 1017 1018 1019 1020 1021)) (v:=.agg [.tsl 1 (List.map ci [4]) 1018,B false, .p (.val (.func (.func 48) #[] #[]))]) rfl krf krf krf krf krf (findF_f h5 (findF_f h11 (findF_f h17 (findF_f h24 (findF_f h33 (findF_f h38 (findF_f h42 (findF_t h47))))))))) (xR 6 krf (xE (sNK ⟨tq75 true yI l1_1,hq80 x3++hq70 yI l1_2 l1_3 l1_4 l1_5++hc0_sra yS yF yD h7_m h8_m++hq71 l1_6++hc1_sra⟩ krf (sS (sS (sDr tfm rfl (xR 9 krf ?_)))))))
  refine xC [.agg [.sl 1, .id, .id], .id] krf (g_site_rule_of_ok n [4] false yI.N (.func 48,#[],#[])) krf krf kff (fun r48=>?_)
  refine xR 2 krf (xED krf (sNK ⟨tq76 yI l1_1 (!r48),hq80 x3++hq70 yI l1_2 l1_3 l1_4 l1_5++hc0_sra yS yF yD h7_m h8_m++hq71 l1_6++hc1_sra⟩ krf (sC (!r48) krf ?_ ?_)))
  ·refine sG (xR 1 krf (xIn [] [I 9, .agg [I x3.Kind,S x3.Name,I x3.N,I x3.At, .p (.sl 5 (mI x3.Kids))]] [] [] [] krf Tryz.func49 rfl Tryz.ntmps49 rfl krf krf krf (sRK tfm ⟨[(0,I 9),qq 3],hq65 x3⟩ krf (sG (xR 6 krf (xPa 116 (.agg [I 9,I x3.At]) krf rfl krf (iq_p [] [] krf ?_)))))))
   refine sq_p (bq_p (kq_p (kq_p (bq_p ?_))))
   exact hq_p kp_sra [] krf krf krf
  refine sK (sNK (sq39 yI l1_1 x3 l1_2 l1_3 l1_4 l1_5 yS yF yD h7_m h8_m l1_6) krf (sS (sS (sDr tfm rfl (xR 6 krf ?_)))))
  refine xs_u krf krf (aop_look (kt:=9) (e:=4) (ke:=mk_msb) (ve:=mv_msb) (eq:=me_msb) (b:=1010) (m:=l1_6) (k:=x3.Name) (z0:=false) rfl krf krf krf krf krf kff (fun _ _=>eqV_strK rfl _ _) krf) ?_
  refine xED krf (sNK ⟨tq78 yI l1_1 (mgetD me_msb x3.Name false l1_6),hq80 x3++hq70 yI l1_2 l1_3 l1_4 l1_5++hc0_sra yS yF yD h7_m h8_m++hq71 l1_6++hc1_sra⟩ krf (sC (mgetD me_msb x3.Name false l1_6) krf ?_ ?_))
  ·refine sG (xR 1 krf (xIn [] [I 5, .agg [I x3.Kind,S x3.Name,I x3.N,I x3.At, .p (.sl 5 (mI x3.Kids))]] [] [] [] krf Tryz.func49 rfl Tryz.ntmps49 rfl krf krf krf (sRK tfm ⟨[(0,I 5),qq 3],hq65 x3⟩ krf (sG (xR 6 krf (xPa 116 (.agg [I 5,I x3.At]) krf rfl krf (iq_p [] [] krf ?_)))))))
   refine sq_p (bq_p (kq_p (kq_p (bq_p ?_))))
   exact hq_p kp_sra [] krf krf krf
  refine sK (sNK (sq39 yI l1_1 x3 l1_2 l1_3 l1_4 l1_5 yS yF yD h7_m h8_m l1_6) krf (sS (sDr tfm rfl (xR 6 krf ?_))))
  refine xs_u krf krf (aop_mset (kt:=9) (e:=4) (ke:=mk_msb) (ve:=mv_msb) (eq:=me_msb) (b:=1010) (m:=l1_6) (k:=x3.Name) (v:=true) rfl krf krf krf krf krf krf kff (fun _ _=>eqV_strK rfl _ _)) ?_
  refine xED krf (sNK (sq39 yI l1_1 x3 l1_2 l1_3 l1_4 l1_5 yS yF yD h7_m h8_m (mset me_msb x3.Name true l1_6)) krf (sG (xR 4 krf (xIn ((hq70 yI l1_2 l1_3 l1_4 l1_5)++hc0_sra yS yF yD h7_m h8_m++(hq71 (mset me_msb x3.Name true l1_6))) [pZ0, .agg [I x3.Kind,S x3.Name,I x3.N,I x3.At, .p (.sl 5 (mI x3.Kids))]] nq7 [] [] krf Tryz.func48 rfl Tryz.ntmps48 rfl krf krf krf (sRK tfm (sq35 x3 yI l1_2 l1_3 l1_4 l1_5 yS yF yD h7_m h8_m (mset me_msb x3.Name true l1_6)) krf (sS (sG ?_)))))))
  refine xR 4 krf ?_
  refine xs_exc [.id, .sl 2] krf (g_site_numbers_ok n x3 [(⟨1,1000000⟩:GSp)]) krf krf kff kff (fun r49=>?_) (fun e50=>?_)
  rotate_left
  ·refine sq_p (iq_p [1000,1001,1002,1003,1004,1005,1006,1007,1008,1009,1010] [] krf (bq_p (kq_p (kq_p (bq_p ?_)))))
   exact hq_p kp_sra [] krf krf krf
  refine xG krf krf (aop_idx (e:=3) (S:=1) (enc:=ci) (l:=r49) (k:=.i64) (n:=0) (sv:=.p (.sl 1 (List.map ci r49))) rfl krf krf krf krf krf) (fun x51=>?_)
  refine xR 5 krf (xE (sNK ⟨[(0,pZ0),qq 3],hq65 x3++hq81 yI l1_2 l1_3 x51 l1_4 l1_5++hc0_sra yS yF yD h7_m h8_m++hq71 (mset me_msb x3.Name true l1_6)⟩ krf (sRK tfm (sq40 yS 0 x3 yI l1_2 l1_3 x51 l1_4 l1_5 yF yD h7_m h8_m (mset me_msb x3.Name true l1_6)) krf (sB (sim_loop (fun l52=>(sq40 yS l52 x3 yI l1_2 l1_3 x51 l1_4 l1_5 yF yD h7_m h8_m (mset me_msb x3.Name true l1_6)):Int→St) (wsK krf) ?_)))))
  rintro recl52 l52
  show SimE (g_sr_attrs_l52 yS l1_1 l1_2 l1_3 l1_4 l1_5 l1_6 recl1 x3 x51 recl52 l52) _ _ _ _ _ _
  unfold g_sr_attrs_l52
  refine sRK tfm ⟨[(0,pZ0),qq 3,(23, .tsl 4 (mCt yS.Contracts) 1004),(24,I (lenI (mCt yS.Contracts))),(25,I l52),(26,B (ltI l52 (lenI (mCt yS.Contracts))))],hq65 x3++hq81 yI l1_2 l1_3 x51 l1_4 l1_5++hc0_sra yS yF yD h7_m h8_m++hq71 (mset me_msb x3.Name true l1_6)⟩ krf (sS (sC (ltI l52 (lenI (mCt yS.Contracts))) krf ?_ ?_))
  rotate_left
  ·refine sim_exit (sq_x (kq_x (bq_hit (iq_n (.id) [1000,1001,1002,1003,1004,1005,1006,1007,1008,1009,1010] [] (.tup []) krf krf (kr0 (xE (bq_n ?_)))))))
   exact kqK (k:=fun (j2_1,j2_2,j2_3,j2_4,j2_5)=>g_sr_attrs_j2 l1_1 recl1 j2_1 j2_2 j2_3 j2_4 j2_5) (l1_2,(⟨l1_3.Name,l1_3.Owner,l1_3.Rank,x51⟩:GCt),l1_4,l1_5,mset me_msb x3.Name true l1_6) krf
  refine sK (sNK (sq40 yS l52 x3 yI l1_2 l1_3 x51 l1_4 l1_5 yF yD h7_m h8_m (mset me_msb x3.Name true l1_6)) krf (sS (sB (sS (sG ?_)))))
  refine xG krf krf (aop_idx (e:=54) (S:=4) (enc:=GCt.cs) (l:=yS.Contracts) (k:=.i64) (n:=l52) (sv:=.tsl 4 (mCt yS.Contracts) 1004) rfl krf krf krf krf krf) (fun x53=>?_)
  refine xR 3 krf (xE (sNK ⟨[(0,pZ0),qq 3,qq 5,(23, .tsl 4 (mCt yS.Contracts) 1004),(24,I (lenI (mCt yS.Contracts))),(25,I l52)],[(3,bGN24 x3),(5,bGCt54 x53)]++hq81 yI l1_2 l1_3 x51 l1_4 l1_5++hc0_sra yS yF yD h7_m h8_m++hq71 (mset me_msb x3.Name true l1_6)⟩ krf (sRK tfm ⟨[(0,pZ0),qq 3,(23, .tsl 4 (mCt yS.Contracts) 1004),(24,I (lenI (mCt yS.Contracts))),(25,I l52),(36,B (eqI x53.Card x51))],hq65 x3++hq81 yI l1_2 l1_3 x51 l1_4 l1_5++hc0_sra yS yF yD h7_m h8_m++hq71 (mset me_msb x3.Name true l1_6)⟩ krf (sC (eqI x53.Card x51) krf ?_ ?_))))
  rotate_left
  ·refine sK (bq_n (sNK (sq40 yS l52 x3 yI l1_2 l1_3 x51 l1_4 l1_5 yF yD h7_m h8_m (mset me_msb x3.Name true l1_6)) krf (sL tfm krf ?_)))
   exact kqK (wi (l52+1)) krf
  refine sG (xR 1 krf (xIn [] [I 5, .agg [I x3.Kind,S x3.Name,I x3.N,I x3.At, .p (.sl 5 (mI x3.Kids))]] [] [] [] krf Tryz.func49 rfl Tryz.ntmps49 rfl krf krf krf (sRK tfm ⟨[(0,I 5),qq 3],hq65 x3⟩ krf (sG (xR 6 krf (xPa 116 (.agg [I 5,I x3.At]) krf rfl krf (iq_p [] [] krf ?_)))))))
  refine bq_p (sq_p (kq_p (bq_p (iq_p [1000,1001,1002,1003,1004,1005,1006,1007,1008,1009,1010] [] krf (bq_p (kq_p (kq_p ?_)))))))
  refine bq_p ?_
  exact hq_p kp_sra [] krf krf krf
 refine xS (eqS x3.Name [97,116]&&true) (fun h54=>?_) (fun h54=>?_)
 ·refine xs_u krf krf (aop_mfT (kt:=9) (e:=111) (b:=1011) (w:=x3.Name) (ok:=true) (es:=(mfT 1012 1013 1014 1015 1016 1017 1018 1019 1020 1021)) (v:=.agg [.tsl 1 (List.map ci [5]) 1019,B false, .p (.val (.func (.func 50) #[] #[]))]) rfl krf krf krf krf krf (findF_f h5 (findF_f h11 (findF_f h17 (findF_f h24 (findF_f h33 (findF_f h38 (findF_f h42 (findF_f h47 (findF_t h54)))))))))) (xR 6 krf (xE (sNK (sq41 yI l1_1 x3 (.func (.func 50) #[] #[]) l1_2 l1_3 l1_4 l1_5 yS yF yD h7_m h8_m l1_6) krf (sS (sS (sDr tfm rfl (xR 9 krf ?_)))))))
  refine xC [.agg [.sl 1, .id, .id], .id] krf (g_site_rule_of_ok n [5] false yI.N (.func 50,#[],#[])) krf krf kff (fun r55=>?_)
  refine xR 2 krf (xED krf (sNK (sq42 yI l1_1 (!r55) x3 (.func (.func 50) #[] #[]) l1_2 l1_3 l1_4 l1_5 yS yF yD h7_m h8_m l1_6) krf (sC (!r55) krf ?_ ?_)))
  ·refine sG (xR 1 krf (xIn [] [I 9, .agg [I x3.Kind,S x3.Name,I x3.N,I x3.At, .p (.sl 5 (mI x3.Kids))]] [] [] [] krf Tryz.func49 rfl Tryz.ntmps49 rfl krf krf krf (sRK tfm ⟨[(0,I 9),qq 3],hq65 x3⟩ krf (sG (xR 6 krf (xPa 116 (.agg [I 9,I x3.At]) krf rfl krf (iq_p [] [] krf ?_)))))))
   refine sq_p (bq_p (kq_p (kq_p (bq_p ?_))))
   exact hq_p kp_sra [] krf krf krf
  refine sK (sNK (sq43 yI l1_1 x3 (.func (.func 50) #[] #[]) l1_2 l1_3 l1_4 l1_5 yS yF yD h7_m h8_m l1_6) krf (sS (sS (sDr tfm rfl (xR 6 krf ?_)))))
  refine xs_u krf krf (aop_look (kt:=9) (e:=4) (ke:=mk_msb) (ve:=mv_msb) (eq:=me_msb) (b:=1010) (m:=l1_6) (k:=x3.Name) (z0:=false) rfl krf krf krf krf krf kff (fun _ _=>eqV_strK rfl _ _) krf) ?_
  refine xED krf (sNK (sq44 yI l1_1 (mgetD me_msb x3.Name false l1_6) x3 (.func (.func 50) #[] #[]) l1_2 l1_3 l1_4 l1_5 yS yF yD h7_m h8_m l1_6) krf (sC (mgetD me_msb x3.Name false l1_6) krf ?_ ?_))
  ·refine sG (xR 1 krf (xIn [] [I 5, .agg [I x3.Kind,S x3.Name,I x3.N,I x3.At, .p (.sl 5 (mI x3.Kids))]] [] [] [] krf Tryz.func49 rfl Tryz.ntmps49 rfl krf krf krf (sRK tfm ⟨[(0,I 5),qq 3],hq65 x3⟩ krf (sG (xR 6 krf (xPa 116 (.agg [I 5,I x3.At]) krf rfl krf (iq_p [] [] krf ?_)))))))
   refine sq_p (bq_p (kq_p (kq_p (bq_p ?_))))
   exact hq_p kp_sra [] krf krf krf
  refine sK (sNK (sq43 yI l1_1 x3 (.func (.func 50) #[] #[]) l1_2 l1_3 l1_4 l1_5 yS yF yD h7_m h8_m l1_6) krf (sS (sDr tfm rfl (xR 6 krf ?_))))
  refine xs_u krf krf (aop_mset (kt:=9) (e:=4) (ke:=mk_msb) (ve:=mv_msb) (eq:=me_msb) (b:=1010) (m:=l1_6) (k:=x3.Name) (v:=true) rfl krf krf krf krf krf krf kff (fun _ _=>eqV_strK rfl _ _)) ?_
  refine xED krf (sNK (sq43 yI l1_1 x3 (.func (.func 50) #[] #[]) l1_2 l1_3 l1_4 l1_5 yS yF yD h7_m h8_m (mset me_msb x3.Name true l1_6)) krf (sG (xR 4 krf (xIn ((hq70 yI l1_2 l1_3 l1_4 l1_5)++hc0_sra yS yF yD h7_m h8_m++(hq71 (mset me_msb x3.Name true l1_6))) [pZ0, .agg [I x3.Kind,S x3.Name,I x3.N,I x3.At, .p (.sl 5 (mI x3.Kids))]] nq7 [] [] krf Tryz.func50 rfl Tryz.ntmps50 rfl krf krf krf (sRK tfm (sq35 x3 yI l1_2 l1_3 l1_4 l1_5 yS yF yD h7_m h8_m (mset me_msb x3.Name true l1_6)) krf (sG (xR 4 krf ?_)))))))
  refine xs_heapE nq8 [] [] krf (g_sr_name_ok n x3 yI l1_2 l1_3 l1_4 l1_5 yS yF yD h7_m h8_m (mset me_msb x3.Name true l1_6)) krf krf krf kff kff kff kff (fun r56=>?_) (fun e57=>?_)
  ·refine xR 4 krf (xE (iq_n (.id) [1000,1001,1002,1003,1004,1005,1006,1007,1008,1009,1010] [] (.tup []) krf krf (kr0 (xE (bq_n ?_)))))
   exact kqK (k:=fun (j2_1,j2_2,j2_3,j2_4,j2_5)=>g_sr_attrs_j2 l1_1 recl1 j2_1 j2_2 j2_3 j2_4 j2_5) (l1_2,l1_3,(⟨l1_4.Name,r56,l1_4.Phases,l1_4.Min,l1_4.Max,l1_4.Step,l1_4.Fallback,l1_4.Owner⟩:GCg),l1_5,mset me_msb x3.Name true l1_6) krf
  refine iq_p [1000,1001,1002,1003,1004,1005,1006,1007,1008,1009,1010] [] krf (bq_p (kq_p (kq_p (bq_p ?_))))
  exact hq_p kp_sra [] krf krf krf
 refine xS (eqS x3.Name [112,104,97,115,101,115]&&true) (fun h58=>?_) (fun h58=>?_)
 ·refine xs_u krf krf (aop_mfT (kt:=9) (e:=111) (b:=1011) (w:=x3.Name) (ok:=true) (es:=(mfT 1012 1013 1014 1015 1016 1017 1018 1019 1020 1021)) (v:=.agg [.tsl 1 (List.map ci [5]) 1019,B false, .p (.val (.func (.func 51) #[] #[]))]) rfl krf krf krf krf krf (findF_f h5 (findF_f h11 (findF_f h17 (findF_f h24 (findF_f h33 (findF_f h38 (findF_f h42 (findF_f h47 (findF_f h54 (findF_t h58))))))))))) (xR 6 krf (xE (sNK (sq41 yI l1_1 x3 (.func (.func 51) #[] #[]) l1_2 l1_3 l1_4 l1_5 yS yF yD h7_m h8_m l1_6) krf (sS (sS (sDr tfm rfl (xR 9 krf ?_)))))))
  refine xC [.agg [.sl 1, .id, .id], .id] krf (g_site_rule_of_ok n [5] false yI.N (.func 51,#[],#[])) krf krf kff (fun r59=>?_)
  refine xR 2 krf (xED krf (sNK (sq42 yI l1_1 (!r59) x3 (.func (.func 51) #[] #[]) l1_2 l1_3 l1_4 l1_5 yS yF yD h7_m h8_m l1_6) krf (sC (!r59) krf ?_ ?_)))
  ·refine sG (xR 1 krf (xIn [] [I 9, .agg [I x3.Kind,S x3.Name,I x3.N,I x3.At, .p (.sl 5 (mI x3.Kids))]] [] [] [] krf Tryz.func49 rfl Tryz.ntmps49 rfl krf krf krf (sRK tfm ⟨[(0,I 9),qq 3],hq65 x3⟩ krf (sG (xR 6 krf (xPa 116 (.agg [I 9,I x3.At]) krf rfl krf (iq_p [] [] krf ?_)))))))
   refine sq_p (bq_p (kq_p (kq_p (bq_p ?_))))
   exact hq_p kp_sra [] krf krf krf
  refine sK (sNK (sq43 yI l1_1 x3 (.func (.func 51) #[] #[]) l1_2 l1_3 l1_4 l1_5 yS yF yD h7_m h8_m l1_6) krf (sS (sS (sDr tfm rfl (xR 6 krf ?_)))))
  refine xs_u krf krf (aop_look (kt:=9) (e:=4) (ke:=mk_msb) (ve:=mv_msb) (eq:=me_msb) (b:=1010) (m:=l1_6) (k:=x3.Name) (z0:=false) rfl krf krf krf krf krf kff (fun _ _=>eqV_strK rfl _ _) krf) ?_
  refine xED krf (sNK (sq44 yI l1_1 (mgetD me_msb x3.Name false l1_6) x3 (.func (.func 51) #[] #[]) l1_2 l1_3 l1_4 l1_5 yS yF yD h7_m h8_m l1_6) krf (sC (mgetD me_msb x3.Name false l1_6) krf ?_ ?_))
  ·refine sG (xR 1 krf (xIn [] [I 5, .agg [I x3.Kind,S x3.Name,I x3.N,I x3.At, .p (.sl 5 (mI x3.Kids))]] [] [] [] krf Tryz.func49 rfl Tryz.ntmps49 rfl krf krf krf (sRK tfm ⟨[(0,I 5),qq 3],hq65 x3⟩ krf (sG (xR 6 krf (xPa 116 (.agg [I 5,I x3.At]) krf rfl krf (iq_p [] [] krf ?_)))))))
   refine sq_p (bq_p (kq_p (kq_p (bq_p ?_))))
   exact hq_p kp_sra [] krf krf krf
  refine sK (sNK (sq43 yI l1_1 x3 (.func (.func 51) #[] #[]) l1_2 l1_3 l1_4 l1_5 yS yF yD h7_m h8_m l1_6) krf (sS (sDr tfm rfl (xR 6 krf ?_))))
  refine xs_u krf krf (aop_mset (kt:=9) (e:=4) (ke:=mk_msb) (ve:=mv_msb) (eq:=me_msb) (b:=1010) (m:=l1_6) (k:=x3.Name) (v:=true) rfl krf krf krf krf krf krf kff (fun _ _=>eqV_strK rfl _ _)) ?_
  refine xED krf (sNK (sq43 yI l1_1 x3 (.func (.func 51) #[] #[]) l1_2 l1_3 l1_4 l1_5 yS yF yD h7_m h8_m (mset me_msb x3.Name true l1_6)) krf (sG (xR 4 krf (xIn ((hq70 yI l1_2 l1_3 l1_4 l1_5)++hc0_sra yS yF yD h7_m h8_m++(hq71 (mset me_msb x3.Name true l1_6))) [pZ0, .agg [I x3.Kind,S x3.Name,I x3.N,I x3.At, .p (.sl 5 (mI x3.Kids))]] nq7 [] [] krf Tryz.func51 rfl Tryz.ntmps51 rfl krf krf krf (sRK tfm (sq35 x3 yI l1_2 l1_3 l1_4 l1_5 yS yF yD h7_m h8_m (mset me_msb x3.Name true l1_6)) krf (sG (xR 2 krf ?_)))))))
  refine xs_exc [] krf (g_site_phases_ok n x3) krf krf kff kff (fun r60=>?_) (fun e61=>?_)
  ·refine xR 4 krf (xE (iq_n (.id) [1000,1001,1002,1003,1004,1005,1006,1007,1008,1009,1010] [] (.tup []) krf krf (kr0 (xE (bq_n ?_)))))
   exact kqK (k:=fun (j2_1,j2_2,j2_3,j2_4,j2_5)=>g_sr_attrs_j2 l1_1 recl1 j2_1 j2_2 j2_3 j2_4 j2_5) (l1_2,l1_3,(⟨l1_4.Name,l1_4.At,r60,l1_4.Min,l1_4.Max,l1_4.Step,l1_4.Fallback,l1_4.Owner⟩:GCg),l1_5,mset me_msb x3.Name true l1_6) krf
  refine iq_p [1000,1001,1002,1003,1004,1005,1006,1007,1008,1009,1010] [] krf (bq_p (kq_p (kq_p (bq_p ?_))))
  exact hq_p kp_sra [] krf krf krf
 refine xS (eqS x3.Name [97,109,112,115]&&true) (fun h62=>?_) (fun h62=>?_)
 ·refine xs_u krf krf (aop_mfT (kt:=9) (e:=111) (b:=1011) (w:=x3.Name) (ok:=true) (es:=(mfT 1012 1013 1014 1015 1016 1017 1018 1019 1020 1021)) (v:=.agg [.tsl 1 (List.map ci [5]) 1019,B false, .fn (.func 53) [] [.ptr 1020 0]]) rfl krf krf krf krf krf (findF_f h5 (findF_f h11 (findF_f h17 (findF_f h24 (findF_f h33 (findF_f h38 (findF_f h42 (findF_f h47 (findF_f h54 (findF_f h58 (findF_t h62)))))))))))) (xR 6 krf (xE (sNK ⟨tq75 true yI l1_1,hq83 x3++hq70 yI l1_2 l1_3 l1_4 l1_5++hc0_sra yS yF yD h7_m h8_m++hq71 l1_6++hc1_sra⟩ krf (sS (sS (sDr tfm rfl (xR 9 krf ?_)))))))
  refine xs_seqL rfl krf krf (xs_enter (f:=83) (args:=[.agg [.tsl 1 (List.map ci [5]) 1019,B false, .fn (.func 53) [] [.ptr 1020 0]],I yI.N]) krf krf krf ?_)
  refine sc_raw 2 rfl (fun hw63=>?_)
  refine sc_pure [.agg [.sl 1, .id, .id], .id] (g_site_rule_of_ok n [5] false yI.N hw63) krf krf kff (fun r64=>?_)
  refine kr0 (xR 2 krf (xE (sNK ⟨tq76 yI l1_1 (!r64),hq83 x3++hq70 yI l1_2 l1_3 l1_4 l1_5++hc0_sra yS yF yD h7_m h8_m++hq71 l1_6++hc1_sra⟩ krf (sC (!r64) krf ?_ ?_))))
  ·refine sG (xR 1 krf (xIn [] [I 9, .agg [I x3.Kind,S x3.Name,I x3.N,I x3.At, .p (.sl 5 (mI x3.Kids))]] [] [] [] krf Tryz.func49 rfl Tryz.ntmps49 rfl krf krf krf (sRK tfm ⟨[(0,I 9),qq 3],hq65 x3⟩ krf (sG (xR 6 krf (xPa 116 (.agg [I 9,I x3.At]) krf rfl krf (iq_p [] [] krf ?_)))))))
   refine sq_p (bq_p (kq_p (kq_p (bq_p ?_))))
   exact hq_p kp_sra [] krf krf krf
  refine sK (sNK (sq45 yI l1_1 x3 l1_2 l1_3 l1_4 l1_5 yS yF yD h7_m h8_m l1_6) krf (sS (sS (sDr tfm rfl (xR 6 krf ?_)))))
  refine xs_u krf krf (aop_look (kt:=9) (e:=4) (ke:=mk_msb) (ve:=mv_msb) (eq:=me_msb) (b:=1010) (m:=l1_6) (k:=x3.Name) (z0:=false) rfl krf krf krf krf krf kff (fun _ _=>eqV_strK rfl _ _) krf) ?_
  refine xED krf (sNK ⟨tq78 yI l1_1 (mgetD me_msb x3.Name false l1_6),hq83 x3++hq70 yI l1_2 l1_3 l1_4 l1_5++hc0_sra yS yF yD h7_m h8_m++hq71 l1_6++hc1_sra⟩ krf (sC (mgetD me_msb x3.Name false l1_6) krf ?_ ?_))
  ·refine sG (xR 1 krf (xIn [] [I 5, .agg [I x3.Kind,S x3.Name,I x3.N,I x3.At, .p (.sl 5 (mI x3.Kids))]] [] [] [] krf Tryz.func49 rfl Tryz.ntmps49 rfl krf krf krf (sRK tfm ⟨[(0,I 5),qq 3],hq65 x3⟩ krf (sG (xR 6 krf (xPa 116 (.agg [I 5,I x3.At]) krf rfl krf (iq_p [] [] krf ?_)))))))
   refine sq_p (bq_p (kq_p (kq_p (bq_p ?_))))
   exact hq_p kp_sra [] krf krf krf
  refine sK (sNK (sq45 yI l1_1 x3 l1_2 l1_3 l1_4 l1_5 yS yF yD h7_m h8_m l1_6) krf (sS (sDr tfm rfl (xR 6 krf ?_))))
  refine xs_u krf krf (aop_mset (kt:=9) (e:=4) (ke:=mk_msb) (ve:=mv_msb) (eq:=me_msb) (b:=1010) (m:=l1_6) (k:=x3.Name) (v:=true) rfl krf krf krf krf krf krf kff (fun _ _=>eqV_strK rfl _ _)) ?_
  refine xED krf (sNK (sq45 yI l1_1 x3 l1_2 l1_3 l1_4 l1_5 yS yF yD h7_m h8_m (mset me_msb x3.Name true l1_6)) krf (sG (xR 4 krf (xIn ((hq70 yI l1_2 l1_3 l1_4 l1_5)++hc0_sra yS yF yD h7_m h8_m++(hq74 (mset me_msb x3.Name true l1_6) 80)) [pZ0, .agg [I x3.Kind,S x3.Name,I x3.N,I x3.At, .p (.sl 5 (mI x3.Kids))], .ptr 1011 0] [(1000,1000),(1001,1001),(1002,1002),(1003,1003),(1004,1004),(1005,1005),(1006,1006),(1007,1007),(1008,1008),(1009,1009),(1010,1010),(1011,1020)] [] [] krf Tryz.func53 rfl Tryz.ntmps53 rfl krf krf krf (sRK tfm (sq33 x3 yI l1_2 l1_3 l1_4 l1_5 yS yF yD h7_m h8_m (mset me_msb x3.Name true l1_6) 80) krf (sS (sG ?_)))))))
  refine xR 5 krf ?_
  refine xs_exc [.id, .sl 2] krf (g_site_numbers_ok n x3 [(⟨1,80⟩:GSp),(⟨1,80⟩:GSp),(⟨1,80⟩:GSp)]) krf krf kff kff (fun r65=>?_) (fun e66=>?_)
  rotate_left
  ·refine sq_p (iq_p [1000,1001,1002,1003,1004,1005,1006,1007,1008,1009,1010,1011] [] krf (bq_p (kq_p (kq_p (bq_p ?_)))))
   exact hq_p kp_sra [] krf krf krf
  refine xR 1 krf (xE (sNK ⟨tq80 r65,hq70 yI l1_2 l1_3 l1_4 l1_5++hc0_sra yS yF yD h7_m h8_m++hq74 (mset me_msb x3.Name true l1_6) 80⟩ krf (sDr tfm rfl (xR 4 krf ?_))))
  refine xG krf krf (aop_idx (e:=3) (S:=1) (enc:=ci) (l:=r65) (k:=.i64) (n:=0) (sv:=.p (.sl 1 (List.map ci r65))) rfl krf krf krf krf krf) (fun x67=>?_)
  refine xR 2 krf ?_
  refine xG krf krf (aop_idx (e:=3) (S:=1) (enc:=ci) (l:=r65) (k:=.i64) (n:=1) (sv:=.p (.sl 1 (List.map ci r65))) rfl krf krf krf krf krf) (fun x68=>?_)
  refine xR 2 krf ?_
  refine xG krf krf (aop_idx (e:=3) (S:=1) (enc:=ci) (l:=r65) (k:=.i64) (n:=2) (sv:=.p (.sl 1 (List.map ci r65))) rfl krf krf krf krf krf) (fun x69=>?_)
  refine xR 13 krf (xED krf (iq_n (.id) [1000,1001,1002,1003,1004,1005,1006,1007,1008,1009,1010,1011] [] (.tup []) krf krf (kr0 (xE (bq_n ?_)))))
  exact kqK (k:=fun (j2_1,j2_2,j2_3,j2_4,j2_5)=>g_sr_attrs_j2 l1_1 recl1 j2_1 j2_2 j2_3 j2_4 j2_5) (l1_2,l1_3,(⟨l1_4.Name,l1_4.At,l1_4.Phases,x67,x68,x69,l1_4.Fallback,l1_4.Owner⟩:GCg),l1_5,mset me_msb x3.Name true l1_6) krf
 refine xS (eqS x3.Name [102,97,108,108,98,97,99,107]&&true) (fun h70=>?_) (fun h70=>?_)
 ·refine xs_u krf krf (aop_mfT (kt:=9) (e:=111) (b:=1011) (w:=x3.Name) (ok:=true) (es:=(mfT 1012 1013 1014 1015 1016 1017 1018 1019 1020 1021)) (v:=.agg [.tsl 1 (List.map ci [5]) 1019,B false, .p (.val (.func (.func 54) #[] #[]))]) rfl krf krf krf krf krf (findF_f h5 (findF_f h11 (findF_f h17 (findF_f h24 (findF_f h33 (findF_f h38 (findF_f h42 (findF_f h47 (findF_f h54 (findF_f h58 (findF_f h62 (findF_t h70))))))))))))) (xR 6 krf (xE (sNK (sq41 yI l1_1 x3 (.func (.func 54) #[] #[]) l1_2 l1_3 l1_4 l1_5 yS yF yD h7_m h8_m l1_6) krf (sS (sS (sDr tfm rfl (xR 9 krf ?_)))))))
  refine xC [.agg [.sl 1, .id, .id], .id] krf (g_site_rule_of_ok n [5] false yI.N (.func 54,#[],#[])) krf krf kff (fun r71=>?_)
  refine xR 2 krf (xED krf (sNK (sq42 yI l1_1 (!r71) x3 (.func (.func 54) #[] #[]) l1_2 l1_3 l1_4 l1_5 yS yF yD h7_m h8_m l1_6) krf (sC (!r71) krf ?_ ?_)))
  ·refine sG (xR 1 krf (xIn [] [I 9, .agg [I x3.Kind,S x3.Name,I x3.N,I x3.At, .p (.sl 5 (mI x3.Kids))]] [] [] [] krf Tryz.func49 rfl Tryz.ntmps49 rfl krf krf krf (sRK tfm ⟨[(0,I 9),qq 3],hq65 x3⟩ krf (sG (xR 6 krf (xPa 116 (.agg [I 9,I x3.At]) krf rfl krf (iq_p [] [] krf ?_)))))))
   refine sq_p (bq_p (kq_p (kq_p (bq_p ?_))))
   exact hq_p kp_sra [] krf krf krf
  refine sK (sNK (sq43 yI l1_1 x3 (.func (.func 54) #[] #[]) l1_2 l1_3 l1_4 l1_5 yS yF yD h7_m h8_m l1_6) krf (sS (sS (sDr tfm rfl (xR 6 krf ?_)))))
  refine xs_u krf krf (aop_look (kt:=9) (e:=4) (ke:=mk_msb) (ve:=mv_msb) (eq:=me_msb) (b:=1010) (m:=l1_6) (k:=x3.Name) (z0:=false) rfl krf krf krf krf krf kff (fun _ _=>eqV_strK rfl _ _) krf) ?_
  refine xED krf (sNK (sq44 yI l1_1 (mgetD me_msb x3.Name false l1_6) x3 (.func (.func 54) #[] #[]) l1_2 l1_3 l1_4 l1_5 yS yF yD h7_m h8_m l1_6) krf (sC (mgetD me_msb x3.Name false l1_6) krf ?_ ?_))
  ·refine sG (xR 1 krf (xIn [] [I 5, .agg [I x3.Kind,S x3.Name,I x3.N,I x3.At, .p (.sl 5 (mI x3.Kids))]] [] [] [] krf Tryz.func49 rfl Tryz.ntmps49 rfl krf krf krf (sRK tfm ⟨[(0,I 5),qq 3],hq65 x3⟩ krf (sG (xR 6 krf (xPa 116 (.agg [I 5,I x3.At]) krf rfl krf (iq_p [] [] krf ?_)))))))
   refine sq_p (bq_p (kq_p (kq_p (bq_p ?_))))
   exact hq_p kp_sra [] krf krf krf
  refine sK (sNK (sq43 yI l1_1 x3 (.func (.func 54) #[] #[]) l1_2 l1_3 l1_4 l1_5 yS yF yD h7_m h8_m l1_6) krf (sS (sDr tfm rfl (xR 6 krf ?_))))
  refine xs_u krf krf (aop_mset (kt:=9) (e:=4) (ke:=mk_msb) (ve:=mv_msb) (eq:=me_msb) (b:=1010) (m:=l1_6) (k:=x3.Name) (v:=true) rfl krf krf krf krf krf krf kff (fun _ _=>eqV_strK rfl _ _)) ?_
  refine xED krf (sNK (sq43 yI l1_1 x3 (.func (.func 54) #[] #[]) l1_2 l1_3 l1_4 l1_5 yS yF yD h7_m h8_m (mset me_msb x3.Name true l1_6)) krf (sG (xR 4 krf (xIn ((hq70 yI l1_2 l1_3 l1_4 l1_5)++hc0_sra yS yF yD h7_m h8_m++(hq71 (mset me_msb x3.Name true l1_6))) [pZ0, .agg [I x3.Kind,S x3.Name,I x3.N,I x3.At, .p (.sl 5 (mI x3.Kids))]] nq7 [] [] krf Tryz.func54 rfl Tryz.ntmps54 rfl krf krf krf (sRK tfm (sq35 x3 yI l1_2 l1_3 l1_4 l1_5 yS yF yD h7_m h8_m (mset me_msb x3.Name true l1_6)) krf (sG (xR 4 krf ?_)))))))
  refine xs_exc [.id, .sl 2] krf (g_site_numbers_ok n x3 [(⟨0,80⟩:GSp)]) krf krf kff kff (fun r72=>?_) (fun e73=>?_)
  ·refine xG krf krf (aop_idx (e:=3) (S:=1) (enc:=ci) (l:=r72) (k:=.i64) (n:=0) (sv:=.p (.sl 1 (List.map ci r72))) rfl krf krf krf krf krf) (fun x74=>?_)
   refine xR 5 krf (xE (iq_n (.id) [1000,1001,1002,1003,1004,1005,1006,1007,1008,1009,1010] [] (.tup []) krf krf (kr0 (xE (bq_n ?_)))))
   exact kqK (k:=fun (j2_1,j2_2,j2_3,j2_4,j2_5)=>g_sr_attrs_j2 l1_1 recl1 j2_1 j2_2 j2_3 j2_4 j2_5) (l1_2,l1_3,(⟨l1_4.Name,l1_4.At,l1_4.Phases,l1_4.Min,l1_4.Max,l1_4.Step,x74,l1_4.Owner⟩:GCg),l1_5,mset me_msb x3.Name true l1_6) krf
  refine iq_p [1000,1001,1002,1003,1004,1005,1006,1007,1008,1009,1010] [] krf (bq_p (kq_p (kq_p (bq_p ?_))))
  exact hq_p kp_sra [] krf krf krf
 refine xS (eqS x3.Name [99,104,97,114,103,101,114]&&true) (fun h75=>?_) (fun h75=>?_)
 rotate_left
 ·refine xs_u krf krf (aop_mfN (kt:=9) (e:=111) (b:=1011) (w:=x3.Name) (ok:=true) (es:=(mfT 1012 1013 1014 1015 1016 1017 1018 1019 1020 1021)) (z:=.agg #[.slice none 0 0, .bool false, .nilFunc]) rfl krf krf krf krf krf krf (findF_f h5 (findF_f h11 (findF_f h17 (findF_f h24 (findF_f h33 (findF_f h38 (findF_f h42 (findF_f h47 (findF_f h54 (findF_f h58 (findF_f h62 (findF_f h70 (findF_f h75 (findF_n))))))))))))))) (xR 6 krf (xE (sNK ⟨tq75 false yI l1_1,hq85 x3++hq70 yI l1_2 l1_3 l1_4 l1_5++hc0_sra yS yF yD h7_m h8_m++hq71 l1_6++hc1_sra⟩ krf (sS (sRK tfm ⟨tq76 yI l1_1 true,hq85 x3++hq70 yI l1_2 l1_3 l1_4 l1_5++hc0_sra yS yF yD h7_m h8_m++hq71 l1_6++hc1_sra⟩ krf (sim_condT krf (sG ?_)))))))
  refine xR 1 krf (xIn [] [I 9, .agg [I x3.Kind,S x3.Name,I x3.N,I x3.At, .p (.sl 5 (mI x3.Kids))]] [] [] [] krf Tryz.func49 rfl Tryz.ntmps49 rfl krf krf krf (sRK tfm ⟨[(0,I 9),qq 3],hq65 x3⟩ krf (sG (xR 6 krf (xPa 116 (.agg [I 9,I x3.At]) krf rfl krf (iq_p [] [] krf (sq_p ?_)))))))
  refine bq_p (kq_p (kq_p (bq_p ?_)))
  exact hq_p kp_sra [] krf krf krf
 refine xs_u krf krf (aop_mfT (kt:=9) (e:=111) (b:=1011) (w:=x3.Name) (ok:=true) (es:=(mfT 1012 1013 1014 1015 1016 1017 1018 1019 1020 1021)) (v:=.agg [.tsl 1 (List.map ci [6]) 1021,B false, .p (.val (.func (.func 55) #[] #[]))]) rfl krf krf krf krf krf (findF_f h5 (findF_f h11 (findF_f h17 (findF_f h24 (findF_f h33 (findF_f h38 (findF_f h42 (findF_f h47 (findF_f h54 (findF_f h58 (findF_f h62 (findF_f h70 (findF_t h75)))))))))))))) (xR 6 krf (xE (sNK ⟨tq75 true yI l1_1,hq84 x3++hq70 yI l1_2 l1_3 l1_4 l1_5++hc0_sra yS yF yD h7_m h8_m++hq71 l1_6++hc1_sra⟩ krf (sS (sS (sDr tfm rfl (xR 9 krf ?_)))))))
 refine xC [.agg [.sl 1, .id, .id], .id] krf (g_site_rule_of_ok n [6] false yI.N (.func 55,#[],#[])) krf krf kff (fun r76=>?_)
 refine xR 2 krf (xED krf (sNK ⟨tq76 yI l1_1 (!r76),hq84 x3++hq70 yI l1_2 l1_3 l1_4 l1_5++hc0_sra yS yF yD h7_m h8_m++hq71 l1_6++hc1_sra⟩ krf (sC (!r76) krf ?_ ?_)))
 ·refine sG (xR 1 krf (xIn [] [I 9, .agg [I x3.Kind,S x3.Name,I x3.N,I x3.At, .p (.sl 5 (mI x3.Kids))]] [] [] [] krf Tryz.func49 rfl Tryz.ntmps49 rfl krf krf krf (sRK tfm ⟨[(0,I 9),qq 3],hq65 x3⟩ krf (sG (xR 6 krf (xPa 116 (.agg [I 9,I x3.At]) krf rfl krf (iq_p [] [] krf ?_)))))))
  refine sq_p (bq_p (kq_p (kq_p (bq_p ?_))))
  exact hq_p kp_sra [] krf krf krf
 refine sK (sNK (sq46 yI l1_1 x3 l1_2 l1_3 l1_4 l1_5 yS yF yD h7_m h8_m l1_6) krf (sS (sS (sDr tfm rfl (xR 6 krf ?_)))))
 refine xs_u krf krf (aop_look (kt:=9) (e:=4) (ke:=mk_msb) (ve:=mv_msb) (eq:=me_msb) (b:=1010) (m:=l1_6) (k:=x3.Name) (z0:=false) rfl krf krf krf krf krf kff (fun _ _=>eqV_strK rfl _ _) krf) ?_
 refine xED krf (sNK ⟨tq78 yI l1_1 (mgetD me_msb x3.Name false l1_6),hq84 x3++hq70 yI l1_2 l1_3 l1_4 l1_5++hc0_sra yS yF yD h7_m h8_m++hq71 l1_6++hc1_sra⟩ krf (sC (mgetD me_msb x3.Name false l1_6) krf ?_ ?_))
 ·refine sG (xR 1 krf (xIn [] [I 5, .agg [I x3.Kind,S x3.Name,I x3.N,I x3.At, .p (.sl 5 (mI x3.Kids))]] [] [] [] krf Tryz.func49 rfl Tryz.ntmps49 rfl krf krf krf (sRK tfm ⟨[(0,I 5),qq 3],hq65 x3⟩ krf (sG (xR 6 krf (xPa 116 (.agg [I 5,I x3.At]) krf rfl krf (iq_p [] [] krf ?_)))))))
  refine sq_p (bq_p (kq_p (kq_p (bq_p ?_))))
  exact hq_p kp_sra [] krf krf krf
 refine sK (sNK (sq46 yI l1_1 x3 l1_2 l1_3 l1_4 l1_5 yS yF yD h7_m h8_m l1_6) krf (sS (sDr tfm rfl (xR 6 krf ?_))))
 refine xs_u krf krf (aop_mset (kt:=9) (e:=4) (ke:=mk_msb) (ve:=mv_msb) (eq:=me_msb) (b:=1010) (m:=l1_6) (k:=x3.Name) (v:=true) rfl krf krf krf krf krf krf kff (fun _ _=>eqV_strK rfl _ _)) ?_
 refine xED krf (sNK (sq46 yI l1_1 x3 l1_2 l1_3 l1_4 l1_5 yS yF yD h7_m h8_m (mset me_msb x3.Name true l1_6)) krf (sG (xR 4 krf (xIn ((hq70 yI l1_2 l1_3 l1_4 l1_5)++hc0_sra yS yF yD h7_m h8_m++(hq71 (mset me_msb x3.Name true l1_6))) [pZ0, .agg [I x3.Kind,S x3.Name,I x3.N,I x3.At, .p (.sl 5 (mI x3.Kids))]] nq7 [] [] krf Tryz.func55 rfl Tryz.ntmps55 rfl krf krf krf (sRK tfm (sq35 x3 yI l1_2 l1_3 l1_4 l1_5 yS yF yD h7_m h8_m (mset me_msb x3.Name true l1_6)) krf (sG (xR 4 krf ?_)))))))
 refine xs_heapE nq8 [] [] krf (g_sr_name_3_ok n x3 yI l1_2 l1_3 l1_4 l1_5 yS yF yD h7_m h8_m (mset me_msb x3.Name true l1_6)) krf krf krf kff kff kff kff (fun r77=>?_) (fun e78=>?_)
 ·refine xR 4 krf (xE (iq_n (.id) [1000,1001,1002,1003,1004,1005,1006,1007,1008,1009,1010] [] (.tup []) krf krf (kr0 (xE (bq_n ?_)))))
  exact kqK (k:=fun (j2_1,j2_2,j2_3,j2_4,j2_5)=>g_sr_attrs_j2 l1_1 recl1 j2_1 j2_2 j2_3 j2_4 j2_5) (l1_2,l1_3,l1_4,(⟨l1_5.Name,r77⟩:GBay),mset me_msb x3.Name true l1_6) krf
 refine iq_p [1000,1001,1002,1003,1004,1005,1006,1007,1008,1009,1010] [] krf (bq_p (kq_p (kq_p (bq_p ?_))))
 exact hq_p kp_sra [] krf krf krf
def g_site_goodCable (n:Nat) (a0c:GCable):Option Bool :=
 some (ltI a0c.Ambient a0c.Most)
abbrev bGCable47 (x:GCable):Go.Abs.Blk:=.box 47 (bxc (GCable.cs x))
theorem g_site_goodCable_ok (n:Nat) (a0c:GCable):∀ r,g_site_goodCable n a0c=some r→PCall Tryz.prog 84 [ag (GCable.cs a0c)] (.ret (B r)):=by
 refine pcall_sim (X:=fun r:Bool=>AEnd.ret (B r)) Tryz.func84 rfl Tryz.ntmps84 rfl ?_
 unfold g_site_goodCable
 refine sRK tfm ⟨[qq 1],[(1,bGCable47 a0c)]⟩ krf (sRK tfm ⟨[(2,B (ltI a0c.Ambient a0c.Most))],[]⟩ krf (sT ?_))
 exact qR (.id) krf krf krf
def g_site_goodAmps (n:Nat) (a0c:GCg):Option Bool :=
 cond (leI a0c.Min a0c.Max)
  (cond (eqI a0c.Fallback 0)
   (some true)
   (cond (leI a0c.Min a0c.Fallback)
    (some (leI a0c.Fallback a0c.Max))
    (some false)))
  (some false)
abbrev bGCg56 (x:GCg):Go.Abs.Blk:=.box 56 (bxc (GCg.cs x))
theorem g_site_goodAmps_ok (n:Nat) (a0c:GCg):∀ r,g_site_goodAmps n a0c=some r→PCall Tryz.prog 85 [ag (GCg.cs a0c)] (.ret (B r)):=by
 refine pcall_sim (X:=fun r:Bool=>AEnd.ret (B r)) Tryz.func85 rfl Tryz.ntmps85 rfl ?_
 unfold g_site_goodAmps
 refine sRK tfm ⟨[qq 1],[(1,bGCg56 a0c)]⟩ krf (sS (sG (xR 6 krf ?_)))
 refine xS (leI a0c.Min a0c.Max) (fun h1=>?_) (fun h1=>?_)
 rotate_left
 ·refine xN (want_tf krf h1) krf (xR 18 krf (xE (sNK ⟨[(2,B false)],[]⟩ krf (sT ?_))))
  exact qR (.id) krf krf krf
 refine xO (want_tt krf h1) krf (xR 3 krf ?_)
 refine xS (eqI a0c.Fallback 0) (fun h2=>?_) (fun h2=>?_)
 ·refine xN (want_ft krf h2) krf (xR 14 krf (xE (sNK ⟨[(2,B true)],[]⟩ krf (sT ?_))))
  exact qR (.id) krf krf krf
 refine xO (want_ff krf h2) krf (xR 5 krf ?_)
 refine xS (leI a0c.Min a0c.Fallback) (fun h3=>?_) (fun h3=>?_)
 ·refine xO (want_tt krf h3) krf (xR 8 krf (xE (sNK ⟨[(2,B (leI a0c.Fallback a0c.Max))],[]⟩ krf (sT ?_))))
  exact qR (.id) krf krf krf
 refine xN (want_tf krf h3) krf (xR 8 krf (xE (sNK ⟨[(2,B false)],[]⟩ krf (sT ?_))))
 exact qR (.id) krf krf krf
def hc0_srw (yI:GN) (yC:GCo) (yK:GCt) (yG:GCg) (yB:GBay) (yS:GSite) (yF:Bool) (yD:List GDg) (h7_m:List ((List UInt8) × Bool)) (h8_m:List ((List UInt8) × GTh)) (h10_m:List ((List UInt8) × Bool)):List (Nat × Blk):=[(1000, .box 108 ([.ptr 1001 0]++bxc (GN.cs yI)++[.mv 1010]++bxc (GCo.cs yC)++bxc (GCt.cs yK)++bxc (GCg.cs yG)++[S yB.Name,I yB.Charger])),(1001, .box 74 [.tsl 11 (List.map GCo.cs yS.Conductors) 1002, .tsl 1 (List.map GOwner.cs yS.Owners) 1003, .tsl 4 (List.map GCt.cs yS.Contracts) 1004, .tsl 8 (List.map GCg.cs yS.Chargers) 1005, .tsl 2 (List.map GBay.cs yS.Bays) 1006, .mv 1007,B yF, .mv 1008, .tsl 2 (List.map GDg.cs yD) 1009]),(1002, .arr 49 11 (List.map GCo.cs yS.Conductors).length),(1003, .arr 52 1 (List.map GOwner.cs yS.Owners).length),(1004, .arr 54 4 (List.map GCt.cs yS.Contracts).length),(1005, .arr 56 8 (List.map GCg.cs yS.Chargers).length),(1006, .arr 58 2 (List.map GBay.cs yS.Bays).length),(1007, .mp (mpL mk_msb mv_msb h7_m)),(1008, .mp (mpL mk_mst mv_mst h8_m)),(1009, .arr 65 2 (List.map GDg.cs yD).length),(1010, .mp (mpL mk_msb mv_msb h10_m)),(1011, .mf (mfT 1012 1013 1014 1015 1016 1017 1018 1019 1020 1021)),(1012, .arr 3 1 (List.map ci [1,2]).length),(1013, .box 103 [I 1,I 1000]),(1014, .arr 3 1 (List.map ci [2]).length),(1015, .box 104 [.tsl 1 (List.map ci [1,2]) 1012]),(1016, .arr 3 1 (List.map ci [4,5]).length),(1017, .arr 3 1 (List.map ci [4]).length),(1018, .arr 3 1 (List.map ci [4]).length),(1019, .arr 3 1 (List.map ci [5]).length),(1020, .box 103 [I 1,I 80]),(1021, .arr 3 1 (List.map ci [6]).length)]
def kp_srw:List Nat:=[1000,1001,1002,1003,1004,1005,1006,1007,1008,1009,1010,1011,1012,1013,1014,1015,1016,1017,1018,1019,1020,1021]
def g_sr_whole_j1 (n:Nat) (yI:GN) (yC:GCo) (yG:GCg) (h10_m:List ((List UInt8) × Bool)):Option (Except (Int × Int) Unit) :=
 (cond (mgetD me_msb [116,104,101,114,109,97,108] false h10_m)
  ((g_site_goodCable n yC.Cable).bind fun r4 =>
  cond (!r4)
   (some true)
   (cond (eqI yI.N 5)
    ((g_site_goodAmps n yG).bind fun r7 =>
    some (!r7))
    (some false)))
  (cond (eqI yI.N 5)
   ((g_site_goodAmps n yG).bind fun r9 =>
   some (!r9))
   (some false))).bind fun j2 =>
 cond j2
  (some (.error (3,yI.At)))
  (some (.ok ()))
def g_sr_whole (n:Nat) (yI:GN) (yC:GCo) (yK:GCt) (yG:GCg) (yB:GBay) (yS:GSite) (yF:Bool) (yD:List GDg) (h7_m:List ((List UInt8) × Bool)) (h8_m:List ((List UInt8) × GTh)) (h10_m:List ((List UInt8) × Bool)):Option (Except (Int × Int) Unit) :=
 mrun (some (.error (4,yI.At))) (g_sr_whole_j1 n yI yC yG h10_m) [(fun q16 =>
  ((g_site_rule_of n [1,2] false yI.N).bind fun r20 =>
  cond r20
   (some (!(mgetD me_msb [108,105,109,105,116] false h10_m)))
   (some false)).bind fun j19 =>
  cond j19
   (some (.error (4,yI.At)))
   q16),(fun q23 =>
  ((g_site_rule_of n [1,2] false yI.N).bind fun r27 =>
  cond r27
   (some (!(mgetD me_msb [110,101,117,116,114,97,108] false h10_m)))
   (some false)).bind fun j26 =>
  cond j26
   (some (.error (4,yI.At)))
   q23),(fun q30 =>
  ((g_site_rule_of n [1,2] true yI.N).bind fun r34 =>
  cond r34
   (some ())
   (some ())).bind fun _ =>
  q30),(fun q37 =>
  ((g_site_rule_of n [1,2] true yI.N).bind fun r40 =>
  cond r40
   (some ())
   (some ())).bind fun _ =>
  q37),(fun q43 =>
  ((g_site_rule_of n [2] false yI.N).bind fun r47 =>
  cond r47
   (some (!(mgetD me_msb [102,114,111,109] false h10_m)))
   (some false)).bind fun j46 =>
  cond j46
   (some (.error (4,yI.At)))
   q43),(fun q50 =>
  ((g_site_rule_of n [4,5] false yI.N).bind fun r53 =>
  cond r53
   (some (!(mgetD me_msb [111,119,110,101,114] false h10_m)))
   (some false)).bind fun j52 =>
  cond j52
   (some (.error (4,yI.At)))
   q50),(fun q56 =>
  ((g_site_rule_of n [4] false yI.N).bind fun r59 =>
  cond r59
   (some (!(mgetD me_msb [114,97,110,107] false h10_m)))
   (some false)).bind fun j58 =>
  cond j58
   (some (.error (4,yI.At)))
   q56),(fun q62 =>
  ((g_site_rule_of n [4] false yI.N).bind fun r65 =>
  cond r65
   (some (!(mgetD me_msb [99,97,114,100] false h10_m)))
   (some false)).bind fun j64 =>
  cond j64
   (some (.error (4,yI.At)))
   q62),(fun q68 =>
  ((g_site_rule_of n [5] false yI.N).bind fun r71 =>
  cond r71
   (some (!(mgetD me_msb [97,116] false h10_m)))
   (some false)).bind fun j70 =>
  cond j70
   (some (.error (4,yI.At)))
   q68),(fun q74 =>
  ((g_site_rule_of n [5] false yI.N).bind fun r77 =>
  cond r77
   (some (!(mgetD me_msb [112,104,97,115,101,115] false h10_m)))
   (some false)).bind fun j76 =>
  cond j76
   (some (.error (4,yI.At)))
   q74),(fun q80 =>
  ((g_site_rule_of n [5] false yI.N).bind fun r84 =>
  cond r84
   (some (!(mgetD me_msb [97,109,112,115] false h10_m)))
   (some false)).bind fun j83 =>
  cond j83
   (some (.error (4,yI.At)))
   q80),(fun q87 =>
  ((g_site_rule_of n [5] false yI.N).bind fun r90 =>
  cond r90
   (some (!(mgetD me_msb [102,97,108,108,98,97,99,107] false h10_m)))
   (some false)).bind fun j89 =>
  cond j89
   (some (.error (4,yI.At)))
   q87),(fun q93 =>
  ((g_site_rule_of n [6] false yI.N).bind fun r96 =>
  cond r96
   (some (!(mgetD me_msb [99,104,97,114,103,101,114] false h10_m)))
   (some false)).bind fun j95 =>
  cond j95
   (some (.error (4,yI.At)))
   q93)]
def hp_srw (yI:GN) (yC:GCo) (yK:GCt) (yG:GCg) (yB:GBay) (yS:GSite) (yF:Bool) (yD:List GDg) (h7_m:List ((List UInt8) × Bool)) (h8_m:List ((List UInt8) × GTh)) (h10_m:List ((List UInt8) × Bool)):List (Nat × Blk):=hc0_srw yI yC yK yG yB yS yF yD h7_m h8_m h10_m
def bq39:=fun x0 x1 x2=>(.box 74 [.tsl 11 (List.map GCo.cs (GSite.Conductors x0)) 1002, .tsl 1 (List.map GOwner.cs (GSite.Owners x0)) 1003, .tsl 4 (List.map GCt.cs (GSite.Contracts x0)) 1004, .tsl 8 (List.map GCg.cs (GSite.Chargers x0)) 1005, .tsl 2 (List.map GBay.cs (GSite.Bays x0)) 1006, .mv 1007,B x1, .mv 1008, .tsl 2 (List.map GDg.cs x2) 1009]:Blk)
def bq40:=fun x0=>(.arr 49 11 (List.map GCo.cs (GSite.Conductors x0)).length:Blk)
def bq41:=fun x0=>(.arr 52 1 (List.map GOwner.cs (GSite.Owners x0)).length:Blk)
def bq42:=fun x0=>(.arr 54 4 (List.map GCt.cs (GSite.Contracts x0)).length:Blk)
def bq43:=fun x0=>(.arr 56 8 (List.map GCg.cs (GSite.Chargers x0)).length:Blk)
def bq44:=fun x0=>(.arr 58 2 (List.map GBay.cs (GSite.Bays x0)).length:Blk)
def bq45:Blk:=.box 104 [.tsl 1 (List.map ci [1,2]) 1012]
def hq86:=fun x0 x1 x2 x3 x4 x5 x6 x7 x8 x9 x10 x11 x12=>([(1000,(bq27 x0 x1 x2 x3 x4)),(1001,(bq39 x5 x6 x7)),(1002,(bq40 x5)),(1003,(bq41 x5)),(1004,(bq42 x5)),(1005,(bq43 x5)),(1006,(bq44 x5)),(1007, .mp (mpL mk_msb mv_msb x8)),(1008, .mp (mpL mk_mst mv_mst x9)),(1009,(bq11 x7)),(1010, .mp (mpL mk_msb mv_msb x10)),(1011, .mg x11 x12 (mfT 1012 1013 1014 1015 1016 1017 1018 1019 1020 1021)),(1012, .arr 3 1 (List.map ci [1,2]).length),(1013, .box 103 [I 1,I 1000]),(1014, .arr 3 1 (List.map ci [2]).length),(1015,bq45)]:List (Nat × Blk))
def hq87:List (Nat × Blk):=[(1016, .arr 3 1 (List.map ci [4,5]).length),(1017, .arr 3 1 (List.map ci [4]).length),(1018, .arr 3 1 (List.map ci [4]).length),(1019, .arr 3 1 (List.map ci [5]).length),(1020, .box 103 [I 1,I 80]),(1021, .arr 3 1 (List.map ci [6]).length)]
def tq82:List (Nat × AV):=[(0, .ptr 1000 0),(7, .iv 700),(9,B true)]
def hq88:=fun x0 x1=>([(700, .it 1011 x0 x1)]:List (Nat × Blk))
def sq47:=fun x0 x1 x2 x3 x4 x5 x6 x7 x8 x9 x10 x11 x12 x13=>(⟨tq82,hq88 x0 x1++hq86 x2 x3 x4 x5 x6 x7 x8 x9 x10 x11 x12 x13 x0++hq87⟩:St)
def sq48:=fun x0 x1 x2 x3 x4 x5 x6 x7 x8 x9 x10 x11 x12 x13=>(⟨[(0, .ptr 1000 0),(7, .iv 700)],hq88 x0 x1++hq86 x2 x3 x4 x5 x6 x7 x8 x9 x10 x11 x12 x13 x0++hq87⟩:St)
def tq83:=fun x0=>([(0, .ptr 1000 0),(4,S x0),(5, .ptr 5 0),(7, .iv 700)]:List (Nat × AV))
def sq49:=fun x0 x1 x2 x3 x4 x5 x6 x7 x8 x9 x10 x11 x12 x13 x14 x15 x16=>(⟨tq83 x0,[(5,(bq28 x1 x2)),(700, .it 1011 x3 x4)]++hq86 x5 x6 x7 x8 x9 x10 x11 x12 x13 x14 x15 x16 x3++hq87⟩:St)
def tq84:=fun x0=>([(0, .ptr 1000 0),(7, .iv 700),(33,B x0)]:List (Nat × AV))
def sq50:=fun x0 x1 x2 x3 x4 x5 x6 x7 x8 x9 x10 x11 x12 x13 x14=>(⟨tq84 x0,hq88 x1 x2++hq86 x3 x4 x5 x6 x7 x8 x9 x10 x11 x12 x13 x14 x1++hq87⟩:St)
def sq51:=fun x0 x1 x2 x3 x4 x5 x6 x7 x8 x9 x10 x11 x12 x13 x14 x15=>(⟨tq83 x0,[(5,(bq36 x1)),(700, .it 1011 x2 x3)]++hq86 x4 x5 x6 x7 x8 x9 x10 x11 x12 x13 x14 x15 x2++hq87⟩:St)
end Go.Proofs
