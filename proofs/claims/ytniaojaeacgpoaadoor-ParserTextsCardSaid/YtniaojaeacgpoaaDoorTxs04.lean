/-
  A part of the proof of a statement of the seat YtniaojaeacgpoaaDoor.
-/
import Derived.Test.YtniaojaeacgpoaaDoorTxs03
set_option linter.unusedVariables false
namespace Go.Proofs
open Go Go.Abs
set_option maxRecDepth 100000
def hq5:=fun x0 x1 x2 x3=>([(1000,(bq2 x0 x1 x2 x3))]:List (Nat × Blk))
def tq10:=fun x0=>([(0, .ptr 1000 0),(1, .p (.val x0)),(5, .p (.val (.slice none 0 0)))]:List (Nat × AV))
def tq11:=fun x0 x1=>([(0, .ptr 1000 0),(1, .p (.val x0)),(5, .tsl 5 (List.map idc x1) 300)]:List (Nat × AV))
def hq6:=fun x0=>([(300, .arr 25 5 (List.map idc x0).length)]:List (Nat × Blk))
def tq12:=fun x0 x1=>([(0, .ptr 1000 0),(1, .p (.val x0)),(5, .tsl 5 (List.map idc x1) 300),(6, .ptr 6 0)]:List (Nat × AV))
def hq7:=fun x0=>([(6, .box 43 (bxc (GTk.cs x0)))]:List (Nat × Blk))
def tq13:=fun x0 x1 x2=>([(0, .ptr 1000 0),(1, .p (.val x0)),(5, .tsl 5 (List.map idc x1) 300),(6, .ptr 6 0),(10,B x2)]:List (Nat × AV))
def tq14:=fun x0 x1 x2=>([(1,I x0),(2,S x1),(3,I x2),(4, .p (.val (.slice none 0 0))),(5, .ptr 5 0),(10, .ptr 10 0)]:List (Nat × AV))
def bq3:=fun x0 x1 x2 x3=>(.box 25 [I x0,S x1,I x2,I x3, .p (.val (.slice none 0 0))]:Blk)
def hq8:=fun x0=>([(5, .box 43 (bxc (GTk.cs x0))),(10,(bq3 0 [] 0 0))]:List (Nat × Blk))
def tq15:List (Nat × AV):=[(4, .p (.val (.slice none 0 0))),(10, .ptr 10 0),(11, .ptr 11 0)]
def hq9:=fun x0 x1 x2 x3=>([(10,(bq3 0 [] 0 0)),(11,(bq3 x0 x1 x2 x3))]:List (Nat × Blk))
def sq3:=fun x0 x1 x2 x3=>(⟨[(10, .ptr 10 0),(11, .ptr 11 0)],hq9 x0 x1 x2 x3⟩:St)
def tq16:List (Nat × AV):=[(10, .ptr 10 0),(11, .ptr 11 0),(20, .p (.val (.slice none 0 0))),(21,I 0),(22,I 0)]
def tq17:List (Nat × AV):=[(10, .ptr 10 0),(11, .ptr 11 0),(20, .p (.val (.slice none 0 0))),(21,I 0),(22,I 0),(23,B false)]
def sq4:=fun x0 x1 x2 x3=>(⟨[(10, .ptr 10 0)],[(10,(bq3 x0 x1 x2 x3))]⟩:St)
def bq4:=fun x0=>(.arr 25 5 (List.map idc x0).length:Blk)
def hq10:=fun x0=>([(300,(bq4 x0))]:List (Nat × Blk))
def sq5:=fun x0 x1 x2 x3 x4 x5=>(⟨tq11 x0 x1,hq10 x1++hq5 x2 x3 x4 x5⟩:St)
def tq18:=fun x0 x1 x2=>([(0, .ptr 1000 0),(1, .p (.val x0)),(5, .tsl 5 (List.map idc x1) 300),(6, .ptr 6 0),(21,B x2)]:List (Nat × AV))
theorem g_r_values_ok (n:Nat) (a0r:GPr) (h03w:Option Addr) (h03l h03c:Nat):∀ r,g_r_values n a0r=some r→ACall Tryd.prog 87 [pZ0, .p (.val (.func (.func 65) #[] #[]))] (Go.Abs.look [(1000, .box 55 [.p (.sl 4 (mTk a0r.tks)),I a0r.pos,I a0r.length,hS h03w h03l h03c])]) (heapR (fun r:(List (List PV)) × GPr=>((.ret (.p (.sl 5 (mI r.1))),[(1000, .box 55 [.p (.sl 4 (mTk r.2.tks)),I r.2.pos,I r.2.length,hS h03w h03l h03c])]):AEnd × List (Nat × Blk))) r):=by
 refine acall_sim (hq5 a0r.tks a0r.pos a0r.length (.slice h03w h03l h03c)) Tryd.func87 rfl Tryd.ntmps87 rfl ?_
 unfold g_r_values
 refine sRK Tryd.fm ⟨[(0,pZ0),(1, .p (.val (.func (.func 65) #[] #[])))],hq5 a0r.tks a0r.pos a0r.length (.slice h03w h03l h03c)⟩ krf (sRK Tryd.fm ⟨tq10 (.func (.func 65) #[] #[]),hq5 a0r.tks a0r.pos a0r.length (.slice h03w h03l h03c)⟩ krf (sB (sPK ⟨tq10 (.func (.func 65) #[] #[]),hq5 a0r.tks a0r.pos a0r.length (.slice h03w h03l h03c)⟩ krf (sim_weak (weak_pn 25 5 300 [5] [] krf) (sim_loop (fun (l1_1,l1_2)=>⟨tq11 (.func (.func 65) #[] #[]) l1_1,hq6 l1_1++hq5 a0r.tks l1_2 a0r.length (.slice h03w h03l h03c)⟩:((List (List PV)) × Int)→St) (wsK krf) ?_)))))
 rintro recl1 ⟨l1_1,l1_2⟩
 show SimE (g_r_values_l1 n a0r recl1 l1_1 l1_2) _ _ _ _ _ _
 unfold g_r_values_l1
 refine sB (sS (sG (xR 1 krf ?_)))
 refine xs_ro [.ro []] krf (g_r_peek_ok n (⟨a0r.tks,l1_2,a0r.length,[]⟩:GPr) h03w h03l h03c) krf krf kff (fun r2=>?_)
 refine xR 2 krf (xE (sNK ⟨tq12 (.func (.func 65) #[] #[]) l1_1,hq7 r2++hq6 l1_1++hq5 a0r.tks l1_2 a0r.length (.slice h03w h03l h03c)⟩ krf (sS (sB (sRK Tryd.fm ⟨tq13 (.func (.func 65) #[] #[]) l1_1 (eqI r2.Kind 2),hq7 r2++hq6 l1_1++hq5 a0r.tks l1_2 a0r.length (.slice h03w h03l h03c)⟩ krf (sC (eqI r2.Kind 2) krf ?_ ?_))))))
 ·refine sG (xR 4 krf (xIn [] [.agg [I r2.Kind,S r2.Text,I r2.N,I r2.At],I 6,S [],I r2.N,zS] [] [] [] krf Tryd.func23 rfl Tryd.ntmps23 rfl krf krf krf (sRK Tryd.fm ⟨tq14 6 [] r2.N,hq8 r2⟩ krf (sRK Tryd.fm ⟨tq15,hq9 6 [] r2.N r2.At⟩ krf (sBi (fun _=>(sq3 6 [] r2.N r2.At):Unit→St) (sRK Tryd.fm ⟨tq16,hq9 6 [] r2.N r2.At⟩ krf (sB (sim_unroll 0 (sRK Tryd.fm ⟨tq17,hq9 6 [] r2.N r2.At⟩ krf (sS (sim_condF krf (sim_exit (sq_x (ru_x (bq_hit (nqK () krf))))))))))) ?_)))))
  rintro _
  exact sRK Tryd.fm (sq4 6 [] r2.N r2.At) krf (sT (iq_ret (.agg [.id, .id, .id, .id, .sl 5]) [] [] (.agg [I 6,S [],I r2.N,I r2.At, .p (.sl 5 (mI []))]) krf krf (kr0 (xR 1 krf (xF krf krf (aop_app (e:=25) (S:=5) (by_:=64) (enc:=idc) (tk:=300) (l:=l1_1) (l2:=[GN.cs (⟨6,[],r2.N,r2.At,[]⟩:GN)]) (xv:=.tsl 5 (mI [GN.cs (⟨6,[],r2.N,r2.At,[]⟩:GN)]) 19) rfl krf krf rfl krf krf krf rfl krf) (xR 1 krf (xE (bq_n (sNK (sq5 (.func (.func 65) #[] #[]) (l1_1++[GN.cs (⟨6,[],r2.N,r2.At,[]⟩:GN)]) a0r.tks l1_2 a0r.length (.slice h03w h03l h03c)) krf (sL Tryd.fm krf (bq_n (kqK (l1_1++[GN.cs (⟨6,[],r2.N,r2.At,[]⟩:GN)],wi (l1_2+1)) krf))))))))))))
 refine sBi (fun j4=>⟨tq18 (.func (.func 65) #[] #[]) l1_1 j4,hq7 r2++hq6 l1_1++hq5 a0r.tks l1_2 a0r.length (.slice h03w h03l h03c)⟩:Bool→St) ?_ ?_
 ·refine sG (xR 4 krf (xS (eqI r2.Kind 1) (fun h5=>?_) (fun h5=>?_)))
  ·refine xO (want_tt krf h5) krf (xR 2 krf ?_)
   refine xC [] krf (g_p_notKey_ok n r2.Text) krf krf kff (fun r6=>?_)
   exact xR 2 krf (xE (nqK r6 krf))
  exact xN (want_tf krf h5) krf (xR 5 krf (xE (nqK false krf)))
 rintro j4
 refine sC j4 krf (sG (xR 4 krf (xIn [] [.agg [I r2.Kind,S r2.Text,I r2.N,I r2.At],I 5,S r2.Text,I 0,zS] [] [] [] krf Tryd.func23 rfl Tryd.ntmps23 rfl krf krf krf (sRK Tryd.fm ⟨tq14 5 r2.Text 0,hq8 r2⟩ krf (sRK Tryd.fm ⟨tq15,hq9 5 r2.Text 0 r2.At⟩ krf (sBi (fun _=>(sq3 5 r2.Text 0 r2.At):Unit→St) (sRK Tryd.fm ⟨tq16,hq9 5 r2.Text 0 r2.At⟩ krf (sB (sim_unroll 0 (sRK Tryd.fm ⟨tq17,hq9 5 r2.Text 0 r2.At⟩ krf (sS (sim_condF krf (sim_exit (sq_x (ru_x (bq_hit (nqK () krf))))))))))) ?_)))))) (sRK Tryd.fm ⟨[(4, .tsl 5 (mI l1_1) 300)],hq6 l1_1++hq5 a0r.tks l1_2 a0r.length (.slice h03w h03l h03c)⟩ krf (sT (bq_r (sq_r (bq_r (kq_r (bq_r (hq_ret (.sl 5) [1000] [] krf krf krf krf))))))))
 rintro _
 exact sRK Tryd.fm (sq4 5 r2.Text 0 r2.At) krf (sT (iq_ret (.agg [.id, .id, .id, .id, .sl 5]) [] [] (.agg [I 5,S r2.Text,I 0,I r2.At, .p (.sl 5 (mI []))]) krf krf (kr0 (xR 1 krf (xF krf krf (aop_app (e:=25) (S:=5) (by_:=64) (enc:=idc) (tk:=300) (l:=l1_1) (l2:=[GN.cs (⟨5,r2.Text,0,r2.At,[]⟩:GN)]) (xv:=.tsl 5 (mI [GN.cs (⟨5,r2.Text,0,r2.At,[]⟩:GN)]) 36) rfl krf krf rfl krf krf krf rfl krf) (xR 1 krf (xE (bq_n (sNK (sq5 (.func (.func 65) #[] #[]) (l1_1++[GN.cs (⟨5,r2.Text,0,r2.At,[]⟩:GN)]) a0r.tks l1_2 a0r.length (.slice h03w h03l h03c)) krf (sL Tryd.fm krf (bq_n (kqK (l1_1++[GN.cs (⟨5,r2.Text,0,r2.At,[]⟩:GN)],wi (l1_2+1)) krf))))))))))))
def g_r_peek_2 (n:Nat) (a0r:GPr):Option GTk :=
 cond (ltI a0r.pos (lenI (List.map GTk.cs a0r.tks)))
  ((getI a0r.tks a0r.pos).bind fun x1 =>
  some x1)
  (some (⟨0,[],0,a0r.length⟩:GTk))
theorem g_r_peek_2_ok (n:Nat) (a0r:GPr):∀ r,g_r_peek_2 n a0r=some r→PCall Tryd.prog 82 [.eptr (GPr.cs a0r)] (.ret (ag (GTk.cs r))):=by
 refine pcall_sim Tryd.func82 rfl Tryd.ntmps82 rfl ?_
 unfold g_r_peek_2
 exact sRK Tryd.fm ⟨tq8 (.eptr (GPr.cs a0r)),hq3 0 [] 0 0⟩ krf (sS (sRK Tryd.fm ⟨[(0, .eptr (GPr.cs a0r)),qq 2,(12,B (ltI a0r.pos (lenI (mTk a0r.tks))))],hq3 0 [] 0 0⟩ krf (sC (ltI a0r.pos (lenI (mTk a0r.tks))) krf (sS (sDr Tryd.fm rfl (xR 8 krf (xG krf krf (aop_idx (e:=43) (S:=4) (enc:=GTk.cs) (l:=a0r.tks) (k:=.i64) (n:=a0r.pos) (sv:=.p (.sl 4 (mTk a0r.tks))) rfl krf krf krf krf krf) (fun x1=>xR 2 krf (xED krf (sNK ⟨[qq 2],hq4 x1⟩ krf (sT (sq_r (qR (.id) krf krf krf)))))))))) (sK (sNK ⟨tq8 (.eptr (GPr.cs a0r)),hq3 0 [] 0 0⟩ krf (sRK Tryd.fm ⟨[qq 2],hq3 0 [] 0 a0r.length⟩ krf (sT (qR (.id) krf krf krf))))))))
def g_r_fail_2 (n:Nat) (a0r:GPr):Option (Except Int Unit) :=
 (g_r_peek_2 n a0r).bind fun r1 =>
 some (.error r1.At)
theorem g_r_fail_2_ok (n:Nat) (a0r:GPr):∀ r,g_r_fail_2 n a0r=some r→PCall Tryd.prog 83 [.eptr (GPr.cs a0r)] (excE (fun r:Unit=>(.tup []:AV)) (fun e:Int=>(.ifc 87 (.agg [I e]):AV)) r):=by
 refine pcall_sim Tryd.func83 rfl Tryd.ntmps83 rfl ?_
 unfold g_r_fail_2
 refine sG (xR 1 krf ?_)
 refine xC [] krf (g_r_peek_2_ok n a0r) krf krf kff (fun r1=>?_)
 exact xR 3 krf (xPa 87 (.agg [I r1.At]) krf rfl krf (rq_p krf krf))
def g_r_article_1_1 (n:Nat) (a0text:List UInt8):Option Bool :=
 (g_p_notKey n a0text).bind fun r1 =>
 cond r1
  (some true)
  ((g_p_isWord n a0text).bind fun r3 =>
  some r3)
theorem g_r_article_1_1_ok (n:Nat) (a0text:List UInt8):∀ r,g_r_article_1_1 n a0text=some r→PCall Tryd.prog 96 [S a0text] (.ret (B r)):=by
 refine pcall_sim Tryd.func96 rfl Tryd.ntmps96 rfl ?_
 unfold g_r_article_1_1
 refine sRK Tryd.fm ⟨[(0,S a0text)],[]⟩ krf (sS (sG (xR 1 krf ?_)))
 refine xC [] krf (g_p_notKey_ok n a0text) krf krf kff (fun r1=>?_)
 refine xR 1 krf (xS r1 (fun h2=>xN (want_ft krf h2) krf (xR 3 krf (xE (sNK ⟨[(2,B true)],[]⟩ krf (sT (qR (.id) krf krf krf)))))) (fun h2=>xO (want_ff krf h2) krf ?_))
 refine xC [] krf (g_p_isWord_ok n a0text) krf krf kff (fun r3=>?_)
 exact xR 2 krf (xE (sNK ⟨[(2,B r3)],[]⟩ krf (sT (qR (.id) krf krf krf))))
def g_r_values_2_l1 (n:Nat) (a0r:GPr) (recl1:((List (List PV)) × Int)→Option ((List (List PV)) × GPr)) (l1_1:List (List PV)) (l1_2:Int):Option ((List (List PV)) × GPr) :=
 (g_r_peek n (⟨a0r.tks,l1_2,a0r.length,[]⟩:GPr)).bind fun r2 =>
 cond (eqI r2.Kind 2)
  ((some ()).bind fun _ =>
  cond (roomB (List.length (l1_1++[GN.cs (⟨6,[],r2.N,r2.At,[]⟩:GN)])) 64) (
   recl1 (l1_1++[GN.cs (⟨6,[],r2.N,r2.At,[]⟩:GN)],wi (l1_2+1))) none)
  ((cond (eqI r2.Kind 1)
   ((g_r_article_1_1 n r2.Text).bind fun r6 =>
   some r6)
   (some false)).bind fun j4 =>
  cond j4
   ((some ()).bind fun _ =>
   cond (roomB (List.length (l1_1++[GN.cs (⟨5,r2.Text,0,r2.At,[]⟩:GN)])) 64) (
    recl1 (l1_1++[GN.cs (⟨5,r2.Text,0,r2.At,[]⟩:GN)],wi (l1_2+1))) none)
   (some (l1_1,(⟨a0r.tks,l1_2,a0r.length,[]⟩:GPr))))
def g_r_values_2 (n:Nat) (a0r:GPr):Option ((List (List PV)) × GPr) :=
 loopN (fun recl1 (l1_1,l1_2)=>g_r_values_2_l1 n a0r recl1 l1_1 l1_2) n ([],a0r.pos)
theorem g_r_values_2_ok (n:Nat) (a0r:GPr) (h03w:Option Addr) (h03l h03c:Nat):∀ r,g_r_values_2 n a0r=some r→ACall Tryd.prog 87 [pZ0, .p (.val (.func (.func 96) #[] #[]))] (Go.Abs.look [(1000, .box 55 [.p (.sl 4 (mTk a0r.tks)),I a0r.pos,I a0r.length,hS h03w h03l h03c])]) (heapR (fun r:(List (List PV)) × GPr=>((.ret (.p (.sl 5 (mI r.1))),[(1000, .box 55 [.p (.sl 4 (mTk r.2.tks)),I r.2.pos,I r.2.length,hS h03w h03l h03c])]):AEnd × List (Nat × Blk))) r):=by
 refine acall_sim (hq5 a0r.tks a0r.pos a0r.length (.slice h03w h03l h03c)) Tryd.func87 rfl Tryd.ntmps87 rfl ?_
 unfold g_r_values_2
 refine sRK Tryd.fm ⟨[(0,pZ0),(1, .p (.val (.func (.func 96) #[] #[])))],hq5 a0r.tks a0r.pos a0r.length (.slice h03w h03l h03c)⟩ krf (sRK Tryd.fm ⟨tq10 (.func (.func 96) #[] #[]),hq5 a0r.tks a0r.pos a0r.length (.slice h03w h03l h03c)⟩ krf (sB (sPK ⟨tq10 (.func (.func 96) #[] #[]),hq5 a0r.tks a0r.pos a0r.length (.slice h03w h03l h03c)⟩ krf (sim_weak (weak_pn 25 5 300 [5] [] krf) (sim_loop (fun (l1_1,l1_2)=>⟨tq11 (.func (.func 96) #[] #[]) l1_1,hq6 l1_1++hq5 a0r.tks l1_2 a0r.length (.slice h03w h03l h03c)⟩:((List (List PV)) × Int)→St) (wsK krf) ?_)))))
 rintro recl1 ⟨l1_1,l1_2⟩
 show SimE (g_r_values_2_l1 n a0r recl1 l1_1 l1_2) _ _ _ _ _ _
 unfold g_r_values_2_l1
 refine sB (sS (sG (xR 1 krf ?_)))
 refine xs_ro [.ro []] krf (g_r_peek_ok n (⟨a0r.tks,l1_2,a0r.length,[]⟩:GPr) h03w h03l h03c) krf krf kff (fun r2=>?_)
 refine xR 2 krf (xE (sNK ⟨tq12 (.func (.func 96) #[] #[]) l1_1,hq7 r2++hq6 l1_1++hq5 a0r.tks l1_2 a0r.length (.slice h03w h03l h03c)⟩ krf (sS (sB (sRK Tryd.fm ⟨tq13 (.func (.func 96) #[] #[]) l1_1 (eqI r2.Kind 2),hq7 r2++hq6 l1_1++hq5 a0r.tks l1_2 a0r.length (.slice h03w h03l h03c)⟩ krf (sC (eqI r2.Kind 2) krf ?_ ?_))))))
 ·refine sG (xR 4 krf (xIn [] [.agg [I r2.Kind,S r2.Text,I r2.N,I r2.At],I 6,S [],I r2.N,zS] [] [] [] krf Tryd.func23 rfl Tryd.ntmps23 rfl krf krf krf (sRK Tryd.fm ⟨tq14 6 [] r2.N,hq8 r2⟩ krf (sRK Tryd.fm ⟨tq15,hq9 6 [] r2.N r2.At⟩ krf (sBi (fun _=>(sq3 6 [] r2.N r2.At):Unit→St) (sRK Tryd.fm ⟨tq16,hq9 6 [] r2.N r2.At⟩ krf (sB (sim_unroll 0 (sRK Tryd.fm ⟨tq17,hq9 6 [] r2.N r2.At⟩ krf (sS (sim_condF krf (sim_exit (sq_x (ru_x (bq_hit (nqK () krf))))))))))) ?_)))))
  rintro _
  exact sRK Tryd.fm (sq4 6 [] r2.N r2.At) krf (sT (iq_ret (.agg [.id, .id, .id, .id, .sl 5]) [] [] (.agg [I 6,S [],I r2.N,I r2.At, .p (.sl 5 (mI []))]) krf krf (kr0 (xR 1 krf (xF krf krf (aop_app (e:=25) (S:=5) (by_:=64) (enc:=idc) (tk:=300) (l:=l1_1) (l2:=[GN.cs (⟨6,[],r2.N,r2.At,[]⟩:GN)]) (xv:=.tsl 5 (mI [GN.cs (⟨6,[],r2.N,r2.At,[]⟩:GN)]) 19) rfl krf krf rfl krf krf krf rfl krf) (xR 1 krf (xE (bq_n (sNK (sq5 (.func (.func 96) #[] #[]) (l1_1++[GN.cs (⟨6,[],r2.N,r2.At,[]⟩:GN)]) a0r.tks l1_2 a0r.length (.slice h03w h03l h03c)) krf (sL Tryd.fm krf (bq_n (kqK (l1_1++[GN.cs (⟨6,[],r2.N,r2.At,[]⟩:GN)],wi (l1_2+1)) krf))))))))))))
 refine sBi (fun j4=>⟨tq18 (.func (.func 96) #[] #[]) l1_1 j4,hq7 r2++hq6 l1_1++hq5 a0r.tks l1_2 a0r.length (.slice h03w h03l h03c)⟩:Bool→St) ?_ ?_
 ·refine sG (xR 4 krf (xS (eqI r2.Kind 1) (fun h5=>?_) (fun h5=>?_)))
  ·refine xO (want_tt krf h5) krf (xR 2 krf ?_)
   refine xC [] krf (g_r_article_1_1_ok n r2.Text) krf krf kff (fun r6=>?_)
   exact xR 2 krf (xE (nqK r6 krf))
  exact xN (want_tf krf h5) krf (xR 5 krf (xE (nqK false krf)))
 rintro j4
 refine sC j4 krf (sG (xR 4 krf (xIn [] [.agg [I r2.Kind,S r2.Text,I r2.N,I r2.At],I 5,S r2.Text,I 0,zS] [] [] [] krf Tryd.func23 rfl Tryd.ntmps23 rfl krf krf krf (sRK Tryd.fm ⟨tq14 5 r2.Text 0,hq8 r2⟩ krf (sRK Tryd.fm ⟨tq15,hq9 5 r2.Text 0 r2.At⟩ krf (sBi (fun _=>(sq3 5 r2.Text 0 r2.At):Unit→St) (sRK Tryd.fm ⟨tq16,hq9 5 r2.Text 0 r2.At⟩ krf (sB (sim_unroll 0 (sRK Tryd.fm ⟨tq17,hq9 5 r2.Text 0 r2.At⟩ krf (sS (sim_condF krf (sim_exit (sq_x (ru_x (bq_hit (nqK () krf))))))))))) ?_)))))) (sRK Tryd.fm ⟨[(4, .tsl 5 (mI l1_1) 300)],hq6 l1_1++hq5 a0r.tks l1_2 a0r.length (.slice h03w h03l h03c)⟩ krf (sT (bq_r (sq_r (bq_r (kq_r (bq_r (hq_ret (.sl 5) [1000] [] krf krf krf krf))))))))
 rintro _
 exact sRK Tryd.fm (sq4 5 r2.Text 0 r2.At) krf (sT (iq_ret (.agg [.id, .id, .id, .id, .sl 5]) [] [] (.agg [I 5,S r2.Text,I 0,I r2.At, .p (.sl 5 (mI []))]) krf krf (kr0 (xR 1 krf (xF krf krf (aop_app (e:=25) (S:=5) (by_:=64) (enc:=idc) (tk:=300) (l:=l1_1) (l2:=[GN.cs (⟨5,r2.Text,0,r2.At,[]⟩:GN)]) (xv:=.tsl 5 (mI [GN.cs (⟨5,r2.Text,0,r2.At,[]⟩:GN)]) 36) rfl krf krf rfl krf krf krf rfl krf) (xR 1 krf (xE (bq_n (sNK (sq5 (.func (.func 96) #[] #[]) (l1_1++[GN.cs (⟨5,r2.Text,0,r2.At,[]⟩:GN)]) a0r.tks l1_2 a0r.length (.slice h03w h03l h03c)) krf (sL Tryd.fm krf (bq_n (kqK (l1_1++[GN.cs (⟨5,r2.Text,0,r2.At,[]⟩:GN)],wi (l1_2+1)) krf))))))))))))
abbrev ty1:=(Except (Int × GPr) (GN × GPr))
def g_r_article_j6 (r1:GTk) (j3_1:List (List PV)) (j3_2:List GTk) (j3_3:Int) (j3_4:Int):Option ty1 :=
 some (.ok ((⟨4,r1.Text,0,r1.At,j3_1⟩:GN),(⟨j3_2,wi (j3_3+1),j3_4,[]⟩:GPr)))
def g_r_article_j2 (n:Nat) (a0r:GPr) (r1:GTk):Option ty1 :=
 ((g_r_values_2 n (⟨a0r.tks,wi (a0r.pos+1),a0r.length,[]⟩:GPr)).bind fun r4 =>
 cond (roomB (List.length ([]++r4.1)) 64) (
  some ([]++r4.1,r4.2.tks,r4.2.pos,r4.2.length)) none).bind fun (j3_1,j3_2,j3_3,j3_4) =>
 (g_r_peek n (⟨j3_2,j3_3,j3_4,[]⟩:GPr)).bind fun r5 =>
 (cond (eqI r5.Kind 0)
  (some true)
  ((cond (eqI r5.Kind 3)
   (some (eqS r5.Text [59]))
   (some false)).bind fun j9 =>
  some (!j9))).bind fun j7 =>
 cond j7
  ((g_r_fail n (⟨j3_2,j3_3,j3_4,[]⟩:GPr)).bind (exc (fun r11 =>
   g_r_article_j6 r1 j3_1 j3_2 j3_3 j3_4) fun e12=>some (.error (e12,(⟨j3_2,j3_3,j3_4,[]⟩:GPr)))))
  (g_r_article_j6 r1 j3_1 j3_2 j3_3 j3_4)
def g_r_article (n:Nat) (a0r:GPr):Option ty1 :=
 (g_r_peek n (⟨a0r.tks,a0r.pos,a0r.length,[]⟩:GPr)).bind fun r1 =>
 (cond (eqI r1.Kind 0)
  (some true)
  ((cond (eqI r1.Kind 1)
   ((g_p_isArticle n r1.Text).bind fun r17 =>
   some r17)
   (some false)).bind fun j15 =>
  some (!j15))).bind fun j13 =>
 cond j13
  ((g_r_fail n (⟨a0r.tks,a0r.pos,a0r.length,[]⟩:GPr)).bind (exc (fun r18 =>
   g_r_article_j2 n a0r r1) fun e19=>some (.error (e19,(⟨a0r.tks,a0r.pos,a0r.length,[]⟩:GPr)))))
  (g_r_article_j2 n a0r r1)
def hq11:List (Nat × Blk):=[(1, .box 53 [.ptr 1000 0]),(2,(bq3 0 [] 0 0))]
def bq5:=fun x0=>(.box 34 [.p (.val x0)]:Blk)
def sq6:=fun x0=>(⟨[(1, .ptr 1 0)],[(1,(bq5 x0))]⟩:St)
def sq7:=fun x0=>(⟨[(2, .fn (.func 84) [] [.ptr 1 0])],[(1,(bq5 x0))]⟩:St)
def hq12:=fun x0 x1 x2 x3=>([(1000,(bq2 x0 x1 x2 x3)),(1001,(bq5 (.func (.func 75) #[] #[])))]:List (Nat × Blk))
def tq19:=fun x0=>([(0, .ptr 1000 0),(1, .fn x0 [] [.ptr 1001 0]),(4, .ptr 4 0)]:List (Nat × AV))
def hq13:List (Nat × Blk):=[(4, .box 43 [I 0,S [],I 0,I 0])]
def tq20:=fun x0=>([(0, .ptr 1000 0),(1, .fn x0 [] [.ptr 1001 0]),(4, .ptr 4 0),(5, .ptr 5 0)]:List (Nat × AV))
def hq14:=fun x0=>([(4, .box 43 [I 0,S [],I 0,I 0]),(5, .box 43 (bxc (GTk.cs x0)))]:List (Nat × Blk))
def tq21:List (Nat × AV):=[(0, .ptr 1000 0),(4, .ptr 4 0),(5, .ptr 5 0)]
def tq29:=fun x0=>([(0, .ptr 1000 0),(4, .ptr 4 0),(5, .ptr 5 0),(16,B x0)]:List (Nat × AV))
def hq23:=fun x0=>([(1000,(bq5 x0))]:List (Nat × Blk))
def sq10:=fun x0 x1=>(⟨[(1, .ptr 1000 0),(2, .ptr 2 0)],hq4 x0++hq23 x1⟩:St)
def hq15:=fun x0=>([(4, .box 43 (bxc (GTk.cs x0)))]:List (Nat × Blk))
def tq22:List (Nat × AV):=[(1, .ptr 1 0),(2, .ptr 2 0),(3, .ptr 3 0)]
def hq16:=fun x0=>([(1, .box 53 [.ptr 1000 0]),(2,(bq3 0 [] 0 0)),(3, .box 43 (bxc (GTk.cs x0)))]:List (Nat × Blk))
def bq6:Blk:=.box 57 [.fn (.func 95) [] [.ptr 1001 0]]
def hq17:=fun x0 x1 x2 x3=>([(1000,(bq2 x0 x1 x2 x3)),(1001, .box 53 [.ptr 1000 0]),(1002,bq6)]:List (Nat × Blk))
def tq23:=fun x0 x1 x2 x3=>([(1,I x0),(2,S (GTk.Text x1)),(3,I x2),(4,x3),(5, .ptr 5 0),(10, .ptr 10 0)]:List (Nat × AV))
def tq24:=fun x0=>([(4,x0),(10, .ptr 10 0),(11, .ptr 11 0)]:List (Nat × AV))
def bq7:=fun x0=>(.box 25 [I 4,S (GTk.Text x0),I 0,I (GTk.At x0), .p (.val (.slice none 0 0))]:Blk)
def hq18:=fun x0=>([(10,(bq3 0 [] 0 0)),(11,(bq7 x0))]:List (Nat × Blk))
def bq8:=fun x0 x1=>(.box 25 [I 4,S (GTk.Text x0),I 0,I (GTk.At x0), .tsl 5 (List.map idc x1) 300]:Blk)
abbrev ty2:=((List (List PV)) × (List GTk) × Int × Int)
def tq25:=fun x0 x1 x2=>([(10, .ptr 10 0),(11, .ptr 11 0),(20,x0),(21,I x1),(22,I x2)]:List (Nat × AV))
def tq26:=fun x0 x1 x2 x3=>([(10, .ptr 10 0),(11, .ptr 11 0),(20,x0),(21,I x1),(22,I x2),(23,B x3)]:List (Nat × AV))
def tq27:List (Nat × AV):=[(10, .ptr 10 0),(11, .ptr 11 0),(13, .fn (.func 95) [] [.ptr 1001 0]),(20,(.bsl 1002 1)),(21,I 1),(22,I 0)]
def hq19:=fun x0 x1 x2 x3=>([(1000,(bq2 x0 x1 x2 x3)),(1001, .box 53 [.ptr 1000 0])]:List (Nat × Blk))
def tq28:List (Nat × AV):=[(1, .ptr 1 0),(2, .ptr 2 0),(4, .ptr 4 0)]
def bq9:=fun x0=>(.box 25 (bxc (GN.cs x0)):Blk)
def hq20:=fun x0=>([(1, .box 9 [S x0])]:List (Nat × Blk))
def sq8:=fun x0=>(⟨[(2, .fn (.func 85) [] [.ptr 1 0])],hq20 x0⟩:St)
def hq21:=fun x0 x1 x2 x3=>([(1000,(bq2 x0 x1 x2 x3)),(1001, .box 9 [S [59]])]:List (Nat × Blk))
def hq22:=fun x0=>([(1000, .box 9 [S x0])]:List (Nat × Blk))
def sq9:=fun x0 x1=>(⟨[(1, .ptr 1000 0),(2, .ptr 2 0)],hq4 x0++hq22 x1⟩:St)
theorem g_r_article_ok (n:Nat) (a0r:GPr) (h03w:Option Addr) (h03l h03c:Nat):∀ r,g_r_article n a0r=some r→ACall Tryd.prog 89 [pZ0] (Go.Abs.look [(1000, .box 55 [.p (.sl 4 (mTk a0r.tks)),I a0r.pos,I a0r.length,hS h03w h03l h03c])]) (heapR (excX (fun r:GN × GPr=>((.ret (ag (GN.cs r.1)),[(1000, .box 55 [.p (.sl 4 (mTk r.2.tks)),I r.2.pos,I r.2.length,hS h03w h03l h03c])]):AEnd × List (Nat × Blk))) (fun e:Int × GPr=>((.panic (.ifc 87 (.agg [I e.1])),[(1000, .box 55 [.p (.sl 4 (mTk e.2.tks)),I e.2.pos,I e.2.length,hS h03w h03l h03c])]):AEnd × List (Nat × Blk)))) r):=by
 refine acall_sim (hq5 a0r.tks a0r.pos a0r.length (.slice h03w h03l h03c)) Tryd.func89 rfl Tryd.ntmps89 rfl ?_
 unfold g_r_article
 refine sRK Tryd.fm ⟨[qq 1,qq 2],hq11++hq5 a0r.tks a0r.pos a0r.length (.slice h03w h03l h03c)⟩ krf (sS (sPK ⟨[qq 1,qq 2],hq11++hq5 a0r.tks a0r.pos a0r.length (.slice h03w h03l h03c)⟩ krf (sim_hstF [0] 3 3 [1,2,3,4] Tryd.fm rfl krf krf (lates_cons (late_read pZ0 krf rfl) (lates_nil)) krf (f_enter (f:=62) (args:=[.p (.val (.func (.func 75) #[] #[]))]) (dst:=some 6) krf krf rfl (sc_inline (hc:=[]) (args':=[.p (.val (.func (.func 75) #[] #[]))]) [(1,401)] [] [] Tryd.func62 rfl Tryd.ntmps62 rfl krf krf krf (sRK Tryd.fm (sq6 (.func (.func 75) #[] #[])) krf (sRK Tryd.fm (sq7 (.func (.func 75) #[] #[])) krf (sT (iq_ret (.id) [1] [] (.fn (.func 84) [] [.ptr 1 0]) krf krf (kf [0] krf (lates_cons (late_read pZ0 krf rfl) (lates_nil)) krf (f_enter (f:=61) (args:=[pZ0, .fn (.func 84) [] [.ptr 401 0]]) (dst:=some 7) krf krf rfl (sc_inline (hc:=(hq12 a0r.tks a0r.pos a0r.length (.slice h03w h03l h03c))) (args':=[pZ0, .fn (.func 84) [] [pZ1]]) [(1001,401),(1000,1000)] [] [] Tryd.func61 rfl Tryd.ntmps61 rfl krf krf krf (sRK Tryd.fm ⟨tq19 (.func 84),hq13++hq12 a0r.tks a0r.pos a0r.length (.slice h03w h03l h03c)⟩ krf (sS (sG (xR 1 krf ?_))))))))))))))))
 refine xs_ro [.ro []] krf (g_r_peek_ok n (⟨a0r.tks,a0r.pos,a0r.length,[]⟩:GPr) h03w h03l h03c) krf krf kff (fun r1=>?_)
 refine xR 2 krf (xE (sNK ⟨tq20 (.func 84),hq14 r1++hq12 a0r.tks a0r.pos a0r.length (.slice h03w h03l h03c)⟩ krf (sim_cps (fun _=>⟨tq21,hq14 r1++hq12 a0r.tks a0r.pos a0r.length (.slice h03w h03l h03c)⟩:Unit→St) (fun _=>g_r_article_j2 n a0r r1) ?_ ?_)))
 rotate_left
 ·refine sBi (fun j13=>⟨tq29 j13,hq14 r1++hq12 a0r.tks a0r.pos a0r.length (.slice h03w h03l h03c)⟩:Bool→St) ?_ ?_
  rotate_left
  ·rintro j13
   refine sC j13 krf ?_ ?_
   ·refine sG (xR 1 krf ?_)
    refine xs_roE [.ro []] krf (g_r_fail_ok n (⟨a0r.tks,a0r.pos,a0r.length,[]⟩:GPr) h03w h03l h03c) krf krf kff kff (fun r18=>?_) (fun e19=>?_)
    ·exact xE (kqK (k:=fun _=>g_r_article_j2 n a0r r1) () krf)
    exact kq_p (iq_p [1000,1001] [] krf (qh_p _ rfl (sq_p (hq_p [1000] [] krf krf krf))))
   exact sK (kqK (k:=fun _=>g_r_article_j2 n a0r r1) () krf)
  refine sG (xR 4 krf (xS (eqI r1.Kind 0) (fun h14=>xN (want_ft krf h14) krf (xR 4 krf (xE (nqK true krf)))) (fun h14=>xO (want_ff krf h14) krf (xR 1 krf (xIn (hq23 (.func (.func 75) #[] #[])) [.agg [I r1.Kind,S r1.Text,I r1.N,I r1.At],pZ0] [(1000,1001)] [] [] krf Tryd.func84 rfl Tryd.ntmps84 rfl krf krf krf (sRK Tryd.fm (sq10 r1 (.func (.func 75) #[] #[])) krf (sBi (fun j15=>⟨[(3,B j15)],hq23 (.func (.func 75) #[] #[])⟩:Bool→St) ?_ ?_)))))))
  ·refine sG (xR 4 krf (xS (eqI r1.Kind 1) (fun h16=>?_) (fun h16=>?_)))
   ·refine xO (want_tt krf h16) krf (xR 2 krf ?_)
    refine xC [] krf (g_p_isArticle_ok n r1.Text) krf krf kff (fun r17=>?_)
    exact xR 2 krf (xE (nqK r17 krf))
   exact xN (want_tf krf h16) krf (xR 5 krf (xE (nqK false krf)))
  rintro j15
  exact sT (iq_ret (.id) [1000] [] (B j15) krf krf (kr0 (xR 2 krf (xE (nqK (!j15) krf)))))
 rintro _
 show SimE (g_r_article_j2 n a0r r1) _ _ _ _ _ _
 unfold g_r_article_j2
 refine sRK Tryd.fm ⟨[qq 4,qq 5],hq14 r1++hq12 a0r.tks (wi (a0r.pos+1)) a0r.length (.slice h03w h03l h03c)⟩ krf (sRK Tryd.fm ⟨[qq 4],hq15 r1++hq12 a0r.tks (wi (a0r.pos+1)) a0r.length (.slice h03w h03l h03c)⟩ krf (sT (iq_ret (.id) [1000,1001] [] (.agg [I r1.Kind,S r1.Text,I r1.N,I r1.At]) krf krf (kf [] krf (lates_nil) krf (f_q [0] krf krf (lates_cons (late_read pZ0 krf rfl) (lates_nil)) (f_op [] rfl krf krf (lates_nil) krf (f_end (sNK ⟨tq22,hq16 r1++hq5 a0r.tks (wi (a0r.pos+1)) a0r.length (.slice h03w h03l h03c)⟩ krf (sS (sG (xR 5 krf (xIn (hq17 a0r.tks (wi (a0r.pos+1)) a0r.length (.slice h03w h03l h03c)) [.agg [I r1.Kind,S r1.Text,I r1.N,I r1.At],I 4,S r1.Text,I 0, .bsl 1002 1] [(1001,1),(1002,12),(1000,1000)] [] [] krf Tryd.func23 rfl Tryd.ntmps23 rfl krf krf krf (sRK Tryd.fm ⟨tq23 4 r1 0 (.bsl 1002 1),hq8 r1++hq17 a0r.tks (wi (a0r.pos+1)) a0r.length (.slice h03w h03l h03c)⟩ krf (sRK Tryd.fm ⟨tq24 (.bsl 1002 1),hq18 r1++hq17 a0r.tks (wi (a0r.pos+1)) a0r.length (.slice h03w h03l h03c)⟩ krf (sBi (fun (j3_1,j3_2,j3_3,j3_4)=>⟨[qq 10,qq 11],[(10,(bq3 0 [] 0 0)),(11,(bq8 r1 j3_1))]++hq6 j3_1++hq17 j3_2 j3_3 j3_4 (.slice h03w h03l h03c)⟩:ty2→St) ?_ ?_)))))))))))))))
 ·refine sRK Tryd.fm ⟨tq25 (.bsl 1002 1) 1 0,hq18 r1++hq17 a0r.tks (wi (a0r.pos+1)) a0r.length (.slice h03w h03l h03c)⟩ krf (sB (sim_unroll 1 (sRK Tryd.fm ⟨tq26 (.bsl 1002 1) 1 0 true,hq18 r1++hq17 a0r.tks (wi (a0r.pos+1)) a0r.length (.slice h03w h03l h03c)⟩ krf (sS (sim_condT krf (sK (sNK ⟨tq25 (.bsl 1002 1) 1 0,hq18 r1++hq17 a0r.tks (wi (a0r.pos+1)) a0r.length (.slice h03w h03l h03c)⟩ krf (sS (sB (sRK Tryd.fm ⟨tq27,hq18 r1++hq17 a0r.tks (wi (a0r.pos+1)) a0r.length (.slice h03w h03l h03c)⟩ krf (sPK ⟨tq27,hq18 r1++hq17 a0r.tks (wi (a0r.pos+1)) a0r.length (.slice h03w h03l h03c)⟩ krf (sim_weak (weak_pn 25 5 300 [] [(11,4)] krf) (sim_hst [0,1,2] [0,1] [(3,[]),(4,[]),(5,[]),(6,[])] Tryd.fm rfl krf krf (h_enter (f:=95) (args:=[pZ1]) (dst:=some 29) krf krf (sc_inline (hc:=(hq19 a0r.tks (wi (a0r.pos+1)) a0r.length (.slice h03w h03l h03c))) (args':=[pZ1]) [(1000,1000),(1001,1001)] [] [] Tryd.func95 rfl Tryd.ntmps95 rfl krf krf krf (sRK Tryd.fm ⟨[(0,pZ1)],hq19 a0r.tks (wi (a0r.pos+1)) a0r.length (.slice h03w h03l h03c)⟩ krf (sS (sG (xR 1 krf ?_)))))))))))))))))))
  refine xs_heap [(1000,1000)] [] [] krf (g_r_values_2_ok n (⟨a0r.tks,wi (a0r.pos+1),a0r.length,[]⟩:GPr) h03w h03l h03c) krf krf krf kff kff (fun r4=>?_)
  exact xR 1 krf (xE (sNK ⟨[(1, .p (.sl 5 (mI r4.1)))],hq19 r4.2.tks r4.2.pos r4.2.length (.slice h03w h03l h03c)⟩ krf (sT (iq_ret (.id) [1000,1001] [] (.p (.sl 5 (mI r4.1))) krf krf (kh [0,1] krf (lates_cons (late_read (.ptr 11 4) krf rfl) (lates_cons (late_tsl (S:=5) (t:=300) (ty:=25) (es:=mI []) krf krf rfl) (lates_nil))) krf (h_if [] rfl krf krf (aop_appL (e:=25) (S:=5) (by_:=64) (enc:=idc) (tk:=300) (l:=[]) (l2:=r4.1) (xv:=.p (.sl 5 (mI r4.1))) rfl krf krf rfl krf krf krf krf) (fun _=>lates_nil) (h_op [] krf krf (lates_nil) (h_op [] krf krf (lates_nil) (h_end (bq_n (sNK ⟨tq25 (.bsl 1002 1) 1 0,[(10,(bq3 0 [] 0 0)),(11,(bq8 r1 ([]++r4.1)))]++hq10 ([]++r4.1)++hq17 r4.2.tks r4.2.pos r4.2.length (.slice h03w h03l h03c)⟩ krf (sL Tryd.fm krf (ru_n ⟨[10,11,20,21,22],[10,11,300,1000,1001,1002],[],[]⟩ ⟨tq25 (.bsl 1002 1) 1 1,[(10,(bq3 0 [] 0 0)),(11,(bq8 r1 ([]++r4.1)))]++hq10 ([]++r4.1)++hq17 r4.2.tks r4.2.pos r4.2.length (.slice h03w h03l h03c)⟩ krf (sRK Tryd.fm ⟨tq26 (.bsl 1002 1) 1 1 false,[(10,(bq3 0 [] 0 0)),(11,(bq8 r1 ([]++r4.1)))]++hq10 ([]++r4.1)++hq17 r4.2.tks r4.2.pos r4.2.length (.slice h03w h03l h03c)⟩ krf (sS (sim_condF krf (sim_exit (sq_x (ru_x (bq_hit (nqK ([]++r4.1,r4.2.tks,r4.2.pos,r4.2.length) krf)))))))))))))))))))))
 rintro ⟨j3_1,j3_2,j3_3,j3_4⟩
 refine sRK Tryd.fm ⟨[qq 10],[(10,(bq8 r1 j3_1))]++hq6 j3_1++hq17 j3_2 j3_3 j3_4 (.slice h03w h03l h03c)⟩ krf (sT (iq_ret (.agg [.id, .id, .id, .id, .sl 5]) [1000,1001,1002] [] (.agg [I 4,S r1.Text,I 0,I r1.At, .p (.sl 5 (mI j3_1))]) krf krf (kr0 (xR 2 krf (xE (sNK ⟨tq28,[(1, .box 53 [pZ0]),(2,(bq3 0 [] 0 0)),(4,(bq9 ⟨4,r1.Text,0,r1.At,j3_1⟩))]++hq5 j3_2 j3_3 j3_4 (.slice h03w h03l h03c)⟩ krf (sS (sim_hst [0] [0] [(1,[]),(2,[])] Tryd.fm rfl krf krf (h_enter (f:=67) (args:=[S [59]]) (dst:=some 15) krf krf (sc_inline (hc:=[]) (args':=[S [59]]) [(1,401)] [] [] Tryd.func67 rfl Tryd.ntmps67 rfl krf krf krf (sRK Tryd.fm ⟨[qq 1],hq20 [59]⟩ krf (sRK Tryd.fm (sq8 [59]) krf (sT (iq_ret (.id) [1] [] (.fn (.func 85) [] [.ptr 1 0]) krf krf (kh [0] krf (lates_cons (late_read pZ0 krf rfl) (lates_nil)) krf (h_enter (f:=61) (args:=[pZ0, .fn (.func 85) [] [.ptr 401 0]]) (dst:=some 16) krf krf (sc_inline (hc:=(hq21 j3_2 j3_3 j3_4 (.slice h03w h03l h03c))) (args':=[pZ0, .fn (.func 85) [] [pZ1]]) [(1001,401),(1000,1000)] [] [] Tryd.func61 rfl Tryd.ntmps61 rfl krf krf krf (sRK Tryd.fm ⟨tq19 (.func 85),hq13++hq21 j3_2 j3_3 j3_4 (.slice h03w h03l h03c)⟩ krf (sS (sG (xR 1 krf ?_)))))))))))))))))))))
 refine xs_ro [.ro []] krf (g_r_peek_ok n (⟨j3_2,j3_3,j3_4,[]⟩:GPr) h03w h03l h03c) krf krf kff (fun r5=>?_)
 refine xR 2 krf (xE (sNK ⟨tq20 (.func 85),hq14 r5++hq21 j3_2 j3_3 j3_4 (.slice h03w h03l h03c)⟩ krf (sim_cps (fun _=>⟨tq21,hq14 r5++hq21 j3_2 j3_3 j3_4 (.slice h03w h03l h03c)⟩:Unit→St) (fun _=>g_r_article_j6 r1 j3_1 j3_2 j3_3 j3_4) ?_ ?_)))
 ·rintro _
  show SimE (g_r_article_j6 r1 j3_1 j3_2 j3_3 j3_4) _ _ _ _ _ _
  unfold g_r_article_j6
  exact sRK Tryd.fm ⟨[qq 4,qq 5],hq14 r5++hq21 j3_2 (wi (j3_3+1)) j3_4 (.slice h03w h03l h03c)⟩ krf (sRK Tryd.fm ⟨[qq 4],hq15 r5++hq21 j3_2 (wi (j3_3+1)) j3_4 (.slice h03w h03l h03c)⟩ krf (sT (iq_ret (.id) [1000,1001] [] (.agg [I r5.Kind,S r5.Text,I r5.N,I r5.At]) krf krf (kh [] krf (lates_nil) krf (h_end (sNK ⟨[qq 2,qq 4],[(2,(bq3 0 [] 0 0)),(4,(bq9 ⟨4,r1.Text,0,r1.At,j3_1⟩))]++hq5 j3_2 (wi (j3_3+1)) j3_4 (.slice h03w h03l h03c)⟩ krf (sRK Tryd.fm ⟨[qq 2],[(2,(bq9 ⟨4,r1.Text,0,r1.At,j3_1⟩))]++hq5 j3_2 (wi (j3_3+1)) j3_4 (.slice h03w h03l h03c)⟩ krf (sT (hq_ret (.id) [1000] [] krf krf krf krf)))))))))
 refine sBi (fun j7=>⟨tq29 j7,hq14 r5++hq21 j3_2 j3_3 j3_4 (.slice h03w h03l h03c)⟩:Bool→St) ?_ ?_
 rotate_left
 ·rintro j7
  refine sC j7 krf ?_ ?_
  ·refine sG (xR 1 krf ?_)
   refine xs_roE [.ro []] krf (g_r_fail_ok n (⟨j3_2,j3_3,j3_4,[]⟩:GPr) h03w h03l h03c) krf krf kff kff (fun r11=>?_) (fun e12=>?_)
   ·exact xE (kqK (k:=fun _=>g_r_article_j6 r1 j3_1 j3_2 j3_3 j3_4) () krf)
   exact kq_p (iq_p [1000,1001] [] krf (qh_p _ rfl (sq_p (hq_p [1000] [] krf krf krf))))
  exact sK (kqK (k:=fun _=>g_r_article_j6 r1 j3_1 j3_2 j3_3 j3_4) () krf)
 refine sG (xR 4 krf (xS (eqI r5.Kind 0) (fun h8=>xN (want_ft krf h8) krf (xR 4 krf (xE (nqK true krf)))) (fun h8=>xO (want_ff krf h8) krf (xR 1 krf (xIn (hq22 [59]) [.agg [I r5.Kind,S r5.Text,I r5.N,I r5.At],pZ0] [(1000,1001)] [] [] krf Tryd.func85 rfl Tryd.ntmps85 rfl krf krf krf (sRK Tryd.fm (sq9 r5 [59]) krf (sBi (fun j9=>⟨[(3,B j9)],hq22 [59]⟩:Bool→St) (sG (xR 4 krf (xS (eqI r5.Kind 3) (fun h10=>xO (want_tt krf h10) krf (xR 5 krf (xE (nqK (eqS r5.Text [59]) krf)))) (fun h10=>xN (want_tf krf h10) krf (xR 5 krf (xE (nqK false krf))))))) ?_)))))))
 rintro j9
 exact sT (iq_ret (.id) [1000] [] (B j9) krf krf (kr0 (xR 2 krf (xE (nqK (!j9) krf)))))
def g_r_skip_l1 (a0r:GPr) (recl1:Int→Option ((List UInt8) × GPr)) (l1:Int):Option ((List UInt8) × GPr) :=
 cond (ltI l1 (lenI (List.map GTk.cs a0r.tks)))
  ((getI a0r.tks l1).bind fun x2 =>
  (cond (eqI x2.Kind 3)
   (some (!eqS x2.Text [123]))
   (some false)).bind fun j3 =>
  cond j3
   (some (x2.Text,(⟨a0r.tks,wi (l1+1),a0r.length,[]⟩:GPr)))
   (recl1 (wi (l1+1))))
  (some ([],(⟨a0r.tks,l1,a0r.length,[]⟩:GPr)))
def g_r_skip (n:Nat) (a0r:GPr):Option ((List UInt8) × GPr) :=
 loopN (fun recl1 l1=>g_r_skip_l1 a0r recl1 l1) n a0r.pos
def hq24:=fun x0=>([(3, .box 43 (bxc (GTk.cs x0)))]:List (Nat × Blk))
theorem g_r_skip_ok (n:Nat) (a0r:GPr) (h03w:Option Addr) (h03l h03c:Nat):∀ r,g_r_skip n a0r=some r→ACall Tryd.prog 60 [pZ0] (Go.Abs.look [(1000, .box 55 [.p (.sl 4 (mTk a0r.tks)),I a0r.pos,I a0r.length,hS h03w h03l h03c])]) (heapR (fun r:(List UInt8) × GPr=>((.ret (S r.1),[(1000, .box 55 [.p (.sl 4 (mTk r.2.tks)),I r.2.pos,I r.2.length,hS h03w h03l h03c])]):AEnd × List (Nat × Blk))) r):=by
 refine acall_sim (hq5 a0r.tks a0r.pos a0r.length (.slice h03w h03l h03c)) Tryd.func60 rfl Tryd.ntmps60 rfl ?_
 unfold g_r_skip
 refine sRK Tryd.fm ⟨[(0,pZ0)],hq5 a0r.tks a0r.pos a0r.length (.slice h03w h03l h03c)⟩ krf (sS (sB (sim_loop (fun l1=>⟨[(0,pZ0)],hq5 a0r.tks l1 a0r.length (.slice h03w h03l h03c)⟩:Int→St) (wsK krf) ?_)))
 rintro recl1 l1
 show SimE (g_r_skip_l1 a0r recl1 l1) _ _ _ _ _ _
 unfold g_r_skip_l1
 refine sS (sRK Tryd.fm ⟨[(0,pZ0),(13,B (ltI l1 (lenI (mTk a0r.tks))))],hq5 a0r.tks l1 a0r.length (.slice h03w h03l h03c)⟩ krf (sC (ltI l1 (lenI (mTk a0r.tks))) krf (sK (sNK ⟨[(0,pZ0)],hq5 a0r.tks l1 a0r.length (.slice h03w h03l h03c)⟩ krf (sB (sS (sDr Tryd.fm rfl (xR 8 krf (xG krf krf (aop_idx (e:=43) (S:=4) (enc:=GTk.cs) (l:=a0r.tks) (k:=.i64) (n:=l1) (sv:=.p (.sl 4 (mTk a0r.tks))) rfl krf krf krf krf krf) (fun x2=>xR 3 krf (xED krf (sNK ⟨[(0,pZ0),qq 3],hq24 x2++hq5 a0r.tks l1 a0r.length (.slice h03w h03l h03c)⟩ krf (sRK Tryd.fm ⟨[(0,pZ0),qq 3],hq24 x2++hq5 a0r.tks (wi (l1+1)) a0r.length (.slice h03w h03l h03c)⟩ krf (sBi (fun j3=>⟨[(0,pZ0),qq 3,(38,B j3)],hq24 x2++hq5 a0r.tks (wi (l1+1)) a0r.length (.slice h03w h03l h03c)⟩:Bool→St) (sG (xR 4 krf (xS (eqI x2.Kind 3) (fun h4=>xO (want_tt krf h4) krf (xR 3 krf (xE (nqK (!eqS x2.Text [123]) krf)))) (fun h4=>xN (want_tf krf h4) krf (xR 3 krf (xE (nqK false krf))))))) ?_)))))))))))) (sim_exit (sq_x (kq_x (bq_hit (sNK ⟨[],hq5 a0r.tks l1 a0r.length (.slice h03w h03l h03c)⟩ krf (sRK Tryd.fm ⟨[(2,S [])],hq5 a0r.tks l1 a0r.length (.slice h03w h03l h03c)⟩ krf (sT (hq_ret (.id) [1000] [] krf krf krf krf))))))))))
 rintro j3
 exact sC j3 krf (sRK Tryd.fm ⟨[(2,S x2.Text)],hq5 a0r.tks (wi (l1+1)) a0r.length (.slice h03w h03l h03c)⟩ krf (sT (bq_r (kq_r (bq_r (sq_r (hq_ret (.id) [1000] [] krf krf krf krf))))))) (sK (bq_n (kqK (wi (l1+1)) krf)))
def g_r_item_j6 (r1:GTk) (r3:GTk) (r5:Int) (j6_1:List (List PV)) (j6_2:List GTk) (j6_3:Int) (j6_4:Int) (j6_5:List GDg):Option ty1 :=
 some (.ok ((⟨2,r3.Text,r5,r1.At,j6_1⟩:GN),(⟨j6_2,j6_3,j6_4,j6_5⟩:GPr)))
abbrev ty3:=((List (List PV)) × (List GTk) × Int × Int × Int × (List UInt8) × Int × Int)
def g_r_item_l9 (n:Nat) (a0r:GPr) (recl9:ty3→Option ty2) (l9_1:List (List PV)) (l9_2:List GTk) (l9_3:Int) (l9_4:Int) (l9_5:Int) (l9_6:List UInt8) (l9_7:Int) (l9_8:Int):Option ty2 :=
 (cond (eqI l9_5 1)
  ((g_p_isAttr n l9_6).bind fun r12 =>
  some r12)
  (some false)).bind fun j10 =>
 cond j10
  (((g_r_values n (⟨l9_2,wi (l9_3+1),l9_4,[]⟩:GPr)).bind fun r14 =>
  cond (roomB (List.length ([]++r14.1)) 64) (
   some ([]++r14.1,r14.2.tks,r14.2.pos,r14.2.length)) none).bind fun (j13_1,j13_2,j13_3,j13_4) =>
  cond (roomB (List.length (l9_1++[GN.cs (⟨3,l9_6,0,l9_8,j13_1⟩:GN)])) 64) (
   (g_r_peek_2 n (⟨j13_2,j13_3,j13_4,a0r.dg⟩:GPr)).bind fun r15 =>
   recl9 (l9_1++[GN.cs (⟨3,l9_6,0,l9_8,j13_1⟩:GN)],j13_2,j13_3,j13_4,r15.Kind,r15.Text,r15.N,r15.At)) none)
  (some (l9_1,l9_2,l9_3,l9_4))
abbrev ty0:=((List (List PV)) × (List GTk) × Int × Int × (List GDg))
def g_r_item_j19 (j7_1:List (List PV)) (j19_1:List (List PV)) (j19_2:List GTk) (j19_3:Int) (j19_4:Int) (j19_5:List GDg):Option ty0 :=
 cond (roomB (List.length ((([]++j7_1)++[])++j19_1)) 64) (
  some ((([]++j7_1)++[])++j19_1,j19_2,j19_3,j19_4,j19_5)) none
def g_r_item_l20 (n:Nat) (j7_1:List (List PV)) (recl20:ty0→Option ty0) (l20_1:List (List PV)) (l20_2:List GTk) (l20_3:Int) (l20_4:Int) (l20_5:List GDg):Option ty0 :=
 (g_r_full n (⟨l20_2,l20_3,l20_4,l20_5⟩:GPr)).bind fun r21 =>
 cond (!r21)
  ((g_r_peek_2 n (⟨l20_2,l20_3,l20_4,l20_5⟩:GPr)).bind fun r22 =>
  (cond (eqI r22.Kind 3)
   (some (eqS r22.Text [125]))
   (some false)).bind fun j23 =>
  cond j23
   (cond (roomB (List.length ((([]++j7_1)++[])++l20_1)) 64) (
    some ((([]++j7_1)++[])++l20_1,l20_2,wi (l20_3+1),l20_4,l20_5)) none)
   (((g_r_article n (⟨l20_2,l20_3,l20_4,[]⟩:GPr)).bind (exc (fun r26 =>
    some (true,[],r26.2.tks,r26.2.pos,r26.2.length,l20_5,r26.1.Kind,r26.1.Name,r26.1.N,r26.1.At,r26.1.Kids)) fun e27=>cond (roomB (List.length (l20_5++[(⟨7,e27.1⟩:GDg)])) 16) (
    (g_r_skip n (⟨e27.2.tks,e27.2.pos,e27.2.length,[]⟩:GPr)).bind fun r28 =>
    some (false,r28.1,r28.2.tks,r28.2.pos,r28.2.length,l20_5++[(⟨7,e27.1⟩:GDg)],0,[],0,0,[])) none)).bind fun (j25_1,j25_2,j25_3,j25_4,j25_5,j25_6,j25_7,j25_8,j25_9,j25_10,j25_11) =>
   cond j25_1
    (cond (roomB (List.length (l20_1++[GN.cs (⟨j25_7,j25_8,j25_9,j25_10,j25_11⟩:GN)])) 64) (
     recl20 (l20_1++[GN.cs (⟨j25_7,j25_8,j25_9,j25_10,j25_11⟩:GN)],j25_3,j25_4,j25_5,j25_6)) none)
    (cond (!eqS j25_2 [59])
     (cond (roomB (List.length ((([]++j7_1)++[])++l20_1)) 64) (
      some ((([]++j7_1)++[])++l20_1,j25_3,j25_4,j25_5,j25_6)) none)
     (recl20 (l20_1,j25_3,j25_4,j25_5,j25_6)))))
  (g_r_item_j19 j7_1 l20_1 l20_2 l20_3 l20_4 l20_5)
def g_r_item_j17 (n:Nat) (a0r:GPr) (r1:GTk) (r3:GTk) (r5:Int) (j7_1:List (List PV)) (j7_2:List GTk) (j7_3:Int) (j7_4:Int):Option ty1 :=
 cond (roomB (List.length (([]++j7_1)++[])) 64) (
  (loopN (fun recl20 (l20_1,l20_2,l20_3,l20_4,l20_5)=>g_r_item_l20 n j7_1 recl20 l20_1 l20_2 l20_3 l20_4 l20_5) n ([],j7_2,wi (j7_3+1),j7_4,a0r.dg)).bind fun (j18_1,j18_2,j18_3,j18_4,j18_5) =>
  g_r_item_j6 r1 r3 r5 j18_1 j18_2 j18_3 j18_4 j18_5) none
def g_r_item_j35 (a0r:GPr) (r1:GTk) (r3:GTk) (r5:Int) (j35_1:List (List PV)) (j35_2:List GTk) (j35_3:Int) (j35_4:Int):Option ty1 :=
 some (.ok ((⟨2,r3.Text,r5,r1.At,j35_1⟩:GN),(⟨j35_2,j35_3,j35_4,a0r.dg⟩:GPr)))
def g_r_item_l38 (n:Nat) (a0r:GPr) (recl38:ty3→Option ty2) (l38_1:List (List PV)) (l38_2:List GTk) (l38_3:Int) (l38_4:Int) (l38_5:Int) (l38_6:List UInt8) (l38_7:Int) (l38_8:Int):Option ty2 :=
 (cond (eqI l38_5 1)
  ((g_p_isAttr n l38_6).bind fun r41 =>
  some r41)
  (some false)).bind fun j39 =>
 cond j39
  (((g_r_values n (⟨l38_2,wi (l38_3+1),l38_4,[]⟩:GPr)).bind fun r43 =>
  cond (roomB (List.length ([]++r43.1)) 64) (
   some ([]++r43.1,r43.2.tks,r43.2.pos,r43.2.length)) none).bind fun (j42_1,j42_2,j42_3,j42_4) =>
  cond (roomB (List.length (l38_1++[GN.cs (⟨3,l38_6,0,l38_8,j42_1⟩:GN)])) 64) (
   (g_r_peek_2 n (⟨j42_2,j42_3,j42_4,a0r.dg⟩:GPr)).bind fun r44 =>
   recl38 (l38_1++[GN.cs (⟨3,l38_6,0,l38_8,j42_1⟩:GN)],j42_2,j42_3,j42_4,r44.Kind,r44.Text,r44.N,r44.At)) none)
  (some (l38_1,l38_2,l38_3,l38_4))
def g_r_item_j46 (a0r:GPr) (r1:GTk) (r3:GTk) (r5:Int) (j36_1:List (List PV)) (j36_2:List GTk) (j36_3:Int) (j36_4:Int):Option ty1 :=
 cond (roomB (List.length (([]++j36_1)++[])) 64) (
  g_r_item_j35 a0r r1 r3 r5 (([]++j36_1)++[]) j36_2 (wi (j36_3+1)) j36_4) none
def g_r_item_j4 (n:Nat) (a0r:GPr) (r1:GTk) (r3:GTk):Option ty1 :=
 (g_p_kindOf n r1.Text).bind fun r5 =>
 cond (eqI r5 7)
  (((g_r_peek_2 n (⟨a0r.tks,wi ((wi (a0r.pos+1))+1),a0r.length,a0r.dg⟩:GPr)).bind fun r8 =>
  loopN (fun recl9 (l9_1,l9_2,l9_3,l9_4,l9_5,l9_6,l9_7,l9_8)=>g_r_item_l9 n a0r recl9 l9_1 l9_2 l9_3 l9_4 l9_5 l9_6 l9_7 l9_8) n ([],a0r.tks,wi ((wi (a0r.pos+1))+1),a0r.length,r8.Kind,r8.Text,r8.N,r8.At)).bind fun (j7_1,j7_2,j7_3,j7_4) =>
  cond (roomB (List.length ([]++j7_1)) 64) (
   (g_r_peek_2 n (⟨j7_2,j7_3,j7_4,a0r.dg⟩:GPr)).bind fun r16 =>
   (cond (eqI r16.Kind 0)
    (some true)
    ((cond (eqI r16.Kind 3)
     (some (eqS r16.Text [123]))
     (some false)).bind fun j31 =>
    some (!j31))).bind fun j29 =>
   cond j29
    ((g_r_fail_2 n (⟨j7_2,j7_3,j7_4,a0r.dg⟩:GPr)).bind (exc (fun r33 =>
     g_r_item_j17 n a0r r1 r3 r5 j7_1 j7_2 j7_3 j7_4) fun e34=>some (.error (e34,(⟨j7_2,j7_3,j7_4,a0r.dg⟩:GPr)))))
    (g_r_item_j17 n a0r r1 r3 r5 j7_1 j7_2 j7_3 j7_4)) none)
  (((g_r_peek_2 n (⟨a0r.tks,wi ((wi (a0r.pos+1))+1),a0r.length,a0r.dg⟩:GPr)).bind fun r37 =>
  loopN (fun recl38 (l38_1,l38_2,l38_3,l38_4,l38_5,l38_6,l38_7,l38_8)=>g_r_item_l38 n a0r recl38 l38_1 l38_2 l38_3 l38_4 l38_5 l38_6 l38_7 l38_8) n ([],a0r.tks,wi ((wi (a0r.pos+1))+1),a0r.length,r37.Kind,r37.Text,r37.N,r37.At)).bind fun (j36_1,j36_2,j36_3,j36_4) =>
  cond (roomB (List.length ([]++j36_1)) 64) (
   (g_r_peek_2 n (⟨j36_2,j36_3,j36_4,a0r.dg⟩:GPr)).bind fun r45 =>
   (cond (eqI r45.Kind 0)
    (some true)
    ((cond (eqI r45.Kind 3)
     (some (eqS r45.Text [59]))
     (some false)).bind fun j49 =>
    some (!j49))).bind fun j47 =>
   cond j47
    ((g_r_fail_2 n (⟨j36_2,j36_3,j36_4,a0r.dg⟩:GPr)).bind (exc (fun r51 =>
     g_r_item_j46 a0r r1 r3 r5 j36_1 j36_2 j36_3 j36_4) fun e52=>some (.error (e52,(⟨j36_2,j36_3,j36_4,a0r.dg⟩:GPr)))))
    (g_r_item_j46 a0r r1 r3 r5 j36_1 j36_2 j36_3 j36_4)) none)
def g_r_item_j2 (n:Nat) (a0r:GPr) (r1:GTk):Option ty1 :=
 (g_r_peek_2 n (⟨a0r.tks,wi (a0r.pos+1),a0r.length,a0r.dg⟩:GPr)).bind fun r3 =>
 (cond (eqI r3.Kind 0)
  (some true)
  ((cond (eqI r3.Kind 1)
   ((g_p_notKey n r3.Text).bind fun r57 =>
   some r57)
   (some false)).bind fun j55 =>
  some (!j55))).bind fun j53 =>
 cond j53
  ((g_r_fail_2 n (⟨a0r.tks,wi (a0r.pos+1),a0r.length,a0r.dg⟩:GPr)).bind (exc (fun r58 =>
   g_r_item_j4 n a0r r1 r3) fun e59=>some (.error (e59,(⟨a0r.tks,wi (a0r.pos+1),a0r.length,a0r.dg⟩:GPr)))))
  (g_r_item_j4 n a0r r1 r3)
def g_r_item (n:Nat) (a0r:GPr):Option ty1 :=
 (g_r_peek_2 n a0r).bind fun r1 =>
 (cond (eqI r1.Kind 0)
  (some true)
  ((cond (eqI r1.Kind 1)
   ((g_r_item_1 n r1.Text).bind fun r64 =>
   some r64)
   (some false)).bind fun j62 =>
  some (!j62))).bind fun j60 =>
 cond j60
  ((g_r_fail_2 n a0r).bind (exc (fun r65 =>
   g_r_item_j2 n a0r r1) fun e66=>some (.error (e66,a0r))))
  (g_r_item_j2 n a0r r1)
def bq10:=fun x0 x1 x2 x3=>(.box 55 [.p (.sl 4 (List.map GTk.cs x0)),I x1,I x2, .tsl 2 (List.map GDg.cs x3) 1103]:Blk)
def bq11:=fun x0=>(.arr 45 2 (List.map GDg.cs x0).length:Blk)
def hq25:=fun x0 x1 x2 x3=>([(1000,(bq10 x0 x1 x2 x3)),(1103,(bq11 x3))]:List (Nat × Blk))
def bq12:=fun x0 x1 x2 x3=>(.box 55 [.p (.sl 4 (List.map GTk.cs x0)),I x1,I x2, .tsl 2 (List.map GDg.cs x3) 1001]:Blk)
def hq26:=fun x0 x1 x2 x3 x4=>([(1000,(bq12 x0 x1 x2 x3)),(1001,(bq11 x3)),(1002,(bq5 x4))]:List (Nat × Blk))
def nq0:List (Nat × Nat):=[(1002,401),(1000,1000),(1001,1103)]
def tq30:=fun x0=>([(0, .ptr 1000 0),(1, .fn x0 [] [.ptr 1002 0]),(4, .ptr 4 0)]:List (Nat × AV))
def tq31:=fun x0=>([(0, .ptr 1000 0),(1, .fn x0 [] [.ptr 1002 0]),(4, .ptr 4 0),(5, .ptr 5 0)]:List (Nat × AV))
def tq32:=fun x0 x1=>([(1, .ptr 1 0),(2, .ptr 2 0),(3, .ptr 3 0),(4,S (GTk.Text x0)),(5,I x1)]:List (Nat × AV))
def bq18:Blk:=.box 57 [.fn (.func 68) [.ptr 1000 0] [], .fn (.func 70) [] [.ptr 1002 0]]
def hq46:=fun x0 x1 x2 x3=>([(1000,(bq12 x0 x1 x2 x3)),(1001,(bq11 x3)),(1002, .box 53 [.ptr 1000 0]),(1003,bq18)]:List (Nat × Blk))
def bq14:=fun x0 x1 x2=>(.box 25 [I 2,S (GTk.Text x0),I x1,I (GTk.At x2), .p (.val (.slice none 0 0))]:Blk)
def hq28:=fun x0 x1 x2=>([(10,(bq3 0 [] 0 0)),(11,(bq14 x0 x1 x2))]:List (Nat × Blk))
def bq15:=fun x0 x1 x2 x3=>(.box 25 [I 2,S (GTk.Text x0),I x1,I (GTk.At x2), .tsl 5 (List.map idc x3) 300]:Blk)
def hq29:=fun x0 x1 x2 x3=>([(10,(bq3 0 [] 0 0)),(11,(bq15 x0 x1 x2 x3))]:List (Nat × Blk))
def tq33:=fun x0 x1 x2 x3=>([(10, .ptr 10 0),(11, .ptr 11 0),(13, .fn x0 [.ptr 1000 0] []),(20,x1),(21,I x2),(22,I x3)]:List (Nat × AV))
def hq30:=fun x0 x1 x2 x3=>([(1000,(bq12 x0 x1 x2 x3)),(1001,(bq11 x3))]:List (Nat × Blk))
def hq31:List (Nat × Blk):=[(1, .box 53 [.ptr 1000 0])]
def sq11:=fun x0 x1 x2 x3=>(⟨[(1, .ptr 1 0)],hq31++hq30 x0 x1 x2 x3⟩:St)
def tq34:List (Nat × AV):=[(1, .ptr 1 0),(3, .p (.val (.slice none 0 0)))]
def tq35:List (Nat × AV):=[(1, .ptr 1 0),(3, .p (.val (.slice none 0 0))),(4, .ptr 4 0)]
def hq32:=fun x0=>([(1, .box 53 [.ptr 1000 0]),(4, .box 43 (bxc (GTk.cs x0)))]:List (Nat × Blk))
def tq36:=fun x0=>([(1, .ptr 1 0),(3, .tsl 5 (List.map idc x0) 300),(4, .ptr 4 0)]:List (Nat × AV))
def hq33:=fun x0 x1 x2 x3=>([(1, .box 53 [.ptr 1000 0]),(4,(bq0 x0 x1 x2 x3))]:List (Nat × Blk))
def sq12:=fun x0 x1 x2 x3 x4 x5 x6 x7 x8=>(⟨tq36 x0,hq33 x1 x2 x3 x4++hq6 x0++hq30 x5 x6 x7 x8⟩:St)
def tq37:=fun x0 x1=>([(1, .ptr 1 0),(3, .tsl 5 (List.map idc x0) 300),(4, .ptr 4 0),(14,B x1)]:List (Nat × AV))
def bq16:Blk:=.box 57 [.fn (.func 86) [] [.ptr 1002 0]]
def hq34:=fun x0 x1 x2 x3=>([(1000,(bq12 x0 x1 x2 x3)),(1001,(bq11 x3)),(1002, .box 53 [.ptr 1000 0]),(1003,bq16)]:List (Nat × Blk))
def nq1:List (Nat × Nat):=[(1002,1),(1003,29),(1000,1000),(1001,1001)]
def tq38:=fun x0 x1 x2=>([(1,I x0),(2,S x1),(3,I 0),(4,x2),(5, .ptr 5 0),(10, .ptr 10 0)]:List (Nat × AV))
def bq17:=fun x0 x1 x2 x3=>(.box 25 [I x0,S x1,I 0,I x2, .tsl 5 (List.map idc x3) 300]:Blk)
def hq35:=fun x0 x1 x2 x3=>([(10,(bq3 0 [] 0 0)),(11,(bq17 x0 x1 x2 x3))]:List (Nat × Blk))
def sq15:=fun x0 x1 x2 x3 x4 x5 x6 x7 x8=>(⟨tq36 x0,hq33 x1 x2 x3 x4++hq10 x0++hq30 x5 x6 x7 x8⟩:St)
def tq40:=fun x0 x1 x2 x3 x4=>([(1, .ptr 1 0),(3, .tsl 5 (List.map idc x0) 300),(33, .agg [I x1,S x2,I x3,I x4])]:List (Nat × AV))
def sq16:=fun x0 x1 x2 x3 x4 x5 x6 x7 x8=>(⟨tq40 x0 x1 x2 x3 x4,hq31++hq10 x0++hq30 x5 x6 x7 x8⟩:St)
def tq39:=fun x0 x1 x2 x3=>([(10, .ptr 10 0),(11, .ptr 11 0),(13, .fn x0 [] [.ptr 1002 0]),(20,x1),(21,I x2),(22,I x3)]:List (Nat × AV))
def hq36:=fun x0 x1 x2 x3=>([(1000,(bq12 x0 x1 x2 x3)),(1001,(bq11 x3)),(1002, .box 53 [.ptr 1000 0])]:List (Nat × Blk))
def nq2:List (Nat × Nat):=[(1000,1000),(1001,1001),(1002,1002)]
def sq13:=fun x0 x1 x2 x3=>(⟨[(0, .ptr 1002 0)],hq36 x0 x1 x2 x3⟩:St)
def sq14:=fun x0 x1 x2 x3 x4 x5 x6 x7=>(⟨tq25 (.bsl 1003 1) 1 x0,hq35 3 x1 x2 x3++hq10 x3++hq34 x4 x5 x6 x7⟩:St)
def sq19:=fun x0 x1 x2 x3 x4 x5 x6 x7 x8=>(⟨tq25 (.bsl 1003 2) 2 x0,hq29 x1 x2 x3 x4++hq10 x4++hq46 x5 x6 x7 x8⟩:St)
def hq37:=fun x0 x1 x2 x3 x4=>([(1000,(bq12 x0 x1 x2 x3)),(1001,(bq11 x3)),(1002, .box 9 [S x4])]:List (Nat × Blk))
def nq3:List (Nat × Nat):=[(1002,401),(1000,1000),(1001,1001)]
def bq13:Blk:=.box 57 [.fn (.func 68) [.ptr 1000 0] [], .fn (.func 66) [] [.ptr 1002 0], .fn (.func 69) [.ptr 1000 0] []]
def hq27:=fun x0 x1 x2 x3=>([(1000,(bq12 x0 x1 x2 x3)),(1001,(bq11 x3)),(1002, .box 53 [.ptr 1000 0]),(1003,bq13)]:List (Nat × Blk))
def sq17:=fun x0 x1 x2 x3 x4 x5 x6 x7 x8=>(⟨tq25 (.bsl 1003 3) 3 x0,hq29 x1 x2 x3 x4++hq10 x4++hq27 x5 x6 x7 x8⟩:St)
def hq38:=fun x0=>([(32, .arr 25 5 (List.map idc x0).length)]:List (Nat × Blk))
def sq18:=fun x0 x1 x2 x3 x4=>(⟨[(2, .tsl 5 (List.map idc x0) 32)],hq38 x0++hq30 x1 x2 x3 x4⟩:St)
def tq41:=fun x0=>([(1, .ptr 1 0),(3, .tsl 5 (List.map idc x0) 32)]:List (Nat × AV))
def hq39:=fun x0=>([(1, .box 53 [.ptr 1000 0]),(32, .arr 25 5 (List.map idc x0).length)]:List (Nat × Blk))
def tq42:=fun x0=>([(1, .ptr 1 0),(3, .tsl 5 (List.map idc x0) 32),(4, .ptr 4 0)]:List (Nat × AV))
def hq40:=fun x0 x1=>([(1, .box 53 [.ptr 1000 0]),(4,(bq9 x0)),(32, .arr 25 5 (List.map idc x1).length)]:List (Nat × Blk))
def hq41:=fun x0 x1 x2 x3=>([(1000,(bq12 x0 x1 x2 x3)),(1001,(bq11 x3)),(1002, .box 53 [.ptr 1000 0]),(1003,(bq3 0 [] 0 0))]:List (Nat × Blk))
def tq43:=fun x0=>([(1, .fn x0 [] [.ptr 1002 0, .ptr 1003 0]),(4, .ptr 1901 0),(5, .ptr 1902 0)]:List (Nat × AV))
def hq42:=fun x0=>([(1900, .box 53 [.ptr 1000 0]),(1901, .box 4 [B x0]),(1902, .box 9 [S []])]:List (Nat × Blk))
def nq4:List (Nat × Nat):=[(1000,1000),(1001,1001),(1002,1002),(1003,1003)]
def hq43:=fun x0 x1 x2 x3 x4=>([(1000,(bq12 x0 x1 x2 x3)),(1001,(bq11 x3)),(1002, .box 53 [.ptr 1000 0]),(1003, .box 25 (bxc (GN.cs x4)))]:List (Nat × Blk))
def nq5:List (Nat × Nat):=[(1000,1000),(1001,1001),(1002,1900),(1003,1901),(1004,1902)]
def hq44:=fun x0=>([(1002, .box 53 [.ptr 1000 0]),(1003, .box 4 [B x0]),(1004, .box 9 [S []])]:List (Nat × Blk))
def tq44:List (Nat × AV):=[(0, .ptr 1002 0),(1, .ptr 1003 0),(2, .ptr 1004 0),(3, .p (.val (.nilIface))),(8,B true)]
def tq45:=fun x0=>([(0, .ptr 1002 0),(1, .ptr 1003 0),(2, .ptr 1004 0),(3, .ifc 87 (.agg [I x0])),(8,B false)]:List (Nat × AV))
def tq46:=fun x0=>([(0, .ptr 1002 0),(1, .ptr 1003 0),(2, .ptr 1004 0),(3, .ifc 87 (.agg [I x0]))]:List (Nat × AV))
def tq47:=fun x0=>([(0, .ptr 1002 0),(1, .ptr 1003 0),(2, .ptr 1004 0),(3, .ifc 87 (.agg [I x0])),(4, .ptr 4 0),(5,B true)]:List (Nat × AV))
def hq45:=fun x0=>([(4, .box 87 [I x0])]:List (Nat × Blk))
def tq48:=fun x0=>([(0, .ptr 1002 0),(1, .ptr 1003 0),(2, .ptr 1004 0),(3, .ifc 87 (.agg [I x0])),(4, .ptr 4 0),(15,B false)]:List (Nat × AV))
def tq49:List (Nat × AV):=[(0, .ptr 1002 0),(1, .ptr 1003 0),(2, .ptr 1004 0),(4, .ptr 4 0)]
def tq50:List (Nat × AV):=[(0, .ptr 1002 0),(1, .ptr 1003 0),(2, .ptr 1004 0)]
abbrev amDg45 (x:List GDg):Go.Abs.Blk:=.arr 45 2 (mDg x).length
abbrev amI25 (x:List (List PV)):Go.Abs.Blk:=.arr 25 5 (mI x).length
theorem g_r_item_ok (n:Nat) (a0r:GPr):∀ r,g_r_item n a0r=some r→ACall Tryd.prog 46 [pZ0] (Go.Abs.look [(1000, .box 55 [.p (.sl 4 (mTk a0r.tks)),I a0r.pos,I a0r.length, .tsl 2 (mDg a0r.dg) 1103]),(1103,amDg45 a0r.dg)]) (heapR (excX (fun r:GN × GPr=>((.ret (ag (GN.cs r.1)),[(1000, .box 55 [.p (.sl 4 (mTk r.2.tks)),I r.2.pos,I r.2.length, .tsl 2 (mDg r.2.dg) 1103]),(1103,amDg45 r.2.dg)]):AEnd × List (Nat × Blk))) (fun e:Int × GPr=>((.panic (.ifc 87 (.agg [I e.1])),[(1000, .box 55 [.p (.sl 4 (mTk e.2.tks)),I e.2.pos,I e.2.length, .tsl 2 (mDg e.2.dg) 1103]),(1103,amDg45 e.2.dg)]):AEnd × List (Nat × Blk)))) r):=by
 refine acall_sim (hq25 a0r.tks a0r.pos a0r.length a0r.dg) Tryd.func46 rfl Tryd.ntmps46 rfl ?_
 unfold g_r_item
 refine sRK Tryd.fm ⟨[qq 1,qq 2],hq11++hq25 a0r.tks a0r.pos a0r.length a0r.dg⟩ krf (sS (sPK ⟨[qq 1,qq 2],hq11++hq25 a0r.tks a0r.pos a0r.length a0r.dg⟩ krf (sim_hstF [0] 3 3 [1,2,3,4] Tryd.fm rfl krf krf (lates_cons (late_read pZ0 krf rfl) (lates_nil)) krf (f_enter (f:=62) (args:=[.p (.val (.func (.func 63) #[] #[]))]) (dst:=some 9) krf krf rfl (sc_inline (hc:=[]) (args':=[.p (.val (.func (.func 63) #[] #[]))]) [(1,401)] [] [] Tryd.func62 rfl Tryd.ntmps62 rfl krf krf krf (sRK Tryd.fm (sq6 (.func (.func 63) #[] #[])) krf (sRK Tryd.fm (sq7 (.func (.func 63) #[] #[])) krf (sT (iq_ret (.id) [1] [] (.fn (.func 84) [] [.ptr 1 0]) krf krf (kf [0] krf (lates_cons (late_read pZ0 krf rfl) (lates_nil)) krf (f_enter (f:=61) (args:=[pZ0, .fn (.func 84) [] [.ptr 401 0]]) (dst:=some 10) krf krf rfl (sc_inline (hc:=(hq26 a0r.tks a0r.pos a0r.length a0r.dg (.func (.func 63) #[] #[]))) (args':=[pZ0, .fn (.func 84) [] [pZ2]]) nq0 [] [] Tryd.func61 rfl Tryd.ntmps61 rfl krf krf krf (sRK Tryd.fm ⟨tq30 (.func 84),hq13++hq26 a0r.tks a0r.pos a0r.length a0r.dg (.func (.func 63) #[] #[])⟩ krf (sS (sG (xR 1 krf ?_))))))))))))))))
 refine xs_ro [.ro [.id, .id, .id, .sl 2]] krf (g_r_peek_2_ok n a0r) krf krf kff (fun r1=>?_)
 refine xR 2 krf (xE (sNK ⟨tq31 (.func 84),hq14 r1++hq26 a0r.tks a0r.pos a0r.length a0r.dg (.func (.func 63) #[] #[])⟩ krf (sim_cps (fun _=>⟨tq21,hq14 r1++hq26 a0r.tks a0r.pos a0r.length a0r.dg (.func (.func 63) #[] #[])⟩:Unit→St) (fun _=>g_r_item_j2 n a0r r1) ?_ ?_)))
 rotate_left
 ·refine sBi (fun j60=>⟨tq29 j60,hq14 r1++hq26 a0r.tks a0r.pos a0r.length a0r.dg (.func (.func 63) #[] #[])⟩:Bool→St) ?_ ?_
  rotate_left
  ·rintro j60
   refine sC j60 krf ?_ ?_
   ·refine sG (xR 1 krf ?_)
    refine xs_roE [.ro [.id, .id, .id, .sl 2]] krf (g_r_fail_2_ok n a0r) krf krf kff kff (fun r65=>?_) (fun e66=>?_)
    ·exact xE (kqK (k:=fun _=>g_r_item_j2 n a0r r1) () krf)
    exact kq_p (iq_p [1000,1001,1002] [] krf (qh_p _ rfl (sq_p (hq_p [1000,1103] [] krf krf krf))))
   exact sK (kqK (k:=fun _=>g_r_item_j2 n a0r r1) () krf)
  refine sG (xR 4 krf (xS (eqI r1.Kind 0) (fun h61=>xN (want_ft krf h61) krf (xR 4 krf (xE (nqK true krf)))) (fun h61=>xO (want_ff krf h61) krf (xR 1 krf (xIn (hq23 (.func (.func 63) #[] #[])) [.agg [I r1.Kind,S r1.Text,I r1.N,I r1.At],pZ0] [(1000,1002)] [] [] krf Tryd.func84 rfl Tryd.ntmps84 rfl krf krf krf (sRK Tryd.fm (sq10 r1 (.func (.func 63) #[] #[])) krf (sBi (fun j62=>⟨[(3,B j62)],hq23 (.func (.func 63) #[] #[])⟩:Bool→St) ?_ ?_)))))))
  ·refine sG (xR 4 krf (xS (eqI r1.Kind 1) (fun h63=>?_) (fun h63=>?_)))
   ·refine xO (want_tt krf h63) krf (xR 2 krf ?_)
    refine xC [] krf (g_r_item_1_ok n r1.Text) krf krf kff (fun r64=>?_)
    exact xR 2 krf (xE (nqK r64 krf))
   exact xN (want_tf krf h63) krf (xR 5 krf (xE (nqK false krf)))
  rintro j62
  exact sT (iq_ret (.id) [1000] [] (B j62) krf krf (kr0 (xR 2 krf (xE (nqK (!j62) krf)))))
 rintro _
 show SimE (g_r_item_j2 n a0r r1) _ _ _ _ _ _
 unfold g_r_item_j2
 refine sRK Tryd.fm ⟨[qq 4,qq 5],hq14 r1++hq26 a0r.tks (wi (a0r.pos+1)) a0r.length a0r.dg (.func (.func 63) #[] #[])⟩ krf (sRK Tryd.fm ⟨[qq 4],hq15 r1++hq26 a0r.tks (wi (a0r.pos+1)) a0r.length a0r.dg (.func (.func 63) #[] #[])⟩ krf (sT (iq_ret (.id) [1000,1001,1002] [] (.agg [I r1.Kind,S r1.Text,I r1.N,I r1.At]) krf krf (kf [] krf (lates_nil) krf (f_q [0] krf krf (lates_cons (late_read pZ0 krf rfl) (lates_nil)) (f_op [] rfl krf krf (lates_nil) krf (f_end (sNK ⟨tq22,hq16 r1++hq25 a0r.tks (wi (a0r.pos+1)) a0r.length a0r.dg⟩ krf (sS (sim_hst [0] [0] [(1,[]),(2,[]),(3,[]),(4,[])] Tryd.fm rfl krf krf (h_enter (f:=62) (args:=[.p (.val (.func (.func 65) #[] #[]))]) (dst:=some 12) krf krf (sc_inline (hc:=[]) (args':=[.p (.val (.func (.func 65) #[] #[]))]) [(1,401)] [] [] Tryd.func62 rfl Tryd.ntmps62 rfl krf krf krf (sRK Tryd.fm (sq6 (.func (.func 65) #[] #[])) krf (sRK Tryd.fm (sq7 (.func (.func 65) #[] #[])) krf (sT (iq_ret (.id) [1] [] (.fn (.func 84) [] [.ptr 1 0]) krf krf (kh [0] krf (lates_cons (late_read pZ0 krf rfl) (lates_nil)) krf (h_enter (f:=61) (args:=[pZ0, .fn (.func 84) [] [.ptr 401 0]]) (dst:=some 13) krf krf (sc_inline (hc:=(hq26 a0r.tks (wi (a0r.pos+1)) a0r.length a0r.dg (.func (.func 65) #[] #[]))) (args':=[pZ0, .fn (.func 84) [] [pZ2]]) nq0 [] [] Tryd.func61 rfl Tryd.ntmps61 rfl krf krf krf (sRK Tryd.fm ⟨tq30 (.func 84),hq13++hq26 a0r.tks (wi (a0r.pos+1)) a0r.length a0r.dg (.func (.func 65) #[] #[])⟩ krf (sS (sG (xR 1 krf ?_)))))))))))))))))))))))
 refine xs_ro [.ro [.id, .id, .id, .sl 2]] krf (g_r_peek_2_ok n (⟨a0r.tks,wi (a0r.pos+1),a0r.length,a0r.dg⟩:GPr)) krf krf kff (fun r3=>?_)
 refine xR 2 krf (xE (sNK ⟨tq31 (.func 84),hq14 r3++hq26 a0r.tks (wi (a0r.pos+1)) a0r.length a0r.dg (.func (.func 65) #[] #[])⟩ krf (sim_cps (fun _=>⟨tq21,hq14 r3++hq26 a0r.tks (wi (a0r.pos+1)) a0r.length a0r.dg (.func (.func 65) #[] #[])⟩:Unit→St) (fun _=>g_r_item_j4 n a0r r1 r3) ?_ ?_)))
 rotate_left
 ·refine sBi (fun j53=>⟨tq29 j53,hq14 r3++hq26 a0r.tks (wi (a0r.pos+1)) a0r.length a0r.dg (.func (.func 65) #[] #[])⟩:Bool→St) ?_ ?_
  rotate_left
  ·rintro j53
   refine sC j53 krf ?_ ?_
   ·refine sG (xR 1 krf ?_)
    refine xs_roE [.ro [.id, .id, .id, .sl 2]] krf (g_r_fail_2_ok n (⟨a0r.tks,wi (a0r.pos+1),a0r.length,a0r.dg⟩:GPr)) krf krf kff kff (fun r58=>?_) (fun e59=>?_)
    ·exact xE (kqK (k:=fun _=>g_r_item_j4 n a0r r1 r3) () krf)
    exact kq_p (iq_p [1000,1001,1002] [] krf (qh_p _ rfl (sq_p (hq_p [1000,1103] [] krf krf krf))))
   exact sK (kqK (k:=fun _=>g_r_item_j4 n a0r r1 r3) () krf)
  refine sG (xR 4 krf (xS (eqI r3.Kind 0) (fun h54=>xN (want_ft krf h54) krf (xR 4 krf (xE (nqK true krf)))) (fun h54=>xO (want_ff krf h54) krf (xR 1 krf (xIn (hq23 (.func (.func 65) #[] #[])) [.agg [I r3.Kind,S r3.Text,I r3.N,I r3.At],pZ0] [(1000,1002)] [] [] krf Tryd.func84 rfl Tryd.ntmps84 rfl krf krf krf (sRK Tryd.fm (sq10 r3 (.func (.func 65) #[] #[])) krf (sBi (fun j55=>⟨[(3,B j55)],hq23 (.func (.func 65) #[] #[])⟩:Bool→St) ?_ ?_)))))))
  ·refine sG (xR 4 krf (xS (eqI r3.Kind 1) (fun h56=>?_) (fun h56=>?_)))
   ·refine xO (want_tt krf h56) krf (xR 2 krf ?_)
    refine xC [] krf (g_p_notKey_ok n r3.Text) krf krf kff (fun r57=>?_)
    exact xR 2 krf (xE (nqK r57 krf))
   exact xN (want_tf krf h56) krf (xR 5 krf (xE (nqK false krf)))
  rintro j55
  exact sT (iq_ret (.id) [1000] [] (B j55) krf krf (kr0 (xR 2 krf (xE (nqK (!j55) krf)))))
 rintro _
 show SimE (g_r_item_j4 n a0r r1 r3) _ _ _ _ _ _
 unfold g_r_item_j4
 refine sRK Tryd.fm ⟨[qq 4,qq 5],hq14 r3++hq26 a0r.tks (wi ((wi (a0r.pos+1))+1)) a0r.length a0r.dg (.func (.func 65) #[] #[])⟩ krf (sRK Tryd.fm ⟨[qq 4],hq15 r3++hq26 a0r.tks (wi ((wi (a0r.pos+1))+1)) a0r.length a0r.dg (.func (.func 65) #[] #[])⟩ krf (sT (iq_ret (.id) [1000,1001,1002] [] (.agg [I r3.Kind,S r3.Text,I r3.N,I r3.At]) krf krf (kh [] krf (lates_nil) krf (h_op [] krf krf (lates_nil) (h_op [] krf krf (lates_nil) (h_end (sNK ⟨[qq 1,qq 2,qq 3,(4,S r3.Text)],hq16 r1++hq25 a0r.tks (wi ((wi (a0r.pos+1))+1)) a0r.length a0r.dg⟩ krf (sS (sG (xR 2 krf ?_)))))))))))
 refine xC [] krf (g_p_kindOf_ok n r1.Text) krf krf kff (fun r5=>?_)
 refine xR 1 krf (xE (sNK ⟨tq32 r3 r5,hq16 r1++hq25 a0r.tks (wi ((wi (a0r.pos+1))+1)) a0r.length a0r.dg⟩ krf (sS (sRK Tryd.fm ⟨[qq 1,qq 2,qq 3,(4,S r3.Text),(5,I r5),(19,B (eqI r5 7))],hq16 r1++hq25 a0r.tks (wi ((wi (a0r.pos+1))+1)) a0r.length a0r.dg⟩ krf (sC (eqI r5 7) krf ?_ ?_)))))
 rotate_left
 ·refine sK (sNK ⟨tq32 r3 r5,hq16 r1++hq25 a0r.tks (wi ((wi (a0r.pos+1))+1)) a0r.length a0r.dg⟩ krf (sRK Tryd.fm ⟨[qq 1,qq 2,qq 3,(4,S r3.Text),(5,I r5),(7, .fn (.func 70) [] [.ptr 1 0])],hq16 r1++hq25 a0r.tks (wi ((wi (a0r.pos+1))+1)) a0r.length a0r.dg⟩ krf (sS (sG (xR 7 krf (xIn (hq46 a0r.tks (wi ((wi (a0r.pos+1))+1)) a0r.length a0r.dg) [.agg [I r1.Kind,S r1.Text,I r1.N,I r1.At],I 2,S r3.Text,I r5, .bsl 1003 2] [(1002,1),(1003,38),(1000,1000),(1001,1103)] [] [] krf Tryd.func23 rfl Tryd.ntmps23 rfl krf krf krf (sRK Tryd.fm ⟨tq23 2 r3 r5 (.bsl 1003 2),hq8 r1++hq46 a0r.tks (wi ((wi (a0r.pos+1))+1)) a0r.length a0r.dg⟩ krf (sRK Tryd.fm ⟨tq24 (.bsl 1003 2),hq28 r3 r5 r1++hq46 a0r.tks (wi ((wi (a0r.pos+1))+1)) a0r.length a0r.dg⟩ krf (sim_cps (fun (j35_1,j35_2,j35_3,j35_4)=>⟨[qq 10,qq 11],hq29 r3 r5 r1 j35_1++hq6 j35_1++hq46 j35_2 j35_3 j35_4 a0r.dg⟩:ty2→St) (fun (j35_1,j35_2,j35_3,j35_4)=>g_r_item_j35 a0r r1 r3 r5 j35_1 j35_2 j35_3 j35_4) ?_ ?_)))))))))
  ·rintro ⟨j35_1,j35_2,j35_3,j35_4⟩
   show SimE (g_r_item_j35 a0r r1 r3 r5 j35_1 j35_2 j35_3 j35_4) _ _ _ _ _ _
   unfold g_r_item_j35
   exact sRK Tryd.fm ⟨[qq 10],[(10,(bq15 r3 r5 r1 j35_1))]++hq6 j35_1++hq46 j35_2 j35_3 j35_4 a0r.dg⟩ krf (sT (iq_ret (.agg [.id, .id, .id, .id, .sl 5]) [1000,1001,1002,1003] [] (.agg [I 2,S r3.Text,I r5,I r1.At, .p (.sl 5 (mI j35_1))]) krf krf (kr0 (xR 1 krf (xE (sNK ⟨[qq 2],[(2,(bq9 ⟨2,r3.Text,r5,r1.At,j35_1⟩))]++hq25 j35_2 j35_3 j35_4 a0r.dg⟩ krf (sT (hq_ret (.id) [1000,1103] [] krf krf krf krf))))))))
  refine sRK Tryd.fm ⟨tq25 (.bsl 1003 2) 2 0,hq28 r3 r5 r1++hq46 a0r.tks (wi ((wi (a0r.pos+1))+1)) a0r.length a0r.dg⟩ krf (sB (sim_unroll 2 (sRK Tryd.fm ⟨tq26 (.bsl 1003 2) 2 0 true,hq28 r3 r5 r1++hq46 a0r.tks (wi ((wi (a0r.pos+1))+1)) a0r.length a0r.dg⟩ krf (sS (sim_condT krf (sK (sNK ⟨tq25 (.bsl 1003 2) 2 0,hq28 r3 r5 r1++hq46 a0r.tks (wi ((wi (a0r.pos+1))+1)) a0r.length a0r.dg⟩ krf (sS (sB (sRK Tryd.fm ⟨tq33 (.func 68) (.bsl 1003 2) 2 0,hq28 r3 r5 r1++hq46 a0r.tks (wi ((wi (a0r.pos+1))+1)) a0r.length a0r.dg⟩ krf (sPK ⟨tq33 (.func 68) (.bsl 1003 2) 2 0,hq28 r3 r5 r1++hq46 a0r.tks (wi ((wi (a0r.pos+1))+1)) a0r.length a0r.dg⟩ krf (sim_weak (weak_pn 25 5 300 [] [(11,4)] krf) (sim_hst [0,1,2] [0,1] [(3,[]),(4,[]),(5,[]),(6,[])] Tryd.fm rfl krf krf (h_enter (f:=68) (args:=[pZ0]) (dst:=some 29) krf krf (sc_inline (hc:=(hq30 a0r.tks (wi ((wi (a0r.pos+1))+1)) a0r.length a0r.dg)) (args':=[pZ0]) [(1000,1000),(1001,1001)] [] [] Tryd.func68 rfl Tryd.ntmps68 rfl krf krf krf (sRK Tryd.fm (sq11 a0r.tks (wi ((wi (a0r.pos+1))+1)) a0r.length a0r.dg) krf (sRK Tryd.fm ⟨tq34,hq31++hq30 a0r.tks (wi ((wi (a0r.pos+1))+1)) a0r.length a0r.dg⟩ krf (sBi (fun (j36_1,j36_2,j36_3,j36_4)=>⟨[(3, .tsl 5 (mI j36_1) 300)],hq6 j36_1++hq30 j36_2 j36_3 j36_4 a0r.dg⟩:ty2→St) ?_ ?_))))))))))))))))))
  ·refine sS (sG (xR 1 krf ?_))
   refine xs_ro [.ro [.id, .id, .id, .sl 2]] krf (g_r_peek_2_ok n (⟨a0r.tks,wi ((wi (a0r.pos+1))+1),a0r.length,a0r.dg⟩:GPr)) krf krf kff (fun r37=>?_)
   refine xR 2 krf (xE (sNK ⟨tq35,hq32 r37++hq30 a0r.tks (wi ((wi (a0r.pos+1))+1)) a0r.length a0r.dg⟩ krf (sB (sPK ⟨tq35,hq32 r37++hq30 a0r.tks (wi ((wi (a0r.pos+1))+1)) a0r.length a0r.dg⟩ krf (sim_weak (weak_pn 25 5 300 [3] [] krf) (sim_loop (fun (l38_1,l38_2,l38_3,l38_4,l38_5,l38_6,l38_7,l38_8)=>(sq12 l38_1 l38_5 l38_6 l38_7 l38_8 l38_2 l38_3 l38_4 a0r.dg):ty3→St) (wsK krf) ?_))))))
   rintro recl38 ⟨l38_1,l38_2,l38_3,l38_4,l38_5,l38_6,l38_7,l38_8⟩
   show SimE (g_r_item_l38 n a0r recl38 l38_1 l38_2 l38_3 l38_4 l38_5 l38_6 l38_7 l38_8) _ _ _ _ _ _
   unfold g_r_item_l38
   refine sS (sBi (fun j39=>⟨tq37 l38_1 j39,hq33 l38_5 l38_6 l38_7 l38_8++hq6 l38_1++hq30 l38_2 l38_3 l38_4 a0r.dg⟩:Bool→St) ?_ ?_)
   ·refine sG (xR 4 krf (xS (eqI l38_5 1) (fun h40=>?_) (fun h40=>?_)))
    ·refine xO (want_tt krf h40) krf (xR 1 krf ?_)
     refine xC [] krf (g_p_isAttr_ok n l38_6) krf krf kff (fun r41=>?_)
     exact xR 1 krf (xE (nqK r41 krf))
    exact xN (want_tf krf h40) krf (xR 3 krf (xE (nqK false krf)))
   rintro j39
   refine sC j39 krf (sK (sNK (sq12 l38_1 l38_5 l38_6 l38_7 l38_8 l38_2 l38_3 l38_4 a0r.dg) krf (sS (sB (sRK Tryd.fm (sq12 l38_1 l38_5 l38_6 l38_7 l38_8 l38_2 (wi (l38_3+1)) l38_4 a0r.dg) krf (sG (xR 6 krf (xIn (hq34 l38_2 (wi (l38_3+1)) l38_4 a0r.dg) [.agg [I l38_5,S l38_6,I l38_7,I l38_8],I 3,S l38_6,I 0, .bsl 1003 1] nq1 [] [] krf Tryd.func23 rfl Tryd.ntmps23 rfl krf krf krf (sRK Tryd.fm ⟨tq38 3 l38_6 (.bsl 1003 1),[(5,(bq0 l38_5 l38_6 l38_7 l38_8)),(10,(bq3 0 [] 0 0))]++hq34 l38_2 (wi (l38_3+1)) l38_4 a0r.dg⟩ krf (sRK Tryd.fm ⟨tq24 (.bsl 1003 1),hq9 3 l38_6 0 l38_8++hq34 l38_2 (wi (l38_3+1)) l38_4 a0r.dg⟩ krf (sBi (fun (j42_1,j42_2,j42_3,j42_4)=>⟨[qq 10,qq 11],hq35 3 l38_6 l38_8 j42_1++hq6 j42_1++hq34 j42_2 j42_3 j42_4 a0r.dg⟩:ty2→St) ?_ ?_))))))))))) (sim_exit (sq_x (kq_x (bq_hit (nqK (l38_1,l38_2,l38_3,l38_4) krf)))))
   rotate_left
   ·rintro ⟨j42_1,j42_2,j42_3,j42_4⟩
    refine sRK Tryd.fm ⟨[qq 10],[(10,(bq17 3 l38_6 l38_8 j42_1))]++hq6 j42_1++hq34 j42_2 j42_3 j42_4 a0r.dg⟩ krf (sT (iq_ret (.agg [.id, .id, .id, .id, .sl 5]) [1000,1001,1002,1003] [] (.agg [I 3,S l38_6,I 0,I l38_8, .p (.sl 5 (mI j42_1))]) krf krf (kr0 (xR 1 krf (xF krf krf (aop_app (e:=25) (S:=5) (by_:=64) (enc:=idc) (tk:=300) (l:=l38_1) (l2:=[GN.cs (⟨3,l38_6,0,l38_8,j42_1⟩:GN)]) (xv:=.tsl 5 (mI [GN.cs (⟨3,l38_6,0,l38_8,j42_1⟩:GN)]) 31) rfl krf krf rfl krf krf krf rfl krf) (xR 1 krf (xE (bq_n (sNK (sq15 (l38_1++[GN.cs (⟨3,l38_6,0,l38_8,j42_1⟩:GN)]) l38_5 l38_6 l38_7 l38_8 j42_2 j42_3 j42_4 a0r.dg) krf (sS (sRK Tryd.fm (sq16 (l38_1++[GN.cs (⟨3,l38_6,0,l38_8,j42_1⟩:GN)]) l38_5 l38_6 l38_7 l38_8 j42_2 j42_3 j42_4 a0r.dg) krf (sL Tryd.fm krf (sNK (sq15 (l38_1++[GN.cs (⟨3,l38_6,0,l38_8,j42_1⟩:GN)]) l38_5 l38_6 l38_7 l38_8 j42_2 j42_3 j42_4 a0r.dg) krf (sG (xR 1 krf ?_)))))))))))))))
    refine xs_ro [.ro [.id, .id, .id, .sl 2]] krf (g_r_peek_2_ok n (⟨j42_2,j42_3,j42_4,a0r.dg⟩:GPr)) krf krf kff (fun r44=>?_)
    exact xR 1 krf (xE (kqK (l38_1++[GN.cs (⟨3,l38_6,0,l38_8,j42_1⟩:GN)],j42_2,j42_3,j42_4,r44.Kind,r44.Text,r44.N,r44.At) krf))
   refine sRK Tryd.fm ⟨tq25 (.bsl 1003 1) 1 0,hq9 3 l38_6 0 l38_8++hq34 l38_2 (wi (l38_3+1)) l38_4 a0r.dg⟩ krf (sB (sim_unroll 1 (sRK Tryd.fm ⟨tq26 (.bsl 1003 1) 1 0 true,hq9 3 l38_6 0 l38_8++hq34 l38_2 (wi (l38_3+1)) l38_4 a0r.dg⟩ krf (sS (sim_condT krf (sK (sNK ⟨tq25 (.bsl 1003 1) 1 0,hq9 3 l38_6 0 l38_8++hq34 l38_2 (wi (l38_3+1)) l38_4 a0r.dg⟩ krf (sS (sB (sRK Tryd.fm ⟨tq39 (.func 86) (.bsl 1003 1) 1 0,hq9 3 l38_6 0 l38_8++hq34 l38_2 (wi (l38_3+1)) l38_4 a0r.dg⟩ krf (sPK ⟨tq39 (.func 86) (.bsl 1003 1) 1 0,hq9 3 l38_6 0 l38_8++hq34 l38_2 (wi (l38_3+1)) l38_4 a0r.dg⟩ krf (sim_weak (weak_pn 25 5 300 [] [(11,4)] krf) (sim_hst [0,1,2] [0,1] [(3,[]),(4,[]),(5,[]),(6,[])] Tryd.fm rfl krf krf (h_enter (f:=86) (args:=[pZ2]) (dst:=some 29) krf krf (sc_inline (hc:=(hq36 l38_2 (wi (l38_3+1)) l38_4 a0r.dg)) (args':=[pZ2]) nq2 [] [] Tryd.func86 rfl Tryd.ntmps86 rfl krf krf krf (sRK Tryd.fm (sq13 l38_2 (wi (l38_3+1)) l38_4 a0r.dg) krf (sS (sG (xR 1 krf (xs_enter (f:=87) (args:=[pZ0, .p (.val (.func (.func 65) #[] #[]))]) krf krf krf ?_))))))))))))))))))))
   refine sc_hold 1000 3 1001 45 2 (mDg a0r.dg).length (mDg a0r.dg) ⟨[0,2],[1000,1002],[],[]⟩ krf krf rfl (fun _ _ _=>by kernel_rfl) (fun hu43w hu43l hu43c=>?_)
   refine sc_heap [(1000,1000)] [] [] (g_r_values_ok n (⟨l38_2,wi (l38_3+1),l38_4,[]⟩:GPr) hu43w hu43l hu43c) krf krf krf kff kff (fun r43=>?_)
   exact k_hold _ rfl krf krf (kr0 (xR 1 krf (xE (sNK ⟨[(1, .p (.sl 5 (mI r43.1)))],hq36 r43.2.tks r43.2.pos r43.2.length a0r.dg⟩ krf (sT (iq_ret (.id) [1000,1001,1002] [] (.p (.sl 5 (mI r43.1))) krf krf (kh [0,1] krf (lates_cons (late_read (.ptr 11 4) krf rfl) (lates_cons (late_tsl (S:=5) (t:=300) (ty:=25) (es:=mI []) krf krf rfl) (lates_nil))) krf (h_if [] rfl krf krf (aop_appL (e:=25) (S:=5) (by_:=64) (enc:=idc) (tk:=300) (l:=[]) (l2:=r43.1) (xv:=.p (.sl 5 (mI r43.1))) rfl krf krf rfl krf krf krf krf) (fun _=>lates_nil) (h_op [] krf krf (lates_nil) (h_op [] krf krf (lates_nil) (h_end (bq_n (sNK (sq14 0 l38_6 l38_8 ([]++r43.1) r43.2.tks r43.2.pos r43.2.length a0r.dg) krf (sL Tryd.fm krf (ru_n ⟨[10,11,20,21,22],[10,11,300,1000,1001,1002,1003],[],[]⟩ (sq14 1 l38_6 l38_8 ([]++r43.1) r43.2.tks r43.2.pos r43.2.length a0r.dg) krf (sRK Tryd.fm ⟨tq26 (.bsl 1003 1) 1 1 false,hq35 3 l38_6 l38_8 ([]++r43.1)++hq10 ([]++r43.1)++hq34 r43.2.tks r43.2.pos r43.2.length a0r.dg⟩ krf (sS (sim_condF krf (sim_exit (sq_x (ru_x (bq_hit (nqK ([]++r43.1,r43.2.tks,r43.2.pos,r43.2.length) krf)))))))))))))))))))))))
  rintro ⟨j36_1,j36_2,j36_3,j36_4⟩
  refine sRK Tryd.fm ⟨[(2, .tsl 5 (mI j36_1) 300)],hq6 j36_1++hq30 j36_2 j36_3 j36_4 a0r.dg⟩ krf (sT (iq_ret (.sl 5) [1000,1001] [] (.p (.sl 5 (mI j36_1))) krf krf (kh [0,1] krf (lates_cons (late_read (.ptr 11 4) krf rfl) (lates_cons (late_tsl (S:=5) (t:=300) (ty:=25) (es:=mI []) krf krf rfl) (lates_nil))) krf (h_if [] rfl krf krf (aop_appL (e:=25) (S:=5) (by_:=64) (enc:=idc) (tk:=300) (l:=[]) (l2:=j36_1) (xv:=.p (.sl 5 (mI j36_1))) rfl krf krf rfl krf krf krf krf) (fun _=>lates_nil) (h_op [] krf krf (lates_nil) (h_op [] krf krf (lates_nil) (h_end (bq_n (sNK (sq19 0 r3 r5 r1 ([]++j36_1) j36_2 j36_3 j36_4 a0r.dg) krf (sL Tryd.fm krf (ru_n ⟨[10,11,20,21,22],[10,11,300,1000,1001,1002,1003],[],[]⟩ (sq19 1 r3 r5 r1 ([]++j36_1) j36_2 j36_3 j36_4 a0r.dg) krf (sRK Tryd.fm ⟨tq26 (.bsl 1003 2) 2 1 true,hq29 r3 r5 r1 ([]++j36_1)++hq10 ([]++j36_1)++hq46 j36_2 j36_3 j36_4 a0r.dg⟩ krf (sS (sim_condT krf (sK (sNK (sq19 1 r3 r5 r1 ([]++j36_1) j36_2 j36_3 j36_4 a0r.dg) krf (sS (sB (sRK Tryd.fm ⟨tq39 (.func 70) (.bsl 1003 2) 2 1,hq29 r3 r5 r1 ([]++j36_1)++hq10 ([]++j36_1)++hq46 j36_2 j36_3 j36_4 a0r.dg⟩ krf (sim_hst [0,1,2] [0,1] [(3,[]),(4,[]),(5,[]),(6,[])] Tryd.fm rfl krf krf (h_enter (f:=70) (args:=[pZ2]) (dst:=some 29) krf krf (sc_inline (hc:=(hq36 j36_2 j36_3 j36_4 a0r.dg)) (args':=[pZ2]) nq2 [] [] Tryd.func70 rfl Tryd.ntmps70 rfl krf krf krf (sRK Tryd.fm (sq13 j36_2 j36_3 j36_4 a0r.dg) krf (sS (sim_hst [0] [0] [(1,[]),(2,[])] Tryd.fm rfl krf krf (h_enter (f:=67) (args:=[S [59]]) (dst:=some 3) krf krf (sc_inline (hc:=[]) (args':=[S [59]]) [(1,401)] [] [] Tryd.func67 rfl Tryd.ntmps67 rfl krf krf krf (sRK Tryd.fm ⟨[qq 1],hq20 [59]⟩ krf (sRK Tryd.fm (sq8 [59]) krf (sT (iq_ret (.id) [1] [] (.fn (.func 85) [] [.ptr 1 0]) krf krf (kh [0] krf (lates_cons (late_read pZ0 krf rfl) (lates_nil)) krf (h_enter (f:=61) (args:=[pZ0, .fn (.func 85) [] [.ptr 401 0]]) (dst:=some 4) krf krf (sc_inline (hc:=(hq37 j36_2 j36_3 j36_4 a0r.dg [59])) (args':=[pZ0, .fn (.func 85) [] [pZ2]]) nq3 [] [] Tryd.func61 rfl Tryd.ntmps61 rfl krf krf krf (sRK Tryd.fm ⟨tq30 (.func 85),hq13++hq37 j36_2 j36_3 j36_4 a0r.dg [59]⟩ krf (sS (sG (xR 1 krf ?_))))))))))))))))))))))))))))))))))))))
  refine xs_ro [.ro [.id, .id, .id, .sl 2]] krf (g_r_peek_2_ok n (⟨j36_2,j36_3,j36_4,a0r.dg⟩:GPr)) krf krf kff (fun r45=>?_)
  refine xR 2 krf (xE (sNK ⟨tq31 (.func 85),hq14 r45++hq37 j36_2 j36_3 j36_4 a0r.dg [59]⟩ krf (sim_cps (fun _=>⟨tq21,hq14 r45++hq37 j36_2 j36_3 j36_4 a0r.dg [59]⟩:Unit→St) (fun _=>g_r_item_j46 a0r r1 r3 r5 j36_1 j36_2 j36_3 j36_4) ?_ ?_)))
  ·rintro _
   show SimE (g_r_item_j46 a0r r1 r3 r5 j36_1 j36_2 j36_3 j36_4) _ _ _ _ _ _
   unfold g_r_item_j46
   exact sRK Tryd.fm ⟨[qq 4,qq 5],hq14 r45++hq37 j36_2 (wi (j36_3+1)) j36_4 a0r.dg [59]⟩ krf (sRK Tryd.fm ⟨[qq 4],hq15 r45++hq37 j36_2 (wi (j36_3+1)) j36_4 a0r.dg [59]⟩ krf (sT (iq_ret (.id) [1000,1001,1002] [] (.agg [I r45.Kind,S r45.Text,I r45.N,I r45.At]) krf krf (kh [] krf (lates_nil) krf (h_end (sNK ⟨[],hq36 j36_2 (wi (j36_3+1)) j36_4 a0r.dg⟩ krf (sRK Tryd.fm ⟨[(1,zS)],hq36 j36_2 (wi (j36_3+1)) j36_4 a0r.dg⟩ krf (sT (iq_ret (.sl 5) [1000,1001,1002] [] (.p (.sl 5 (mI []))) krf krf (kh [0,1] krf (lates_cons (late_read (.ptr 11 4) krf rfl) (lates_cons (late_tsl (S:=5) (t:=300) (ty:=25) (es:=mI ([]++j36_1)) krf krf rfl) (lates_nil))) krf (h_if [] rfl krf krf (aop_appL (e:=25) (S:=5) (by_:=64) (enc:=idc) (tk:=300) (l:=[]++j36_1) (l2:=[]) (xv:=.p (.sl 5 (mI []))) rfl krf krf rfl krf krf krf krf) (fun _=>lates_nil) (h_op [] krf krf (lates_nil) (h_op [] krf krf (lates_nil) (h_end (bq_n (sNK (sq19 1 r3 r5 r1 (([]++j36_1)++[]) j36_2 (wi (j36_3+1)) j36_4 a0r.dg) krf (sL Tryd.fm krf (ru_n ⟨[10,11,20,21,22],[10,11,300,1000,1001,1002,1003],[],[]⟩ (sq19 2 r3 r5 r1 (([]++j36_1)++[]) j36_2 (wi (j36_3+1)) j36_4 a0r.dg) krf (sRK Tryd.fm ⟨tq26 (.bsl 1003 2) 2 2 false,hq29 r3 r5 r1 (([]++j36_1)++[])++hq10 (([]++j36_1)++[])++hq46 j36_2 (wi (j36_3+1)) j36_4 a0r.dg⟩ krf (sS (sim_condF krf (sim_exit (sq_x (ru_x (bq_hit (kqK (k:=fun (j35_1,j35_2,j35_3,j35_4)=>g_r_item_j35 a0r r1 r3 r5 j35_1 j35_2 j35_3 j35_4) (([]++j36_1)++[],j36_2,wi (j36_3+1),j36_4) krf))))))))))))))))))))))))))
  refine sBi (fun j47=>⟨tq29 j47,hq14 r45++hq37 j36_2 j36_3 j36_4 a0r.dg [59]⟩:Bool→St) ?_ ?_
  rotate_left
  ·rintro j47
   refine sC j47 krf (sG (xR 1 krf ?_)) (sK (kqK (k:=fun _=>g_r_item_j46 a0r r1 r3 r5 j36_1 j36_2 j36_3 j36_4) () krf))
   refine xs_roE [.ro [.id, .id, .id, .sl 2]] krf (g_r_fail_2_ok n (⟨j36_2,j36_3,j36_4,a0r.dg⟩:GPr)) krf krf kff kff (fun r51=>?_) (fun e52=>?_)
   ·exact xE (kqK (k:=fun _=>g_r_item_j46 a0r r1 r3 r5 j36_1 j36_2 j36_3 j36_4) () krf)
   exact kq_p (iq_p [1000,1001,1002] [] krf (qh_p _ rfl (sq_p (iq_p [1000,1001,1002] [] krf (qh_p _ rfl (bq_p (sq_p (ru_p (bq_p (kq_p (iq_p [1000,1001,1002,1003] [] krf (sq_p (hq_p [1000,1103] [] krf krf krf)))))))))))))
  refine sG (xR 4 krf (xS (eqI r45.Kind 0) (fun h48=>xN (want_ft krf h48) krf (xR 4 krf (xE (nqK true krf)))) (fun h48=>xO (want_ff krf h48) krf (xR 1 krf (xIn (hq22 [59]) [.agg [I r45.Kind,S r45.Text,I r45.N,I r45.At],pZ0] [(1000,1002)] [] [] krf Tryd.func85 rfl Tryd.ntmps85 rfl krf krf krf (sRK Tryd.fm (sq9 r45 [59]) krf (sBi (fun j49=>⟨[(3,B j49)],hq22 [59]⟩:Bool→St) (sG (xR 4 krf (xS (eqI r45.Kind 3) (fun h50=>xO (want_tt krf h50) krf (xR 5 krf (xE (nqK (eqS r45.Text [59]) krf)))) (fun h50=>xN (want_tf krf h50) krf (xR 5 krf (xE (nqK false krf))))))) ?_)))))))
  rintro j49
  exact sT (iq_ret (.id) [1000] [] (B j49) krf krf (kr0 (xR 2 krf (xE (nqK (!j49) krf)))))
 refine sRK Tryd.fm ⟨[qq 1,qq 2,qq 3,(4,S r3.Text),(5,I r5),(6, .fn (.func 66) [] [.ptr 1 0])],hq16 r1++hq25 a0r.tks (wi ((wi (a0r.pos+1))+1)) a0r.length a0r.dg⟩ krf (sS (sG (xR 9 krf (xIn (hq27 a0r.tks (wi ((wi (a0r.pos+1))+1)) a0r.length a0r.dg) [.agg [I r1.Kind,S r1.Text,I r1.N,I r1.At],I 2,S r3.Text,I r5, .bsl 1003 3] [(1002,1),(1003,29),(1000,1000),(1001,1103)] [] [] krf Tryd.func23 rfl Tryd.ntmps23 rfl krf krf krf (sRK Tryd.fm ⟨tq23 2 r3 r5 (.bsl 1003 3),hq8 r1++hq27 a0r.tks (wi ((wi (a0r.pos+1))+1)) a0r.length a0r.dg⟩ krf (sRK Tryd.fm ⟨tq24 (.bsl 1003 3),hq28 r3 r5 r1++hq27 a0r.tks (wi ((wi (a0r.pos+1))+1)) a0r.length a0r.dg⟩ krf (sim_cps (fun (j6_1,j6_2,j6_3,j6_4,j6_5)=>⟨[qq 10,qq 11],hq29 r3 r5 r1 j6_1++hq6 j6_1++hq27 j6_2 j6_3 j6_4 j6_5⟩:ty0→St) (fun (j6_1,j6_2,j6_3,j6_4,j6_5)=>g_r_item_j6 r1 r3 r5 j6_1 j6_2 j6_3 j6_4 j6_5) ?_ ?_)))))))
 ·rintro ⟨j6_1,j6_2,j6_3,j6_4,j6_5⟩
  show SimE (g_r_item_j6 r1 r3 r5 j6_1 j6_2 j6_3 j6_4 j6_5) _ _ _ _ _ _
  unfold g_r_item_j6
  exact sRK Tryd.fm ⟨[qq 10],[(10,(bq15 r3 r5 r1 j6_1))]++hq6 j6_1++hq27 j6_2 j6_3 j6_4 j6_5⟩ krf (sT (iq_ret (.agg [.id, .id, .id, .id, .sl 5]) [1000,1001,1002,1003] [] (.agg [I 2,S r3.Text,I r5,I r1.At, .p (.sl 5 (mI j6_1))]) krf krf (kr0 (xR 1 krf (xE (sNK ⟨[qq 2],[(2,(bq9 ⟨2,r3.Text,r5,r1.At,j6_1⟩))]++hq25 j6_2 j6_3 j6_4 j6_5⟩ krf (sT (sq_r (hq_ret (.id) [1000,1103] [] krf krf krf krf)))))))))
 refine sRK Tryd.fm ⟨tq25 (.bsl 1003 3) 3 0,hq28 r3 r5 r1++hq27 a0r.tks (wi ((wi (a0r.pos+1))+1)) a0r.length a0r.dg⟩ krf (sB (sim_unroll 3 (sRK Tryd.fm ⟨tq26 (.bsl 1003 3) 3 0 true,hq28 r3 r5 r1++hq27 a0r.tks (wi ((wi (a0r.pos+1))+1)) a0r.length a0r.dg⟩ krf (sS (sim_condT krf (sK (sNK ⟨tq25 (.bsl 1003 3) 3 0,hq28 r3 r5 r1++hq27 a0r.tks (wi ((wi (a0r.pos+1))+1)) a0r.length a0r.dg⟩ krf (sS (sB (sRK Tryd.fm ⟨tq33 (.func 68) (.bsl 1003 3) 3 0,hq28 r3 r5 r1++hq27 a0r.tks (wi ((wi (a0r.pos+1))+1)) a0r.length a0r.dg⟩ krf (sPK ⟨tq33 (.func 68) (.bsl 1003 3) 3 0,hq28 r3 r5 r1++hq27 a0r.tks (wi ((wi (a0r.pos+1))+1)) a0r.length a0r.dg⟩ krf (sim_weak (weak_pn 25 5 300 [] [(11,4)] krf) (sim_hst [0,1,2] [0,1] [(3,[]),(4,[]),(5,[]),(6,[])] Tryd.fm rfl krf krf (h_enter (f:=68) (args:=[pZ0]) (dst:=some 29) krf krf (sc_inline (hc:=(hq30 a0r.tks (wi ((wi (a0r.pos+1))+1)) a0r.length a0r.dg)) (args':=[pZ0]) [(1000,1000),(1001,1001)] [] [] Tryd.func68 rfl Tryd.ntmps68 rfl krf krf krf (sRK Tryd.fm (sq11 a0r.tks (wi ((wi (a0r.pos+1))+1)) a0r.length a0r.dg) krf (sRK Tryd.fm ⟨tq34,hq31++hq30 a0r.tks (wi ((wi (a0r.pos+1))+1)) a0r.length a0r.dg⟩ krf (sBi (fun (j7_1,j7_2,j7_3,j7_4)=>⟨[(3, .tsl 5 (mI j7_1) 300)],hq6 j7_1++hq30 j7_2 j7_3 j7_4 a0r.dg⟩:ty2→St) ?_ ?_))))))))))))))))))
 ·refine sS (sG (xR 1 krf ?_))
  refine xs_ro [.ro [.id, .id, .id, .sl 2]] krf (g_r_peek_2_ok n (⟨a0r.tks,wi ((wi (a0r.pos+1))+1),a0r.length,a0r.dg⟩:GPr)) krf krf kff (fun r8=>?_)
  refine xR 2 krf (xE (sNK ⟨tq35,hq32 r8++hq30 a0r.tks (wi ((wi (a0r.pos+1))+1)) a0r.length a0r.dg⟩ krf (sB (sPK ⟨tq35,hq32 r8++hq30 a0r.tks (wi ((wi (a0r.pos+1))+1)) a0r.length a0r.dg⟩ krf (sim_weak (weak_pn 25 5 300 [3] [] krf) (sim_loop (fun (l9_1,l9_2,l9_3,l9_4,l9_5,l9_6,l9_7,l9_8)=>(sq12 l9_1 l9_5 l9_6 l9_7 l9_8 l9_2 l9_3 l9_4 a0r.dg):ty3→St) (wsK krf) ?_))))))
  rintro recl9 ⟨l9_1,l9_2,l9_3,l9_4,l9_5,l9_6,l9_7,l9_8⟩
  show SimE (g_r_item_l9 n a0r recl9 l9_1 l9_2 l9_3 l9_4 l9_5 l9_6 l9_7 l9_8) _ _ _ _ _ _
  unfold g_r_item_l9
  refine sS (sBi (fun j10=>⟨tq37 l9_1 j10,hq33 l9_5 l9_6 l9_7 l9_8++hq6 l9_1++hq30 l9_2 l9_3 l9_4 a0r.dg⟩:Bool→St) ?_ ?_)
  ·refine sG (xR 4 krf (xS (eqI l9_5 1) (fun h11=>?_) (fun h11=>?_)))
   ·refine xO (want_tt krf h11) krf (xR 1 krf ?_)
    refine xC [] krf (g_p_isAttr_ok n l9_6) krf krf kff (fun r12=>?_)
    exact xR 1 krf (xE (nqK r12 krf))
   exact xN (want_tf krf h11) krf (xR 3 krf (xE (nqK false krf)))
  rintro j10
  refine sC j10 krf (sK (sNK (sq12 l9_1 l9_5 l9_6 l9_7 l9_8 l9_2 l9_3 l9_4 a0r.dg) krf (sS (sB (sRK Tryd.fm (sq12 l9_1 l9_5 l9_6 l9_7 l9_8 l9_2 (wi (l9_3+1)) l9_4 a0r.dg) krf (sG (xR 6 krf (xIn (hq34 l9_2 (wi (l9_3+1)) l9_4 a0r.dg) [.agg [I l9_5,S l9_6,I l9_7,I l9_8],I 3,S l9_6,I 0, .bsl 1003 1] nq1 [] [] krf Tryd.func23 rfl Tryd.ntmps23 rfl krf krf krf (sRK Tryd.fm ⟨tq38 3 l9_6 (.bsl 1003 1),[(5,(bq0 l9_5 l9_6 l9_7 l9_8)),(10,(bq3 0 [] 0 0))]++hq34 l9_2 (wi (l9_3+1)) l9_4 a0r.dg⟩ krf (sRK Tryd.fm ⟨tq24 (.bsl 1003 1),hq9 3 l9_6 0 l9_8++hq34 l9_2 (wi (l9_3+1)) l9_4 a0r.dg⟩ krf (sBi (fun (j13_1,j13_2,j13_3,j13_4)=>⟨[qq 10,qq 11],hq35 3 l9_6 l9_8 j13_1++hq6 j13_1++hq34 j13_2 j13_3 j13_4 a0r.dg⟩:ty2→St) ?_ ?_))))))))))) (sim_exit (sq_x (kq_x (bq_hit (nqK (l9_1,l9_2,l9_3,l9_4) krf)))))
  rotate_left
  ·rintro ⟨j13_1,j13_2,j13_3,j13_4⟩
   refine sRK Tryd.fm ⟨[qq 10],[(10,(bq17 3 l9_6 l9_8 j13_1))]++hq6 j13_1++hq34 j13_2 j13_3 j13_4 a0r.dg⟩ krf (sT (iq_ret (.agg [.id, .id, .id, .id, .sl 5]) [1000,1001,1002,1003] [] (.agg [I 3,S l9_6,I 0,I l9_8, .p (.sl 5 (mI j13_1))]) krf krf (kr0 (xR 1 krf (xF krf krf (aop_app (e:=25) (S:=5) (by_:=64) (enc:=idc) (tk:=300) (l:=l9_1) (l2:=[GN.cs (⟨3,l9_6,0,l9_8,j13_1⟩:GN)]) (xv:=.tsl 5 (mI [GN.cs (⟨3,l9_6,0,l9_8,j13_1⟩:GN)]) 31) rfl krf krf rfl krf krf krf rfl krf) (xR 1 krf (xE (bq_n (sNK (sq15 (l9_1++[GN.cs (⟨3,l9_6,0,l9_8,j13_1⟩:GN)]) l9_5 l9_6 l9_7 l9_8 j13_2 j13_3 j13_4 a0r.dg) krf (sS (sRK Tryd.fm (sq16 (l9_1++[GN.cs (⟨3,l9_6,0,l9_8,j13_1⟩:GN)]) l9_5 l9_6 l9_7 l9_8 j13_2 j13_3 j13_4 a0r.dg) krf (sL Tryd.fm krf (sNK (sq15 (l9_1++[GN.cs (⟨3,l9_6,0,l9_8,j13_1⟩:GN)]) l9_5 l9_6 l9_7 l9_8 j13_2 j13_3 j13_4 a0r.dg) krf (sG (xR 1 krf ?_)))))))))))))))
   refine xs_ro [.ro [.id, .id, .id, .sl 2]] krf (g_r_peek_2_ok n (⟨j13_2,j13_3,j13_4,a0r.dg⟩:GPr)) krf krf kff (fun r15=>?_)
   exact xR 1 krf (xE (kqK (l9_1++[GN.cs (⟨3,l9_6,0,l9_8,j13_1⟩:GN)],j13_2,j13_3,j13_4,r15.Kind,r15.Text,r15.N,r15.At) krf))
  refine sRK Tryd.fm ⟨tq25 (.bsl 1003 1) 1 0,hq9 3 l9_6 0 l9_8++hq34 l9_2 (wi (l9_3+1)) l9_4 a0r.dg⟩ krf (sB (sim_unroll 1 (sRK Tryd.fm ⟨tq26 (.bsl 1003 1) 1 0 true,hq9 3 l9_6 0 l9_8++hq34 l9_2 (wi (l9_3+1)) l9_4 a0r.dg⟩ krf (sS (sim_condT krf (sK (sNK ⟨tq25 (.bsl 1003 1) 1 0,hq9 3 l9_6 0 l9_8++hq34 l9_2 (wi (l9_3+1)) l9_4 a0r.dg⟩ krf (sS (sB (sRK Tryd.fm ⟨tq39 (.func 86) (.bsl 1003 1) 1 0,hq9 3 l9_6 0 l9_8++hq34 l9_2 (wi (l9_3+1)) l9_4 a0r.dg⟩ krf (sPK ⟨tq39 (.func 86) (.bsl 1003 1) 1 0,hq9 3 l9_6 0 l9_8++hq34 l9_2 (wi (l9_3+1)) l9_4 a0r.dg⟩ krf (sim_weak (weak_pn 25 5 300 [] [(11,4)] krf) (sim_hst [0,1,2] [0,1] [(3,[]),(4,[]),(5,[]),(6,[])] Tryd.fm rfl krf krf (h_enter (f:=86) (args:=[pZ2]) (dst:=some 29) krf krf (sc_inline (hc:=(hq36 l9_2 (wi (l9_3+1)) l9_4 a0r.dg)) (args':=[pZ2]) nq2 [] [] Tryd.func86 rfl Tryd.ntmps86 rfl krf krf krf (sRK Tryd.fm (sq13 l9_2 (wi (l9_3+1)) l9_4 a0r.dg) krf (sS (sG (xR 1 krf (xs_enter (f:=87) (args:=[pZ0, .p (.val (.func (.func 65) #[] #[]))]) krf krf krf ?_))))))))))))))))))))
  refine sc_hold 1000 3 1001 45 2 (mDg a0r.dg).length (mDg a0r.dg) ⟨[0,2],[1000,1002],[],[]⟩ krf krf rfl (fun _ _ _=>by kernel_rfl) (fun hu14w hu14l hu14c=>?_)
  refine sc_heap [(1000,1000)] [] [] (g_r_values_ok n (⟨l9_2,wi (l9_3+1),l9_4,[]⟩:GPr) hu14w hu14l hu14c) krf krf krf kff kff (fun r14=>?_)
  exact k_hold _ rfl krf krf (kr0 (xR 1 krf (xE (sNK ⟨[(1, .p (.sl 5 (mI r14.1)))],hq36 r14.2.tks r14.2.pos r14.2.length a0r.dg⟩ krf (sT (iq_ret (.id) [1000,1001,1002] [] (.p (.sl 5 (mI r14.1))) krf krf (kh [0,1] krf (lates_cons (late_read (.ptr 11 4) krf rfl) (lates_cons (late_tsl (S:=5) (t:=300) (ty:=25) (es:=mI []) krf krf rfl) (lates_nil))) krf (h_if [] rfl krf krf (aop_appL (e:=25) (S:=5) (by_:=64) (enc:=idc) (tk:=300) (l:=[]) (l2:=r14.1) (xv:=.p (.sl 5 (mI r14.1))) rfl krf krf rfl krf krf krf krf) (fun _=>lates_nil) (h_op [] krf krf (lates_nil) (h_op [] krf krf (lates_nil) (h_end (bq_n (sNK (sq14 0 l9_6 l9_8 ([]++r14.1) r14.2.tks r14.2.pos r14.2.length a0r.dg) krf (sL Tryd.fm krf (ru_n ⟨[10,11,20,21,22],[10,11,300,1000,1001,1002,1003],[],[]⟩ (sq14 1 l9_6 l9_8 ([]++r14.1) r14.2.tks r14.2.pos r14.2.length a0r.dg) krf (sRK Tryd.fm ⟨tq26 (.bsl 1003 1) 1 1 false,hq35 3 l9_6 l9_8 ([]++r14.1)++hq10 ([]++r14.1)++hq34 r14.2.tks r14.2.pos r14.2.length a0r.dg⟩ krf (sS (sim_condF krf (sim_exit (sq_x (ru_x (bq_hit (nqK ([]++r14.1,r14.2.tks,r14.2.pos,r14.2.length) krf)))))))))))))))))))))))
 rintro ⟨j7_1,j7_2,j7_3,j7_4⟩
 refine sRK Tryd.fm ⟨[(2, .tsl 5 (mI j7_1) 300)],hq6 j7_1++hq30 j7_2 j7_3 j7_4 a0r.dg⟩ krf (sT (iq_ret (.sl 5) [1000,1001] [] (.p (.sl 5 (mI j7_1))) krf krf (kh [0,1] krf (lates_cons (late_read (.ptr 11 4) krf rfl) (lates_cons (late_tsl (S:=5) (t:=300) (ty:=25) (es:=mI []) krf krf rfl) (lates_nil))) krf (h_if [] rfl krf krf (aop_appL (e:=25) (S:=5) (by_:=64) (enc:=idc) (tk:=300) (l:=[]) (l2:=j7_1) (xv:=.p (.sl 5 (mI j7_1))) rfl krf krf rfl krf krf krf krf) (fun _=>lates_nil) (h_op [] krf krf (lates_nil) (h_op [] krf krf (lates_nil) (h_end (bq_n (sNK (sq17 0 r3 r5 r1 ([]++j7_1) j7_2 j7_3 j7_4 a0r.dg) krf (sL Tryd.fm krf (ru_n ⟨[10,11,20,21,22],[10,11,300,1000,1001,1002,1003],[],[]⟩ (sq17 1 r3 r5 r1 ([]++j7_1) j7_2 j7_3 j7_4 a0r.dg) krf (sRK Tryd.fm ⟨tq26 (.bsl 1003 3) 3 1 true,hq29 r3 r5 r1 ([]++j7_1)++hq10 ([]++j7_1)++hq27 j7_2 j7_3 j7_4 a0r.dg⟩ krf (sS (sim_condT krf (sK (sNK (sq17 1 r3 r5 r1 ([]++j7_1) j7_2 j7_3 j7_4 a0r.dg) krf (sS (sB (sRK Tryd.fm ⟨tq39 (.func 66) (.bsl 1003 3) 3 1,hq29 r3 r5 r1 ([]++j7_1)++hq10 ([]++j7_1)++hq27 j7_2 j7_3 j7_4 a0r.dg⟩ krf (sim_hst [0,1,2] [0,1] [(3,[]),(4,[]),(5,[]),(6,[])] Tryd.fm rfl krf krf (h_enter (f:=66) (args:=[pZ2]) (dst:=some 29) krf krf (sc_inline (hc:=(hq36 j7_2 j7_3 j7_4 a0r.dg)) (args':=[pZ2]) nq2 [] [] Tryd.func66 rfl Tryd.ntmps66 rfl krf krf krf (sRK Tryd.fm (sq13 j7_2 j7_3 j7_4 a0r.dg) krf (sS (sim_hst [0] [0] [(1,[]),(2,[])] Tryd.fm rfl krf krf (h_enter (f:=67) (args:=[S [123]]) (dst:=some 3) krf krf (sc_inline (hc:=[]) (args':=[S [123]]) [(1,401)] [] [] Tryd.func67 rfl Tryd.ntmps67 rfl krf krf krf (sRK Tryd.fm ⟨[qq 1],hq20 [123]⟩ krf (sRK Tryd.fm (sq8 [123]) krf (sT (iq_ret (.id) [1] [] (.fn (.func 85) [] [.ptr 1 0]) krf krf (kh [0] krf (lates_cons (late_read pZ0 krf rfl) (lates_nil)) krf (h_enter (f:=61) (args:=[pZ0, .fn (.func 85) [] [.ptr 401 0]]) (dst:=some 4) krf krf (sc_inline (hc:=(hq37 j7_2 j7_3 j7_4 a0r.dg [123])) (args':=[pZ0, .fn (.func 85) [] [pZ2]]) nq3 [] [] Tryd.func61 rfl Tryd.ntmps61 rfl krf krf krf (sRK Tryd.fm ⟨tq30 (.func 85),hq13++hq37 j7_2 j7_3 j7_4 a0r.dg [123]⟩ krf (sS (sG (xR 1 krf ?_))))))))))))))))))))))))))))))))))))))
 refine xs_ro [.ro [.id, .id, .id, .sl 2]] krf (g_r_peek_2_ok n (⟨j7_2,j7_3,j7_4,a0r.dg⟩:GPr)) krf krf kff (fun r16=>?_)
 refine xR 2 krf (xE (sNK ⟨tq31 (.func 85),hq14 r16++hq37 j7_2 j7_3 j7_4 a0r.dg [123]⟩ krf (sim_cps (fun _=>⟨tq21,hq14 r16++hq37 j7_2 j7_3 j7_4 a0r.dg [123]⟩:Unit→St) (fun _=>g_r_item_j17 n a0r r1 r3 r5 j7_1 j7_2 j7_3 j7_4) ?_ ?_)))
 rotate_left
 ·refine sBi (fun j29=>⟨tq29 j29,hq14 r16++hq37 j7_2 j7_3 j7_4 a0r.dg [123]⟩:Bool→St) ?_ ?_
  rotate_left
  ·rintro j29
   refine sC j29 krf (sG (xR 1 krf ?_)) (sK (kqK (k:=fun _=>g_r_item_j17 n a0r r1 r3 r5 j7_1 j7_2 j7_3 j7_4) () krf))
   refine xs_roE [.ro [.id, .id, .id, .sl 2]] krf (g_r_fail_2_ok n (⟨j7_2,j7_3,j7_4,a0r.dg⟩:GPr)) krf krf kff kff (fun r33=>?_) (fun e34=>?_)
   ·exact xE (kqK (k:=fun _=>g_r_item_j17 n a0r r1 r3 r5 j7_1 j7_2 j7_3 j7_4) () krf)
   exact kq_p (iq_p [1000,1001,1002] [] krf (qh_p _ rfl (sq_p (iq_p [1000,1001,1002] [] krf (qh_p _ rfl (bq_p (sq_p (ru_p (bq_p (kq_p (iq_p [1000,1001,1002,1003] [] krf (sq_p (sq_p (hq_p [1000,1103] [] krf krf krf))))))))))))))
  refine sG (xR 4 krf (xS (eqI r16.Kind 0) (fun h30=>xN (want_ft krf h30) krf (xR 4 krf (xE (nqK true krf)))) (fun h30=>xO (want_ff krf h30) krf (xR 1 krf (xIn (hq22 [123]) [.agg [I r16.Kind,S r16.Text,I r16.N,I r16.At],pZ0] [(1000,1002)] [] [] krf Tryd.func85 rfl Tryd.ntmps85 rfl krf krf krf (sRK Tryd.fm (sq9 r16 [123]) krf (sBi (fun j31=>⟨[(3,B j31)],hq22 [123]⟩:Bool→St) (sG (xR 4 krf (xS (eqI r16.Kind 3) (fun h32=>xO (want_tt krf h32) krf (xR 5 krf (xE (nqK (eqS r16.Text [123]) krf)))) (fun h32=>xN (want_tf krf h32) krf (xR 5 krf (xE (nqK false krf))))))) ?_)))))))
  rintro j31
  exact sT (iq_ret (.id) [1000] [] (B j31) krf krf (kr0 (xR 2 krf (xE (nqK (!j31) krf)))))
 rintro _
 show SimE (g_r_item_j17 n a0r r1 r3 r5 j7_1 j7_2 j7_3 j7_4) _ _ _ _ _ _
 unfold g_r_item_j17
 refine sRK Tryd.fm ⟨[qq 4,qq 5],hq14 r16++hq37 j7_2 (wi (j7_3+1)) j7_4 a0r.dg [123]⟩ krf (sRK Tryd.fm ⟨[qq 4],hq15 r16++hq37 j7_2 (wi (j7_3+1)) j7_4 a0r.dg [123]⟩ krf (sT (iq_ret (.id) [1000,1001,1002] [] (.agg [I r16.Kind,S r16.Text,I r16.N,I r16.At]) krf krf (kh [] krf (lates_nil) krf (h_end (sNK ⟨[],hq36 j7_2 (wi (j7_3+1)) j7_4 a0r.dg⟩ krf (sRK Tryd.fm ⟨[(1,zS)],hq36 j7_2 (wi (j7_3+1)) j7_4 a0r.dg⟩ krf (sT (iq_ret (.sl 5) [1000,1001,1002] [] (.p (.sl 5 (mI []))) krf krf (kh [0,1] krf (lates_cons (late_read (.ptr 11 4) krf rfl) (lates_cons (late_tsl (S:=5) (t:=300) (ty:=25) (es:=mI ([]++j7_1)) krf krf rfl) (lates_nil))) krf (h_if [] rfl krf krf (aop_appL (e:=25) (S:=5) (by_:=64) (enc:=idc) (tk:=300) (l:=[]++j7_1) (l2:=[]) (xv:=.p (.sl 5 (mI []))) rfl krf krf rfl krf krf krf krf) (fun _=>lates_nil) (h_op [] krf krf (lates_nil) (h_op [] krf krf (lates_nil) (h_end (bq_n (sNK (sq17 1 r3 r5 r1 (([]++j7_1)++[]) j7_2 (wi (j7_3+1)) j7_4 a0r.dg) krf (sL Tryd.fm krf (ru_n ⟨[10,11,20,21,22],[10,11,300,1000,1001,1002,1003],[],[]⟩ (sq17 2 r3 r5 r1 (([]++j7_1)++[]) j7_2 (wi (j7_3+1)) j7_4 a0r.dg) krf (sRK Tryd.fm ⟨tq26 (.bsl 1003 3) 3 2 true,hq29 r3 r5 r1 (([]++j7_1)++[])++hq10 (([]++j7_1)++[])++hq27 j7_2 (wi (j7_3+1)) j7_4 a0r.dg⟩ krf (sS (sim_condT krf (sK (sNK (sq17 2 r3 r5 r1 (([]++j7_1)++[]) j7_2 (wi (j7_3+1)) j7_4 a0r.dg) krf (sBi (fun (j18_1,j18_2,j18_3,j18_4,j18_5)=>⟨tq25 (.bsl 1003 3) 3 2,hq29 r3 r5 r1 j18_1++hq6 j18_1++hq27 j18_2 j18_3 j18_4 j18_5⟩:ty0→St) ?_ ?_))))))))))))))))))))))))
 rotate_left
 ·rintro ⟨j18_1,j18_2,j18_3,j18_4,j18_5⟩
  exact sL Tryd.fm krf (ru_n ⟨[10,11,20,21,22],[10,11,300,1000,1001,1002,1003],[],[]⟩ ⟨tq25 (.bsl 1003 3) 3 3,hq29 r3 r5 r1 j18_1++hq6 j18_1++hq27 j18_2 j18_3 j18_4 j18_5⟩ krf (sRK Tryd.fm ⟨tq26 (.bsl 1003 3) 3 3 false,hq29 r3 r5 r1 j18_1++hq6 j18_1++hq27 j18_2 j18_3 j18_4 j18_5⟩ krf (sS (sim_condF krf (sim_exit (sq_x (ru_x (bq_hit (kqK (k:=fun (j6_1,j6_2,j6_3,j6_4,j6_5)=>g_r_item_j6 r1 r3 r5 j6_1 j6_2 j6_3 j6_4 j6_5) (j18_1,j18_2,j18_3,j18_4,j18_5) krf)))))))))
 refine sB (sRK Tryd.fm ⟨tq33 (.func 69) (.bsl 1003 3) 3 2,hq29 r3 r5 r1 (([]++j7_1)++[])++hq10 (([]++j7_1)++[])++hq27 j7_2 (wi (j7_3+1)) j7_4 a0r.dg⟩ krf (sim_hst [0,1,2] [0,1] [(3,[]),(4,[]),(5,[]),(6,[])] Tryd.fm rfl krf krf (h_enter (f:=69) (args:=[pZ0]) (dst:=some 29) krf krf (sc_inline (hc:=(hq30 j7_2 (wi (j7_3+1)) j7_4 a0r.dg)) (args':=[pZ0]) [(1000,1000),(1001,1001)] [] [] Tryd.func69 rfl Tryd.ntmps69 rfl krf krf krf (sRK Tryd.fm (sq11 j7_2 (wi (j7_3+1)) j7_4 a0r.dg) krf (sRK Tryd.fm ⟨tq34,hq31++hq30 j7_2 (wi (j7_3+1)) j7_4 a0r.dg⟩ krf (sim_cps (fun (j19_1,j19_2,j19_3,j19_4,j19_5)=>⟨[(3, .tsl 5 (mI j19_1) 32)],hq38 j19_1++hq30 j19_2 j19_3 j19_4 j19_5⟩:ty0→St) (fun (j19_1,j19_2,j19_3,j19_4,j19_5)=>g_r_item_j19 j7_1 j19_1 j19_2 j19_3 j19_4 j19_5) ?_ ?_)))))))
 ·rintro ⟨j19_1,j19_2,j19_3,j19_4,j19_5⟩
  show SimE (g_r_item_j19 j7_1 j19_1 j19_2 j19_3 j19_4 j19_5) _ _ _ _ _ _
  unfold g_r_item_j19
  exact sRK Tryd.fm (sq18 j19_1 j19_2 j19_3 j19_4 j19_5) krf (sT (iq_ret (.sl 5) [1000,1001] [] (.p (.sl 5 (mI j19_1))) krf krf (kh [0,1] krf (lates_cons (late_read (.ptr 11 4) krf rfl) (lates_cons (late_tsl (S:=5) (t:=300) (ty:=25) (es:=mI (([]++j7_1)++[])) krf krf rfl) (lates_nil))) krf (h_if [] rfl krf krf (aop_appL (e:=25) (S:=5) (by_:=64) (enc:=idc) (tk:=300) (l:=([]++j7_1)++[]) (l2:=j19_1) (xv:=.p (.sl 5 (mI j19_1))) rfl krf krf rfl krf krf krf krf) (fun _=>lates_nil) (h_op [] krf krf (lates_nil) (h_op [] krf krf (lates_nil) (h_end (bq_n (nqK ((([]++j7_1)++[])++j19_1,j19_2,j19_3,j19_4,j19_5) krf)))))))))
 refine sB (sPK ⟨tq34,hq31++hq30 j7_2 (wi (j7_3+1)) j7_4 a0r.dg⟩ krf (sim_weak (weak_pn 25 5 32 [3] [] krf) (sim_loop (fun (l20_1,l20_2,l20_3,l20_4,l20_5)=>⟨tq41 l20_1,hq39 l20_1++hq30 l20_2 l20_3 l20_4 l20_5⟩:ty0→St) (wsK krf) ?_)))
 rintro recl20 ⟨l20_1,l20_2,l20_3,l20_4,l20_5⟩
 show SimE (g_r_item_l20 n j7_1 recl20 l20_1 l20_2 l20_3 l20_4 l20_5) _ _ _ _ _ _
 unfold g_r_item_l20
 refine sS (sS (sG (xR 1 krf ?_)))
 refine xs_ro [.ro [.id, .id, .id, .sl 2]] krf (g_r_full_ok n (⟨l20_2,l20_3,l20_4,l20_5⟩:GPr)) krf krf kff (fun r21=>?_)
 refine xR 1 krf (xE (sNK ⟨[qq 1,(3, .tsl 5 (mI l20_1) 32),(9,B (!r21))],hq39 l20_1++hq30 l20_2 l20_3 l20_4 l20_5⟩ krf (sC (!r21) krf (sK (sNK ⟨tq41 l20_1,hq39 l20_1++hq30 l20_2 l20_3 l20_4 l20_5⟩ krf (sB (sS (sS (sim_hst [1] [1] [(0,[]),(2,[]),(3,[])] Tryd.fm rfl krf krf (h_enter (f:=67) (args:=[S [125]]) (dst:=some 10) krf krf (sc_inline (hc:=[]) (args':=[S [125]]) [(1,401)] [] [] Tryd.func67 rfl Tryd.ntmps67 rfl krf krf krf (sRK Tryd.fm ⟨[qq 1],hq20 [125]⟩ krf (sRK Tryd.fm (sq8 [125]) krf (sT (iq_ret (.id) [1] [] (.fn (.func 85) [] [.ptr 1 0]) krf krf (kh [1] krf (lates_cons (late_read pZ0 krf rfl) (lates_nil)) krf (h_enter (f:=82) (args:=[pZ0]) (dst:=some 12) krf krf ?_)))))))))))))) (sim_exit (sq_x (kq_x (bq_hit (kqK (k:=fun (j19_1,j19_2,j19_3,j19_4,j19_5)=>g_r_item_j19 j7_1 j19_1 j19_2 j19_3 j19_4 j19_5) (l20_1,l20_2,l20_3,l20_4,l20_5) krf))))))))
 refine sc_ro [.ro [.id, .id, .id, .sl 2]] (g_r_peek_2_ok n (⟨l20_2,l20_3,l20_4,l20_5⟩:GPr)) krf krf kff (fun r22=>?_)
 refine kh [] krf (lates_nil) krf (h_enter (f:=85) (args:=[.agg [I r22.Kind,S r22.Text,I r22.N,I r22.At], .ptr 401 0]) (dst:=some 13) krf krf (sc_inline (hc:=(hq22 [125])) (args':=[.agg [I r22.Kind,S r22.Text,I r22.N,I r22.At],pZ0]) [(1000,401)] [] [] Tryd.func85 rfl Tryd.ntmps85 rfl krf krf krf (sRK Tryd.fm (sq9 r22 [125]) krf (sBi (fun j23=>⟨[(3,B j23)],hq22 [125]⟩:Bool→St) (sG (xR 4 krf (xS (eqI r22.Kind 3) (fun h24=>xO (want_tt krf h24) krf (xR 5 krf (xE (nqK (eqS r22.Text [125]) krf)))) (fun h24=>xN (want_tf krf h24) krf (xR 5 krf (xE (nqK false krf))))))) ?_))))
 rintro j23
 refine sT (iq_ret (.id) [1000] [] (B j23) krf krf (kh [] krf (lates_nil) krf (h_end (sNK ⟨[qq 1,(3, .tsl 5 (mI l20_1) 32),(13,B j23)],hq39 l20_1++hq30 l20_2 l20_3 l20_4 l20_5⟩ krf (sC j23 krf (sRK Tryd.fm ⟨[(3, .tsl 5 (mI l20_1) 32)],hq38 l20_1++hq30 l20_2 (wi (l20_3+1)) l20_4 l20_5⟩ krf (sRK Tryd.fm (sq18 l20_1 l20_2 (wi (l20_3+1)) l20_4 l20_5) krf (sT (sq_r (bq_r (kq_r (bq_r (kq_r (iq_ret (.sl 5) [1000,1001] [] (.p (.sl 5 (mI l20_1))) krf krf (kh [0,1] krf (lates_cons (late_read (.ptr 11 4) krf rfl) (lates_cons (late_tsl (S:=5) (t:=300) (ty:=25) (es:=mI (([]++j7_1)++[])) krf krf rfl) (lates_nil))) krf (h_if [] rfl krf krf (aop_appL (e:=25) (S:=5) (by_:=64) (enc:=idc) (tk:=300) (l:=([]++j7_1)++[]) (l2:=l20_1) (xv:=.p (.sl 5 (mI l20_1))) rfl krf krf rfl krf krf krf krf) (fun _=>lates_nil) (h_op [] krf krf (lates_nil) (h_op [] krf krf (lates_nil) (h_end (bq_n (nqK ((([]++j7_1)++[])++l20_1,l20_2,wi (l20_3+1),l20_4,l20_5) krf)))))))))))))))) (sK (sNK ⟨tq41 l20_1,hq39 l20_1++hq30 l20_2 l20_3 l20_4 l20_5⟩ krf (sRK Tryd.fm ⟨tq42 l20_1,[(1, .box 53 [pZ0]),(4,(bq3 0 [] 0 0)),(32,amI25 l20_1)]++hq30 l20_2 l20_3 l20_4 l20_5⟩ krf (sBi (fun (j25_1,j25_2,j25_3,j25_4,j25_5,j25_6,j25_7,j25_8,j25_9,j25_10,j25_11)=>⟨[qq 1,(3, .tsl 5 (mI l20_1) 32),qq 4,(5,B j25_1),(6,S j25_2)],hq40 ⟨j25_7,j25_8,j25_9,j25_10,j25_11⟩ l20_1++hq30 j25_3 j25_4 j25_5 j25_6⟩:(Bool × (List UInt8) × (List GTk) × Int × Int × (List GDg) × Int × (List UInt8) × Int × Int × (List (List PV)))→St) ?_ ?_)))))))))
 rotate_left
 ·rintro ⟨j25_1,j25_2,j25_3,j25_4,j25_5,j25_6,j25_7,j25_8,j25_9,j25_10,j25_11⟩
  exact sRK Tryd.fm ⟨[qq 1,(3, .tsl 5 (mI l20_1) 32),qq 4,(6,S j25_2),(28,B j25_1)],hq40 ⟨j25_7,j25_8,j25_9,j25_10,j25_11⟩ l20_1++hq30 j25_3 j25_4 j25_5 j25_6⟩ krf (sC j25_1 krf (sG (xR 3 krf (xF krf krf (aop_app (e:=25) (S:=5) (by_:=64) (enc:=idc) (tk:=32) (l:=l20_1) (l2:=[GN.cs (⟨j25_7,j25_8,j25_9,j25_10,j25_11⟩:GN)]) (xv:=.tsl 5 (mI [GN.cs (⟨j25_7,j25_8,j25_9,j25_10,j25_11⟩:GN)]) 31) rfl krf krf rfl krf krf krf rfl krf) (xR 1 krf (xE (bq_n (kqK (l20_1++[GN.cs (⟨j25_7,j25_8,j25_9,j25_10,j25_11⟩:GN)],j25_3,j25_4,j25_5,j25_6) krf))))))) (sRK Tryd.fm ⟨[qq 1,(3, .tsl 5 (mI l20_1) 32),(34,B (!eqS j25_2 [59]))],hq39 l20_1++hq30 j25_3 j25_4 j25_5 j25_6⟩ krf (sC (!eqS j25_2 [59]) krf (sRK Tryd.fm (sq18 l20_1 j25_3 j25_4 j25_5 j25_6) krf (sT (bq_r (kq_r (bq_r (kq_r (iq_ret (.sl 5) [1000,1001] [] (.p (.sl 5 (mI l20_1))) krf krf (kh [0,1] krf (lates_cons (late_read (.ptr 11 4) krf rfl) (lates_cons (late_tsl (S:=5) (t:=300) (ty:=25) (es:=mI (([]++j7_1)++[])) krf krf rfl) (lates_nil))) krf (h_if [] rfl krf krf (aop_appL (e:=25) (S:=5) (by_:=64) (enc:=idc) (tk:=300) (l:=([]++j7_1)++[]) (l2:=l20_1) (xv:=.p (.sl 5 (mI l20_1))) rfl krf krf rfl krf krf krf krf) (fun _=>lates_nil) (h_op [] krf krf (lates_nil) (h_op [] krf krf (lates_nil) (h_end (bq_n (nqK ((([]++j7_1)++[])++l20_1,j25_3,j25_4,j25_5,j25_6) krf)))))))))))))) (sK (bq_n (kqK (l20_1,j25_3,j25_4,j25_5,j25_6) krf))))))
 refine sG (xR 2 krf (xs_enter (f:=44) (args:=[pZ0, .fn (.func 88) [] [.ptr 1 0, .ptr 4 0]]) krf krf krf ?_))
 refine sc_inlineD (hc:=(hq41 l20_2 l20_3 l20_4 l20_5)) (args':=[pZ0, .fn (.func 88) [] [pZ2,pZ3]]) [(1002,1),(1003,4),(1000,1000),(1001,1001)] [] [] (⟨_,_,_,_,_,_,[2,4,5],6,_,rfl,rfl,rfl,rfl,rfl,rfl,rfl,rfl,by decide⟩:Deferrer2 Tryd.f44 59) [(2,1900),(4,1901),(5,1902)] Tryd.func44 Tryd.ntmps44 krf krf krf krf krf Tryd.fm rfl krf krf ?_
 refine sPK ⟨tq43 (.func 88),hq41 l20_2 l20_3 l20_4 l20_5++hq42 false⟩ krf (sS (sG (xR 1 krf (xIn (hq41 l20_2 l20_3 l20_4 l20_5) [pZ2,pZ3] nq4 [] [] krf Tryd.func88 rfl Tryd.ntmps88 rfl krf krf krf (sG (xR 1 krf (xs_enter (f:=89) (args:=[pZ0]) krf krf krf ?_)))))))
 refine sc_hold 1000 3 1001 45 2 (mDg l20_5).length (mDg l20_5) ⟨[0,1,2],[1000,1002,1003],[],[]⟩ krf krf rfl (fun _ _ _=>by kernel_rfl) (fun hu26w hu26l hu26c=>?_)
 refine sc_heapE [(1000,1000)] [] [] (g_r_article_ok n (⟨l20_2,l20_3,l20_4,[]⟩:GPr) hu26w hu26l hu26c) krf krf krf kff kff kff kff (fun r26=>?_) (fun e27=>?_)
 ·refine k_hold _ rfl krf krf (kr0 (xR 1 krf (xE (iq_n (.id) [1000,1001,1002,1003] [] (.tup []) krf krf (kr0 (xE (sNK ⟨[(4, .ptr 1901 0),(5, .ptr 1902 0)],hq43 r26.2.tks r26.2.pos r26.2.length l20_5 r26.1++hq42 false⟩ krf (sRK Tryd.fm ⟨[(4, .ptr 1901 0),(5, .ptr 1902 0)],hq43 r26.2.tks r26.2.pos r26.2.length l20_5 r26.1++hq42 true⟩ krf (sT ?_)))))))))
  refine dI_end (⟨Tryd.f59,_,_,_,6,3,_,_,Tryd.func59,rfl,rfl,rfl,rfl,rfl,rfl,rfl,by decide,by decide⟩:Recoverer Tryd.prog 59) nq5 (hq30 r26.2.tks r26.2.pos r26.2.length l20_5++hq44 true) (.p (.val (.nilIface))) [pZ2,pZ3, .ptr 1004 0] [] rfl krf krf krf krf ?_
  exact sS (sRK Tryd.fm ⟨tq44,hq30 r26.2.tks r26.2.pos r26.2.length l20_5++hq44 true⟩ krf (sim_condT krf (sT (sq_r (cl_ret [1000,1001,1002,1003,1004] [] krf krf (iq_ret (.id) [1000,1001,1002,1003] [] (.tup [B true,S []]) krf krf (kr0 (xR 5 krf (xE (nqK (true,[],r26.2.tks,r26.2.pos,r26.2.length,l20_5,r26.1.Kind,r26.1.Name,r26.1.N,r26.1.At,r26.1.Kids) krf))))))))))
 refine q_hold _ rfl krf krf (iq_p [1000,1001,1002,1003] [] krf (sq_p ?_))
 refine dI_end (⟨Tryd.f59,_,_,_,6,3,_,_,Tryd.func59,rfl,rfl,rfl,rfl,rfl,rfl,rfl,by decide,by decide⟩:Recoverer Tryd.prog 59) nq5 (hq30 e27.2.tks e27.2.pos e27.2.length l20_5++hq44 false) (.ifc 87 (.agg [I e27.1])) [pZ2,pZ3, .ptr 1004 0] [] rfl krf krf krf krf ?_
 refine sS (sRK Tryd.fm ⟨tq45 e27.1,hq30 e27.2.tks e27.2.pos e27.2.length l20_5++hq44 false⟩ krf (sim_condF krf (sK (sNK ⟨tq46 e27.1,hq30 e27.2.tks e27.2.pos e27.2.length l20_5++hq44 false⟩ krf (sRK Tryd.fm ⟨tq47 e27.1,hq45 e27.1++hq30 e27.2.tks e27.2.pos e27.2.length l20_5++hq44 false⟩ krf (sS (sRK Tryd.fm ⟨tq48 e27.1,hq45 e27.1++hq30 e27.2.tks e27.2.pos e27.2.length l20_5++hq44 false⟩ krf (sim_condF krf (sK (sNK ⟨tq49,hq45 e27.1++hq30 e27.2.tks e27.2.pos e27.2.length l20_5++hq44 false⟩ krf (sS (sDr Tryd.fm rfl (xR 9 krf (xF krf krf (aop_app (e:=45) (S:=2) (by_:=16) (enc:=GDg.cs) (tk:=1001) (l:=l20_5) (l2:=[(⟨7,e27.1⟩:GDg)]) (xv:=.tsl 2 (mDg [(⟨7,e27.1⟩:GDg)]) 25) rfl krf krf rfl krf krf krf rfl krf) (xR 3 krf (xED krf (sNK ⟨tq50,hq30 e27.2.tks e27.2.pos e27.2.length (l20_5++[(⟨7,e27.1⟩:GDg)])++hq44 false⟩ krf (sG (xR 1 krf (xs_enter (f:=60) (args:=[pZ0]) krf krf krf ?_))))))))))))))))))))
 refine sc_hold 1000 3 1001 45 2 (mDg (l20_5++[(⟨7,e27.1⟩:GDg)])).length (mDg (l20_5++[(⟨7,e27.1⟩:GDg)])) ⟨[0,1,2,29],[1000,1002,1003,1004],[],[]⟩ krf krf rfl (fun _ _ _=>by kernel_rfl) (fun hu28w hu28l hu28c=>?_)
 refine sc_heap [(1000,1000)] [] [] (g_r_skip_ok n (⟨e27.2.tks,e27.2.pos,e27.2.length,[]⟩:GPr) hu28w hu28l hu28c) krf krf krf kff kff (fun r28=>?_)
 exact k_hold _ rfl krf krf (kr0 (xR 2 krf (xE (cl_n [1000,1001,1002,1003,1004] [] krf krf (iq_ret (.id) [1000,1001,1002,1003] [] (.tup [B false,S r28.1]) krf krf (kr0 (xR 5 krf (xE (nq_n (false,r28.1,r28.2.tks,r28.2.pos,r28.2.length,l20_5++[(⟨7,e27.1⟩:GDg)],0,[],0,0,[]) ⟨[1,3,4,5,6],[1,4,32,1000,1001],[],[(4,[.id, .id, .id, .id, .sl 5])]⟩ krf)))))))))
def g_p_count_l1 (a0n:GN) (a1limit:Int) (rf_parser_count:GN→Int→Option Int) (recl1:(Int × Int)→Option Int) (l1_1:Int) (l1_2:Int):Option Int :=
 cond (ltI l1_2 (lenI (List.map idc a0n.Kids)))
  ((Option.bind (getI a0n.Kids l1_2) GN.of).bind fun x2 =>
  cond (ltI a1limit l1_1)
   (some l1_1)
   ((rf_parser_count x2 (wi (a1limit - l1_1))).bind fun r3 =>
   recl1 (wi (l1_1+r3),wi (l1_2+1))))
  (some l1_1)
def g_p_count_body (n:Nat) (rf_parser_count:GN→Int→Option Int) (a0n:GN) (a1limit:Int):Option Int :=
 loopN (fun recl1 (l1_1,l1_2)=>g_p_count_l1 a0n a1limit rf_parser_count recl1 l1_1 l1_2) n (1,0)
def g_p_count:Nat→GN→Int→Option Int
 | 0,_,_=>none
 | n+1,a0n,a1limit=>g_p_count_body n (g_p_count n) a0n a1limit
def hq47:=fun x0=>([(2, .box 25 (bxc (GN.cs x0)))]:List (Nat × Blk))
def tq51:=fun x0 x1=>([(1,I x0),(2, .ptr 2 0),(5,I x1)]:List (Nat × AV))
def tq52:=fun x0 x1 x2 x3=>([(1,I x0),(5,I x1),(9, .p (.sl 5 (List.map idc (GN.Kids x2)))),(10,I (lenI (List.map idc (GN.Kids x2)))),(11,I x3)]:List (Nat × AV))
def tq53:=fun x0 x1 x2 x3=>([(1,I x0),(5,I x1),(7, .ptr 7 0),(9, .p (.sl 5 (List.map idc (GN.Kids x2)))),(10,I (lenI (List.map idc (GN.Kids x2)))),(11,I x3)]:List (Nat × AV))
def hq48:=fun x0=>([(7, .box 25 (bxc (GN.cs x0)))]:List (Nat × Blk))
theorem g_p_count_ok (n:Nat) (a0n:GN) (a1limit:Int):∀ r,g_p_count n a0n a1limit=some r→PCall Tryd.prog 25 [ag (GN.cs a0n),I a1limit] (.ret (I r)):=by
 induction n generalizing a0n a1limit with
 | zero=>intro r hr; cases (show (none:Option Int)=some r from hr)
 | succ n ih =>
 show ∀ r,g_p_count_body n (g_p_count n) a0n a1limit=some r→_
 generalize g_p_count n=rf_parser_count at ih ⊢
 refine pcall_sim Tryd.func25 rfl Tryd.ntmps25 rfl ?_
 unfold g_p_count_body
 refine sRK Tryd.fm ⟨[(1,I a1limit),qq 2],hq47 a0n⟩ krf (sRK Tryd.fm ⟨tq51 a1limit 1,hq47 a0n⟩ krf (sS (sRK Tryd.fm ⟨tq52 a1limit 1 a0n 0,[]⟩ krf (sB (sim_loop (fun (l1_1,l1_2)=>⟨tq52 a1limit l1_1 a0n l1_2,[]⟩:(Int × Int)→St) (wsK krf) ?_)))))
 rintro recl1 ⟨l1_1,l1_2⟩
 show SimE (g_p_count_l1 a0n a1limit rf_parser_count recl1 l1_1 l1_2) _ _ _ _ _ _
 unfold g_p_count_l1
 refine sRK Tryd.fm ⟨[(1,I a1limit),(5,I l1_1),(9, .p (.sl 5 (mI a0n.Kids))),(10,I (lenI (mI a0n.Kids))),(11,I l1_2),(12,B (ltI l1_2 (lenI (mI a0n.Kids))))],[]⟩ krf (sS (sC (ltI l1_2 (lenI (mI a0n.Kids))) krf (sK (sNK ⟨tq52 a1limit l1_1 a0n l1_2,[]⟩ krf (sS (sB (sS (sG (xG krf krf (aop_idxR (e:=25) (S:=5) (enc:=GN.cs) (dec:=GN.of) (l:=a0n.Kids) (k:=.i64) (n:=l1_2) (sv:=.p (.sl 5 (mI a0n.Kids))) GN.of_cs rfl krf krf krf krf krf) (fun x2=>xR 3 krf (xE (sNK ⟨tq53 a1limit l1_1 a0n l1_2,hq48 x2⟩ krf (sS (sRK Tryd.fm ⟨[(1,I a1limit),(5,I l1_1),qq 7,(9, .p (.sl 5 (mI a0n.Kids))),(10,I (lenI (mI a0n.Kids))),(11,I l1_2),(17,B (ltI a1limit l1_1))],hq48 x2⟩ krf (sC (ltI a1limit l1_1) krf (sRK Tryd.fm ⟨[(4,I l1_1)],[]⟩ krf (sT (sq_r (bq_r (sq_r (kq_r (bq_r (sq_r (qR (.id) krf krf krf))))))))) (sK (sNK ⟨tq53 a1limit l1_1 a0n l1_2,hq48 x2⟩ krf (sG (xR 5 krf ?_))))))))))))))))) (sim_exit (sq_x (kq_x (bq_hit (sNK ⟨[(5,I l1_1)],[]⟩ krf (sRK Tryd.fm ⟨[(4,I l1_1)],[]⟩ krf (sT (qR (.id) krf krf krf))))))))))
 refine xC [] krf (ih x2 (wi (a1limit - l1_1))) krf krf kff (fun r3=>?_)
 exact xR 2 krf (xE (bq_n (sNK ⟨tq52 a1limit (wi (l1_1+r3)) a0n l1_2,[]⟩ krf (sL Tryd.fm krf (kqK (wi (l1_1+r3),wi (l1_2+1)) krf)))))
def g_p_Parse_l4 (n:Nat) (recl4:ty0→Option ty0) (l4_1:List (List PV)) (l4_2:List GTk) (l4_3:Int) (l4_4:Int) (l4_5:List GDg):Option ty0 :=
 (cond (ltI l4_3 (lenI (List.map GTk.cs l4_2)))
  ((g_r_full n (⟨l4_2,l4_3,l4_4,l4_5⟩:GPr)).bind fun r7 =>
  some (!r7))
  (some false)).bind fun j5 =>
 cond j5
  (((g_r_item n (⟨l4_2,l4_3,l4_4,l4_5⟩:GPr)).bind (exc (fun r9 =>
   some (true,r9.2.tks,r9.2.pos,r9.2.length,r9.2.dg,r9.1.Kind,r9.1.Name,r9.1.N,r9.1.At,r9.1.Kids)) fun e10=>cond (roomB (List.length (e10.2.dg++[(⟨7,e10.1⟩:GDg)])) 16) (
   (g_r_skip n (⟨e10.2.tks,e10.2.pos,e10.2.length,[]⟩:GPr)).bind fun r11 =>
   some (false,r11.2.tks,r11.2.pos,r11.2.length,e10.2.dg++[(⟨7,e10.1⟩:GDg)],0,[],0,0,[])) none)).bind fun (j8_1,j8_2,j8_3,j8_4,j8_5,j8_6,j8_7,j8_8,j8_9,j8_10) =>
  cond j8_1
   (cond (roomB (List.length (l4_1++[GN.cs (⟨j8_6,j8_7,j8_8,j8_9,j8_10⟩:GN)])) 64) (
    recl4 (l4_1++[GN.cs (⟨j8_6,j8_7,j8_8,j8_9,j8_10⟩:GN)],j8_2,j8_3,j8_4,j8_5)) none)
   (recl4 (l4_1,j8_2,j8_3,j8_4,j8_5)))
  (some (l4_1,l4_2,l4_3,l4_4,l4_5))
def g_p_Parse (n:Nat) (a0z:List UInt8):Option (GN × (List GDg)) :=
 (g_x_Lex n a0z).bind fun r1 =>
 cond (!eqI r1.2.1 0)
  (some ((⟨0,[],0,0,[]⟩:GN),[(⟨r1.2.1,r1.2.2⟩:GDg)]))
  (((loopN (fun recl4 (l4_1,l4_2,l4_3,l4_4,l4_5)=>g_p_Parse_l4 n recl4 l4_1 l4_2 l4_3 l4_4 l4_5) n ([],r1.1,0,lenI a0z,[])).bind fun (j3_1,j3_2,j3_3,j3_4,j3_5) =>
  cond (roomB (List.length ([]++j3_1)) 64) (
   some ([]++j3_1,j3_2,j3_3,j3_4,j3_5)) none).bind fun (j2_1,j2_2,j2_3,j2_4,j2_5) =>
  cond (ltI 0 (lenI (List.map GDg.cs j2_5)))
   (some ((⟨0,[],0,0,[]⟩:GN),j2_5))
   ((g_p_count n (⟨1,[],0,0,j2_1⟩:GN) 1500).bind fun r12 =>
   cond (ltI 1500 r12)
    (some ((⟨0,[],0,0,[]⟩:GN),[(⟨2,0⟩:GDg)]))
    (some ((⟨1,[],0,0,j2_1⟩:GN),[]))))
def bq19:=fun x0 x1=>(.box 55 [.p (.sl 4 (List.map GTk.cs x0)),I 0,I (x1), .p (.val (.slice none 0 0))]:Blk)
def bq20:Blk:=.box 57 [.fn (.func 24) [.ptr 1000 0] []]
def hq49:=fun x0 x1=>([(1000,(bq19 x0 (x1))),(1001,bq20)]:List (Nat × Blk))
def bq21:=fun x0 x1 x2 x3=>(.box 55 [.p (.sl 4 (List.map GTk.cs x0)),I x1,I x2, .tsl 2 (List.map GDg.cs x3) 700]:Blk)
def hq50:=fun x0 x1 x2 x3=>([(1000,(bq21 x0 x1 x2 x3)),(1001,bq20)]:List (Nat × Blk))
def hq51:=fun x0 x1=>([(32, .arr 25 5 (List.map idc x0).length),(700,(bq11 x1))]:List (Nat × Blk))
def hq52:=fun x0 x1 x2 x3=>([(1000,(bq21 x0 x1 x2 x3))]:List (Nat × Blk))
def hq53:=fun x0 x1=>([(1, .box 53 [.ptr 1000 0]),(32, .arr 25 5 (List.map idc x0).length),(700,(bq11 x1))]:List (Nat × Blk))
def hq54:=fun x0 x1 x2=>([(1, .box 53 [.ptr 1000 0]),(4,(bq9 x0)),(32, .arr 25 5 (List.map idc x1).length),(700,(bq11 x2))]:List (Nat × Blk))
def bq22:=fun x0 x1 x2 x3=>(.box 55 [.p (.sl 4 (List.map GTk.cs x0)),I x1,I x2, .tsl 2 (List.map GDg.cs x3) 1000]:Blk)
def hq55:=fun x0 x1 x2 x3=>([(1000,(bq11 x0)),(1001,(bq22 x1 x2 x3 x0)),(1002, .box 53 [.ptr 1001 0]),(1003,(bq3 0 [] 0 0))]:List (Nat × Blk))
def hq56:=fun x0=>([(1900, .box 53 [.ptr 1001 0]),(1901, .box 4 [B x0]),(1902, .box 9 [S []])]:List (Nat × Blk))
def hq57:=fun x0 x1 x2 x3 x4=>([(1000,(bq11 x0)),(1001,(bq22 x1 x2 x3 x0)),(1002, .box 53 [.ptr 1001 0]),(1003, .box 25 (bxc (GN.cs x4)))]:List (Nat × Blk))
def hq58:=fun x0 x1 x2 x3=>([(1000,(bq11 x0)),(1001,(bq22 x1 x2 x3 x0))]:List (Nat × Blk))
def hq59:=fun x0=>([(1002, .box 53 [.ptr 1001 0]),(1003, .box 4 [B x0]),(1004, .box 9 [S []])]:List (Nat × Blk))
theorem g_p_Parse_ok (n:Nat) (a0z:List UInt8):∀ r,g_p_Parse n a0z=some r→PCall Tryd.prog 8 [S a0z] (.ret (.tup [ag (GN.cs r.1), .p (.sl 2 (mDg r.2))])):=by
 refine pcall_sim Tryd.func8 rfl Tryd.ntmps8 rfl ?_
 unfold g_p_Parse
 refine sRK Tryd.fm ⟨[(0,S a0z),qq 2],[(2,(bq3 0 [] 0 0))]⟩ krf (sS (sG (xR 1 krf ?_)))
 refine xC [] krf (g_x_Lex_ok n a0z) krf krf kff (fun r1=>?_)
 refine xR 7 krf (xE (sNK ⟨[(0,S a0z),qq 2,(4, .p (.sl 4 (mTk r1.1))),(5,I r1.2.1),(6,I r1.2.2)],[(2,(bq3 0 [] 0 0))]⟩ krf (sS (sRK Tryd.fm ⟨[(0,S a0z),qq 2,(4, .p (.sl 4 (mTk r1.1))),(5,I r1.2.1),(6,I r1.2.2),(16,B (!eqI r1.2.1 0))],[(2,(bq3 0 [] 0 0))]⟩ krf (sC (!eqI r1.2.1 0) krf (sRK Tryd.fm ⟨[qq 2,(3, .tsl 2 (mDg [(⟨r1.2.1,r1.2.2⟩:GDg)]) 21)],[(2,(bq3 0 [] 0 0)),(21,amDg45 [(⟨r1.2.1,r1.2.2⟩:GDg)])]⟩ krf (sT (sq_r (qR (.agg [.agg [.id, .id, .id, .id, .sl 5], .sl 2]) krf krf krf)))) (sK (sNK ⟨[(0,S a0z),qq 2,(4, .p (.sl 4 (mTk r1.1)))],[(2,(bq3 0 [] 0 0))]⟩ krf (sRK Tryd.fm ⟨[qq 2,(7, .ptr 26 0)],[(2,(bq3 0 [] 0 0)),(26,(bq19 r1.1 (lenI a0z)))]⟩ krf (sS (sG (xR 4 krf (xIn (hq49 r1.1 (lenI a0z)) [.agg [I 0,S [],I 0,I 0],I 1,S [],I 0, .bsl 1001 1] [(1000,26),(1001,30),(700,700)] [] [] krf Tryd.func23 rfl Tryd.ntmps23 rfl krf krf krf (sRK Tryd.fm ⟨tq38 1 [] (.bsl 1001 1),[(5, .box 43 [I 0,S [],I 0,I 0]),(10,(bq3 0 [] 0 0))]++hq49 r1.1 (lenI a0z)⟩ krf (sRK Tryd.fm ⟨tq24 (.bsl 1001 1),hq9 1 [] 0 0++hq49 r1.1 (lenI a0z)⟩ krf (sBi (fun (j2_1,j2_2,j2_3,j2_4,j2_5)=>⟨[qq 10,qq 11],hq35 1 [] 0 j2_1++hq6 j2_1++[(700,(bq11 j2_5))]++hq50 j2_2 j2_3 j2_4 j2_5⟩:ty0→St) ?_ ?_)))))))))))))))
 rotate_left
 ·rintro ⟨j2_1,j2_2,j2_3,j2_4,j2_5⟩
  refine sRK Tryd.fm ⟨[qq 10],[(10,(bq17 1 [] 0 j2_1))]++hq6 j2_1++[(700,(bq11 j2_5))]++hq50 j2_2 j2_3 j2_4 j2_5⟩ krf (sT (iq_ret (.agg [.id, .id, .id, .id, .sl 5]) [700,1000,1001] [] (.agg [I 1,S [],I 0,I 0, .p (.sl 5 (mI j2_1))]) krf krf (kr0 (xR 2 krf (xE (sNK ⟨[qq 2,(7, .ptr 26 0),qq 8],[(2,(bq3 0 [] 0 0)),(8,(bq9 ⟨1,[],0,0,j2_1⟩)),(26,(bq21 j2_2 j2_3 j2_4 j2_5)),(700,(bq11 j2_5))]⟩ krf (sS (sRK Tryd.fm ⟨[qq 2,(7, .ptr 26 0),qq 8,(37,B (ltI 0 (lenI (mDg j2_5))))],[(2,(bq3 0 [] 0 0)),(8,(bq9 ⟨1,[],0,0,j2_1⟩)),(26,(bq21 j2_2 j2_3 j2_4 j2_5)),(700,(bq11 j2_5))]⟩ krf (sC (ltI 0 (lenI (mDg j2_5))) krf (sRK Tryd.fm ⟨[qq 2,(3, .tsl 2 (mDg j2_5) 700)],[(2,(bq3 0 [] 0 0)),(700,(bq11 j2_5))]⟩ krf (sT (sq_r (qR (.agg [.agg [.id, .id, .id, .id, .sl 5], .sl 2]) krf krf krf)))) (sK (sNK ⟨[qq 2,qq 8],[(2,(bq3 0 [] 0 0)),(8,(bq9 ⟨1,[],0,0,j2_1⟩))]⟩ krf (sS (sS (sG (xR 1 krf ?_)))))))))))))))
  refine xC [] krf (g_p_count_ok n (⟨1,[],0,0,j2_1⟩:GN) 1500) krf krf kff (fun r12=>?_)
  exact xR 1 krf (xE (sNK ⟨[qq 2,qq 8,(45,B (ltI 1500 r12))],[(2,(bq3 0 [] 0 0)),(8,(bq9 ⟨1,[],0,0,j2_1⟩))]⟩ krf (sC (ltI 1500 r12) krf (sRK Tryd.fm ⟨[qq 2,(3, .tsl 2 (mDg [(⟨2,0⟩:GDg)]) 48)],[(2,(bq3 0 [] 0 0)),(48,amDg45 [(⟨2,0⟩:GDg)])]⟩ krf (sT (sq_r (qR (.agg [.agg [.id, .id, .id, .id, .sl 5], .sl 2]) krf krf krf)))) (sK (sNK ⟨[qq 2,qq 8],[(2,(bq3 0 [] 0 0)),(8,(bq9 ⟨1,[],0,0,j2_1⟩))]⟩ krf (sRK Tryd.fm ⟨[qq 2,(3,zS)],[(2,(bq9 ⟨1,[],0,0,j2_1⟩))]⟩ krf (sT (qR (.agg [.id, .sl 2]) krf krf krf))))))))
 refine sRK Tryd.fm ⟨tq25 (.bsl 1001 1) 1 0,hq9 1 [] 0 0++hq49 r1.1 (lenI a0z)⟩ krf (sB (sim_unroll 1 (sRK Tryd.fm ⟨tq26 (.bsl 1001 1) 1 0 true,hq9 1 [] 0 0++hq49 r1.1 (lenI a0z)⟩ krf (sS (sim_condT krf (sK (sNK ⟨tq25 (.bsl 1001 1) 1 0,hq9 1 [] 0 0++hq49 r1.1 (lenI a0z)⟩ krf (sS (sB (sRK Tryd.fm ⟨tq33 (.func 24) (.bsl 1001 1) 1 0,hq9 1 [] 0 0++hq49 r1.1 (lenI a0z)⟩ krf (sPK ⟨tq33 (.func 24) (.bsl 1001 1) 1 0,hq9 1 [] 0 0++hq49 r1.1 (lenI a0z)⟩ krf (sim_weak (weak_pn 25 5 300 [] [(11,4)] krf) (sim_hst [0,1,2] [0,1] [(3,[]),(4,[]),(5,[]),(6,[])] Tryd.fm rfl krf krf (h_enter (f:=24) (args:=[pZ0]) (dst:=some 29) krf krf (sc_inline (hc:=[(1000,(bq19 r1.1 (lenI a0z)))]) (args':=[pZ0]) [(1000,1000),(700,700)] [] [] Tryd.func24 rfl Tryd.ntmps24 rfl krf krf krf (sRK Tryd.fm ⟨[qq 1],hq31++[(1000,(bq19 r1.1 (lenI a0z)))]⟩ krf (sRK Tryd.fm ⟨tq34,hq31++[(1000,(bq19 r1.1 (lenI a0z)))]⟩ krf (sBi (fun (j3_1,j3_2,j3_3,j3_4,j3_5)=>⟨[(3, .tsl 5 (mI j3_1) 32)],hq51 j3_1 j3_5++hq52 j3_2 j3_3 j3_4 j3_5⟩:ty0→St) ?_ ?_))))))))))))))))))
 rotate_left
 ·rintro ⟨j3_1,j3_2,j3_3,j3_4,j3_5⟩
  exact sRK Tryd.fm ⟨[(2, .tsl 5 (mI j3_1) 32)],hq51 j3_1 j3_5++hq52 j3_2 j3_3 j3_4 j3_5⟩ krf (sT (iq_ret (.sl 5) [700,1000] [] (.p (.sl 5 (mI j3_1))) krf krf (kh [0,1] krf (lates_cons (late_read (.ptr 11 4) krf rfl) (lates_cons (late_tsl (S:=5) (t:=300) (ty:=25) (es:=mI []) krf krf rfl) (lates_nil))) krf (h_if [] rfl krf krf (aop_appL (e:=25) (S:=5) (by_:=64) (enc:=idc) (tk:=300) (l:=[]) (l2:=j3_1) (xv:=.p (.sl 5 (mI j3_1))) rfl krf krf rfl krf krf krf krf) (fun _=>lates_nil) (h_op [] krf krf (lates_nil) (h_op [] krf krf (lates_nil) (h_end (bq_n (sNK ⟨tq25 (.bsl 1001 1) 1 0,hq35 1 [] 0 ([]++j3_1)++hq10 ([]++j3_1)++[(700,(bq11 j3_5))]++hq50 j3_2 j3_3 j3_4 j3_5⟩ krf (sL Tryd.fm krf (ru_n ⟨[10,11,20,21,22],[10,11,300,700,1000,1001],[],[]⟩ ⟨tq25 (.bsl 1001 1) 1 1,hq35 1 [] 0 ([]++j3_1)++hq10 ([]++j3_1)++[(700,(bq11 j3_5))]++hq50 j3_2 j3_3 j3_4 j3_5⟩ krf (sRK Tryd.fm ⟨tq26 (.bsl 1001 1) 1 1 false,hq35 1 [] 0 ([]++j3_1)++hq10 ([]++j3_1)++[(700,(bq11 j3_5))]++hq50 j3_2 j3_3 j3_4 j3_5⟩ krf (sS (sim_condF krf (sim_exit (sq_x (ru_x (bq_hit (nqK ([]++j3_1,j3_2,j3_3,j3_4,j3_5) krf)))))))))))))))))))
 refine sB (sPK ⟨tq34,hq31++[(1000,(bq19 r1.1 (lenI a0z)))]⟩ krf (sim_weak (Weak.trans (weak_pn 25 5 32 [3] [] krf) (weak_pn 45 2 700 [] [(1000,3)] krf)) (sim_loop (fun (l4_1,l4_2,l4_3,l4_4,l4_5)=>⟨tq41 l4_1,hq53 l4_1 l4_5++hq52 l4_2 l4_3 l4_4 l4_5⟩:ty0→St) (wsK krf) ?_)))
 rintro recl4 ⟨l4_1,l4_2,l4_3,l4_4,l4_5⟩
 show SimE (g_p_Parse_l4 n recl4 l4_1 l4_2 l4_3 l4_4 l4_5) _ _ _ _ _ _
 unfold g_p_Parse_l4
 refine sS (sBi (fun j5=>⟨[qq 1,(3, .tsl 5 (mI l4_1) 32),(21,B j5)],hq53 l4_1 l4_5++hq52 l4_2 l4_3 l4_4 l4_5⟩:Bool→St) ?_ ?_)
 ·refine sDr Tryd.fm rfl (xR 11 krf (xS (ltI l4_3 (lenI (mTk l4_2))) (fun h6=>?_) (fun h6=>?_)))
  ·refine xO (want_tt krf h6) krf (xs_seqL rfl krf krf ?_)
   refine xs_ro [.ro [.id, .id, .id, .sl 2]] krf (g_r_full_ok n (⟨l4_2,l4_3,l4_4,l4_5⟩:GPr)) krf krf kff (fun r7=>?_)
   exact xR 2 krf (xE (nqK (!r7) krf))
  exact xN (want_tf krf h6) krf (xR 3 krf (xED krf (nqK false krf)))
 rintro j5
 refine sC j5 krf (sK (sNK ⟨tq41 l4_1,hq53 l4_1 l4_5++hq52 l4_2 l4_3 l4_4 l4_5⟩ krf (sB (sRK Tryd.fm ⟨tq42 l4_1,[(1, .box 53 [pZ0]),(4,(bq3 0 [] 0 0)),(32,amI25 l4_1),(700,(bq11 l4_5))]++hq52 l4_2 l4_3 l4_4 l4_5⟩ krf (sBi (fun (j8_1,j8_2,j8_3,j8_4,j8_5,j8_6,j8_7,j8_8,j8_9,j8_10)=>⟨[qq 1,(3, .tsl 5 (mI l4_1) 32),qq 4,(5,B j8_1)],hq54 ⟨j8_6,j8_7,j8_8,j8_9,j8_10⟩ l4_1 j8_5++hq52 j8_2 j8_3 j8_4 j8_5⟩:(Bool × (List GTk) × Int × Int × (List GDg) × Int × (List UInt8) × Int × Int × (List (List PV)))→St) ?_ ?_))))) (sim_exit (sq_x (kq_x (bq_hit (nqK (l4_1,l4_2,l4_3,l4_4,l4_5) krf)))))
 rotate_left
 ·rintro ⟨j8_1,j8_2,j8_3,j8_4,j8_5,j8_6,j8_7,j8_8,j8_9,j8_10⟩
  exact sRK Tryd.fm ⟨[qq 1,(3, .tsl 5 (mI l4_1) 32),qq 4,(28,B j8_1)],hq54 ⟨j8_6,j8_7,j8_8,j8_9,j8_10⟩ l4_1 j8_5++hq52 j8_2 j8_3 j8_4 j8_5⟩ krf (sC j8_1 krf (sG (xR 3 krf (xF krf krf (aop_app (e:=25) (S:=5) (by_:=64) (enc:=idc) (tk:=32) (l:=l4_1) (l2:=[GN.cs (⟨j8_6,j8_7,j8_8,j8_9,j8_10⟩:GN)]) (xv:=.tsl 5 (mI [GN.cs (⟨j8_6,j8_7,j8_8,j8_9,j8_10⟩:GN)]) 31) rfl krf krf rfl krf krf krf rfl krf) (xR 1 krf (xE (bq_n (kqK (l4_1++[GN.cs (⟨j8_6,j8_7,j8_8,j8_9,j8_10⟩:GN)],j8_2,j8_3,j8_4,j8_5) krf))))))) (sK (bq_n (kqK (l4_1,j8_2,j8_3,j8_4,j8_5) krf))))
 refine sG (xR 2 krf (xs_enter (f:=44) (args:=[pZ0, .fn (.func 45) [] [.ptr 1 0, .ptr 4 0]]) krf krf krf ?_))
 refine sc_inlineD (hc:=(hq55 l4_5 l4_2 l4_3 l4_4)) (args':=[pZ1, .fn (.func 45) [] [pZ2,pZ3]]) [(1002,1),(1003,4),(1000,700),(1001,1000)] [] [] (⟨_,_,_,_,_,_,[2,4,5],6,_,rfl,rfl,rfl,rfl,rfl,rfl,rfl,rfl,by decide⟩:Deferrer2 Tryd.f44 59) [(2,1900),(4,1901),(5,1902)] Tryd.func44 Tryd.ntmps44 krf krf krf krf krf Tryd.fm rfl krf krf ?_
 refine sPK ⟨tq43 (.func 45),hq55 l4_5 l4_2 l4_3 l4_4++hq56 false⟩ krf (sS (sG (xR 1 krf (xIn (hq55 l4_5 l4_2 l4_3 l4_4) [pZ2,pZ3] nq4 [] [] krf Tryd.func45 rfl Tryd.ntmps45 rfl krf krf krf (sG (xR 1 krf ?_))))))
 refine xs_heapE [(1000,1001),(1103,1000)] [] [] krf (g_r_item_ok n (⟨l4_2,l4_3,l4_4,l4_5⟩:GPr)) krf krf krf kff kff kff kff (fun r9=>?_) (fun e10=>?_)
 ·refine xR 1 krf (xE (iq_n (.id) [1000,1001,1002,1003] [] (.tup []) krf krf (kr0 (xE (sNK ⟨[(4, .ptr 1901 0),(5, .ptr 1902 0)],hq57 r9.2.dg r9.2.tks r9.2.pos r9.2.length r9.1++hq56 false⟩ krf (sRK Tryd.fm ⟨[(4, .ptr 1901 0),(5, .ptr 1902 0)],hq57 r9.2.dg r9.2.tks r9.2.pos r9.2.length r9.1++hq56 true⟩ krf (sT ?_)))))))
  refine dI_end (⟨Tryd.f59,_,_,_,6,3,_,_,Tryd.func59,rfl,rfl,rfl,rfl,rfl,rfl,rfl,by decide,by decide⟩:Recoverer Tryd.prog 59) nq5 (hq58 r9.2.dg r9.2.tks r9.2.pos r9.2.length++hq59 true) (.p (.val (.nilIface))) [pZ2,pZ3, .ptr 1004 0] [] rfl krf krf krf krf ?_
  exact sS (sRK Tryd.fm ⟨tq44,hq58 r9.2.dg r9.2.tks r9.2.pos r9.2.length++hq59 true⟩ krf (sim_condT krf (sT (sq_r (cl_ret [1000,1001,1002,1003,1004] [] krf krf (iq_ret (.id) [1000,1001,1002,1003] [] (.tup [B true,S []]) krf krf (kr0 (xR 5 krf (xE (nqK (true,r9.2.tks,r9.2.pos,r9.2.length,r9.2.dg,r9.1.Kind,r9.1.Name,r9.1.N,r9.1.At,r9.1.Kids) krf))))))))))
 refine iq_p [1000,1001,1002,1003] [] krf (sq_p ?_)
 refine dI_end (⟨Tryd.f59,_,_,_,6,3,_,_,Tryd.func59,rfl,rfl,rfl,rfl,rfl,rfl,rfl,by decide,by decide⟩:Recoverer Tryd.prog 59) nq5 (hq58 e10.2.dg e10.2.tks e10.2.pos e10.2.length++hq59 false) (.ifc 87 (.agg [I e10.1])) [pZ2,pZ3, .ptr 1004 0] [] rfl krf krf krf krf ?_
 refine sS (sRK Tryd.fm ⟨tq45 e10.1,hq58 e10.2.dg e10.2.tks e10.2.pos e10.2.length++hq59 false⟩ krf (sim_condF krf (sK (sNK ⟨tq46 e10.1,hq58 e10.2.dg e10.2.tks e10.2.pos e10.2.length++hq59 false⟩ krf (sRK Tryd.fm ⟨tq47 e10.1,hq45 e10.1++hq58 e10.2.dg e10.2.tks e10.2.pos e10.2.length++hq59 false⟩ krf (sS (sRK Tryd.fm ⟨tq48 e10.1,hq45 e10.1++hq58 e10.2.dg e10.2.tks e10.2.pos e10.2.length++hq59 false⟩ krf (sim_condF krf (sK (sNK ⟨tq49,hq45 e10.1++hq58 e10.2.dg e10.2.tks e10.2.pos e10.2.length++hq59 false⟩ krf (sS (sDr Tryd.fm rfl (xR 9 krf (xF krf krf (aop_app (e:=45) (S:=2) (by_:=16) (enc:=GDg.cs) (tk:=1000) (l:=e10.2.dg) (l2:=[(⟨7,e10.1⟩:GDg)]) (xv:=.tsl 2 (mDg [(⟨7,e10.1⟩:GDg)]) 25) rfl krf krf rfl krf krf krf rfl krf) (xR 3 krf (xED krf (sNK ⟨tq50,hq58 (e10.2.dg++[(⟨7,e10.1⟩:GDg)]) e10.2.tks e10.2.pos e10.2.length++hq59 false⟩ krf (sG (xR 1 krf (xs_enter (f:=60) (args:=[pZ1]) krf krf krf ?_))))))))))))))))))))
 refine sc_hold 1001 3 1000 45 2 (mDg (e10.2.dg++[(⟨7,e10.1⟩:GDg)])).length (mDg (e10.2.dg++[(⟨7,e10.1⟩:GDg)])) ⟨[0,1,2,29],[1001,1002,1003,1004],[],[]⟩ krf krf rfl (fun _ _ _=>by kernel_rfl) (fun hu11w hu11l hu11c=>?_)
 refine sc_heap [(1000,1001)] [] [] (g_r_skip_ok n (⟨e10.2.tks,e10.2.pos,e10.2.length,[]⟩:GPr) hu11w hu11l hu11c) krf krf krf kff kff (fun r11=>?_)
 exact k_hold _ rfl krf krf (kr0 (xR 2 krf (xE (cl_n [1000,1001,1002,1003,1004] [] krf krf (iq_ret (.id) [1000,1001,1002,1003] [] (.tup [B false,S r11.1]) krf krf (kr0 (xR 5 krf (xE (nq_n (false,r11.2.tks,r11.2.pos,r11.2.length,e10.2.dg++[(⟨7,e10.1⟩:GDg)],0,[],0,0,[]) ⟨[1,3,4,5],[1,4,32,700,1000],[],[(4,[.id, .id, .id, .id, .sl 5])]⟩ krf)))))))))
def g_p_tooDeep_j2 (l1_2:Int) (recl1:((List (List (List PV))) × Int)→Option Bool) (j2:List (List (List PV))):Option Bool :=
 cond (eqI (lenI (List.map eN_ j2)) 0)
  (some false)
  (recl1 (j2,wi (l1_2+1)))
def g_p_tooDeep_j9 (l5_1:List (List (List PV))) (l5_2:Int) (recl5:((List (List (List PV))) × Int)→Option Bool) (x6:GN) (j9:Bool):Option Bool :=
 cond j9
  (cond (wfK 900 x6.Kids) (
   cond (roomB (List.length (l5_1++[x6.Kids])) 24) (
    recl5 (l5_1++[x6.Kids],wi (l5_2+1))) none) none)
  (recl5 (l5_1,wi (l5_2+1)))
def g_p_tooDeep_l5 (l3_2:Int) (recl3:((List (List (List PV))) × Int)→Option Bool) (x4:List (List PV)) (recl5:((List (List (List PV))) × Int)→Option Bool) (l5_1:List (List (List PV))) (l5_2:Int):Option Bool :=
 cond (ltI l5_2 (lenI (List.map idc x4)))
  ((Option.bind (getI x4 l5_2) GN.of).bind fun x6 =>
  cond (eqI (lenI (List.map idc x6.Kids)) 0)
   (recl5 (l5_1,wi (l5_2+1)))
   ((getI x6.Kids 0).bind fun x8 =>
   cond (ltI 0 (lenI (List.map idc x6.Kids)))
    (cond (wfK 900 x6.Kids) (anyO
     (g_p_tooDeep_j9 l5_1 l5_2 recl5 x6 true)
     (g_p_tooDeep_j9 l5_1 l5_2 recl5 x6 false)) none)
    (g_p_tooDeep_j9 l5_1 l5_2 recl5 x6 false)))
  (recl3 (l5_1,wi (l3_2+1)))
def g_p_tooDeep_l3 (n:Nat) (l1_1:List (List (List PV))) (l1_2:Int) (recl1:((List (List (List PV))) × Int)→Option Bool) (recl3:((List (List (List PV))) × Int)→Option Bool) (l3_1:List (List (List PV))) (l3_2:Int):Option Bool :=
 cond (ltI l3_2 (lenI (List.map eN_ l1_1)))
  ((getI l1_1 l3_2).bind fun x4 =>
  loopN (fun recl5 (l5_1,l5_2)=>g_p_tooDeep_l5 l3_2 recl3 x4 recl5 l5_1 l5_2) n (l3_1,0))
  (g_p_tooDeep_j2 l1_2 recl1 l3_1)
def g_p_tooDeep_l1 (n:Nat) (recl1:((List (List (List PV))) × Int)→Option Bool) (l1_1:List (List (List PV))) (l1_2:Int):Option Bool :=
 cond (leI l1_2 1000)
  (loopN (fun recl3 (l3_1,l3_2)=>g_p_tooDeep_l3 n l1_1 l1_2 recl1 recl3 l3_1 l3_2) n ([],0))
  (some true)
def g_p_tooDeep (n:Nat) (a0n:GN):Option Bool :=
 loopN (fun recl1 (l1_1,l1_2)=>g_p_tooDeep_l1 n recl1 l1_1 l1_2) n ([a0n.Kids],0)
def hq60:=fun x0=>([(1, .box 25 (bxc (GN.cs x0)))]:List (Nat × Blk))
def hq61:=fun x0=>([(14, .arr 23 1 (List.map eN_ [(GN.Kids x0)]).length)]:List (Nat × Blk))
def tq54:=fun x0 x1=>([(3, .tsl 1 (List.map eN_ x0) 14),(4,I x1)]:List (Nat × AV))
def bq23:=fun x0=>(.arr 23 1 (List.map eN_ x0).length:Blk)
def tq55:=fun x0 x1=>([(4,I x0),(6, .tsl 1 (List.map eN_ x1) 50)]:List (Nat × AV))
def tq56:=fun x0 x1=>([(3, .tsl 1 (List.map eN_ x0) 50),(4,I x1)]:List (Nat × AV))
def tq57:=fun x0 x1=>([(4,I x0),(5, .mv 19),(6, .p (.val (.slice none 0 0))),(20, .tsl 1 (List.map eN_ x1) 14),(21,I (lenI (List.map eN_ x1))),(22,I 0)]:List (Nat × AV))
def tq58:=fun x0 x1 x2 x3=>([(4,I x0),(5, .mv 19),(6, .tsl 1 (List.map eN_ x1) 50),(20, .tsl 1 (List.map eN_ x2) 14),(21,I (lenI (List.map eN_ x2))),(22,I x3)]:List (Nat × AV))
def hq62:=fun x0 x1 x2=>([(14,(bq23 x0)),(19,x1),(50,(bq23 x2))]:List (Nat × Blk))
def tq59:=fun x0 x1 x2 x3 x4 x5=>([(4,I x0),(5, .mv 19),(6, .tsl 1 (List.map eN_ x1) 50),(20, .tsl 1 (List.map eN_ x2) 14),(21,I (lenI (List.map eN_ x2))),(22,I x3),(26, .p (.sl 5 (List.map idc x4))),(27,I (lenI (List.map idc x4))),(28,I x5)]:List (Nat × AV))
def sq20:=fun x0 x1 x2 x3 x4 x5 x6=>(⟨tq59 x0 x1 x2 x3 x4 x5,hq62 x2 x6 x1⟩:St)
def tq60:=fun x0 x1 x2 x3 x4 x5=>([(4,I x0),(5, .mv 19),(6, .tsl 1 (List.map eN_ x1) 50),(10, .ptr 10 0),(20, .tsl 1 (List.map eN_ x2) 14),(21,I (lenI (List.map eN_ x2))),(22,I x3),(26, .p (.sl 5 (List.map idc x4))),(27,I (lenI (List.map idc x4))),(28,I x5)]:List (Nat × AV))
def hq63:=fun x0 x1 x2 x3=>([(10, .box 25 (bxc (GN.cs x0))),(14,(bq23 x1)),(19,x2),(50,(bq23 x3))]:List (Nat × Blk))
def tq61:=fun x0=>([(0, .p (.sl 5 (List.map idc (GN.Kids x0)))),(2, .ptr 2 0)]:List (Nat × AV))
def bq24:Blk:=.box 64 [.p (.val (.pointer none)),I 0]
def tq62:=fun x0 x1=>([(0, .p (.sl 5 (List.map idc (GN.Kids x0)))),(2, .ptr 2 0),(5,B x1)]:List (Nat × AV))
def tq63:=fun x0 x1 x2 x3 x4 x5=>([(4,I x0),(5, .mv 19),(6, .tsl 1 (List.map eN_ x1) 50),(10, .ptr 10 0),(11, .ptr 11 0),(20, .tsl 1 (List.map eN_ x2) 14),(21,I (lenI (List.map eN_ x2))),(22,I x3),(26, .p (.sl 5 (List.map idc x4))),(27,I (lenI (List.map idc x4))),(28,I x5)]:List (Nat × AV))
def hq64:=fun x0 x1 x2 x3=>([(10, .box 25 (bxc (GN.cs x0))),(11,bq24),(14,(bq23 x1)),(19,x2),(50,(bq23 x3))]:List (Nat × Blk))
def tq64:=fun x0 x1 x2 x3 x4 x5 x6=>([(4,I x0),(5, .mv 19),(6, .tsl 1 (List.map eN_ x1) 50),(10, .ptr 10 0),(11, .ptr 11 0),(20, .tsl 1 (List.map eN_ x2) 14),(21,I (lenI (List.map eN_ x2))),(22,I x3),(26, .p (.sl 5 (List.map idc x4))),(27,I (lenI (List.map idc x4))),(28,I x5),(43,B x6)]:List (Nat × AV))
def bq25:=fun x0 x1=>(.box 64 [.p x0,I (lenI (List.map idc (GN.Kids x1)))]:Blk)
def hq65:=fun x0 x1 x2 x3 x4=>([(10, .box 25 (bxc (GN.cs x0))),(11,(bq25 x1 x0)),(14,(bq23 x2)),(19,x3),(50,(bq23 x4))]:List (Nat × Blk))
theorem g_p_tooDeep_ok (n:Nat) (a0n:GN):∀ r,g_p_tooDeep n a0n=some r→PCall Tryd.prog 28 [ag (GN.cs a0n)] (.ret (B r)):=by
 refine pcall_sim Tryd.func28 rfl Tryd.ntmps28 rfl ?_
 unfold g_p_tooDeep
 refine sRK Tryd.fm ⟨[qq 1],hq60 a0n⟩ krf (sRK Tryd.fm ⟨[(3, .tsl 1 (List.map eN_ [a0n.Kids]) 14)],hq61 a0n⟩ krf (sS (sRK Tryd.fm ⟨[(3, .tsl 1 (List.map eN_ [a0n.Kids]) 14),(4,I 0)],hq61 a0n⟩ krf (sB (sim_loop (fun (l1_1,l1_2)=>⟨tq54 l1_1 l1_2,[(14,(bq23 l1_1))]⟩:((List (List (List PV))) × Int)→St) (wsK krf) ?_)))))
 rintro recl1 ⟨l1_1,l1_2⟩
 show SimE (g_p_tooDeep_l1 n recl1 l1_1 l1_2) _ _ _ _ _ _
 unfold g_p_tooDeep_l1
 refine sS (sRK Tryd.fm ⟨[(3, .tsl 1 (List.map eN_ l1_1) 14),(4,I l1_2),(16,B (leI l1_2 1000))],[(14,(bq23 l1_1))]⟩ krf (sC (leI l1_2 1000) krf (sK (sNK ⟨tq54 l1_1 l1_2,[(14,(bq23 l1_1))]⟩ krf (sS (sB (sS (sG (xs_mkM (S:=5) (G:=gSeen) (d:=19) krf rfl krf krf (xR 1 krf (xE (sNK ⟨[(3, .tsl 1 (List.map eN_ l1_1) 14),(4,I l1_2),(5, .mv 19)],[(14,(bq23 l1_1)),(19, .mm 5 gSeen)]⟩ krf (sRK Tryd.fm ⟨[(3, .tsl 1 (List.map eN_ l1_1) 14),(4,I l1_2),(5, .mv 19),(6,zS)],[(14,(bq23 l1_1)),(19, .mm 5 gSeen)]⟩ krf (sim_cps (fun j2=>⟨tq55 l1_2 j2,[(50,(bq23 j2))]⟩:(List (List (List PV)))→St) (fun j2=>g_p_tooDeep_j2 l1_2 recl1 j2) ?_ ?_)))))))))))) (sim_exit (sq_x (kq_x (bq_hit (sNK ⟨[],[]⟩ krf (sRK Tryd.fm ⟨[(2,B true)],[]⟩ krf (sT (qR (.id) krf krf krf))))))))))
 ·rintro j2
  show SimE (g_p_tooDeep_j2 l1_2 recl1 j2) _ _ _ _ _ _
  unfold g_p_tooDeep_j2
  exact sS (sRK Tryd.fm ⟨[(4,I l1_2),(6, .tsl 1 (List.map eN_ j2) 50),(55,B (eqI (lenI (List.map eN_ j2)) 0))],[(50,(bq23 j2))]⟩ krf (sC (eqI (lenI (List.map eN_ j2)) 0) krf (sRK Tryd.fm ⟨[(2,B false)],[]⟩ krf (sT (sq_r (bq_r (sq_r (kq_r (bq_r (sq_r (qR (.id) krf krf krf))))))))) (sK (sNK ⟨tq55 l1_2 j2,[(50,(bq23 j2))]⟩ krf (sL Tryd.fm krf (bq_n (sNK ⟨tq56 j2 l1_2,[(50,(bq23 j2))]⟩ krf (sL Tryd.fm krf (kq_f  (j2,wi (l1_2+1)) ⟨[3,4],[50],[],[]⟩ ⟨tq56 j2 (wi (l1_2+1)),[(50,(bq23 j2))]⟩ krf (weak_ren 50 14 krf) ⟨[3,4],[14],[],[]⟩ krf)))))))))
 refine sRK Tryd.fm ⟨tq57 l1_2 l1_1,[(14,(bq23 l1_1)),(19, .mm 5 gSeen)]⟩ krf (sB (sPK ⟨tq57 l1_2 l1_1,[(14,(bq23 l1_1)),(19, .mm 5 gSeen)]⟩ krf (sim_weak (weak_pn 23 1 50 [6] [] krf) (sim_loop (fun (l3_1,l3_2)=>⟨tq58 l1_2 l3_1 l1_1 l3_2,hq62 l1_1 (.mm 5 gSeen) l3_1⟩:((List (List (List PV))) × Int)→St) (wsK krf) ?_))))
 rintro recl3 ⟨l3_1,l3_2⟩
 show SimE (g_p_tooDeep_l3 n l1_1 l1_2 recl1 recl3 l3_1 l3_2) _ _ _ _ _ _
 unfold g_p_tooDeep_l3
 refine sRK Tryd.fm ⟨[(4,I l1_2),(5, .mv 19),(6, .tsl 1 (List.map eN_ l3_1) 50),(20, .tsl 1 (List.map eN_ l1_1) 14),(21,I (lenI (List.map eN_ l1_1))),(22,I l3_2),(23,B (ltI l3_2 (lenI (List.map eN_ l1_1))))],hq62 l1_1 (.mm 5 gSeen) l3_1⟩ krf (sS (sC (ltI l3_2 (lenI (List.map eN_ l1_1))) krf (sK (sNK ⟨tq58 l1_2 l3_1 l1_1 l3_2,hq62 l1_1 (.mm 5 gSeen) l3_1⟩ krf (sS (sB (sS (sG (xG krf krf (aop_idx (e:=23) (S:=1) (enc:=eN_) (l:=l1_1) (k:=.i64) (n:=l3_2) (sv:=.tsl 1 (List.map eN_ l1_1) 14) rfl krf krf krf krf krf) (fun x4=>xR 2 krf (xE (sNK ⟨[(4,I l1_2),(5, .mv 19),(6, .tsl 1 (List.map eN_ l3_1) 50),(8, .p (.sl 5 (mI x4))),(20, .tsl 1 (List.map eN_ l1_1) 14),(21,I (lenI (List.map eN_ l1_1))),(22,I l3_2)],hq62 l1_1 (.mm 5 gSeen) l3_1⟩ krf (sRK Tryd.fm (sq20 l1_2 l3_1 l1_1 l3_2 x4 0 (.mm 5 gSeen)) krf (sB (sim_loop (fun (l5_1,l5_2)=>(sq20 l1_2 l5_1 l1_1 l3_2 x4 l5_2 (.mm 5 gSeen)):((List (List (List PV))) × Int)→St) (wsK krf) ?_))))))))))))) (sim_exit (sq_x (kq_x (bq_hit (kqK (k:=fun j2=>g_p_tooDeep_j2 l1_2 recl1 j2) l3_1 krf)))))))
 rintro recl5 ⟨l5_1,l5_2⟩
 show SimE (g_p_tooDeep_l5 l3_2 recl3 x4 recl5 l5_1 l5_2) _ _ _ _ _ _
 unfold g_p_tooDeep_l5
 refine sRK Tryd.fm ⟨[(4,I l1_2),(5, .mv 19),(6, .tsl 1 (List.map eN_ l5_1) 50),(20, .tsl 1 (List.map eN_ l1_1) 14),(21,I (lenI (List.map eN_ l1_1))),(22,I l3_2),(26, .p (.sl 5 (mI x4))),(27,I (lenI (mI x4))),(28,I l5_2),(29,B (ltI l5_2 (lenI (mI x4))))],hq62 l1_1 (.mm 5 gSeen) l5_1⟩ krf (sS (sC (ltI l5_2 (lenI (mI x4))) krf (sK (sNK (sq20 l1_2 l5_1 l1_1 l3_2 x4 l5_2 (.mm 5 gSeen)) krf (sS (sB (sS (sG (xG krf krf (aop_idxR (e:=25) (S:=5) (enc:=GN.cs) (dec:=GN.of) (l:=x4) (k:=.i64) (n:=l5_2) (sv:=.p (.sl 5 (mI x4))) GN.of_cs rfl krf krf krf krf krf) (fun x6=>xR 3 krf (xE (sNK ⟨tq60 l1_2 l5_1 l1_1 l3_2 x4 l5_2,hq63 x6 l1_1 (.mm 5 gSeen) l5_1⟩ krf (sS (sG (xR 2 krf (xIn [] [.p (.sl 5 (mI x6.Kids))] [] [] [] krf Tryd.func30 rfl Tryd.ntmps30 rfl krf krf krf (sRK Tryd.fm ⟨tq61 x6,[(2,bq24)]⟩ krf (sS (sRK Tryd.fm ⟨tq62 x6 (eqI (lenI (mI x6.Kids)) 0),[(2,bq24)]⟩ krf (sC (eqI (lenI (mI x6.Kids)) 0) krf (sRK Tryd.fm ⟨[qq 2],[(2,bq24)]⟩ krf (sT (sq_r (iq_ret (.id) [] [] (.agg [.p (.val (.pointer none)),I 0]) krf krf (kr0 (xR 2 krf (xE (sNK ⟨tq63 l1_2 l5_1 l1_1 l3_2 x4 l5_2,hq64 x6 l1_1 (.mm 5 gSeen) l5_1⟩ krf (sRK Tryd.fm ⟨tq64 l1_2 l5_1 l1_1 l3_2 x4 l5_2 false,hq64 x6 l1_1 (.mm 5 gSeen) l5_1⟩ krf (sim_condF krf (sK (bq_n (sNK (sq20 l1_2 l5_1 l1_1 l3_2 x4 l5_2 (.mm 5 gSeen)) krf (sL Tryd.fm krf (kqK (l5_1,wi (l5_2+1)) krf))))))))))))))) (sK (sNK ⟨tq61 x6,[(2,bq24)]⟩ krf (sS (sG (xR 1 krf (xs_ad (enc:=idc) (l0:=x6.Kids) (S:=5) (e:=25) (ki:=.i64) (sv:=.p (.sl 5 (mI x6.Kids))) krf rfl krf rfl krf krf krf krf krf (fun x8=>xR 4 krf (xE (sNK ⟨[qq 2],[(2,(bq25 (.ad 5 (mI x6.Kids)) x6))]⟩ krf (sT (iq_ret (.id) [] [] (.agg [.p (.ad 5 (mI x6.Kids)),I (lenI (mI x6.Kids))]) krf krf (kr0 (xR 2 krf (xE (sNK ⟨tq63 l1_2 l5_1 l1_1 l3_2 x4 l5_2,hq65 x6 (.ad 5 (mI x6.Kids)) l1_1 (.mm 5 gSeen) l5_1⟩ krf (sim_cps (fun j9=>⟨tq64 l1_2 l5_1 l1_1 l3_2 x4 l5_2 j9,hq65 x6 (.ad 5 (mI x6.Kids)) l1_1 (.mm 5 gSeen) l5_1⟩:Bool→St) (fun j9=>g_p_tooDeep_j9 l5_1 l5_2 recl5 x6 j9) ?_ ?_)))))))))))))))))))))))))))))))))) (sim_exit (sq_x (kq_x (bq_hit (bq_n (sNK ⟨tq58 l1_2 l5_1 l1_1 l3_2,hq62 l1_1 (.mm 5 gSeen) l5_1⟩ krf (sL Tryd.fm krf (kqK (l5_1,wi (l3_2+1)) krf))))))))))
 rotate_left
 ·refine sG (xR 4 krf (xS (ltI 0 (lenI (mI x6.Kids))) (fun h11=>?_) (fun h11=>?_)))
  ·refine xO (want_tt krf h11) krf (xR 1 krf (xS (wfK 900 x6.Kids) (fun hw12=>xs_lookM (t:=83) (kt:=64) (e:=4) (b:=19) (S:=5) (G:=gSeen) (es:=mI x6.Kids) (n:=lenI (mI x6.Kids)) krf rfl krf Tryd.underlying83 krf krf rfl krf krf krf rfl (fun _ _ h=>h.1) (wfK_cn hw12) (xs_anyL (xR 2 krf (xE (kqK (k:=fun j9=>g_p_tooDeep_j9 l5_1 l5_2 recl5 x6 j9) true krf)))) (fun v hv=>?_)) (fun _=>xs_none)))
   obtain rfl:=hv.2
   exact xs_anyR (xR 2 krf (xE (kqK (k:=fun j9=>g_p_tooDeep_j9 l5_1 l5_2 recl5 x6 j9) false krf)))
  exact xN (want_tf krf h11) krf (xR 4 krf (xE (kqK (k:=fun j9=>g_p_tooDeep_j9 l5_1 l5_2 recl5 x6 j9) false krf)))
 rintro j9
 show SimE (g_p_tooDeep_j9 l5_1 l5_2 recl5 x6 j9) _ _ _ _ _ _
 unfold g_p_tooDeep_j9
 exact sC j9 krf (sS (sG (xR 2 krf (xS (wfK 900 x6.Kids) (fun hw10=>xs_setM (t:=83) (kt:=64) (e:=4) (b:=19) (S:=5) (G:=gSeen) (es:=mI x6.Kids) (n:=lenI (mI x6.Kids)) (v:=VB true) krf rfl krf Tryd.underlying83 krf krf krf rfl krf krf krf (fun _ _ h=>h.1) ⟨wfK_cn hw10,rfl⟩ (xE (sNK ⟨tq60 l1_2 l5_1 l1_1 l3_2 x4 l5_2,hq63 x6 l1_1 (.mm 5 gSeen) l5_1⟩ krf (sG (xR 4 krf (xF krf krf (aop_app (e:=23) (S:=1) (by_:=24) (enc:=eN_) (tk:=50) (l:=l5_1) (l2:=[x6.Kids]) (xv:=.tsl 1 (List.map eN_ [x6.Kids]) 49) rfl krf krf rfl krf krf krf rfl krf) (xR 1 krf (xE (bq_n (sNK (sq20 l1_2 (l5_1++[x6.Kids]) l1_1 l3_2 x4 l5_2 (.mm 5 gSeen)) krf (sL Tryd.fm krf (kqK (l5_1++[x6.Kids],wi (l5_2+1)) krf)))))))))))) (fun _=>xs_none))))) (sK (bq_n (sNK (sq20 l1_2 l5_1 l1_1 l3_2 x4 l5_2 (.mm 5 gSeen)) krf (sL Tryd.fm krf (kqK (l5_1,wi (l5_2+1)) krf)))))
def hc0_parser_Strip_1:List (Nat × Blk):=[(1000, .box 61 [.mv 1001]),(1001, .mm 5 gDone),(1002, .box 32 [.fn (.func 29) [] [.ptr 1000 0, .ptr 1002 0]])]
def kp_parser_Strip_1:List Nat:=[1000,1001,1002]
def g_p_Strip_1_l4 (a0n:GN) (rf_parser_Strip_1:GN→Option GN) (recl4:((List (List PV)) × Int)→Option GN) (l4_1:List (List PV)) (l4_2:Int):Option GN :=
 cond (ltI l4_2 (lenI (List.map idc a0n.Kids)))
  ((Option.bind (getI a0n.Kids l4_2) GN.of).bind fun x5 =>
  (rf_parser_Strip_1 x5).bind fun r6 =>
  cond (roomB (List.length (l4_1++[GN.cs r6])) 64) (
   recl4 (l4_1++[GN.cs r6],wi (l4_2+1))) none)
  (cond (wfK 900 a0n.Kids) (
   cond (isSt 900 a0n.Kids l4_1) (
    some (⟨a0n.Kind,a0n.Name,a0n.N,0,l4_1⟩:GN)) none) none)
def g_p_Strip_1_j3 (n:Nat) (a0n:GN) (rf_parser_Strip_1:GN→Option GN) (j3_1:List (List PV)) (j3_2:Bool):Option GN :=
 cond (!j3_2)
  (cond (makeB 0 (lenI (List.map idc a0n.Kids)) 64) (
   loopN (fun recl4 (l4_1,l4_2)=>g_p_Strip_1_l4 a0n rf_parser_Strip_1 recl4 l4_1 l4_2) n ([],0)) none)
  (some (⟨a0n.Kind,a0n.Name,a0n.N,0,j3_1⟩:GN))
def g_p_Strip_1_body (n:Nat) (rf_parser_Strip_1:GN→Option GN) (a0n:GN):Option GN :=
 cond (eqI (lenI (List.map idc a0n.Kids)) 0)
  (some (⟨a0n.Kind,a0n.Name,a0n.N,0,[]⟩:GN))
  ((getI a0n.Kids 0).bind fun x2 =>
  cond (eqI (lenI (List.map idc a0n.Kids)) 0)
   (some (⟨a0n.Kind,a0n.Name,a0n.N,0,[]⟩:GN))
   (cond (wfK 900 a0n.Kids) (
    g_p_Strip_1_j3 n a0n rf_parser_Strip_1 [] false) none))
def g_p_Strip_1:Nat→GN→Option GN
 | 0,_=>none
 | n+1,a0n=>g_p_Strip_1_body n (g_p_Strip_1 n) a0n
def hp_parser_Strip_1:List (Nat × Blk):=hc0_parser_Strip_1
theorem strip_hit {n:Nat} {a0n:GN} {rf:GN→Option GN} {js:List (List PV)} {r:GN} (h:isSt 900 (List.map idc a0n.Kids) js=true) (hr:g_p_Strip_1_j3 n a0n rf [] false=some r):g_p_Strip_1_j3 n a0n rf js true=some r:=by
 rw [map_idc] at h
 have key:∀ (m:Nat) (v:List (List PV) × Int),loopN (fun recl4 (l4_1,l4_2)=>g_p_Strip_1_l4 a0n rf recl4 l4_1 l4_2) m v=some r→∃ js',isSt 900 a0n.Kids js'=true∧r=⟨a0n.Kind,a0n.Name,a0n.N,0,js'⟩:=by
  intro m
  induction m with
  | zero=>intro v h; cases h
  | succ m ih =>
   rintro ⟨a,b⟩ h
   have h:g_p_Strip_1_l4 a0n rf (loopN (fun recl4 (l4_1,l4_2)=>g_p_Strip_1_l4 a0n rf recl4 l4_1 l4_2) m) a b=some r:=h
   generalize loopN (fun recl4 (l4_1,l4_2)=>g_p_Strip_1_l4 a0n rf recl4 l4_1 l4_2) m=L at ih h
   unfold g_p_Strip_1_l4 at h
   cases hc:ltI b (lenI (List.map idc a0n.Kids)) with
   | true =>
    rw [hc,zCT] at h
    obtain ⟨x,_,h⟩:=zBS.1 h
    obtain ⟨y,_,h⟩:=zBS.1 h
    cases hd:roomB (List.length (a++[GN.cs y])) 64 with
    | true=>rw [hd,zCT] at h; exact ih _ h
    | false=>rw [hd,zCF] at h; cases h
   | false =>
    rw [hc,zCF] at h
    cases hd:wfK 900 a0n.Kids with
    | false=>rw [hd,zCF] at h; cases h
    | true =>
     rw [hd,zCT] at h
     cases he:isSt 900 a0n.Kids a with
     | false=>rw [he,zCF] at h; cases h
     | true =>
      rw [he,zCT] at h
      exact ⟨a,he,(Option.some.inj h).symm⟩
 have hr2:(cond (makeB 0 (lenI (List.map idc a0n.Kids)) 64) (loopN (fun recl4 (l4_1,l4_2)=>g_p_Strip_1_l4 a0n rf recl4 l4_1 l4_2) n ([],0)) none)=some r:=hr
 cases hm:makeB 0 (lenI (List.map idc a0n.Kids)) 64 with
 | false=>rw [hm,zCF] at hr2; cases hr2
 | true =>
  rw [hm,zCT] at hr2
  obtain ⟨js',g1,rfl⟩:=key _ _ hr2
  rw [isSt_uniq 900 _ _ _ h g1]
  rfl
def tq65:List (Nat × AV):=[(1, .ptr 1000 0),(2, .ptr 1002 0),(3, .ptr 3 0),(4, .ptr 4 0)]
def hq66:=fun x0=>([(3,(bq9 x0)),(4,(bq3 0 [] 0 0))]:List (Nat × Blk))
def tq66:List (Nat × AV):=[(1, .ptr 1000 0),(2, .ptr 1002 0),(3, .ptr 3 0),(4, .ptr 4 0),(5, .ptr 5 0)]
def tq67:=fun x0=>([(1, .ptr 1000 0),(2, .ptr 1002 0),(3, .ptr 3 0),(4, .ptr 4 0),(5, .ptr 5 0),(16,B x0)]:List (Nat × AV))
def bq26:=fun x0=>(.box 25 [I (GN.Kind x0),S (GN.Name x0),I (GN.N x0),I 0, .p (.val (.slice none 0 0))]:Blk)
def sq21:=fun x0=>(⟨[(3, .ptr 3 0),(4, .ptr 4 0)],[(3,(bq26 x0)),(4,(bq3 0 [] 0 0))]++hc0_parser_Strip_1⟩:St)
def sq22:=fun x0=>(⟨[(4, .ptr 4 0)],[(4,(bq26 x0))]++hc0_parser_Strip_1⟩:St)
def hq67:=fun x0 x1 x2=>([(3,(bq9 x0)),(4,(bq3 0 [] 0 0)),(5,(bq25 x1 x2))]:List (Nat × Blk))
def tq68:=fun x0=>([(3, .ptr 3 0),(4, .ptr 4 0),(6, .p (.sl 5 (List.map idc x0)))]:List (Nat × AV))
def sq24:=fun x0=>(⟨[(3, .ptr 3 0),(4, .ptr 4 0)],hq66 x0++hc0_parser_Strip_1⟩:St)
def sq25:=fun x0=>(⟨[(4, .ptr 4 0)],[(4,(bq9 x0))]++hc0_parser_Strip_1⟩:St)
def sq23:=fun x0 x1 x2 x3 x4=>(⟨[(1, .ptr 1000 0),(2, .ptr 1002 0),(3, .ptr 3 0),(4, .ptr 4 0),(5, .ptr 5 0),(6, .vsl 5 30 (List.map idc x0).length),(32, .p (.sl 5 (List.map idc (GN.Kids x1)))),(33,I (lenI (List.map idc (GN.Kids x1)))),(34,I x2)],[(3,(bq9 x3)),(4,(bq3 0 [] 0 0)),(5,(bq25 x4 x1)),(30, .vec 25 5 (List.map idc x0))]++hc0_parser_Strip_1⟩:St)
abbrev bGN25 (x:GN):Go.Abs.Blk:=.box 25 (bxc (GN.cs x))
theorem g_p_Strip_1_ok (n:Nat) (a0n:GN):∀ r,g_p_Strip_1 n a0n=some r→ACall Tryd.prog 29 [ag (GN.cs a0n),pZ0,pZ2] (Go.Abs.look (hp_parser_Strip_1)) (heapR (fun r:GN=>((.ret (ag (GN.cs r)),hp_parser_Strip_1):AEnd × List (Nat × Blk))) r):=by
 induction n generalizing a0n with
 | zero=>intro r hr; cases (show (none:Option GN)=some r from hr)
 | succ n ih =>
 show ∀ r,g_p_Strip_1_body n (g_p_Strip_1 n) a0n=some r→_
 generalize g_p_Strip_1 n=rf_parser_Strip_1 at ih ⊢
 refine acall_sim (hp_parser_Strip_1) Tryd.func29 rfl Tryd.ntmps29 rfl ?_
 unfold g_p_Strip_1_body
 refine sRK Tryd.fm ⟨tq65,[(3,bGN25 a0n),(4,(bq3 0 [] 0 0))]++hc0_parser_Strip_1⟩ krf (sRK Tryd.fm ⟨tq65,hq66 ⟨a0n.Kind,a0n.Name,a0n.N,0,a0n.Kids⟩++hc0_parser_Strip_1⟩ krf (sS (sG (xR 2 krf (xIn [] [.p (.sl 5 (mI a0n.Kids))] [] [] [] krf Tryd.func30 rfl Tryd.ntmps30 rfl krf krf krf (sRK Tryd.fm ⟨tq61 a0n,[(2,bq24)]⟩ krf (sS (sRK Tryd.fm ⟨tq62 a0n (eqI (lenI (mI a0n.Kids)) 0),[(2,bq24)]⟩ krf (sC (eqI (lenI (mI a0n.Kids)) 0) krf (sRK Tryd.fm ⟨[qq 2],[(2,bq24)]⟩ krf (sT (sq_r (iq_ret (.id) [] [] (.agg [.p (.val (.pointer none)),I 0]) krf krf (kr0 (xR 2 krf (xE (sNK ⟨tq66,[(3,(bq9 ⟨a0n.Kind,a0n.Name,a0n.N,0,a0n.Kids⟩)),(4,(bq3 0 [] 0 0)),(5,bq24)]++hc0_parser_Strip_1⟩ krf (sS (sRK Tryd.fm ⟨tq67 true,[(3,(bq9 ⟨a0n.Kind,a0n.Name,a0n.N,0,a0n.Kids⟩)),(4,(bq3 0 [] 0 0)),(5,bq24)]++hc0_parser_Strip_1⟩ krf (sim_condT krf (sRK Tryd.fm (sq21 a0n) krf (sRK Tryd.fm (sq22 a0n) krf (sT (sq_r (hq_ret (.agg [.id, .id, .id, .id, .sl 5]) kp_parser_Strip_1 [] krf krf krf krf)))))))))))))))) (sK (sNK ⟨tq61 a0n,[(2,bq24)]⟩ krf (sS (sG (xR 1 krf (xs_ad (enc:=idc) (l0:=a0n.Kids) (S:=5) (e:=25) (ki:=.i64) (sv:=.p (.sl 5 (mI a0n.Kids))) krf rfl krf rfl krf krf krf krf krf (fun x2=>xR 4 krf (xE (sNK ⟨[qq 2],[(2,(bq25 (.ad 5 (mI a0n.Kids)) a0n))]⟩ krf (sT (iq_ret (.id) [] [] (.agg [.p (.ad 5 (mI a0n.Kids)),I (lenI (mI a0n.Kids))]) krf krf (kr0 (xR 2 krf (xE (sNK ⟨tq66,hq67 ⟨a0n.Kind,a0n.Name,a0n.N,0,a0n.Kids⟩ (.ad 5 (mI a0n.Kids)) a0n++hc0_parser_Strip_1⟩ krf (sS (sRK Tryd.fm ⟨tq67 (eqI (lenI (mI a0n.Kids)) 0),hq67 ⟨a0n.Kind,a0n.Name,a0n.N,0,a0n.Kids⟩ (.ad 5 (mI a0n.Kids)) a0n++hc0_parser_Strip_1⟩ krf (sC (eqI (lenI (mI a0n.Kids)) 0) krf (sRK Tryd.fm (sq21 a0n) krf (sRK Tryd.fm (sq22 a0n) krf (sT (sq_r (hq_ret (.agg [.id, .id, .id, .id, .sl 5]) kp_parser_Strip_1 [] krf krf krf krf))))) ?_)))))))))))))))))))))))))))
 refine sK (sNK ⟨tq66,hq67 ⟨a0n.Kind,a0n.Name,a0n.N,0,a0n.Kids⟩ (.ad 5 (mI a0n.Kids)) a0n++hc0_parser_Strip_1⟩ krf (sim_cps (fun (j3_1,j3_2)=>⟨[(1,pZ0),(2,pZ2),qq 3,qq 4,qq 5,(6, .p (.sl 5 (mI j3_1))),(7,B j3_2)],hq67 ⟨a0n.Kind,a0n.Name,a0n.N,0,a0n.Kids⟩ (.ad 5 (mI a0n.Kids)) a0n++hc0_parser_Strip_1⟩:((List (List PV)) × Bool)→St) (fun (j3_1,j3_2)=>g_p_Strip_1_j3 n a0n rf_parser_Strip_1 j3_1 j3_2) ?_ ?_))
 rotate_left
 ·refine sG (xR 2 krf (xS (wfK 900 a0n.Kids) (fun hw10=>xs_lookM (t:=61) (kt:=64) (e:=23) (b:=1001) (S:=5) (G:=gDone) (es:=mI a0n.Kids) (n:=lenI (mI a0n.Kids)) krf rfl krf Tryd.underlying61 krf krf rfl krf krf krf rfl (fun _ _ h=>h.1) (wfK_cn hw10) (xR 5 krf (xE (kq_n (k:=fun (j3_1,j3_2)=>g_p_Strip_1_j3 n a0n rf_parser_Strip_1 j3_1 j3_2) ([],false) ⟨[1,2,3,4,5,6,7],[3,4,5,1000,1001,1002],[(6, .sl 5)],[]⟩ krf))) (fun v hv=>?_)) (fun _=>xs_none)))
  obtain ⟨_,js9,hjs,rfl⟩:=hv
  exact simR_imp (b:=(g_p_Strip_1_j3 n a0n rf_parser_Strip_1 js9 true)) (fun r hr=>strip_hit hjs hr) (xR 5 krf (xE (kqK (k:=fun (j3_1,j3_2)=>g_p_Strip_1_j3 n a0n rf_parser_Strip_1 j3_1 j3_2) (js9,true) krf)))
 rintro ⟨j3_1,j3_2⟩
 show SimE (g_p_Strip_1_j3 n a0n rf_parser_Strip_1 j3_1 j3_2) _ _ _ _ _ _
 unfold g_p_Strip_1_j3
 refine sS (sRK Tryd.fm ⟨[(1,pZ0),(2,pZ2),qq 3,qq 4,qq 5,(6, .p (.sl 5 (mI j3_1))),(26,B (!j3_2))],hq67 ⟨a0n.Kind,a0n.Name,a0n.N,0,a0n.Kids⟩ (.ad 5 (mI a0n.Kids)) a0n++hc0_parser_Strip_1⟩ krf (sC (!j3_2) krf (sS (sG (xR 3 krf (xF krf krf (aop_make (e:=25) (S:=5) (by_:=64) (d:=30) (enc:=idc) (z0:=[VI 0,VS [],VI 0,VI 0, .val (.slice none 0 0)]) (k:=.i64) (k':=.i64) (l:=0) (c:=lenI (mI a0n.Kids)) rfl rfl krf krf rfl krf krf krf krf) (xR 1 krf (xE (sNK ⟨[(1,pZ0),(2,pZ2),qq 3,qq 4,qq 5,(6, .vsl 5 30 (mI []).length)],[(3,(bq9 ⟨a0n.Kind,a0n.Name,a0n.N,0,a0n.Kids⟩)),(4,(bq3 0 [] 0 0)),(5,(bq25 (.ad 5 (mI a0n.Kids)) a0n)),(30, .vec 25 5 (mI []))]++hc0_parser_Strip_1⟩ krf (sS (sRK Tryd.fm ⟨[(1,pZ0),(2,pZ2),qq 3,qq 4,qq 5,(6, .vsl 5 30 (mI []).length),(32, .p (.sl 5 (mI a0n.Kids))),(33,I (lenI (mI a0n.Kids))),(34,I 0)],[(3,(bq9 ⟨a0n.Kind,a0n.Name,a0n.N,0,a0n.Kids⟩)),(4,(bq3 0 [] 0 0)),(5,(bq25 (.ad 5 (mI a0n.Kids)) a0n)),(30, .vec 25 5 (mI []))]++hc0_parser_Strip_1⟩ krf (sB (sim_loop (fun (l4_1,l4_2)=>(sq23 l4_1 a0n l4_2 ⟨a0n.Kind,a0n.Name,a0n.N,0,a0n.Kids⟩ (.ad 5 (mI a0n.Kids))):((List (List PV)) × Int)→St) (wsK krf) ?_))))))))))) (sK (sNK ⟨tq68 j3_1,hq66 ⟨a0n.Kind,a0n.Name,a0n.N,0,a0n.Kids⟩++hc0_parser_Strip_1⟩ krf (sRK Tryd.fm (sq24 ⟨a0n.Kind,a0n.Name,a0n.N,0,j3_1⟩) krf (sRK Tryd.fm (sq25 ⟨a0n.Kind,a0n.Name,a0n.N,0,j3_1⟩) krf (sT (hq_ret (.id) kp_parser_Strip_1 [] krf krf krf krf))))))))
 rintro recl4 ⟨l4_1,l4_2⟩
 show SimE (g_p_Strip_1_l4 a0n rf_parser_Strip_1 recl4 l4_1 l4_2) _ _ _ _ _ _
 unfold g_p_Strip_1_l4
 refine sRK Tryd.fm ⟨[(1,pZ0),(2,pZ2),qq 3,qq 4,qq 5,(6, .vsl 5 30 (mI l4_1).length),(32, .p (.sl 5 (mI a0n.Kids))),(33,I (lenI (mI a0n.Kids))),(34,I l4_2),(35,B (ltI l4_2 (lenI (mI a0n.Kids))))],[(3,(bq9 ⟨a0n.Kind,a0n.Name,a0n.N,0,a0n.Kids⟩)),(4,(bq3 0 [] 0 0)),(5,(bq25 (.ad 5 (mI a0n.Kids)) a0n)),(30, .vec 25 5 (mI l4_1))]++hc0_parser_Strip_1⟩ krf (sS (sC (ltI l4_2 (lenI (mI a0n.Kids))) krf (sK (sNK (sq23 l4_1 a0n l4_2 ⟨a0n.Kind,a0n.Name,a0n.N,0,a0n.Kids⟩ (.ad 5 (mI a0n.Kids))) krf (sS (sB (sS (sG (xG krf krf (aop_idxR (e:=25) (S:=5) (enc:=GN.cs) (dec:=GN.of) (l:=a0n.Kids) (k:=.i64) (n:=l4_2) (sv:=.p (.sl 5 (mI a0n.Kids))) GN.of_cs rfl krf krf krf krf krf) (fun x5=>xR 3 krf (xE (sNK ⟨[(1,pZ0),(2,pZ2),qq 3,qq 4,qq 5,(6, .vsl 5 30 (mI l4_1).length),qq 9,(32, .p (.sl 5 (mI a0n.Kids))),(33,I (lenI (mI a0n.Kids))),(34,I l4_2)],[(3,(bq9 ⟨a0n.Kind,a0n.Name,a0n.N,0,a0n.Kids⟩)),(4,(bq3 0 [] 0 0)),(5,(bq25 (.ad 5 (mI a0n.Kids)) a0n)),(9,bGN25 x5),(30, .vec 25 5 (mI l4_1))]++hc0_parser_Strip_1⟩ krf (sG (xR 3 krf ?_)))))))))))) (sim_exit (sq_x (kq_x (bq_hit (sNK ⟨[(1,pZ0),qq 3,qq 4,qq 5,(6, .vsl 5 30 (mI l4_1).length)],[(3,(bq9 ⟨a0n.Kind,a0n.Name,a0n.N,0,a0n.Kids⟩)),(4,(bq3 0 [] 0 0)),(5,(bq25 (.ad 5 (mI a0n.Kids)) a0n)),(30, .vec 25 5 (mI l4_1))]++hc0_parser_Strip_1⟩ krf (sim_weak (weak_vfz 30 25 5 (mI l4_1) [(mI l4_1).length] krf krf zq krf krf) (sG (xR 3 krf (xS (wfK 900 a0n.Kids) (fun hw7=>xS (isSt 900 a0n.Kids l4_1) (fun hw8=>xs_setM (t:=61) (kt:=64) (e:=23) (b:=1001) (S:=5) (G:=gDone) (es:=mI a0n.Kids) (n:=lenI (mI a0n.Kids)) (v:=.sl 5 (mI l4_1)) krf rfl krf Tryd.underlying61 krf krf krf rfl krf krf krf (fun _ _ h=>h.1) ⟨wfK_cn hw7,_,(isSt_id hw8),rfl⟩ (xE (sNK ⟨tq68 l4_1,hq66 ⟨a0n.Kind,a0n.Name,a0n.N,0,a0n.Kids⟩++hc0_parser_Strip_1⟩ krf (sRK Tryd.fm (sq24 ⟨a0n.Kind,a0n.Name,a0n.N,0,l4_1⟩) krf (sRK Tryd.fm (sq25 ⟨a0n.Kind,a0n.Name,a0n.N,0,l4_1⟩) krf (sT (hq_ret (.id) kp_parser_Strip_1 [] krf krf krf krf))))))) (fun _=>xs_none)) (fun _=>xs_none))))))))))))
 refine xs_heap nq2 [] [] krf (ih x5) krf krf krf kff kff (fun r6=>?_)
 exact xR 1 krf (xF krf krf (aop_vapp (e:=25) (S:=5) (by_:=64) (enc:=idc) (tk:=30) (l:=l4_1) (l2:=[GN.cs r6]) (xv:=.tsl 5 (mI [GN.cs r6]) 42) (n:=(mI l4_1).length) rfl krf krf rfl krf krf krf krf zq) (xR 1 krf (xE (bq_n (sNK (sq23 (l4_1++[GN.cs r6]) a0n l4_2 ⟨a0n.Kind,a0n.Name,a0n.N,0,a0n.Kids⟩ (.ad 5 (mI a0n.Kids))) krf (sL Tryd.fm krf (kqK (l4_1++[GN.cs r6],wi (l4_2+1)) krf)))))))
def g_p_Strip (n:Nat) (a0n:GN):Option GN :=
 (g_p_tooDeep n a0n).bind fun r1 =>
 cond r1
  (some (⟨0,[],0,0,[]⟩:GN))
  ((g_p_Strip_1 n a0n).bind fun r2 =>
  some r2)
def hq68:=fun x0=>([(1, .box 25 (bxc (GN.cs x0))),(2,(bq3 0 [] 0 0))]:List (Nat × Blk))
theorem g_p_Strip_ok (n:Nat) (a0n:GN):∀ r,g_p_Strip n a0n=some r→PCall Tryd.prog 11 [ag (GN.cs a0n)] (.ret (ag (GN.cs r))):=by
 refine pcall_sim Tryd.func11 rfl Tryd.ntmps11 rfl ?_
 unfold g_p_Strip
 refine sRK Tryd.fm ⟨[qq 1,qq 2],hq68 a0n⟩ krf (sS (sS (sG (xR 1 krf ?_))))
 refine xC [] krf (g_p_tooDeep_ok n a0n) krf krf kff (fun r1=>?_)
 refine xE (sNK ⟨[qq 1,qq 2,(6,B r1)],hq68 a0n⟩ krf (sC r1 krf (sRK Tryd.fm ⟨[qq 2],[(2,(bq3 0 [] 0 0))]⟩ krf (sT (sq_r (qR (.agg [.id, .id, .id, .id, .sl 5]) krf krf krf)))) (sK (sNK ⟨[qq 1,qq 2],hq68 a0n⟩ krf (sS (sG (xs_mkM (S:=5) (G:=gDone) (d:=8) krf rfl krf krf (xR 2 krf (xE (sNK ⟨tq22,[(1,bGN25 a0n),(2,(bq3 0 [] 0 0)),(3, .box 61 [.mv 8]),(8, .mm 5 gDone)]⟩ krf (sRK Tryd.fm ⟨[qq 1,qq 2,qq 3,qq 4],[(1,bGN25 a0n),(2,(bq3 0 [] 0 0)),(3, .box 61 [.mv 8]),(4, .box 32 [.p (.val (.nilFunc))]),(8, .mm 5 gDone)]⟩ krf (sRK Tryd.fm ⟨tq28,[(1,bGN25 a0n),(2,(bq3 0 [] 0 0)),(3, .box 61 [.mv 8]),(4, .box 32 [.fn (.func 29) [] [.ptr 3 0, .ptr 4 0]]),(8, .mm 5 gDone)]⟩ krf (sS (sG (xR 2 krf ?_)))))))))))))))
 refine xs_heap [(1000,3),(1001,8),(1002,4)] [] [] krf (g_p_Strip_1_ok n a0n) krf krf krf kff kff (fun r2=>?_)
 exact xR 1 krf (xE (sNK ⟨[qq 2],hq47 r2⟩ krf (sT (qR (.id) krf krf krf))))
def g_ref02_Same_l6 (a0a:GN) (a1b:GN) (rf_ref02_Same:GN→GN→Option Bool) (recl6:Int→Option Bool) (l6:Int):Option Bool :=
 cond (ltI l6 (lenI (List.map idc a0a.Kids)))
  ((Option.bind (getI a0a.Kids l6) GN.of).bind fun x7 =>
  (Option.bind (getI a1b.Kids l6) GN.of).bind fun x8 =>
  (rf_ref02_Same x7 x8).bind fun r9 =>
  cond (!r9)
   (some false)
   (recl6 (wi (l6+1))))
  (some true)
def g_ref02_Same_body (n:Nat) (rf_ref02_Same:GN→GN→Option Bool) (a0a:GN) (a1b:GN):Option Bool :=
 (cond (!eqI a0a.Kind a1b.Kind)
  (some true)
  (cond (!eqS a0a.Name a1b.Name)
   (some true)
   (cond (!eqI a0a.N a1b.N)
    (some true)
    (cond (!eqI a0a.At a1b.At)
     (some true)
     (some (!eqI (lenI (List.map idc a0a.Kids)) (lenI (List.map idc a1b.Kids)))))))).bind fun j1 =>
 cond j1
  (some false)
  (loopN (fun recl6 l6=>g_ref02_Same_l6 a0a a1b rf_ref02_Same recl6 l6) n 0)
def g_ref02_Same:Nat→GN→GN→Option Bool
 | 0,_,_=>none
 | n+1,a0a,a1b=>g_ref02_Same_body n (g_ref02_Same n) a0a a1b
def hq69:=fun x0 x1=>([(2, .box 25 (bxc (GN.cs x0))),(3, .box 25 (bxc (GN.cs x1)))]:List (Nat × Blk))
def tq69:=fun x0=>([(2, .ptr 2 0),(3, .ptr 3 0),(5,I x0)]:List (Nat × AV))
theorem g_ref02_Same_ok (n:Nat) (a0a:GN) (a1b:GN):∀ r,g_ref02_Same n a0a a1b=some r→PCall Tryd.prog 9 [ag (GN.cs a0a),ag (GN.cs a1b)] (.ret (B r)):=by
 induction n generalizing a0a a1b with
 | zero=>intro r hr; cases (show (none:Option Bool)=some r from hr)
 | succ n ih =>
 show ∀ r,g_ref02_Same_body n (g_ref02_Same n) a0a a1b=some r→_
 generalize g_ref02_Same n=rf_ref02_Same at ih ⊢
 refine pcall_sim Tryd.func9 rfl Tryd.ntmps9 rfl ?_
 unfold g_ref02_Same_body
 refine sRK Tryd.fm ⟨[qq 2,qq 3],hq69 a0a a1b⟩ krf (sS (sBi (fun j1=>⟨[qq 2,qq 3,(40,B j1)],hq69 a0a a1b⟩:Bool→St) (sG (xR 6 krf (xS (!eqI a0a.Kind a1b.Kind) (fun h2=>xN (want_ft krf h2) krf (xR 28 krf (xE (nqK true krf)))) (fun h2=>xO (want_ff krf h2) krf (xR 6 krf (xS (!eqS a0a.Name a1b.Name) (fun h3=>xN (want_ft krf h3) krf (xR 21 krf (xE (nqK true krf)))) (fun h3=>xO (want_ff krf h3) krf (xR 6 krf (xS (!eqI a0a.N a1b.N) (fun h4=>xN (want_ft krf h4) krf (xR 14 krf (xE (nqK true krf)))) (fun h4=>xO (want_ff krf h4) krf (xR 6 krf (xS (!eqI a0a.At a1b.At) (fun h5=>xN (want_ft krf h5) krf (xR 7 krf (xE (nqK true krf)))) (fun h5=>xO (want_ff krf h5) krf (xR 7 krf (xE (nqK (!eqI (lenI (mI a0a.Kids)) (lenI (mI a1b.Kids))) krf)))))))))))))))) ?_))
 rintro j1
 refine sC j1 krf (sRK Tryd.fm ⟨[(4,B false)],[]⟩ krf (sT (sq_r (qR (.id) krf krf krf)))) (sK (sNK ⟨[qq 2,qq 3],hq69 a0a a1b⟩ krf (sS (sRK Tryd.fm ⟨tq69 0,hq69 a0a a1b⟩ krf (sB (sim_loop (fun l6=>⟨tq69 l6,hq69 a0a a1b⟩:Int→St) (wsK krf) ?_))))))
 rintro recl6 l6
 show SimE (g_ref02_Same_l6 a0a a1b rf_ref02_Same recl6 l6) _ _ _ _ _ _
 unfold g_ref02_Same_l6
 refine sS (sRK Tryd.fm ⟨[qq 2,qq 3,(5,I l6),(45,B (ltI l6 (lenI (mI a0a.Kids))))],hq69 a0a a1b⟩ krf (sC (ltI l6 (lenI (mI a0a.Kids))) krf (sK (sNK ⟨tq69 l6,hq69 a0a a1b⟩ krf (sS (sB (sS (sDr Tryd.fm rfl (xR 3 krf (xG krf krf (aop_idxR (e:=25) (S:=5) (enc:=GN.cs) (dec:=GN.of) (l:=a0a.Kids) (k:=.i64) (n:=l6) (sv:=.p (.sl 5 (mI a0a.Kids))) GN.of_cs rfl krf krf krf krf krf) (fun x7=>xR 4 krf (xG krf krf (aop_idxR (e:=25) (S:=5) (enc:=GN.cs) (dec:=GN.of) (l:=a1b.Kids) (k:=.i64) (n:=l6) (sv:=.p (.sl 5 (mI a1b.Kids))) GN.of_cs rfl krf krf krf krf krf) (fun x8=>xR 1 krf ?_))))))))))) (sim_exit (sq_x (kq_x (bq_hit (sNK ⟨[],[]⟩ krf (sRK Tryd.fm ⟨[(4,B true)],[]⟩ krf (sT (qR (.id) krf krf krf))))))))))
 refine xC [] krf (ih x7 x8) krf krf kff (fun r9=>?_)
 exact xR 1 krf (xED krf (sNK ⟨[qq 2,qq 3,(5,I l6),(59,B (!r9))],hq69 a0a a1b⟩ krf (sC (!r9) krf (sRK Tryd.fm ⟨[(4,B false)],[]⟩ krf (sT (bq_r (sq_r (kq_r (bq_r (sq_r (qR (.id) krf krf krf)))))))) (sK (bq_n (sNK ⟨tq69 l6,hq69 a0a a1b⟩ krf (sL Tryd.fm krf (kqK (wi (l6+1)) krf))))))))
def g_ref02_SameDiags_l1 (a0a:List GDg) (a1b:List GDg) (recl1:Int→Option Bool) (l1:Int):Option Bool :=
 cond (ltI l1 (lenI (List.map GDg.cs a0a)))
  ((getI a0a l1).bind fun x2 =>
  (getI a1b l1).bind fun x3 =>
  cond (!opq ((eqI x2.Err x3.Err)&&((eqI x2.At x3.At)&&true)))
   (some false)
   (recl1 (wi (l1+1))))
  (some true)
def g_ref02_SameDiags (n:Nat) (a0a:List GDg) (a1b:List GDg):Option Bool :=
 cond (!eqI (lenI (List.map GDg.cs a0a)) (lenI (List.map GDg.cs a1b)))
  (some false)
  (loopN (fun recl1 l1=>g_ref02_SameDiags_l1 a0a a1b recl1 l1) n 0)
def tq70:=fun x0 x1=>([(0, .p (.sl 2 (List.map GDg.cs x0))),(1, .p (.sl 2 (List.map GDg.cs x1)))]:List (Nat × AV))
def tq71:=fun x0 x1 x2=>([(0, .p (.sl 2 (List.map GDg.cs x0))),(1, .p (.sl 2 (List.map GDg.cs x1))),(5,I x2)]:List (Nat × AV))
theorem g_ref02_SameDiags_ok (n:Nat) (a0a:List GDg) (a1b:List GDg):∀ r,g_ref02_SameDiags n a0a a1b=some r→PCall Tryd.prog 20 [.p (.sl 2 (mDg a0a)), .p (.sl 2 (mDg a1b))] (.ret (B r)):=by
 refine pcall_sim Tryd.func20 rfl Tryd.ntmps20 rfl ?_
 unfold g_ref02_SameDiags
 refine sRK Tryd.fm ⟨tq70 a0a a1b,[]⟩ krf (sS (sRK Tryd.fm ⟨[(0, .p (.sl 2 (mDg a0a))),(1, .p (.sl 2 (mDg a1b))),(10,B (!eqI (lenI (mDg a0a)) (lenI (mDg a1b))))],[]⟩ krf (sC (!eqI (lenI (mDg a0a)) (lenI (mDg a1b))) krf (sRK Tryd.fm ⟨[(4,B false)],[]⟩ krf (sT (sq_r (qR (.id) krf krf krf)))) (sK (sNK ⟨tq70 a0a a1b,[]⟩ krf (sS (sRK Tryd.fm ⟨tq71 a0a a1b 0,[]⟩ krf (sB (sim_loop (fun l1=>⟨tq71 a0a a1b l1,[]⟩:Int→St) (wsK krf) ?_)))))))))
 rintro recl1 l1
 show SimE (g_ref02_SameDiags_l1 a0a a1b recl1 l1) _ _ _ _ _ _
 unfold g_ref02_SameDiags_l1
 exact sS (sRK Tryd.fm ⟨[(0, .p (.sl 2 (mDg a0a))),(1, .p (.sl 2 (mDg a1b))),(5,I l1),(14,B (ltI l1 (lenI (mDg a0a))))],[]⟩ krf (sC (ltI l1 (lenI (mDg a0a))) krf (sK (sNK ⟨tq71 a0a a1b l1,[]⟩ krf (sS (sB (sS (sDr Tryd.fm rfl (xR 2 krf (xG krf krf (aop_idx (e:=45) (S:=2) (enc:=GDg.cs) (l:=a0a) (k:=.i64) (n:=l1) (sv:=.p (.sl 2 (mDg a0a))) rfl krf krf krf krf krf) (fun x2=>xR 3 krf (xG krf krf (aop_idx (e:=45) (S:=2) (enc:=GDg.cs) (l:=a1b) (k:=.i64) (n:=l1) (sv:=.p (.sl 2 (mDg a1b))) rfl krf krf krf krf krf) (fun x3=>xR 1 krf (xs_u krf krf (aop_neq (xs:=[I x2.Err,I x2.At]) (ys:=[I x3.Err,I x3.At]) (vx:=[.int .i64 x2.Err, .int .i64 x2.At]) (vy:=[.int .i64 x3.Err, .int .i64 x3.At]) (b:=(eqI x2.Err x3.Err)&&((eqI x2.At x3.At)&&true)) rfl krf krf krf krf krf krf) (xED krf (sNK ⟨[(0, .p (.sl 2 (mDg a0a))),(1, .p (.sl 2 (mDg a1b))),(5,I l1),(25,B (!opq ((eqI x2.Err x3.Err)&&((eqI x2.At x3.At)&&true))))],[]⟩ krf (sC (!opq ((eqI x2.Err x3.Err)&&((eqI x2.At x3.At)&&true))) krf (sRK Tryd.fm ⟨[(4,B false)],[]⟩ krf (sT (bq_r (sq_r (kq_r (bq_r (sq_r (qR (.id) krf krf krf)))))))) (sK (bq_n (sNK ⟨tq71 a0a a1b l1,[]⟩ krf (sL Tryd.fm krf (kqK (wi (l1+1)) krf)))))))))))))))))))) (sim_exit (sq_x (kq_x (bq_hit (sNK ⟨[],[]⟩ krf (sRK Tryd.fm ⟨[(4,B true)],[]⟩ krf (sT (qR (.id) krf krf krf))))))))))
def g_law02_gives_l2 (a1at:List Int) (recl2:((List GDg) × Int)→Option (List GDg)) (l2_1:List GDg) (l2_2:Int):Option (List GDg) :=
 cond (ltI l2_2 (lenI (List.map ci a1at)))
  ((getI a1at l2_2).bind fun x3 =>
  cond (roomB (List.length (l2_1++[(⟨7,x3⟩:GDg)])) 16) (
   recl2 (l2_1++[(⟨7,x3⟩:GDg)],wi (l2_2+1))) none)
  (some l2_1)
def g_law02_gives (n:Nat) (a0z:List UInt8) (a1at:List Int):Option Bool :=
 (loopN (fun recl2 (l2_1,l2_2)=>g_law02_gives_l2 a1at recl2 l2_1 l2_2) n ([],0)).bind fun j1 =>
 (g_p_Parse n a0z).bind fun r4 =>
 (g_ref02_SameDiags n r4.2 j1).bind fun r5 =>
 cond r5
  (cond (eqI (lenI (List.map ci a1at)) 0)
   (some true)
   ((g_ref02_Same n r4.1 (⟨0,[],0,0,[]⟩:GN)).bind fun r8 =>
   some r8))
  (some false)
def tq72:=fun x0 x1=>([(0,S x0),(1, .p (.sl 1 (List.map ci x1))),(5, .p (.val (.slice none 0 0))),(10, .p (.sl 1 (List.map ci x1))),(11,I (lenI (List.map ci x1))),(12,I 0)]:List (Nat × AV))
def tq73:=fun x0 x1 x2 x3=>([(0,S x0),(1, .p (.sl 1 (List.map ci x1))),(5, .tsl 2 (List.map GDg.cs x2) 20),(10, .p (.sl 1 (List.map ci x1))),(11,I (lenI (List.map ci x1))),(12,I x3)]:List (Nat × AV))
def sq26:=fun x0 x1 x2 x3=>(⟨tq73 x0 x1 x2 x3,[(20,(bq11 x2))]⟩:St)
theorem g_law02_gives_ok (n:Nat) (a0z:List UInt8) (a1at:List Int):∀ r,g_law02_gives n a0z a1at=some r→PCall Tryd.prog 21 [S a0z, .p (.sl 1 (List.map ci a1at))] (.ret (B r)):=by
 refine pcall_sim Tryd.func21 rfl Tryd.ntmps21 rfl ?_
 unfold g_law02_gives
 refine sRK Tryd.fm ⟨[(0,S a0z),(1, .p (.sl 1 (List.map ci a1at)))],[]⟩ krf (sRK Tryd.fm ⟨[(0,S a0z),(1, .p (.sl 1 (List.map ci a1at))),(5,zS)],[]⟩ krf (sBi (fun j1=>⟨[(0,S a0z),(1, .p (.sl 1 (List.map ci a1at))),(5, .tsl 2 (mDg j1) 20)],[(20,amDg45 j1)]⟩:(List GDg)→St) ?_ ?_))
 ·refine sRK Tryd.fm ⟨tq72 a0z a1at,[]⟩ krf (sB (sPK ⟨tq72 a0z a1at,[]⟩ krf (sim_weak (weak_pn 45 2 20 [5] [] krf) (sim_loop (fun (l2_1,l2_2)=>(sq26 a0z a1at l2_1 l2_2):((List GDg) × Int)→St) (wsK krf) ?_))))
  rintro recl2 ⟨l2_1,l2_2⟩
  show SimE (g_law02_gives_l2 a1at recl2 l2_1 l2_2) _ _ _ _ _ _
  unfold g_law02_gives_l2
  exact sRK Tryd.fm ⟨[(0,S a0z),(1, .p (.sl 1 (List.map ci a1at))),(5, .tsl 2 (mDg l2_1) 20),(10, .p (.sl 1 (List.map ci a1at))),(11,I (lenI (List.map ci a1at))),(12,I l2_2),(13,B (ltI l2_2 (lenI (List.map ci a1at))))],[(20,(bq11 l2_1))]⟩ krf (sS (sC (ltI l2_2 (lenI (List.map ci a1at))) krf (sK (sNK (sq26 a0z a1at l2_1 l2_2) krf (sS (sB (sS (sG (xG krf krf (aop_idx (e:=3) (S:=1) (enc:=ci) (l:=a1at) (k:=.i64) (n:=l2_2) (sv:=.p (.sl 1 (List.map ci a1at))) rfl krf krf krf krf krf) (fun x3=>xR 2 krf (xE (sNK ⟨[(0,S a0z),(1, .p (.sl 1 (List.map ci a1at))),(5, .tsl 2 (mDg l2_1) 20),(7,I x3),(10, .p (.sl 1 (List.map ci a1at))),(11,I (lenI (List.map ci a1at))),(12,I l2_2)],[(20,(bq11 l2_1))]⟩ krf (sG (xR 4 krf (xF krf krf (aop_app (e:=45) (S:=2) (by_:=16) (enc:=GDg.cs) (tk:=20) (l:=l2_1) (l2:=[(⟨7,x3⟩:GDg)]) (xv:=.tsl 2 (mDg [(⟨7,x3⟩:GDg)]) 19) rfl krf krf rfl krf krf krf rfl krf) (xR 1 krf (xE (bq_n (sNK (sq26 a0z a1at (l2_1++[(⟨7,x3⟩:GDg)]) l2_2) krf (sL Tryd.fm krf (kqK (l2_1++[(⟨7,x3⟩:GDg)],wi (l2_2+1)) krf))))))))))))))))))) (sim_exit (sq_x (kq_x (bq_hit (nqK l2_1 krf)))))))
 rintro j1
 refine sS (sG (xR 1 krf ?_))
 refine xC [] krf (g_p_Parse_ok n a0z) krf krf kff (fun r4=>?_)
 refine xR 6 krf (xE (sNK ⟨[(1, .p (.sl 1 (List.map ci a1at))),(5, .tsl 2 (mDg j1) 20),qq 8,(9, .p (.sl 2 (mDg r4.2)))],[(8,bGN25 r4.1),(20,amDg45 j1)]⟩ krf (sS (sG (xR 2 krf ?_)))))
 refine xC [.id, .sl 2] krf (g_ref02_SameDiags_ok n r4.2 j1) krf krf kff (fun r5=>?_)
 refine xR 1 krf (xS r5 (fun h6=>xO (want_tt krf h6) krf (xR 3 krf (xS (eqI (lenI (List.map ci a1at)) 0) (fun h7=>xN (want_ft krf h7) krf (xR 5 krf (xE (sNK ⟨[(4,B true)],[]⟩ krf (sT (qR (.id) krf krf krf)))))) (fun h7=>xO (want_ff krf h7) krf (xR 1 krf ?_))))) (fun h6=>xN (want_tf krf h6) krf (xR 9 krf (xE (sNK ⟨[(4,B false)],[]⟩ krf (sT (qR (.id) krf krf krf)))))))
 refine xC [.id, .agg [.id, .id, .id, .id, .sl 5]] krf (g_ref02_Same_ok n r4.1 (⟨0,[],0,0,[]⟩:GN)) krf krf kff (fun r8=>?_)
 exact xR 3 krf (xE (sNK ⟨[(4,B r8)],[]⟩ krf (sT (qR (.id) krf krf krf))))
def g_p_goodWord_l7 (a0text:List UInt8) (recl7:Int→Option Bool) (l7:Int):Option Bool :=
 cond (ltI l7 (lenI a0text))
  ((getI a0text l7).bind fun x8 =>
  (cond (leI 97 (b2i x8))
   (cond (leI (b2i x8) 122)
    (some false)
    (cond (leI 48 (b2i x8))
     (cond (leI (b2i x8) 57)
      (some false)
      (some (!(eqI (b2i x8) 95))))
     (some (!(eqI (b2i x8) 95)))))
   (cond (leI 48 (b2i x8))
    (cond (leI (b2i x8) 57)
     (some false)
     (some (!(eqI (b2i x8) 95))))
    (some (!(eqI (b2i x8) 95))))).bind fun j9 =>
  cond j9
   (some false)
   (recl7 (wi (l7+1))))
  (some true)
def g_p_goodWord (n:Nat) (a0text:List UInt8):Option Bool :=
 (cond (ltI (lenI a0text) 1)
  (some true)
  (cond (ltI 12 (lenI a0text))
   (some true)
   ((getI a0text 0).bind fun x4 =>
   cond (ltI (b2i x4) 97)
    (some true)
    ((getI a0text 0).bind fun x6 =>
    some (ltI 122 (b2i x6)))))).bind fun j1 =>
 cond j1
  (some false)
  (loopN (fun recl7 l7=>g_p_goodWord_l7 a0text recl7 l7) n 1)
theorem g_p_goodWord_ok (n:Nat) (a0text:List UInt8):∀ r,g_p_goodWord n a0text=some r→PCall Tryd.prog 72 [S a0text] (.ret (B r)):=by
 refine pcall_sim Tryd.func72 rfl Tryd.ntmps72 rfl ?_
 unfold g_p_goodWord
 refine sRK Tryd.fm ⟨[(0,S a0text)],[]⟩ krf (sS (sBi (fun j1=>⟨[(0,S a0text),(22,B j1)],[]⟩:Bool→St) (sG (xR 4 krf (xS (ltI (lenI a0text) 1) (fun h2=>xN (want_ft krf h2) krf (xR 13 krf (xE (nqK true krf)))) (fun h2=>xO (want_ff krf h2) krf (xR 4 krf (xS (ltI 12 (lenI a0text)) (fun h3=>xN (want_ft krf h3) krf (xR 8 krf (xE (nqK true krf)))) (fun h3=>xO (want_ff krf h3) krf (xG krf krf (aop_sidx (l:=a0text) (k:=.i64) (n:=0) rfl krf krf krf) (fun x4=>xR 3 krf (xS (ltI (b2i x4) 97) (fun h5=>xN (want_ft krf h5) krf (xR 3 krf (xE (nqK true krf)))) (fun h5=>xO (want_ff krf h5) krf (xG krf krf (aop_sidx (l:=a0text) (k:=.i64) (n:=0) rfl krf krf krf) (fun x6=>xR 2 krf (xE (nqK (ltI 122 (b2i x6)) krf))))))))))))))) ?_))
 rintro j1
 refine sC j1 krf (sRK Tryd.fm ⟨[(2,B false)],[]⟩ krf (sT (sq_r (qR (.id) krf krf krf)))) (sK (sNK ⟨[(0,S a0text)],[]⟩ krf (sS (sRK Tryd.fm ⟨[(0,S a0text),(3,I 1)],[]⟩ krf (sB (sim_loop (fun l7=>⟨[(0,S a0text),(3,I l7)],[]⟩:Int→St) (wsK krf) ?_))))))
 rintro recl7 l7
 show SimE (g_p_goodWord_l7 a0text recl7 l7) _ _ _ _ _ _
 unfold g_p_goodWord_l7
 refine sS (sRK Tryd.fm ⟨[(0,S a0text),(3,I l7),(26,B (ltI l7 (lenI a0text)))],[]⟩ krf (sC (ltI l7 (lenI a0text)) krf (sK (sNK ⟨[(0,S a0text),(3,I l7)],[]⟩ krf (sS (sB (sS (sG (xR 2 krf (xG krf krf (aop_sidx (l:=a0text) (k:=.i64) (n:=l7) rfl krf krf krf) (fun x8=>xR 1 krf (xE (sNK ⟨[(0,S a0text),(3,I l7),(4,B8 (b2i x8))],[]⟩ krf (sBi (fun j9=>⟨[(0,S a0text),(3,I l7),(50,B j9)],[]⟩:Bool→St) ?_ ?_)))))))))))) (sim_exit (sq_x (kq_x (bq_hit (sNK ⟨[],[]⟩ krf (sRK Tryd.fm ⟨[(2,B true)],[]⟩ krf (sT (qR (.id) krf krf krf))))))))))
 rotate_left
 ·rintro j9
  exact sC j9 krf (sRK Tryd.fm ⟨[(2,B false)],[]⟩ krf (sT (bq_r (sq_r (kq_r (bq_r (sq_r (qR (.id) krf krf krf)))))))) (sK (bq_n (sNK ⟨[(0,S a0text),(3,I l7)],[]⟩ krf (sL Tryd.fm krf (kqK (wi (l7+1)) krf)))))
 exact sG (xR 3 krf (xS (leI 97 (b2i x8)) (fun h10=>xO (want_tt krf h10) krf (xR 3 krf (xS (leI (b2i x8) 122) (fun h11=>xN (want_ft krf h11) krf (xR 11 krf (xE (nqK false krf)))) (fun h11=>xO (want_ff krf h11) krf (xR 2 krf (xS (leI 48 (b2i x8)) (fun h12=>xO (want_tt krf h12) krf (xR 4 krf (xS (leI (b2i x8) 57) (fun h13=>xN (want_ft krf h13) krf (xR 3 krf (xE (nqK false krf)))) (fun h13=>xO (want_ff krf h13) krf (xR 3 krf (xE (nqK (!(eqI (b2i x8) 95)) krf))))))) (fun h12=>xN (want_tf krf h12) krf (xR 8 krf (xE (nqK (!(eqI (b2i x8) 95)) krf)))))))))) (fun h10=>xN (want_tf krf h10) krf (xR 6 krf (xS (leI 48 (b2i x8)) (fun h14=>xO (want_tt krf h14) krf (xR 4 krf (xS (leI (b2i x8) 57) (fun h15=>xN (want_ft krf h15) krf (xR 3 krf (xE (nqK false krf)))) (fun h15=>xO (want_ff krf h15) krf (xR 3 krf (xE (nqK (!(eqI (b2i x8) 95)) krf))))))) (fun h14=>xN (want_tf krf h14) krf (xR 8 krf (xE (nqK (!(eqI (b2i x8) 95)) krf)))))))))
def g_p_goodName (n:Nat) (a0text:List UInt8):Option Bool :=
 (g_p_goodWord n a0text).bind fun r1 =>
 cond r1
  ((g_p_isKey n a0text).bind fun r3 =>
  some (!r3))
  (some false)
theorem g_p_goodName_ok (n:Nat) (a0text:List UInt8):∀ r,g_p_goodName n a0text=some r→PCall Tryd.prog 48 [S a0text] (.ret (B r)):=by
 refine pcall_sim Tryd.func48 rfl Tryd.ntmps48 rfl ?_
 unfold g_p_goodName
 refine sRK Tryd.fm ⟨[(0,S a0text)],[]⟩ krf (sS (sG (xR 1 krf ?_)))
 refine xC [] krf (g_p_goodWord_ok n a0text) krf krf kff (fun r1=>?_)
 refine xR 1 krf (xS r1 (fun h2=>?_) (fun h2=>?_))
 ·refine xO (want_tt krf h2) krf ?_
  refine xC [] krf (g_p_isKey_ok n a0text) krf krf kff (fun r3=>?_)
  exact xR 3 krf (xE (sNK ⟨[(2,B (!r3))],[]⟩ krf (sT (qR (.id) krf krf krf))))
 exact xN (want_tf krf h2) krf (xR 4 krf (xE (sNK ⟨[(2,B false)],[]⟩ krf (sT (qR (.id) krf krf krf)))))
def g_p_validValue (n:Nat) (a0n:GN) (a1words:Bool):Option Bool :=
 cond (!eqI (lenI (List.map idc a0n.Kids)) 0)
  (some false)
  (cond (eqI a0n.Kind 5)
   (cond (eqI a0n.N 0)
    ((g_p_goodName n a0n.Name).bind fun r2 =>
    cond r2
     (some true)
     (cond a1words
      ((g_p_isWord n a0n.Name).bind fun r5 =>
      some r5)
      (some false)))
    (some false))
   (cond (eqI a0n.Kind 6)
    (cond (eqS a0n.Name [])
     (cond (leI 0 a0n.N)
      (some (leI a0n.N 1000000))
      (some false))
     (some false))
    (some false)))
theorem g_p_validValue_ok (n:Nat) (a0n:GN) (a1words:Bool):∀ r,g_p_validValue n a0n a1words=some r→PCall Tryd.prog 76 [ag (GN.cs a0n),B a1words] (.ret (B r)):=by
 refine pcall_sim Tryd.func76 rfl Tryd.ntmps76 rfl ?_
 unfold g_p_validValue
 refine sRK Tryd.fm ⟨[(1,B a1words),qq 2],hq47 a0n⟩ krf (sS (sRK Tryd.fm ⟨[(1,B a1words),qq 2,(8,B (!eqI (lenI (mI a0n.Kids)) 0))],hq47 a0n⟩ krf (sC (!eqI (lenI (mI a0n.Kids)) 0) krf (sRK Tryd.fm ⟨[(4,B false)],[]⟩ krf (sT (sq_r (qR (.id) krf krf krf)))) (sK (sNK ⟨[(1,B a1words),qq 2],hq47 a0n⟩ krf (sS (sRK Tryd.fm ⟨[(1,B a1words),qq 2,(10,I a0n.Kind)],hq47 a0n⟩ krf (sB (sRK Tryd.fm ⟨[(1,B a1words),qq 2,(10,I a0n.Kind),(11,B (eqI a0n.Kind 5))],hq47 a0n⟩ krf (sC (eqI a0n.Kind 5) krf (sS (sG (xR 4 krf (xS (eqI a0n.N 0) (fun h1=>xO (want_tt krf h1) krf (xR 1 krf ?_)) (fun h1=>xN (want_tf krf h1) krf (xR 12 krf (xE (sNK ⟨[(4,B false)],[]⟩ krf (sT (bq_r (sq_r (qR (.id) krf krf krf)))))))))))) (sRK Tryd.fm ⟨[qq 2,(29,B (eqI a0n.Kind 6))],hq47 a0n⟩ krf (sC (eqI a0n.Kind 6) krf (sS (sG (xR 4 krf (xS (eqS a0n.Name []) (fun h6=>xO (want_tt krf h6) krf (xR 4 krf (xS (leI 0 a0n.N) (fun h7=>xO (want_tt krf h7) krf (xR 4 krf (xE (sNK ⟨[(4,B (leI a0n.N 1000000))],[]⟩ krf (sT (bq_r (sq_r (qR (.id) krf krf krf)))))))) (fun h7=>xN (want_tf krf h7) krf (xR 4 krf (xE (sNK ⟨[(4,B false)],[]⟩ krf (sT (bq_r (sq_r (qR (.id) krf krf krf))))))))))) (fun h6=>xN (want_tf krf h6) krf (xR 9 krf (xE (sNK ⟨[(4,B false)],[]⟩ krf (sT (bq_r (sq_r (qR (.id) krf krf krf)))))))))))) (sK (bq_n (sNK ⟨[],[]⟩ krf (sRK Tryd.fm ⟨[(4,B false)],[]⟩ krf (sT (qR (.id) krf krf krf))))))))))))))))))
 refine xC [] krf (g_p_goodName_ok n a0n.Name) krf krf kff (fun r2=>?_)
 refine xR 1 krf (xS r2 (fun h3=>xN (want_ft krf h3) krf (xR 8 krf (xE (sNK ⟨[(4,B true)],[]⟩ krf (sT (bq_r (sq_r (qR (.id) krf krf krf)))))))) (fun h3=>xO (want_ff krf h3) krf (xR 1 krf (xS a1words (fun h4=>?_) (fun h4=>?_)))))
 ·refine xO (want_tt krf h4) krf (xR 1 krf ?_)
  refine xC [] krf (g_p_isWord_ok n a0n.Name) krf krf kff (fun r5=>?_)
  exact xR 4 krf (xE (sNK ⟨[(4,B r5)],[]⟩ krf (sT (bq_r (sq_r (qR (.id) krf krf krf))))))
 exact xN (want_tf krf h4) krf (xR 6 krf (xE (sNK ⟨[(4,B false)],[]⟩ krf (sT (bq_r (sq_r (qR (.id) krf krf krf)))))))
def g_p_validPart_l9 (n:Nat) (a0n:GN) (a1left:Int) (recl9:Int→Option (Bool × Int)) (l9:Int):Option (Bool × Int) :=
 cond (ltI l9 (lenI (List.map idc a0n.Kids)))
  ((Option.bind (getI a0n.Kids l9) GN.of).bind fun x10 =>
  (g_p_validValue n x10 (eqI a0n.Kind 4)).bind fun r11 =>
  cond (!r11)
   (some (false,wi (a1left - (lenI (List.map idc a0n.Kids)))))
   (recl9 (wi (l9+1))))
  (some (true,wi (a1left - (lenI (List.map idc a0n.Kids)))))
def g_p_validPart (n:Nat) (a0n:GN) (a1left:Int):Option (Bool × Int) :=
 cond (!eqI a0n.N 0)
  (some (false,a1left))
  ((cond (eqI a0n.Kind 3)
   ((g_p_isAttr n a0n.Name).bind fun r3 =>
   some (!r3))
   (some false)).bind fun j1 =>
  cond j1
   (some (false,a1left))
   ((cond (eqI a0n.Kind 4)
    ((g_p_isArticle n a0n.Name).bind fun r6 =>
    some (!r6))
    (some false)).bind fun j4 =>
   cond j4
    (some (false,a1left))
    ((cond (!eqI a0n.Kind 3)
     (some (!eqI a0n.Kind 4))
     (some false)).bind fun j7 =>
    cond j7
     (some (false,a1left))
     (cond (ltI (wi (a1left - (lenI (List.map idc a0n.Kids)))) 0)
      (some (false,wi (a1left - (lenI (List.map idc a0n.Kids)))))
      (loopN (fun recl9 l9=>g_p_validPart_l9 n a0n a1left recl9 l9) n 0)))))
def hq70:=fun x0=>([(1001, .box 3 [I x0])]:List (Nat × Blk))
def sq27:=fun x0 x1=>(⟨[(1, .ptr 1001 0),(2, .ptr 2 0)],hq47 x0++hq70 x1⟩:St)
def tq74:=fun x0=>([(1, .ptr 1001 0),(2, .ptr 2 0),(5,B x0)]:List (Nat × AV))
def bq27:=fun x0=>(.box 3 [I x0]:Blk)
def hq71:=fun x0=>([(1001,(bq27 x0))]:List (Nat × Blk))
def tq75:=fun x0 x1 x2=>([(5,B x0),(57, .p (.sl 5 (List.map idc (GN.Kids x1)))),(58,I (lenI (List.map idc (GN.Kids x1)))),(59,I x2)]:List (Nat × AV))
theorem g_p_validPart_ok (n:Nat) (a0n:GN) (a1left:Int):∀ r,g_p_validPart n a0n a1left=some r→ACall Tryd.prog 49 [ag (GN.cs a0n),pZ1] (Go.Abs.look [(1001, .box 3 [I a1left])]) (heapR (fun r:Bool × Int=>((.ret (B r.1),[(1001, .box 3 [I r.2])]):AEnd × List (Nat × Blk))) r):=by
 refine acall_sim (hq70 a1left) Tryd.func49 rfl Tryd.ntmps49 rfl ?_
 unfold g_p_validPart
 refine sRK Tryd.fm (sq27 a0n a1left) krf (sRK Tryd.fm ⟨tq74 (eqI a0n.Kind 4),hq47 a0n++hq70 a1left⟩ krf (sS (sB (sRK Tryd.fm ⟨[(1,pZ1),qq 2,(5,B (eqI a0n.Kind 4)),(11,B (!eqI a0n.N 0))],hq47 a0n++hq70 a1left⟩ krf (sC (!eqI a0n.N 0) krf (sRK Tryd.fm ⟨[(4,B false)],hq70 a1left⟩ krf (sT (bq_r (sq_r (hq_ret (.id) [1001] [] krf krf krf krf))))) (sBi (fun j1=>⟨[(1,pZ1),qq 2,(5,B (eqI a0n.Kind 4)),(15,B j1)],hq47 a0n++hq70 a1left⟩:Bool→St) ?_ ?_))))))
 ·refine sG (xR 4 krf (xS (eqI a0n.Kind 3) (fun h2=>?_) (fun h2=>?_)))
  ·refine xO (want_tt krf h2) krf (xR 1 krf ?_)
   refine xC [] krf (g_p_isAttr_ok n a0n.Name) krf krf kff (fun r3=>?_)
   exact xR 3 krf (xE (nqK (!r3) krf))
  exact xN (want_tf krf h2) krf (xR 5 krf (xE (nqK false krf)))
 rintro j1
 refine sC j1 krf (sRK Tryd.fm ⟨[(4,B false)],hq70 a1left⟩ krf (sT (bq_r (sq_r (hq_ret (.id) [1001] [] krf krf krf krf))))) (sBi (fun j4=>⟨[(1,pZ1),qq 2,(5,B (eqI a0n.Kind 4)),(25,B j4)],hq47 a0n++hq70 a1left⟩:Bool→St) ?_ ?_)
 ·refine sG (xR 4 krf (xS (eqI a0n.Kind 4) (fun h5=>?_) (fun h5=>?_)))
  ·refine xO (want_tt krf h5) krf (xR 1 krf ?_)
   refine xC [] krf (g_p_isArticle_ok n a0n.Name) krf krf kff (fun r6=>?_)
   exact xR 3 krf (xE (nqK (!r6) krf))
  exact xN (want_tf krf h5) krf (xR 5 krf (xE (nqK false krf)))
 rintro j4
 refine sC j4 krf (sRK Tryd.fm ⟨[(4,B false)],hq70 a1left⟩ krf (sT (bq_r (sq_r (hq_ret (.id) [1001] [] krf krf krf krf))))) (sBi (fun j7=>⟨[(1,pZ1),qq 2,(5,B (eqI a0n.Kind 4)),(35,B j7)],hq47 a0n++hq70 a1left⟩:Bool→St) (sG (xR 4 krf (xS (!eqI a0n.Kind 3) (fun h8=>xO (want_tt krf h8) krf (xR 4 krf (xE (nqK (!eqI a0n.Kind 4) krf)))) (fun h8=>xN (want_tf krf h8) krf (xR 4 krf (xE (nqK false krf))))))) ?_)
 rintro j7
 refine sC j7 krf (sRK Tryd.fm ⟨[(4,B false)],hq70 a1left⟩ krf (sT (bq_r (sq_r (hq_ret (.id) [1001] [] krf krf krf krf))))) (sK (bq_n (sNK ⟨tq74 (eqI a0n.Kind 4),hq47 a0n++hq70 a1left⟩ krf (sRK Tryd.fm ⟨tq74 (eqI a0n.Kind 4),hq47 a0n++hq71 (wi (a1left - (lenI (mI a0n.Kids))))⟩ krf (sS (sRK Tryd.fm ⟨[qq 2,(5,B (eqI a0n.Kind 4)),(55,B (ltI (wi (a1left - (lenI (mI a0n.Kids)))) 0))],hq47 a0n++hq71 (wi (a1left - (lenI (mI a0n.Kids))))⟩ krf (sC (ltI (wi (a1left - (lenI (mI a0n.Kids)))) 0) krf (sRK Tryd.fm ⟨[(4,B false)],hq71 (wi (a1left - (lenI (mI a0n.Kids))))⟩ krf (sT (sq_r (hq_ret (.id) [1001] [] krf krf krf krf)))) (sK (sNK ⟨[qq 2,(5,B (eqI a0n.Kind 4))],hq47 a0n++hq71 (wi (a1left - (lenI (mI a0n.Kids))))⟩ krf (sS (sRK Tryd.fm ⟨tq75 (eqI a0n.Kind 4) a0n 0,hq71 (wi (a1left - (lenI (mI a0n.Kids))))⟩ krf (sB (sim_loop (fun l9=>⟨tq75 (eqI a0n.Kind 4) a0n l9,hq71 (wi (a1left - (lenI (mI a0n.Kids))))⟩:Int→St) (wsK krf) ?_)))))))))))))
 rintro recl9 l9
 show SimE (g_p_validPart_l9 n a0n a1left recl9 l9) _ _ _ _ _ _
 unfold g_p_validPart_l9
 refine sRK Tryd.fm ⟨[(5,B (eqI a0n.Kind 4)),(57, .p (.sl 5 (mI a0n.Kids))),(58,I (lenI (mI a0n.Kids))),(59,I l9),(60,B (ltI l9 (lenI (mI a0n.Kids))))],hq71 (wi (a1left - (lenI (mI a0n.Kids))))⟩ krf (sS (sC (ltI l9 (lenI (mI a0n.Kids))) krf (sK (sNK ⟨tq75 (eqI a0n.Kind 4) a0n l9,hq71 (wi (a1left - (lenI (mI a0n.Kids))))⟩ krf (sS (sB (sS (sG (xG krf krf (aop_idxR (e:=25) (S:=5) (enc:=GN.cs) (dec:=GN.of) (l:=a0n.Kids) (k:=.i64) (n:=l9) (sv:=.p (.sl 5 (mI a0n.Kids))) GN.of_cs rfl krf krf krf krf krf) (fun x10=>xR 3 krf (xE (sNK ⟨[(5,B (eqI a0n.Kind 4)),qq 7,(57, .p (.sl 5 (mI a0n.Kids))),(58,I (lenI (mI a0n.Kids))),(59,I l9)],hq48 x10++hq71 (wi (a1left - (lenI (mI a0n.Kids))))⟩ krf (sS (sG (xR 2 krf ?_))))))))))))) (sim_exit (sq_x (kq_x (bq_hit (sNK ⟨[],hq71 (wi (a1left - (lenI (mI a0n.Kids))))⟩ krf (sRK Tryd.fm ⟨[(4,B true)],hq71 (wi (a1left - (lenI (mI a0n.Kids))))⟩ krf (sT (hq_ret (.id) [1001] [] krf krf krf krf))))))))))
 refine xC [] krf (g_p_validValue_ok n x10 (eqI a0n.Kind 4)) krf krf kff (fun r11=>?_)
 exact xR 1 krf (xE (sNK ⟨[(5,B (eqI a0n.Kind 4)),(57, .p (.sl 5 (mI a0n.Kids))),(58,I (lenI (mI a0n.Kids))),(59,I l9),(66,B (!r11))],hq71 (wi (a1left - (lenI (mI a0n.Kids))))⟩ krf (sC (!r11) krf (sRK Tryd.fm ⟨[(4,B false)],hq71 (wi (a1left - (lenI (mI a0n.Kids))))⟩ krf (sT (bq_r (sq_r (kq_r (bq_r (sq_r (hq_ret (.id) [1001] [] krf krf krf krf)))))))) (sK (bq_n (sNK ⟨tq75 (eqI a0n.Kind 4) a0n l9,hq71 (wi (a1left - (lenI (mI a0n.Kids))))⟩ krf (sL Tryd.fm krf (kqK (wi (l9+1)) krf))))))))
def g_p_validItem_j6 (a0n:GN) (j6_1:Bool) (j6_2:Int):Option (Bool × Int) :=
 cond (!j6_1)
  (some (true,j6_2))
  (some (eqI a0n.N 7,j6_2))
def g_p_validItem_j10 (n:Nat) (l8_2:Int) (l8_3:Int) (recl8:(Bool × Int × Int)→Option (Bool × Int)) (x9:GN) (j10:Bool):Option (Bool × Int) :=
 (g_p_validPart n x9 l8_3).bind fun r11 =>
 cond (!r11.1)
  (some (false,r11.2))
  (recl8 (j10,wi (l8_2+1),r11.2))
def g_p_validItem_l8 (n:Nat) (a0n:GN) (recl8:(Bool × Int × Int)→Option (Bool × Int)) (l8_1:Bool) (l8_2:Int) (l8_3:Int):Option (Bool × Int) :=
 cond (ltI l8_2 (lenI (List.map idc a0n.Kids)))
  ((Option.bind (getI a0n.Kids l8_2) GN.of).bind fun x9 =>
  cond (eqI x9.Kind 4)
   (g_p_validItem_j10 n l8_2 l8_3 recl8 x9 true)
   (cond l8_1
    (some (false,l8_3))
    (g_p_validItem_j10 n l8_2 l8_3 recl8 x9 l8_1)))
  (g_p_validItem_j6 a0n l8_1 l8_3)
def g_p_validItem (n:Nat) (a0n:GN) (a1left:Int):Option (Bool × Int) :=
 (cond (!eqI a0n.Kind 2)
  (some true)
  (cond (ltI a0n.N 1)
   (some true)
   (cond (ltI 7 a0n.N)
    (some true)
    ((g_p_goodName n a0n.Name).bind fun r5 =>
    some (!r5))))).bind fun j1 =>
 cond j1
  (some (false,a1left))
  (cond (ltI (wi (a1left - (lenI (List.map idc a0n.Kids)))) 0)
   (some (false,wi (a1left - (lenI (List.map idc a0n.Kids)))))
   (loopN (fun recl8 (l8_1,l8_2,l8_3)=>g_p_validItem_l8 n a0n recl8 l8_1 l8_2 l8_3) n (false,0,wi (a1left - (lenI (List.map idc a0n.Kids))))))
def sq28:=fun x0 x1=>(⟨[(1, .ptr 1001 0),(2, .ptr 2 0)],hq47 x0++hq71 x1⟩:St)
def tq76:=fun x0 x1 x2=>([(1, .ptr 1001 0),(2, .ptr 2 0),(5,B x0),(40, .p (.sl 5 (List.map idc (GN.Kids x1)))),(41,I (lenI (List.map idc (GN.Kids x1)))),(42,I x2)]:List (Nat × AV))
def tq77:=fun x0 x1 x2=>([(1, .ptr 1001 0),(2, .ptr 2 0),(5,B x0),(7, .ptr 7 0),(40, .p (.sl 5 (List.map idc (GN.Kids x1)))),(41,I (lenI (List.map idc (GN.Kids x1)))),(42,I x2)]:List (Nat × AV))
def hq72:=fun x0 x1=>([(2, .box 25 (bxc (GN.cs x0))),(7, .box 25 (bxc (GN.cs x1)))]:List (Nat × Blk))
theorem g_p_validItem_ok (n:Nat) (a0n:GN) (a1left:Int):∀ r,g_p_validItem n a0n a1left=some r→ACall Tryd.prog 31 [ag (GN.cs a0n),pZ1] (Go.Abs.look [(1001, .box 3 [I a1left])]) (heapR (fun r:Bool × Int=>((.ret (B r.1),[(1001, .box 3 [I r.2])]):AEnd × List (Nat × Blk))) r):=by
 refine acall_sim (hq70 a1left) Tryd.func31 rfl Tryd.ntmps31 rfl ?_
 unfold g_p_validItem
 refine sRK Tryd.fm (sq27 a0n a1left) krf (sS (sBi (fun j1=>⟨[(1,pZ1),qq 2,(26,B j1)],hq47 a0n++hq70 a1left⟩:Bool→St) ?_ ?_))
 ·refine sG (xR 4 krf (xS (!eqI a0n.Kind 2) (fun h2=>xN (want_ft krf h2) krf (xR 14 krf (xE (nqK true krf)))) (fun h2=>xO (want_ff krf h2) krf (xR 4 krf (xS (ltI a0n.N 1) (fun h3=>xN (want_ft krf h3) krf (xR 9 krf (xE (nqK true krf)))) (fun h3=>xO (want_ff krf h3) krf (xR 4 krf (xS (ltI 7 a0n.N) (fun h4=>xN (want_ft krf h4) krf (xR 4 krf (xE (nqK true krf)))) (fun h4=>xO (want_ff krf h4) krf (xR 1 krf ?_))))))))))
  refine xC [] krf (g_p_goodName_ok n a0n.Name) krf krf kff (fun r5=>?_)
  exact xR 2 krf (xE (nqK (!r5) krf))
 rintro j1
 refine sC j1 krf (sRK Tryd.fm ⟨[(4,B false)],hq70 a1left⟩ krf (sT (sq_r (hq_ret (.id) [1001] [] krf krf krf krf)))) (sK (sNK (sq27 a0n a1left) krf (sRK Tryd.fm (sq28 a0n (wi (a1left - (lenI (mI a0n.Kids))))) krf (sS (sRK Tryd.fm ⟨[(1,pZ1),qq 2,(38,B (ltI (wi (a1left - (lenI (mI a0n.Kids)))) 0))],hq47 a0n++hq71 (wi (a1left - (lenI (mI a0n.Kids))))⟩ krf (sC (ltI (wi (a1left - (lenI (mI a0n.Kids)))) 0) krf (sRK Tryd.fm ⟨[(4,B false)],hq71 (wi (a1left - (lenI (mI a0n.Kids))))⟩ krf (sT (sq_r (hq_ret (.id) [1001] [] krf krf krf krf)))) (sK (sNK (sq28 a0n (wi (a1left - (lenI (mI a0n.Kids))))) krf (sRK Tryd.fm ⟨tq74 false,hq47 a0n++hq71 (wi (a1left - (lenI (mI a0n.Kids))))⟩ krf (sim_cps (fun (j6_1,j6_2)=>⟨[qq 2,(5,B j6_1)],hq47 a0n++hq70 j6_2⟩:(Bool × Int)→St) (fun (j6_1,j6_2)=>g_p_validItem_j6 a0n j6_1 j6_2) ?_ ?_))))))))))
 ·rintro ⟨j6_1,j6_2⟩
  show SimE (g_p_validItem_j6 a0n j6_1 j6_2) _ _ _ _ _ _
  unfold g_p_validItem_j6
  exact sS (sG (xR 3 krf (xS (!j6_1) (fun h7=>xN (want_ft krf h7) krf (xR 4 krf (xE (sNK ⟨[(4,B true)],hq70 j6_2⟩ krf (sT (hq_ret (.id) [1001] [] krf krf krf krf)))))) (fun h7=>xO (want_ff krf h7) krf (xR 4 krf (xE (sNK ⟨[(4,B (eqI a0n.N 7))],hq70 j6_2⟩ krf (sT (hq_ret (.id) [1001] [] krf krf krf krf)))))))))
 refine sRK Tryd.fm ⟨tq76 false a0n 0,hq47 a0n++hq71 (wi (a1left - (lenI (mI a0n.Kids))))⟩ krf (sB (sim_loop (fun (l8_1,l8_2,l8_3)=>⟨tq76 l8_1 a0n l8_2,hq47 a0n++hq70 l8_3⟩:(Bool × Int × Int)→St) (wsK krf) ?_))
 rintro recl8 ⟨l8_1,l8_2,l8_3⟩
 show SimE (g_p_validItem_l8 n a0n recl8 l8_1 l8_2 l8_3) _ _ _ _ _ _
 unfold g_p_validItem_l8
 refine sRK Tryd.fm ⟨[(1,pZ1),qq 2,(5,B l8_1),(40, .p (.sl 5 (mI a0n.Kids))),(41,I (lenI (mI a0n.Kids))),(42,I l8_2),(43,B (ltI l8_2 (lenI (mI a0n.Kids))))],hq47 a0n++hq70 l8_3⟩ krf (sS (sC (ltI l8_2 (lenI (mI a0n.Kids))) krf (sK (sNK ⟨tq76 l8_1 a0n l8_2,hq47 a0n++hq70 l8_3⟩ krf (sS (sB (sS (sG (xG krf krf (aop_idxR (e:=25) (S:=5) (enc:=GN.cs) (dec:=GN.of) (l:=a0n.Kids) (k:=.i64) (n:=l8_2) (sv:=.p (.sl 5 (mI a0n.Kids))) GN.of_cs rfl krf krf krf krf krf) (fun x9=>xR 3 krf (xE (sNK ⟨tq77 l8_1 a0n l8_2,hq72 a0n x9++hq70 l8_3⟩ krf (sim_cps (fun j10=>⟨tq77 j10 a0n l8_2,hq72 a0n x9++hq70 l8_3⟩:Bool→St) (fun j10=>g_p_validItem_j10 n l8_2 l8_3 recl8 x9 j10) ?_ (sRK Tryd.fm ⟨[(1,pZ1),qq 2,(5,B l8_1),qq 7,(40, .p (.sl 5 (mI a0n.Kids))),(41,I (lenI (mI a0n.Kids))),(42,I l8_2),(48,B (eqI x9.Kind 4))],hq72 a0n x9++hq70 l8_3⟩ krf (sC (eqI x9.Kind 4) krf (sL Tryd.fm krf (kqK (k:=fun j10=>g_p_validItem_j10 n l8_2 l8_3 recl8 x9 j10) true krf)) (sRK Tryd.fm ⟨[(1,pZ1),qq 2,(5,B l8_1),qq 7,(40, .p (.sl 5 (mI a0n.Kids))),(41,I (lenI (mI a0n.Kids))),(42,I l8_2),(49,B l8_1)],hq72 a0n x9++hq70 l8_3⟩ krf (sC l8_1 krf (sRK Tryd.fm ⟨[(4,B false)],hq70 l8_3⟩ krf (sT (kq_r (bq_r (sq_r (kq_r (bq_r (kq_r (hq_ret (.id) [1001] [] krf krf krf krf))))))))) (sK (kqK (k:=fun j10=>g_p_validItem_j10 n l8_2 l8_3 recl8 x9 j10) l8_1 krf))))))))))))))))) (sim_exit (sq_x (kq_x (bq_hit (kqK (k:=fun (j6_1,j6_2)=>g_p_validItem_j6 a0n j6_1 j6_2) (l8_1,l8_3) krf)))))))
 rintro j10
 show SimE (g_p_validItem_j10 n l8_2 l8_3 recl8 x9 j10) _ _ _ _ _ _
 unfold g_p_validItem_j10
 refine sS (sG (xR 2 krf ?_))
 refine xs_heap [(1001,1001)] [] [] krf (g_p_validPart_ok n x9 l8_3) krf krf krf kff kff (fun r11=>?_)
 exact xR 1 krf (xE (sNK ⟨[(1,pZ1),qq 2,(5,B j10),(40, .p (.sl 5 (mI a0n.Kids))),(41,I (lenI (mI a0n.Kids))),(42,I l8_2),(53,B (!r11.1))],hq47 a0n++hq70 r11.2⟩ krf (sC (!r11.1) krf (sRK Tryd.fm ⟨[(4,B false)],hq70 r11.2⟩ krf (sT (bq_r (sq_r (kq_r (bq_r (kq_r (hq_ret (.id) [1001] [] krf krf krf krf)))))))) (sK (bq_n (sNK ⟨tq76 j10 a0n l8_2,hq47 a0n++hq70 r11.2⟩ krf (sL Tryd.fm krf (kqK (j10,wi (l8_2+1),r11.2) krf))))))))
def g_p_Valid_l5 (n:Nat) (a0n:GN) (recl5:(Int × Int)→Option Bool) (l5_1:Int) (l5_2:Int):Option Bool :=
 cond (ltI l5_1 (lenI (List.map idc a0n.Kids)))
  ((Option.bind (getI a0n.Kids l5_1) GN.of).bind fun x6 =>
  (g_p_validItem n x6 l5_2).bind fun r7 =>
  cond (!r7.1)
   (some false)
   (recl5 (wi (l5_1+1),r7.2)))
  (some true)
def g_p_Valid (n:Nat) (a0n:GN):Option Bool :=
 (cond (!eqI a0n.Kind 1)
  (some true)
  (cond (!eqS a0n.Name [])
   (some true)
   (cond (!eqI a0n.N 0)
    (some true)
    (some (ltI (wi (1499 - (lenI (List.map idc a0n.Kids)))) 0))))).bind fun j1 =>
 cond j1
  (some false)
  (loopN (fun recl5 (l5_1,l5_2)=>g_p_Valid_l5 n a0n recl5 l5_1 l5_2) n (0,wi (1499 - (lenI (List.map idc a0n.Kids)))))
def hq73:=fun x0 x1=>([(1, .box 25 (bxc (GN.cs x0))),(3,(bq27 x1))]:List (Nat × Blk))
def tq78:=fun x0 x1=>([(3, .ptr 3 0),(28, .p (.sl 5 (List.map idc (GN.Kids x0)))),(29,I (lenI (List.map idc (GN.Kids x0)))),(30,I x1)]:List (Nat × AV))
theorem g_p_Valid_ok (n:Nat) (a0n:GN):∀ r,g_p_Valid n a0n=some r→PCall Tryd.prog 12 [ag (GN.cs a0n)] (.ret (B r)):=by
 refine pcall_sim Tryd.func12 rfl Tryd.ntmps12 rfl ?_
 unfold g_p_Valid
 refine sRK Tryd.fm ⟨[qq 1],hq60 a0n⟩ krf (sRK Tryd.fm ⟨[qq 1,qq 3],hq73 a0n (wi (1499 - (lenI (mI a0n.Kids))))⟩ krf (sS (sBi (fun j1=>⟨[qq 1,qq 3,(26,B j1)],hq73 a0n (wi (1499 - (lenI (mI a0n.Kids))))⟩:Bool→St) (sG (xR 4 krf (xS (!eqI a0n.Kind 1) (fun h2=>xN (want_ft krf h2) krf (xR 12 krf (xE (nqK true krf)))) (fun h2=>xO (want_ff krf h2) krf (xR 4 krf (xS (!eqS a0n.Name []) (fun h3=>xN (want_ft krf h3) krf (xR 7 krf (xE (nqK true krf)))) (fun h3=>xO (want_ff krf h3) krf (xR 4 krf (xS (!eqI a0n.N 0) (fun h4=>xN (want_ft krf h4) krf (xR 2 krf (xE (nqK true krf)))) (fun h4=>xO (want_ff krf h4) krf (xR 2 krf (xE (nqK (ltI (wi (1499 - (lenI (mI a0n.Kids)))) 0) krf))))))))))))) ?_)))
 rintro j1
 refine sC j1 krf (sRK Tryd.fm ⟨[(2,B false)],[]⟩ krf (sT (sq_r (qR (.id) krf krf krf)))) (sK (sNK ⟨[qq 1,qq 3],hq73 a0n (wi (1499 - (lenI (mI a0n.Kids))))⟩ krf (sS (sRK Tryd.fm ⟨tq78 a0n 0,[(3,(bq27 (wi (1499 - (lenI (mI a0n.Kids))))))]⟩ krf (sB (sim_loop (fun (l5_1,l5_2)=>⟨tq78 a0n l5_1,[(3, .box 3 [I l5_2])]⟩:(Int × Int)→St) (wsK krf) ?_))))))
 rintro recl5 ⟨l5_1,l5_2⟩
 show SimE (g_p_Valid_l5 n a0n recl5 l5_1 l5_2) _ _ _ _ _ _
 unfold g_p_Valid_l5
 refine sRK Tryd.fm ⟨[qq 3,(28, .p (.sl 5 (mI a0n.Kids))),(29,I (lenI (mI a0n.Kids))),(30,I l5_1),(31,B (ltI l5_1 (lenI (mI a0n.Kids))))],[(3, .box 3 [I l5_2])]⟩ krf (sS (sC (ltI l5_1 (lenI (mI a0n.Kids))) krf (sK (sNK ⟨tq78 a0n l5_1,[(3, .box 3 [I l5_2])]⟩ krf (sS (sB (sS (sG (xG krf krf (aop_idxR (e:=25) (S:=5) (enc:=GN.cs) (dec:=GN.of) (l:=a0n.Kids) (k:=.i64) (n:=l5_1) (sv:=.p (.sl 5 (mI a0n.Kids))) GN.of_cs rfl krf krf krf krf krf) (fun x6=>xR 3 krf (xE (sNK ⟨[qq 3,qq 5,(28, .p (.sl 5 (mI a0n.Kids))),(29,I (lenI (mI a0n.Kids))),(30,I l5_1)],[(3, .box 3 [I l5_2]),(5,bGN25 x6)]⟩ krf (sS (sG (xR 1 krf ?_))))))))))))) (sim_exit (sq_x (kq_x (bq_hit (sNK ⟨[],[]⟩ krf (sRK Tryd.fm ⟨[(2,B true)],[]⟩ krf (sT (qR (.id) krf krf krf))))))))))
 refine xs_heap [(1001,3)] [] [] krf (g_p_validItem_ok n x6 l5_2) krf krf krf kff kff (fun r7=>?_)
 exact xR 1 krf (xE (sNK ⟨[qq 3,(28, .p (.sl 5 (mI a0n.Kids))),(29,I (lenI (mI a0n.Kids))),(30,I l5_1),(36,B (!r7.1))],[(3, .box 3 [I r7.2])]⟩ krf (sC (!r7.1) krf (sRK Tryd.fm ⟨[(2,B false)],[]⟩ krf (sT (bq_r (sq_r (kq_r (bq_r (sq_r (qR (.id) krf krf krf)))))))) (sK (bq_n (sNK ⟨tq78 a0n l5_1,[(3, .box 3 [I r7.2])]⟩ krf (sL Tryd.fm krf (kqK (wi (l5_1+1),r7.2) krf))))))))
def g_law02_head (n:Nat):Option Bool :=
 (g_p_Parse n [111,119,110,101,114,32,111,59,32,99,97,98,108,101,32,99,32,102,114,111,109,32,102,32,108,105,109,105,116,32,51,50,59]).bind fun r1 =>
 (g_p_Parse n [116,97,114,105,102,102,32,116,32,123,32,101,110,101,114,103,121,32,51,48,32,111,110,32,119,111,114,107,59,32,99,97,112,32,53,48,48,59,32,125]).bind fun r2 =>
 (cond (ltI 0 (wi ((lenI (List.map GDg.cs r1.2))+(lenI (List.map GDg.cs r2.2)))))
  (some true)
  (cond (!eqI (lenI (List.map idc r1.1.Kids)) 2)
   (some true)
   ((Option.bind (getI r1.1.Kids 1) GN.of).bind fun x6 =>
   cond (!eqI (lenI (List.map idc x6.Kids)) 2)
    (some true)
    (cond (!eqI (lenI (List.map idc r2.1.Kids)) 1)
     (some true)
     ((Option.bind (getI r2.1.Kids 0) GN.of).bind fun x9 =>
     cond (!eqI (lenI (List.map idc x9.Kids)) 2)
      (some true)
      ((Option.bind (getI r2.1.Kids 0) GN.of).bind fun x11 =>
      (Option.bind (getI x11.Kids 0) GN.of).bind fun x12 =>
      some (!eqI (lenI (List.map idc x12.Kids)) 3))))))).bind fun j3 =>
 cond j3
  (some false)
  ((Option.bind (getI r1.1.Kids 1) GN.of).bind fun x13 =>
  (Option.bind (getI r2.1.Kids 0) GN.of).bind fun x14 =>
  (Option.bind (getI x14.Kids 0) GN.of).bind fun x15 =>
  (cond (eqI x13.Kind 2)
   (cond (eqS x13.Name [99])
    (cond (eqI x13.N 2)
     (cond (eqI x13.At 9)
      ((Option.bind (getI x13.Kids 0) GN.of).bind fun x21 =>
      cond (eqI x21.At 17)
       ((Option.bind (getI x13.Kids 1) GN.of).bind fun x23 =>
       cond (eqI x23.At 24)
        ((Option.bind (getI x13.Kids 1) GN.of).bind fun x25 =>
        some (eqS x25.Name [108,105,109,105,116]))
        (some false))
       (some false))
      (some false))
     (some false))
    (some false))
   (some false)).bind fun j16 =>
  (cond j16
   ((Option.bind (getI x13.Kids 0) GN.of).bind fun x28 =>
   (g_p_Strip n x28).bind fun r29 =>
   (g_ref02_Same n r29 (⟨3,[102,114,111,109],0,0,[GN.cs (⟨5,[102],0,0,[]⟩:GN)]⟩:GN)).bind fun r30 =>
   cond r30
    (cond (eqI x15.Kind 4)
     ((Option.bind (getI x15.Kids 0) GN.of).bind fun x33 =>
     cond (eqI x33.N 30)
      ((Option.bind (getI x15.Kids 2) GN.of).bind fun x35 =>
      some (eqS x35.Name [119,111,114,107]))
      (some false))
     (some false))
    (some false))
   (some false)).bind fun j26 =>
  (cond j26
   ((g_law02_gives n [111,119,110,101,114,59,32,98,97,121,32,98,32,99,104,97,114,103,101,114] [5,20]).bind fun r38 =>
   cond r38
    ((g_law02_gives n [116,97,114,105,102,102,32,116,32,123,32,120,32,51,59,32,99,97,112,32,53,59,32,125,32,111,119,110,101,114,32,111] [11,32]).bind fun r40 =>
    cond r40
     ((g_p_Valid n r1.1).bind fun r42 =>
     cond r42
      ((g_p_Valid n r2.1).bind fun r44 =>
      cond r44
       ((g_p_Valid n x13).bind fun r46 =>
       some (!r46))
       (some false))
      (some false))
     (some false))
    (some false))
   (some false)).bind fun j36 =>
  some j36)
def hq74:=fun x0 x1=>([(1, .box 25 (bxc (GN.cs x0))),(3, .box 25 (bxc (GN.cs x1)))]:List (Nat × Blk))
def hq75:=fun x0 x1 x2 x3=>([(1, .box 25 (bxc (GN.cs x0))),(3, .box 25 (bxc (GN.cs x1))),(5, .box 25 (bxc (GN.cs x2))),(6, .box 25 (bxc (GN.cs x3)))]:List (Nat × Blk))
theorem g_law02_head_ok (n:Nat):∀ r,g_law02_head n=some r→PCall Tryd.prog 7 [] (.ret (B r)):=by
 refine pcall_sim Tryd.func7 rfl Tryd.ntmps7 rfl ?_
 unfold g_law02_head
 refine sRK Tryd.fm ⟨[],[]⟩ krf (sS (sG ?_))
 refine xC [] krf (g_p_Parse_ok n [111,119,110,101,114,32,111,59,32,99,97,98,108,101,32,99,32,102,114,111,109,32,102,32,108,105,109,105,116,32,51,50,59]) krf krf kff (fun r1=>?_)
 refine xR 6 krf (xE (sNK ⟨[qq 1,(2, .p (.sl 2 (mDg r1.2)))],hq60 r1.1⟩ krf (sS (sG ?_))))
 refine xC [] krf (g_p_Parse_ok n [116,97,114,105,102,102,32,116,32,123,32,101,110,101,114,103,121,32,51,48,32,111,110,32,119,111,114,107,59,32,99,97,112,32,53,48,48,59,32,125]) krf krf kff (fun r2=>?_)
 refine xR 6 krf (xE (sNK ⟨[qq 1,(2, .p (.sl 2 (mDg r1.2))),qq 3,(4, .p (.sl 2 (mDg r2.2)))],hq74 r1.1 r2.1⟩ krf (sS (sBi (fun j3=>⟨[qq 1,qq 3,(63,B j3)],hq74 r1.1 r2.1⟩:Bool→St) (sG (xR 7 krf (xS (ltI 0 (wi ((lenI (mDg r1.2))+(lenI (mDg r2.2))))) (fun h4=>xN (want_ft krf h4) krf (xR 40 krf (xE (nqK true krf)))) (fun h4=>xO (want_ff krf h4) krf (xR 5 krf (xS (!eqI (lenI (mI r1.1.Kids)) 2) (fun h5=>xN (want_ft krf h5) krf (xR 34 krf (xE (nqK true krf)))) (fun h5=>xO (want_ff krf h5) krf (xR 1 krf (xG krf krf (aop_idxR (e:=25) (S:=5) (enc:=GN.cs) (dec:=GN.of) (l:=r1.1.Kids) (k:=.i64) (n:=1) (sv:=.p (.sl 5 (mI r1.1.Kids))) GN.of_cs rfl krf krf krf krf krf) (fun x6=>xR 6 krf (xS (!eqI (lenI (mI x6.Kids)) 2) (fun h7=>xN (want_ft krf h7) krf (xR 25 krf (xE (nqK true krf)))) (fun h7=>xO (want_ff krf h7) krf (xR 5 krf (xS (!eqI (lenI (mI r2.1.Kids)) 1) (fun h8=>xN (want_ft krf h8) krf (xR 19 krf (xE (nqK true krf)))) (fun h8=>xO (want_ff krf h8) krf (xR 1 krf (xG krf krf (aop_idxR (e:=25) (S:=5) (enc:=GN.cs) (dec:=GN.of) (l:=r2.1.Kids) (k:=.i64) (n:=0) (sv:=.p (.sl 5 (mI r2.1.Kids))) GN.of_cs rfl krf krf krf krf krf) (fun x9=>xR 6 krf (xS (!eqI (lenI (mI x9.Kids)) 2) (fun h10=>xN (want_ft krf h10) krf (xR 10 krf (xE (nqK true krf)))) (fun h10=>xO (want_ff krf h10) krf (xR 1 krf (xG krf krf (aop_idxR (e:=25) (S:=5) (enc:=GN.cs) (dec:=GN.of) (l:=r2.1.Kids) (k:=.i64) (n:=0) (sv:=.p (.sl 5 (mI r2.1.Kids))) GN.of_cs rfl krf krf krf krf krf) (fun x11=>xR 2 krf (xG krf krf (aop_idxR (e:=25) (S:=5) (enc:=GN.cs) (dec:=GN.of) (l:=x11.Kids) (k:=.i64) (n:=0) (sv:=.p (.sl 5 (mI x11.Kids))) GN.of_cs rfl krf krf krf krf krf) (fun x12=>xR 5 krf (xE (nqK (!eqI (lenI (mI x12.Kids)) 3) krf))))))))))))))))))))))))))) ?_))))
 rintro j3
 refine sC j3 krf (sRK Tryd.fm ⟨[(0,B false)],[]⟩ krf (sT (sq_r (qR (.id) krf krf krf)))) (sK (sNK ⟨[qq 1,qq 3],hq74 r1.1 r2.1⟩ krf (sS (sDr Tryd.fm rfl (xR 2 krf (xG krf krf (aop_idxR (e:=25) (S:=5) (enc:=GN.cs) (dec:=GN.of) (l:=r1.1.Kids) (k:=.i64) (n:=1) (sv:=.p (.sl 5 (mI r1.1.Kids))) GN.of_cs rfl krf krf krf krf krf) (fun x13=>xR 3 krf (xG krf krf (aop_idxR (e:=25) (S:=5) (enc:=GN.cs) (dec:=GN.of) (l:=r2.1.Kids) (k:=.i64) (n:=0) (sv:=.p (.sl 5 (mI r2.1.Kids))) GN.of_cs rfl krf krf krf krf krf) (fun x14=>xR 2 krf (xG krf krf (aop_idxR (e:=25) (S:=5) (enc:=GN.cs) (dec:=GN.of) (l:=x14.Kids) (k:=.i64) (n:=0) (sv:=.p (.sl 5 (mI x14.Kids))) GN.of_cs rfl krf krf krf krf krf) (fun x15=>xR 5 krf (xED krf (sNK ⟨[qq 1,qq 3,qq 5,qq 6],hq75 r1.1 r2.1 x13 x15⟩ krf (sBi (fun j16=>⟨[qq 1,qq 3,qq 5,qq 6,(7,B j16)],hq75 r1.1 r2.1 x13 x15⟩:Bool→St) ?_ ?_))))))))))))))
 ·exact sG (xR 4 krf (xS (eqI x13.Kind 2) (fun h17=>xO (want_tt krf h17) krf (xR 4 krf (xS (eqS x13.Name [99]) (fun h18=>xO (want_tt krf h18) krf (xR 4 krf (xS (eqI x13.N 2) (fun h19=>xO (want_tt krf h19) krf (xR 4 krf (xS (eqI x13.At 9) (fun h20=>xO (want_tt krf h20) krf (xR 1 krf (xG krf krf (aop_idxR (e:=25) (S:=5) (enc:=GN.cs) (dec:=GN.of) (l:=x13.Kids) (k:=.i64) (n:=0) (sv:=.p (.sl 5 (mI x13.Kids))) GN.of_cs rfl krf krf krf krf krf) (fun x21=>xR 5 krf (xS (eqI x21.At 17) (fun h22=>xO (want_tt krf h22) krf (xR 1 krf (xG krf krf (aop_idxR (e:=25) (S:=5) (enc:=GN.cs) (dec:=GN.of) (l:=x13.Kids) (k:=.i64) (n:=1) (sv:=.p (.sl 5 (mI x13.Kids))) GN.of_cs rfl krf krf krf krf krf) (fun x23=>xR 5 krf (xS (eqI x23.At 24) (fun h24=>xO (want_tt krf h24) krf (xR 1 krf (xG krf krf (aop_idxR (e:=25) (S:=5) (enc:=GN.cs) (dec:=GN.of) (l:=x13.Kids) (k:=.i64) (n:=1) (sv:=.p (.sl 5 (mI x13.Kids))) GN.of_cs rfl krf krf krf krf krf) (fun x25=>xR 5 krf (xE (nqK (eqS x25.Name [108,105,109,105,116]) krf)))))) (fun h24=>xN (want_tf krf h24) krf (xR 7 krf (xE (nqK false krf))))))))) (fun h22=>xN (want_tf krf h22) krf (xR 15 krf (xE (nqK false krf))))))))) (fun h20=>xN (want_tf krf h20) krf (xR 23 krf (xE (nqK false krf))))))) (fun h19=>xN (want_tf krf h19) krf (xR 28 krf (xE (nqK false krf))))))) (fun h18=>xN (want_tf krf h18) krf (xR 33 krf (xE (nqK false krf))))))) (fun h17=>xN (want_tf krf h17) krf (xR 38 krf (xE (nqK false krf))))))
 rintro j16
 refine sBi (fun j26=>⟨[qq 1,qq 3,qq 5,(7,B j26)],[(1,bGN25 r1.1),(3,bGN25 r2.1),(5,bGN25 x13)]⟩:Bool→St) ?_ ?_
 ·refine sG (xR 2 krf (xS j16 (fun h27=>xO (want_tt krf h27) krf (xR 1 krf (xG krf krf (aop_idxR (e:=25) (S:=5) (enc:=GN.cs) (dec:=GN.of) (l:=x13.Kids) (k:=.i64) (n:=0) (sv:=.p (.sl 5 (mI x13.Kids))) GN.of_cs rfl krf krf krf krf krf) (fun x28=>xR 1 krf ?_)))) (fun h27=>xN (want_tf krf h27) krf (xR 31 krf (xE (nqK false krf))))))
  refine xC [] krf (g_p_Strip_ok n x28) krf krf kff (fun r29=>?_)
  refine xR 3 krf ?_
  refine xC [.id, .agg [.id, .id, .id, .id, .sl 5]] krf (g_ref02_Same_ok n r29 (⟨3,[102,114,111,109],0,0,[GN.cs (⟨5,[102],0,0,[]⟩:GN)]⟩:GN)) krf krf kff (fun r30=>?_)
  exact xR 2 krf (xS r30 (fun h31=>xO (want_tt krf h31) krf (xR 4 krf (xS (eqI x15.Kind 4) (fun h32=>xO (want_tt krf h32) krf (xR 1 krf (xG krf krf (aop_idxR (e:=25) (S:=5) (enc:=GN.cs) (dec:=GN.of) (l:=x15.Kids) (k:=.i64) (n:=0) (sv:=.p (.sl 5 (mI x15.Kids))) GN.of_cs rfl krf krf krf krf krf) (fun x33=>xR 5 krf (xS (eqI x33.N 30) (fun h34=>xO (want_tt krf h34) krf (xR 1 krf (xG krf krf (aop_idxR (e:=25) (S:=5) (enc:=GN.cs) (dec:=GN.of) (l:=x15.Kids) (k:=.i64) (n:=2) (sv:=.p (.sl 5 (mI x15.Kids))) GN.of_cs rfl krf krf krf krf krf) (fun x35=>xR 5 krf (xE (nqK (eqS x35.Name [119,111,114,107]) krf)))))) (fun h34=>xN (want_tf krf h34) krf (xR 7 krf (xE (nqK false krf))))))))) (fun h32=>xN (want_tf krf h32) krf (xR 15 krf (xE (nqK false krf))))))) (fun h31=>xN (want_tf krf h31) krf (xR 20 krf (xE (nqK false krf)))))
 rintro j26
 refine sBi (fun j36=>⟨[(0,B j36)],[]⟩:Bool→St) ?_ ?_
 rotate_left
 ·rintro j36
  exact sT (qR (.id) krf krf krf)
 refine sG (xR 2 krf (xS j26 (fun h37=>xO (want_tt krf h37) krf ?_) (fun h37=>xN (want_tf krf h37) krf (xR 20 krf (xE (nqK false krf))))))
 refine xC [.id, .sl 1] krf (g_law02_gives_ok n [111,119,110,101,114,59,32,98,97,121,32,98,32,99,104,97,114,103,101,114] [5,20]) krf krf kff (fun r38=>?_)
 refine xR 2 krf (xS r38 (fun h39=>xO (want_tt krf h39) krf ?_) (fun h39=>xN (want_tf krf h39) krf (xR 16 krf (xE (nqK false krf)))))
 refine xC [.id, .sl 1] krf (g_law02_gives_ok n [116,97,114,105,102,102,32,116,32,123,32,120,32,51,59,32,99,97,112,32,53,59,32,125,32,111,119,110,101,114,32,111] [11,32]) krf krf kff (fun r40=>?_)
 refine xR 2 krf (xS r40 (fun h41=>xO (want_tt krf h41) krf ?_) (fun h41=>xN (want_tf krf h41) krf (xR 12 krf (xE (nqK false krf)))))
 refine xC [] krf (g_p_Valid_ok n r1.1) krf krf kff (fun r42=>?_)
 refine xR 2 krf (xS r42 (fun h43=>?_) (fun h43=>?_))
 ·refine xO (want_tt krf h43) krf ?_
  refine xC [] krf (g_p_Valid_ok n r2.1) krf krf kff (fun r44=>?_)
  refine xR 2 krf (xS r44 (fun h45=>?_) (fun h45=>?_))
  ·refine xO (want_tt krf h45) krf ?_
   refine xC [] krf (g_p_Valid_ok n x13) krf krf kff (fun r46=>?_)
   exact xR 3 krf (xE (nqK (!r46) krf))
  exact xN (want_tf krf h45) krf (xR 4 krf (xE (nqK false krf)))
 exact xN (want_tf krf h43) krf (xR 8 krf (xE (nqK false krf)))
def g_ref02_Count_l1 (a0n:GN) (a1most:Int) (rf_ref02_Count:GN→Int→Option Int) (recl1:(Int × Int)→Option Int) (l1_1:Int) (l1_2:Int):Option Int :=
 (cond (ltI l1_2 (lenI (List.map idc a0n.Kids)))
  (some (leI l1_1 a1most))
  (some false)).bind fun j2 =>
 cond j2
  ((Option.bind (getI a0n.Kids l1_2) GN.of).bind fun x4 =>
  (rf_ref02_Count x4 (wi (a1most - l1_1))).bind fun r5 =>
  recl1 (wi (l1_1+r5),wi (l1_2+1)))
  (some l1_1)
def g_ref02_Count_body (n:Nat) (rf_ref02_Count:GN→Int→Option Int) (a0n:GN) (a1most:Int):Option Int :=
 loopN (fun recl1 (l1_1,l1_2)=>g_ref02_Count_l1 a0n a1most rf_ref02_Count recl1 l1_1 l1_2) n (1,0)
def g_ref02_Count:Nat→GN→Int→Option Int
 | 0,_,_=>none
 | n+1,a0n,a1most=>g_ref02_Count_body n (g_ref02_Count n) a0n a1most
def hq76:=fun x0=>([(2, .box 25 (bxc x0))]:List (Nat × Blk))
def sq29:=fun x0 x1=>(⟨[(1,I x0),(2, .ptr 2 0)],hq76 x1⟩:St)
def tq79:=fun x0 x1 x2=>([(1,I x0),(2, .ptr 2 0),(5,I x1),(6,I x2)]:List (Nat × AV))
theorem g_ref02_Count_ok (n:Nat) (a0n:GN) (a1most:Int):∀ r,g_ref02_Count n a0n a1most=some r→PCall Tryd.prog 35 [ag (GN.csu a0n),I a1most] (.ret (I r)):=by
 induction n generalizing a0n a1most with
 | zero=>intro r hr; cases (show (none:Option Int)=some r from hr)
 | succ n ih =>
 show ∀ r,g_ref02_Count_body n (g_ref02_Count n) a0n a1most=some r→_
 generalize g_ref02_Count n=rf_ref02_Count at ih ⊢
 refine pcall_sim Tryd.func35 rfl Tryd.ntmps35 rfl ?_
 unfold g_ref02_Count_body
 refine sRK Tryd.fm (sq29 a1most (GN.csu a0n)) krf (sRK Tryd.fm ⟨tq51 a1most 1,hq76 (GN.csu a0n)⟩ krf (sS (sRK Tryd.fm ⟨tq79 a1most 1 0,hq76 (GN.csu a0n)⟩ krf (sB (sim_loop (fun (l1_1,l1_2)=>⟨tq79 a1most l1_1 l1_2,hq76 (GN.csu a0n)⟩:(Int × Int)→St) (wsK krf) ?_)))))
 rintro recl1 ⟨l1_1,l1_2⟩
 show SimE (g_ref02_Count_l1 a0n a1most rf_ref02_Count recl1 l1_1 l1_2) _ _ _ _ _ _
 unfold g_ref02_Count_l1
 refine sS (sBi (fun j2=>⟨[(1,I a1most),qq 2,(5,I l1_1),(6,I l1_2),(16,B j2)],hq76 (GN.csu a0n)⟩:Bool→St) (sG (xR 6 krf (xS (ltI l1_2 (lenI (mI a0n.Kids))) (fun h3=>xO (want_tt krf h3) krf (xR 3 krf (xE (nqK (leI l1_1 a1most) krf)))) (fun h3=>xN (want_tf krf h3) krf (xR 3 krf (xE (nqK false krf))))))) ?_)
 rintro j2
 refine sC j2 krf ?_ ?_
 ·refine sK (sNK ⟨tq79 a1most l1_1 l1_2,hq76 (GN.csu a0n)⟩ krf (sS (sB (sG (xR 4 krf (xG krf krf (aop_idxU (e:=25) (S:=5) (enc:=GN.csu) (dec:=GN.of) (l:=a0n.Kids) (k:=.i64) (n:=l1_2) (sv:=.p (.slu 5 (mI a0n.Kids))) GN.of_csu rfl krf krf krf krf krf) (fun x4=>xR 4 krf ?_)))))))
  refine xC [] krf (ih x4 (wi (a1most - l1_1))) krf krf kff (fun r5=>?_)
  exact xR 2 krf (xE (bq_n (sNK ⟨tq79 a1most (wi (l1_1+r5)) l1_2,hq76 (GN.csu a0n)⟩ krf (sL Tryd.fm krf (kqK (wi (l1_1+r5),wi (l1_2+1)) krf)))))
 exact sim_exit (sq_x (kq_x (bq_hit (sNK ⟨[(5,I l1_1)],[]⟩ krf (sRK Tryd.fm ⟨[(4,I l1_1)],[]⟩ krf (sT (qR (.id) krf krf krf)))))))
def g_ref02_names_l3 (a0n:GN) (a1depth:Int) (rf_ref02_names:GN→Int→Option Bool) (recl3:Int→Option Bool) (l3:Int):Option Bool :=
 cond (ltI l3 (lenI (List.map idc a0n.Kids)))
  ((Option.bind (getI a0n.Kids l3) GN.of).bind fun x4 =>
  (rf_ref02_names x4 (wi (a1depth - 1))).bind fun r5 =>
  cond (!r5)
   (some false)
   (recl3 (wi (l3+1))))
  (some true)
def g_ref02_names_body (n:Nat) (rf_ref02_names:GN→Int→Option Bool) (a0n:GN) (a1depth:Int):Option Bool :=
 (cond (eqI a1depth 0)
  (some true)
  (some (ltI 40 (lenI a0n.Name)))).bind fun j1 =>
 cond j1
  (some false)
  (loopN (fun recl3 l3=>g_ref02_names_l3 a0n a1depth rf_ref02_names recl3 l3) n 0)
def g_ref02_names:Nat→GN→Int→Option Bool
 | 0,_,_=>none
 | n+1,a0n,a1depth=>g_ref02_names_body n (g_ref02_names n) a0n a1depth
theorem g_ref02_names_ok (n:Nat) (a0n:GN) (a1depth:Int):∀ r,g_ref02_names n a0n a1depth=some r→PCall Tryd.prog 36 [ag (GN.csu a0n),I a1depth] (.ret (B r)):=by
 induction n generalizing a0n a1depth with
 | zero=>intro r hr; cases (show (none:Option Bool)=some r from hr)
 | succ n ih =>
 show ∀ r,g_ref02_names_body n (g_ref02_names n) a0n a1depth=some r→_
 generalize g_ref02_names n=rf_ref02_names at ih ⊢
 refine pcall_sim Tryd.func36 rfl Tryd.ntmps36 rfl ?_
 unfold g_ref02_names_body
 refine sRK Tryd.fm (sq29 a1depth (GN.csu a0n)) krf (sS (sBi (fun j1=>⟨[(1,I a1depth),qq 2,(13,B j1)],hq76 (GN.csu a0n)⟩:Bool→St) (sG (xR 3 krf (xS (eqI a1depth 0) (fun h2=>xN (want_ft krf h2) krf (xR 4 krf (xE (nqK true krf)))) (fun h2=>xO (want_ff krf h2) krf (xR 4 krf (xE (nqK (ltI 40 (lenI a0n.Name)) krf))))))) ?_))
 rintro j1
 refine sC j1 krf (sRK Tryd.fm ⟨[(4,B false)],[]⟩ krf (sT (sq_r (qR (.id) krf krf krf)))) (sK (sNK (sq29 a1depth (GN.csu a0n)) krf (sS (sRK Tryd.fm ⟨tq51 a1depth 0,hq76 (GN.csu a0n)⟩ krf (sB (sim_loop (fun l3=>⟨tq51 a1depth l3,hq76 (GN.csu a0n)⟩:Int→St) (wsK krf) ?_))))))
 rintro recl3 l3
 show SimE (g_ref02_names_l3 a0n a1depth rf_ref02_names recl3 l3) _ _ _ _ _ _
 unfold g_ref02_names_l3
 refine sS (sRK Tryd.fm ⟨[(1,I a1depth),qq 2,(5,I l3),(18,B (ltI l3 (lenI (mI a0n.Kids))))],hq76 (GN.csu a0n)⟩ krf (sC (ltI l3 (lenI (mI a0n.Kids))) krf (sK (sNK ⟨tq51 a1depth l3,hq76 (GN.csu a0n)⟩ krf (sS (sB (sS (sG (xR 3 krf (xG krf krf (aop_idxU (e:=25) (S:=5) (enc:=GN.csu) (dec:=GN.of) (l:=a0n.Kids) (k:=.i64) (n:=l3) (sv:=.p (.slu 5 (mI a0n.Kids))) GN.of_csu rfl krf krf krf krf krf) (fun x4=>xR 3 krf ?_))))))))) (sim_exit (sq_x (kq_x (bq_hit (sNK ⟨[],[]⟩ krf (sRK Tryd.fm ⟨[(4,B true)],[]⟩ krf (sT (qR (.id) krf krf krf))))))))))
 refine xC [] krf (ih x4 (wi (a1depth - 1))) krf krf kff (fun r5=>?_)
 exact xR 1 krf (xE (sNK ⟨[(1,I a1depth),qq 2,(5,I l3),(29,B (!r5))],hq76 (GN.csu a0n)⟩ krf (sC (!r5) krf (sRK Tryd.fm ⟨[(4,B false)],[]⟩ krf (sT (bq_r (sq_r (kq_r (bq_r (sq_r (qR (.id) krf krf krf)))))))) (sK (bq_n (sNK ⟨tq51 a1depth l3,hq76 (GN.csu a0n)⟩ krf (sL Tryd.fm krf (kqK (wi (l3+1)) krf))))))))
def g_ref02_Few (n:Nat) (a0n:GN) (a1most:Int):Option Bool :=
 (g_ref02_Count n a0n a1most).bind fun r1 =>
 cond (leI r1 a1most)
  ((g_ref02_names n a0n 50).bind fun r3 =>
  some r3)
  (some false)
theorem g_ref02_Few_ok (n:Nat) (a0n:GN) (a1most:Int):∀ r,g_ref02_Few n a0n a1most=some r→PCall Tryd.prog 16 [ag (GN.csu a0n),I a1most] (.ret (B r)):=by
 refine pcall_sim Tryd.func16 rfl Tryd.ntmps16 rfl ?_
 unfold g_ref02_Few
 refine sRK Tryd.fm (sq29 a1most (GN.csu a0n)) krf (sS (sG (xR 2 krf ?_)))
 refine xC [] krf (g_ref02_Count_ok n a0n a1most) krf krf kff (fun r1=>?_)
 refine xR 3 krf (xS (leI r1 a1most) (fun h2=>?_) (fun h2=>?_))
 ·refine xO (want_tt krf h2) krf ?_
  refine xC [] krf (g_ref02_names_ok n a0n 50) krf krf kff (fun r3=>?_)
  exact xR 2 krf (xE (sNK ⟨[(4,B r3)],[]⟩ krf (sT (qR (.id) krf krf krf))))
 exact xN (want_tf krf h2) krf (xR 3 krf (xE (sNK ⟨[(4,B false)],[]⟩ krf (sT (qR (.id) krf krf krf)))))
def g_ref02_Kinds (n:Nat):Option (List (List UInt8)) :=
 some [[102,101,101,100,101,114],[99,97,98,108,101],[111,119,110,101,114],[99,111,110,116,114,97,99,116],[99,104,97,114,103,101,114],[98,97,121],[116,97,114,105,102,102]]
theorem g_ref02_Kinds_ok (n:Nat):∀ r,g_ref02_Kinds n=some r→PCall Tryd.prog 26 [] (.ret (.p (.sl 1 (List.map cstr r)))):=by
 refine pcall_sim Tryd.func26 rfl Tryd.ntmps26 rfl ?_
 unfold g_ref02_Kinds
 exact sRK Tryd.fm ⟨[],[]⟩ krf (sRK Tryd.fm ⟨[(0, .tsl 1 (List.map cstr [[102,101,101,100,101,114],[99,97,98,108,101],[111,119,110,101,114],[99,111,110,116,114,97,99,116],[99,104,97,114,103,101,114],[98,97,121],[116,97,114,105,102,102]]) 1)],[(1, .arr 9 1 (List.map cstr [[102,101,101,100,101,114],[99,97,98,108,101],[111,119,110,101,114],[99,111,110,116,114,97,99,116],[99,104,97,114,103,101,114],[98,97,121],[116,97,114,105,102,102]]).length)]⟩ krf (sT (qR (.sl 1) krf krf krf)))
def g_ref02_In_l1 (a0l:List (List UInt8)) (a1s:List UInt8) (recl1:Int→Option Int) (l1:Int):Option Int :=
 cond (ltI l1 (lenI (List.map cstr a0l)))
  ((getI a0l l1).bind fun x2 =>
  cond (eqS x2 a1s)
   (some l1)
   (recl1 (wi (l1+1))))
  (some (-1))
def g_ref02_In (n:Nat) (a0l:List (List UInt8)) (a1s:List UInt8):Option Int :=
 loopN (fun recl1 l1=>g_ref02_In_l1 a0l a1s recl1 l1) n 0
def tq80:=fun x0 x1 x2=>([(0, .p (.sl 1 (List.map cstr x0))),(1,S x1),(5,I x2)]:List (Nat × AV))
theorem g_ref02_In_ok (n:Nat) (a0l:List (List UInt8)) (a1s:List UInt8):∀ r,g_ref02_In n a0l a1s=some r→PCall Tryd.prog 77 [.p (.sl 1 (List.map cstr a0l)),S a1s] (.ret (I r)):=by
 refine pcall_sim Tryd.func77 rfl Tryd.ntmps77 rfl ?_
 unfold g_ref02_In
 refine sRK Tryd.fm ⟨[(0, .p (.sl 1 (List.map cstr a0l))),(1,S a1s)],[]⟩ krf (sS (sRK Tryd.fm ⟨tq80 a0l a1s 0,[]⟩ krf (sB (sim_loop (fun l1=>⟨tq80 a0l a1s l1,[]⟩:Int→St) (wsK krf) ?_))))
 rintro recl1 l1
 show SimE (g_ref02_In_l1 a0l a1s recl1 l1) _ _ _ _ _ _
 unfold g_ref02_In_l1
 exact sS (sRK Tryd.fm ⟨[(0, .p (.sl 1 (List.map cstr a0l))),(1,S a1s),(5,I l1),(9,B (ltI l1 (lenI (List.map cstr a0l))))],[]⟩ krf (sC (ltI l1 (lenI (List.map cstr a0l))) krf (sK (sNK ⟨tq80 a0l a1s l1,[]⟩ krf (sS (sB (sS (sG (xR 2 krf (xG krf krf (aop_idx (e:=9) (S:=1) (enc:=cstr) (l:=a0l) (k:=.i64) (n:=l1) (sv:=.p (.sl 1 (List.map cstr a0l))) rfl krf krf krf krf krf) (fun x2=>xR 3 krf (xE (sNK ⟨[(0, .p (.sl 1 (List.map cstr a0l))),(1,S a1s),(5,I l1),(17,B (eqS x2 a1s))],[]⟩ krf (sC (eqS x2 a1s) krf (sRK Tryd.fm ⟨[(4,I l1)],[]⟩ krf (sT (bq_r (sq_r (kq_r (bq_r (sq_r (qR (.id) krf krf krf)))))))) (sK (bq_n (sNK ⟨tq80 a0l a1s l1,[]⟩ krf (sL Tryd.fm krf (kqK (wi (l1+1)) krf))))))))))))))))) (sim_exit (sq_x (kq_x (bq_hit (sNK ⟨[],[]⟩ krf (sRK Tryd.fm ⟨[(4,I (-1))],[]⟩ krf (sT (qR (.id) krf krf krf))))))))))
def g_ref02_Attrs (n:Nat):Option (List (List UInt8)) :=
 some [[108,105,109,105,116],[110,101,117,116,114,97,108],[102,117,115,101],[116,104,101,114,109,97,108],[102,114,111,109],[97,116],[112,104,97,115,101,115],[97,109,112,115],[102,97,108,108,98,97,99,107],[111,119,110,101,114],[99,97,114,100],[114,97,110,107],[99,104,97,114,103,101,114]]
theorem g_ref02_Attrs_ok (n:Nat):∀ r,g_ref02_Attrs n=some r→PCall Tryd.prog 78 [] (.ret (.p (.sl 1 (List.map cstr r)))):=by
 refine pcall_sim Tryd.func78 rfl Tryd.ntmps78 rfl ?_
 unfold g_ref02_Attrs
 exact sRK Tryd.fm ⟨[],[]⟩ krf (sRK Tryd.fm ⟨[(0, .tsl 1 (List.map cstr [[108,105,109,105,116],[110,101,117,116,114,97,108],[102,117,115,101],[116,104,101,114,109,97,108],[102,114,111,109],[97,116],[112,104,97,115,101,115],[97,109,112,115],[102,97,108,108,98,97,99,107],[111,119,110,101,114],[99,97,114,100],[114,97,110,107],[99,104,97,114,103,101,114]]) 1)],[(1, .arr 9 1 (List.map cstr [[108,105,109,105,116],[110,101,117,116,114,97,108],[102,117,115,101],[116,104,101,114,109,97,108],[102,114,111,109],[97,116],[112,104,97,115,101,115],[97,109,112,115],[102,97,108,108,98,97,99,107],[111,119,110,101,114],[99,97,114,100],[114,97,110,107],[99,104,97,114,103,101,114]]).length)]⟩ krf (sT (qR (.sl 1) krf krf krf)))
def g_ref02_Articles (n:Nat):Option (List (List UInt8)) :=
 some [[115,116,97,114,116],[101,110,101,114,103,121],[116,105,109,101],[105,100,108,101],[99,97,112],[116,97,120]]
theorem g_ref02_Articles_ok (n:Nat):∀ r,g_ref02_Articles n=some r→PCall Tryd.prog 79 [] (.ret (.p (.sl 1 (List.map cstr r)))):=by
 refine pcall_sim Tryd.func79 rfl Tryd.ntmps79 rfl ?_
 unfold g_ref02_Articles
 exact sRK Tryd.fm ⟨[],[]⟩ krf (sRK Tryd.fm ⟨[(0, .tsl 1 (List.map cstr [[115,116,97,114,116],[101,110,101,114,103,121],[116,105,109,101],[105,100,108,101],[99,97,112],[116,97,120]]) 1)],[(1, .arr 9 1 (List.map cstr [[115,116,97,114,116],[101,110,101,114,103,121],[116,105,109,101],[105,100,108,101],[99,97,112],[116,97,120]]).length)]⟩ krf (sT (qR (.sl 1) krf krf krf)))
def g_ref02_Words (n:Nat):Option (List (List UInt8)) :=
 some [[111,110],[119,111,114,107],[115,97,116,117,114,100,97,121],[115,117,110,100,97,121],[98,101,116,119,101,101,110],[112,101,114],[102,114,101,101]]
theorem g_ref02_Words_ok (n:Nat):∀ r,g_ref02_Words n=some r→PCall Tryd.prog 80 [] (.ret (.p (.sl 1 (List.map cstr r)))):=by
 refine pcall_sim Tryd.func80 rfl Tryd.ntmps80 rfl ?_
 unfold g_ref02_Words
 exact sRK Tryd.fm ⟨[],[]⟩ krf (sRK Tryd.fm ⟨[(0, .tsl 1 (List.map cstr [[111,110],[119,111,114,107],[115,97,116,117,114,100,97,121],[115,117,110,100,97,121],[98,101,116,119,101,101,110],[112,101,114],[102,114,101,101]]) 1)],[(1, .arr 9 1 (List.map cstr [[111,110],[119,111,114,107],[115,97,116,117,114,100,97,121],[115,117,110,100,97,121],[98,101,116,119,101,101,110],[112,101,114],[102,114,101,101]]).length)]⟩ krf (sT (qR (.sl 1) krf krf krf)))
def g_ref02_Name_j1 (n:Nat) (a0s:List UInt8):Option Bool :=
 ((g_ref02_Kinds n).bind fun r3 =>
 (g_ref02_In n r3 a0s).bind fun r4 =>
 cond (leI 0 r4)
  (some true)
  ((g_ref02_Attrs n).bind fun r6 =>
  (g_ref02_In n r6 a0s).bind fun r7 =>
  cond (leI 0 r7)
   (some true)
   ((g_ref02_Articles n).bind fun r9 =>
   (g_ref02_In n r9 a0s).bind fun r10 =>
   cond (leI 0 r10)
    (some true)
    ((g_ref02_Words n).bind fun r12 =>
    (g_ref02_In n r12 a0s).bind fun r13 =>
    some (leI 0 r13))))).bind fun j2 =>
 cond (leI 1 (lenI a0s))
  (cond (leI (lenI a0s) 12)
   (some (!j2))
   (some false))
  (some false)
def g_ref02_Name_l16 (n:Nat) (a0s:List UInt8) (recl16:Int→Option Bool) (l16:Int):Option Bool :=
 cond (ltI l16 (lenI a0s))
  ((getI a0s l16).bind fun x17 =>
  (cond (ltI (b2i x17) 97)
   (cond (eqI l16 0)
    (some true)
    (cond (ltI (b2i x17) 48)
     (some (!eqI (b2i x17) 95))
     (cond (ltI 57 (b2i x17))
      (some (!eqI (b2i x17) 95))
      (some false))))
   (cond (ltI 122 (b2i x17))
    (cond (eqI l16 0)
     (some true)
     (cond (ltI (b2i x17) 48)
      (some (!eqI (b2i x17) 95))
      (cond (ltI 57 (b2i x17))
       (some (!eqI (b2i x17) 95))
       (some false))))
    (some false))).bind fun j18 =>
  cond j18
   (some false)
   (recl16 (wi (l16+1))))
  (g_ref02_Name_j1 n a0s)
def g_ref02_Name (n:Nat) (a0s:List UInt8):Option Bool :=
 loopN (fun recl16 l16=>g_ref02_Name_l16 n a0s recl16 l16) n 0
theorem g_ref02_Name_ok (n:Nat) (a0s:List UInt8):∀ r,g_ref02_Name n a0s=some r→PCall Tryd.prog 52 [S a0s] (.ret (B r)):=by
 refine pcall_sim Tryd.func52 rfl Tryd.ntmps52 rfl ?_
 unfold g_ref02_Name
 refine sRK Tryd.fm ⟨[(0,S a0s)],[]⟩ krf (sim_cps (fun _=>⟨[(0,S a0s)],[]⟩:Unit→St) (fun _=>g_ref02_Name_j1 n a0s) ?_ ?_)
 ·rintro _
  show SimE (g_ref02_Name_j1 n a0s) _ _ _ _ _ _
  unfold g_ref02_Name_j1
  refine sBi (fun j2=>⟨[(0,S a0s),(5,B j2)],[]⟩:Bool→St) ?_ ?_
  rotate_left
  ·rintro j2
   exact sS (sG (xR 4 krf (xS (leI 1 (lenI a0s)) (fun h14=>xO (want_tt krf h14) krf (xR 4 krf (xS (leI (lenI a0s) 12) (fun h15=>xO (want_tt krf h15) krf (xR 3 krf (xE (sNK ⟨[(2,B (!j2))],[]⟩ krf (sT (qR (.id) krf krf krf)))))) (fun h15=>xN (want_tf krf h15) krf (xR 3 krf (xE (sNK ⟨[(2,B false)],[]⟩ krf (sT (qR (.id) krf krf krf))))))))) (fun h14=>xN (want_tf krf h14) krf (xR 8 krf (xE (sNK ⟨[(2,B false)],[]⟩ krf (sT (qR (.id) krf krf krf)))))))))
  refine sG ?_
  refine xC [] krf (g_ref02_Kinds_ok n) krf krf kff (fun r3=>?_)
  refine xR 1 krf ?_
  refine xC [] krf (g_ref02_In_ok n r3 a0s) krf krf kff (fun r4=>?_)
  refine xR 2 krf (xS (leI 0 r4) (fun h5=>xN (want_ft krf h5) krf (xR 17 krf (xE (nqK true krf)))) (fun h5=>?_))
  refine xC [] (want_ff krf h5) (g_ref02_Attrs_ok n) krf krf kff (fun r6=>?_)
  refine xR 1 krf ?_
  refine xC [] krf (g_ref02_In_ok n r6 a0s) krf krf kff (fun r7=>?_)
  refine xR 3 krf (xS (leI 0 r7) (fun h8=>xN (want_ft krf h8) krf (xR 11 krf (xE (nqK true krf)))) (fun h8=>?_))
  refine xC [] (want_ff krf h8) (g_ref02_Articles_ok n) krf krf kff (fun r9=>?_)
  refine xR 1 krf ?_
  refine xC [] krf (g_ref02_In_ok n r9 a0s) krf krf kff (fun r10=>?_)
  refine xR 3 krf (xS (leI 0 r10) (fun h11=>xN (want_ft krf h11) krf (xR 5 krf (xE (nqK true krf)))) (fun h11=>?_))
  refine xC [] (want_ff krf h11) (g_ref02_Words_ok n) krf krf kff (fun r12=>?_)
  refine xR 1 krf ?_
  refine xC [] krf (g_ref02_In_ok n r12 a0s) krf krf kff (fun r13=>?_)
  exact xR 3 krf (xE (nqK (leI 0 r13) krf))
 refine sRK Tryd.fm ⟨[(0,S a0s),(3,I 0)],[]⟩ krf (sB (sim_loop (fun l16=>⟨[(0,S a0s),(3,I l16)],[]⟩:Int→St) (wsK krf) ?_))
 rintro recl16 l16
 show SimE (g_ref02_Name_l16 n a0s recl16 l16) _ _ _ _ _ _
 unfold g_ref02_Name_l16
 refine sS (sRK Tryd.fm ⟨[(0,S a0s),(3,I l16),(9,B (ltI l16 (lenI a0s)))],[]⟩ krf (sC (ltI l16 (lenI a0s)) krf (sK (sNK ⟨[(0,S a0s),(3,I l16)],[]⟩ krf (sS (sB (sS (sG (xR 2 krf (xG krf krf (aop_sidx (l:=a0s) (k:=.i64) (n:=l16) rfl krf krf krf) (fun x17=>xR 1 krf (xE (sNK ⟨[(0,S a0s),(3,I l16),(4,B8 (b2i x17))],[]⟩ krf (sBi (fun j18=>⟨[(0,S a0s),(3,I l16),(36,B j18)],[]⟩:Bool→St) ?_ ?_)))))))))))) (sim_exit (sq_x (kq_x (bq_hit (kqK (k:=fun _=>g_ref02_Name_j1 n a0s) () krf)))))))
 rotate_left
 ·rintro j18
  exact sC j18 krf (sRK Tryd.fm ⟨[(2,B false)],[]⟩ krf (sT (bq_r (sq_r (kq_r (bq_r (kq_r (qR (.id) krf krf krf)))))))) (sK (bq_n (sNK ⟨[(0,S a0s),(3,I l16)],[]⟩ krf (sL Tryd.fm krf (kqK (wi (l16+1)) krf)))))
 exact sG (xR 3 krf (xS (ltI (b2i x17) 97) (fun h19=>xN (want_ft krf h19) krf (xR 6 krf (xS (eqI l16 0) (fun h20=>xN (want_ft krf h20) krf (xR 11 krf (xE (nqK true krf)))) (fun h20=>xO (want_ff krf h20) krf (xR 2 krf (xS (ltI (b2i x17) 48) (fun h21=>xN (want_ft krf h21) krf (xR 8 krf (xE (nqK (!eqI (b2i x17) 95) krf)))) (fun h21=>xO (want_ff krf h21) krf (xR 3 krf (xS (ltI 57 (b2i x17)) (fun h22=>xO (want_tt krf h22) krf (xR 4 krf (xE (nqK (!eqI (b2i x17) 95) krf)))) (fun h22=>xN (want_tf krf h22) krf (xR 4 krf (xE (nqK false krf))))))))))))) (fun h19=>xO (want_ff krf h19) krf (xR 3 krf (xS (ltI 122 (b2i x17)) (fun h23=>xO (want_tt krf h23) krf (xR 2 krf (xS (eqI l16 0) (fun h24=>xN (want_ft krf h24) krf (xR 11 krf (xE (nqK true krf)))) (fun h24=>xO (want_ff krf h24) krf (xR 2 krf (xS (ltI (b2i x17) 48) (fun h25=>xN (want_ft krf h25) krf (xR 8 krf (xE (nqK (!eqI (b2i x17) 95) krf)))) (fun h25=>xO (want_ff krf h25) krf (xR 3 krf (xS (ltI 57 (b2i x17)) (fun h26=>xO (want_tt krf h26) krf (xR 4 krf (xE (nqK (!eqI (b2i x17) 95) krf)))) (fun h26=>xN (want_tf krf h26) krf (xR 4 krf (xE (nqK false krf))))))))))))) (fun h23=>xN (want_tf krf h23) krf (xR 14 krf (xE (nqK false krf)))))))))
def g_ref02_value (n:Nat) (a0n:GN) (a1words:Bool):Option Bool :=
 cond (ltI 0 (lenI (List.map idc a0n.Kids)))
  (some false)
  (cond (eqI a0n.Kind 6)
   ((cond (eqS a0n.Name [])
    (cond (leI 0 a0n.N)
     (some (leI a0n.N 1000000))
     (some false))
    (some false)).bind fun j1 =>
   some j1)
   ((cond (eqI a0n.Kind 5)
    (cond (eqI a0n.N 0)
     ((g_ref02_Name n a0n.Name).bind fun r7 =>
     cond r7
      (some true)
      (cond a1words
       ((g_ref02_Words n).bind fun r10 =>
       (g_ref02_In n r10 a0n.Name).bind fun r11 =>
       some (leI 0 r11))
       (some false)))
     (some false))
    (some false)).bind fun j4 =>
   some j4))
def sq30:=fun x0 x1=>(⟨[(1,B x0),(2, .ptr 2 0)],hq76 x1⟩:St)
theorem g_ref02_value_ok (n:Nat) (a0n:GN) (a1words:Bool):∀ r,g_ref02_value n a0n a1words=some r→PCall Tryd.prog 81 [ag (GN.csu a0n),B a1words] (.ret (B r)):=by
 refine pcall_sim Tryd.func81 rfl Tryd.ntmps81 rfl ?_
 unfold g_ref02_value
 refine sRK Tryd.fm (sq30 a1words (GN.csu a0n)) krf (sS (sRK Tryd.fm ⟨[(1,B a1words),qq 2,(8,B (ltI 0 (lenI (mI a0n.Kids))))],hq76 (GN.csu a0n)⟩ krf (sC (ltI 0 (lenI (mI a0n.Kids))) krf (sRK Tryd.fm ⟨[(4,B false)],[]⟩ krf (sT (sq_r (qR (.id) krf krf krf)))) (sK (sNK (sq30 a1words (GN.csu a0n)) krf (sS (sRK Tryd.fm ⟨[(1,B a1words),qq 2,(11,B (eqI a0n.Kind 6))],hq76 (GN.csu a0n)⟩ krf (sC (eqI a0n.Kind 6) krf ?_ ?_))))))))
 ·refine sBi (fun j1=>⟨[(4,B j1)],[]⟩:Bool→St) ?_ ?_
  rotate_left
  ·rintro j1
   exact sT (sq_r (qR (.id) krf krf krf))
  exact sG (xR 4 krf (xS (eqS a0n.Name []) (fun h2=>xO (want_tt krf h2) krf (xR 4 krf (xS (leI 0 a0n.N) (fun h3=>xO (want_tt krf h3) krf (xR 4 krf (xE (nqK (leI a0n.N 1000000) krf)))) (fun h3=>xN (want_tf krf h3) krf (xR 4 krf (xE (nqK false krf))))))) (fun h2=>xN (want_tf krf h2) krf (xR 9 krf (xE (nqK false krf))))))
 refine sK (sNK (sq30 a1words (GN.csu a0n)) krf (sBi (fun j4=>⟨[(4,B j4)],[]⟩:Bool→St) ?_ ?_))
 rotate_left
 ·rintro j4
  exact sT (qR (.id) krf krf krf)
 refine sDr Tryd.fm rfl (xR 4 krf (xS (eqI a0n.Kind 5) (fun h5=>xO (want_tt krf h5) krf (xR 4 krf (xS (eqI a0n.N 0) (fun h6=>xO (want_tt krf h6) krf (xR 1 krf ?_)) (fun h6=>xN (want_tf krf h6) krf (xR 14 krf (xED krf (nqK false krf))))))) (fun h5=>xN (want_tf krf h5) krf (xR 19 krf (xED krf (nqK false krf))))))
 refine xC [] krf (g_ref02_Name_ok n a0n.Name) krf krf kff (fun r7=>?_)
 refine xR 1 krf (xS r7 (fun h8=>xN (want_ft krf h8) krf (xR 10 krf (xED krf (nqK true krf)))) (fun h8=>xO (want_ff krf h8) krf (xR 1 krf (xS a1words (fun h9=>?_) (fun h9=>?_)))))
 ·refine xC [] (want_tt krf h9) (g_ref02_Words_ok n) krf krf kff (fun r10=>?_)
  refine xR 2 krf ?_
  refine xC [] krf (g_ref02_In_ok n r10 a0n.Name) krf krf kff (fun r11=>?_)
  exact xR 5 krf (xED krf (nqK (leI 0 r11) krf))
 exact xN (want_tf krf h9) krf (xR 8 krf (xED krf (nqK false krf)))
def g_ref02_part_l13 (n:Nat) (a0n:GN) (recl13:Int→Option Bool) (l13:Int):Option Bool :=
 cond (ltI l13 (lenI (List.map idc a0n.Kids)))
  ((Option.bind (getI a0n.Kids l13) GN.of).bind fun x14 =>
  (g_ref02_value n x14 (eqI a0n.Kind 4)).bind fun r15 =>
  cond (!r15)
   (some false)
   (recl13 (wi (l13+1))))
  (some true)
def g_ref02_part (n:Nat) (a0n:GN):Option Bool :=
 (cond (!eqI a0n.N 0)
  (some true)
  (cond (eqI a0n.Kind 3)
   ((g_ref02_Attrs n).bind fun r4 =>
   (g_ref02_In n r4 a0n.Name).bind fun r5 =>
   cond (leI 0 r5)
    (some false)
    (cond (eqI a0n.Kind 4)
     ((g_ref02_Articles n).bind fun r8 =>
     (g_ref02_In n r8 a0n.Name).bind fun r9 =>
     some (!(leI 0 r9)))
     (some true)))
   (cond (eqI a0n.Kind 4)
    ((g_ref02_Articles n).bind fun r11 =>
    (g_ref02_In n r11 a0n.Name).bind fun r12 =>
    some (!(leI 0 r12)))
    (some true)))).bind fun j1 =>
 cond j1
  (some false)
  (loopN (fun recl13 l13=>g_ref02_part_l13 n a0n recl13 l13) n 0)
def hq77:=fun x0=>([(1, .box 25 (bxc x0))]:List (Nat × Blk))
def sq31:=fun x0 x1=>(⟨[(1, .ptr 1 0),(3,I x0)],hq77 x1⟩:St)
theorem g_ref02_part_ok (n:Nat) (a0n:GN):∀ r,g_ref02_part n a0n=some r→PCall Tryd.prog 53 [ag (GN.csu a0n)] (.ret (B r)):=by
 refine pcall_sim Tryd.func53 rfl Tryd.ntmps53 rfl ?_
 unfold g_ref02_part
 refine sRK Tryd.fm ⟨[qq 1],hq77 (GN.csu a0n)⟩ krf (sS (sBi (fun j1=>⟨[qq 1,(31,B j1)],hq77 (GN.csu a0n)⟩:Bool→St) ?_ ?_))
 ·refine sDr Tryd.fm rfl (xR 4 krf (xS (!eqI a0n.N 0) (fun h2=>xN (want_ft krf h2) krf (xR 23 krf (xED krf (nqK true krf)))) (fun h2=>xO (want_ff krf h2) krf (xR 3 krf (xS (eqI a0n.Kind 3) (fun h3=>?_) (fun h3=>?_))))))
  rotate_left
  ·refine xN (want_tf krf h3) krf (xR 10 krf (xS (eqI a0n.Kind 4) (fun h10=>?_) (fun h10=>?_)))
   ·refine xC [] (want_tt krf h10) (g_ref02_Articles_ok n) krf krf kff (fun r11=>?_)
    refine xR 2 krf ?_
    refine xC [] krf (g_ref02_In_ok n r11 a0n.Name) krf krf kff (fun r12=>?_)
    exact xR 5 krf (xED krf (nqK (!(leI 0 r12)) krf))
   exact xN (want_tf krf h10) krf (xR 8 krf (xED krf (nqK true krf)))
  refine xC [] (want_tt krf h3) (g_ref02_Attrs_ok n) krf krf kff (fun r4=>?_)
  refine xR 2 krf ?_
  refine xC [] krf (g_ref02_In_ok n r4 a0n.Name) krf krf kff (fun r5=>?_)
  refine xR 3 krf (xS (leI 0 r5) (fun h6=>xN (want_ft krf h6) krf (xR 12 krf (xED krf (nqK false krf)))) (fun h6=>xO (want_ff krf h6) krf (xR 3 krf (xS (eqI a0n.Kind 4) (fun h7=>?_) (fun h7=>?_)))))
  ·refine xC [] (want_tt krf h7) (g_ref02_Articles_ok n) krf krf kff (fun r8=>?_)
   refine xR 2 krf ?_
   refine xC [] krf (g_ref02_In_ok n r8 a0n.Name) krf krf kff (fun r9=>?_)
   exact xR 5 krf (xED krf (nqK (!(leI 0 r9)) krf))
  exact xN (want_tf krf h7) krf (xR 8 krf (xED krf (nqK true krf)))
 rintro j1
 refine sC j1 krf (sRK Tryd.fm ⟨[(2,B false)],[]⟩ krf (sT (sq_r (qR (.id) krf krf krf)))) (sK (sNK ⟨[qq 1],hq77 (GN.csu a0n)⟩ krf (sS (sRK Tryd.fm (sq31 0 (GN.csu a0n)) krf (sB (sim_loop (fun l13=>(sq31 l13 (GN.csu a0n)):Int→St) (wsK krf) ?_))))))
 rintro recl13 l13
 show SimE (g_ref02_part_l13 n a0n recl13 l13) _ _ _ _ _ _
 unfold g_ref02_part_l13
 refine sS (sRK Tryd.fm ⟨[qq 1,(3,I l13),(36,B (ltI l13 (lenI (mI a0n.Kids))))],hq77 (GN.csu a0n)⟩ krf (sC (ltI l13 (lenI (mI a0n.Kids))) krf (sK (sNK (sq31 l13 (GN.csu a0n)) krf (sS (sB (sS (sDr Tryd.fm rfl (xR 3 krf (xG krf krf (aop_idxU (e:=25) (S:=5) (enc:=GN.csu) (dec:=GN.of) (l:=a0n.Kids) (k:=.i64) (n:=l13) (sv:=.p (.slu 5 (mI a0n.Kids))) GN.of_csu rfl krf krf krf krf krf) (fun x14=>xR 4 krf ?_))))))))) (sim_exit (sq_x (kq_x (bq_hit (sNK ⟨[],[]⟩ krf (sRK Tryd.fm ⟨[(2,B true)],[]⟩ krf (sT (qR (.id) krf krf krf))))))))))
 refine xC [] krf (g_ref02_value_ok n x14 (eqI a0n.Kind 4)) krf krf kff (fun r15=>?_)
 exact xR 1 krf (xED krf (sNK ⟨[qq 1,(3,I l13),(48,B (!r15))],hq77 (GN.csu a0n)⟩ krf (sC (!r15) krf (sRK Tryd.fm ⟨[(2,B false)],[]⟩ krf (sT (bq_r (sq_r (kq_r (bq_r (sq_r (qR (.id) krf krf krf)))))))) (sK (bq_n (sNK (sq31 l13 (GN.csu a0n)) krf (sL Tryd.fm krf (kqK (wi (l13+1)) krf))))))))
def g_ref02_item_l6 (n:Nat) (a0n:GN) (recl6:Int→Option Bool) (l6:Int):Option Bool :=
 cond (ltI l6 (lenI (List.map idc a0n.Kids)))
  ((Option.bind (getI a0n.Kids l6) GN.of).bind fun x7 =>
  ((g_ref02_part n x7).bind fun r9 =>
  cond (!r9)
   (some true)
   (cond (eqI x7.Kind 4)
    (cond (!eqI a0n.N 7)
     (some true)
     (cond (eqI x7.Kind 3)
      (cond (ltI 0 l6)
       ((Option.bind (getI a0n.Kids (wi (l6 - 1))) GN.of).bind fun x15 =>
       some (eqI x15.Kind 4))
       (some false))
      (some false)))
    (cond (eqI x7.Kind 3)
     (cond (ltI 0 l6)
      ((Option.bind (getI a0n.Kids (wi (l6 - 1))) GN.of).bind fun x18 =>
      some (eqI x18.Kind 4))
      (some false))
     (some false)))).bind fun j8 =>
  cond j8
   (some false)
   (recl6 (wi (l6+1))))
  (some true)
def g_ref02_item (n:Nat) (a0n:GN):Option Bool :=
 (cond (!eqI a0n.Kind 2)
  (some true)
  (cond (ltI a0n.N 1)
   (some true)
   (cond (ltI 7 a0n.N)
    (some true)
    ((g_ref02_Name n a0n.Name).bind fun r5 =>
    some (!r5))))).bind fun j1 =>
 cond j1
  (some false)
  (loopN (fun recl6 l6=>g_ref02_item_l6 n a0n recl6 l6) n 0)
theorem g_ref02_item_ok (n:Nat) (a0n:GN):∀ r,g_ref02_item n a0n=some r→PCall Tryd.prog 37 [ag (GN.csu a0n)] (.ret (B r)):=by
 refine pcall_sim Tryd.func37 rfl Tryd.ntmps37 rfl ?_
 unfold g_ref02_item
 refine sRK Tryd.fm ⟨[qq 1],hq77 (GN.csu a0n)⟩ krf (sS (sBi (fun j1=>⟨[qq 1,(23,B j1)],hq77 (GN.csu a0n)⟩:Bool→St) ?_ ?_))
 ·refine sG (xR 4 krf (xS (!eqI a0n.Kind 2) (fun h2=>xN (want_ft krf h2) krf (xR 14 krf (xE (nqK true krf)))) (fun h2=>xO (want_ff krf h2) krf (xR 4 krf (xS (ltI a0n.N 1) (fun h3=>xN (want_ft krf h3) krf (xR 9 krf (xE (nqK true krf)))) (fun h3=>xO (want_ff krf h3) krf (xR 4 krf (xS (ltI 7 a0n.N) (fun h4=>xN (want_ft krf h4) krf (xR 4 krf (xE (nqK true krf)))) (fun h4=>xO (want_ff krf h4) krf (xR 1 krf ?_))))))))))
  refine xC [] krf (g_ref02_Name_ok n a0n.Name) krf krf kff (fun r5=>?_)
  exact xR 2 krf (xE (nqK (!r5) krf))
 rintro j1
 refine sC j1 krf (sRK Tryd.fm ⟨[(2,B false)],[]⟩ krf (sT (sq_r (qR (.id) krf krf krf)))) (sK (sNK ⟨[qq 1],hq77 (GN.csu a0n)⟩ krf (sS (sRK Tryd.fm (sq31 0 (GN.csu a0n)) krf (sB (sim_loop (fun l6=>(sq31 l6 (GN.csu a0n)):Int→St) (wsK krf) ?_))))))
 rintro recl6 l6
 show SimE (g_ref02_item_l6 n a0n recl6 l6) _ _ _ _ _ _
 unfold g_ref02_item_l6
 refine sS (sRK Tryd.fm ⟨[qq 1,(3,I l6),(28,B (ltI l6 (lenI (mI a0n.Kids))))],hq77 (GN.csu a0n)⟩ krf (sC (ltI l6 (lenI (mI a0n.Kids))) krf (sK (sNK (sq31 l6 (GN.csu a0n)) krf (sS (sB (sS (sG (xR 3 krf (xG krf krf (aop_idxU (e:=25) (S:=5) (enc:=GN.csu) (dec:=GN.of) (l:=a0n.Kids) (k:=.i64) (n:=l6) (sv:=.p (.slu 5 (mI a0n.Kids))) GN.of_csu rfl krf krf krf krf krf) (fun x7=>xR 3 krf (xE (sNK ⟨[qq 1,(3,I l6),qq 4],[(1, .box 25 (bxc (GN.csu a0n))),(4, .box 25 (bxc (GN.csu x7)))]⟩ krf (sBi (fun j8=>⟨[qq 1,(3,I l6),(67,B j8)],hq77 (GN.csu a0n)⟩:Bool→St) ?_ ?_)))))))))))) (sim_exit (sq_x (kq_x (bq_hit (sNK ⟨[],[]⟩ krf (sRK Tryd.fm ⟨[(2,B true)],[]⟩ krf (sT (qR (.id) krf krf krf))))))))))
 rotate_left
 ·rintro j8
  exact sC j8 krf (sRK Tryd.fm ⟨[(2,B false)],[]⟩ krf (sT (bq_r (sq_r (kq_r (bq_r (sq_r (qR (.id) krf krf krf)))))))) (sK (bq_n (sNK (sq31 l6 (GN.csu a0n)) krf (sL Tryd.fm krf (kqK (wi (l6+1)) krf)))))
 refine sG (xR 1 krf ?_)
 refine xC [] krf (g_ref02_part_ok n x7) krf krf kff (fun r9=>?_)
 exact xR 2 krf (xS (!r9) (fun h10=>xN (want_ft krf h10) krf (xR 27 krf (xE (nqK true krf)))) (fun h10=>xO (want_ff krf h10) krf (xR 3 krf (xS (eqI x7.Kind 4) (fun h11=>xO (want_tt krf h11) krf (xR 5 krf (xS (!eqI a0n.N 7) (fun h12=>xN (want_ft krf h12) krf (xR 17 krf (xE (nqK true krf)))) (fun h12=>xO (want_ff krf h12) krf (xR 3 krf (xS (eqI x7.Kind 3) (fun h13=>xO (want_tt krf h13) krf (xR 3 krf (xS (ltI 0 l6) (fun h14=>xO (want_tt krf h14) krf (xR 3 krf (xG krf krf (aop_idxU (e:=25) (S:=5) (enc:=GN.csu) (dec:=GN.of) (l:=a0n.Kids) (k:=.i64) (n:=wi (l6 - 1)) (sv:=.p (.slu 5 (mI a0n.Kids))) GN.of_csu rfl krf krf krf krf krf) (fun x15=>xR 5 krf (xE (nqK (eqI x15.Kind 4) krf)))))) (fun h14=>xN (want_tf krf h14) krf (xR 9 krf (xE (nqK false krf))))))) (fun h13=>xN (want_tf krf h13) krf (xR 13 krf (xE (nqK false krf)))))))))) (fun h11=>xN (want_tf krf h11) krf (xR 9 krf (xS (eqI x7.Kind 3) (fun h16=>xO (want_tt krf h16) krf (xR 3 krf (xS (ltI 0 l6) (fun h17=>xO (want_tt krf h17) krf (xR 3 krf (xG krf krf (aop_idxU (e:=25) (S:=5) (enc:=GN.csu) (dec:=GN.of) (l:=a0n.Kids) (k:=.i64) (n:=wi (l6 - 1)) (sv:=.p (.slu 5 (mI a0n.Kids))) GN.of_csu rfl krf krf krf krf krf) (fun x18=>xR 5 krf (xE (nqK (eqI x18.Kind 4) krf)))))) (fun h17=>xN (want_tf krf h17) krf (xR 9 krf (xE (nqK false krf))))))) (fun h16=>xN (want_tf krf h16) krf (xR 13 krf (xE (nqK false krf)))))))))))
def g_ref02_Valid_l6 (n:Nat) (a0n:GN) (recl6:Int→Option Bool) (l6:Int):Option Bool :=
 cond (ltI l6 (lenI (List.map idc a0n.Kids)))
  ((Option.bind (getI a0n.Kids l6) GN.of).bind fun x7 =>
  (g_ref02_item n x7).bind fun r8 =>
  cond (!r8)
   (some false)
   (recl6 (wi (l6+1))))
  (some true)
def g_ref02_Valid (n:Nat) (a0n:GN):Option Bool :=
 (cond (!eqI a0n.Kind 1)
  (some true)
  (cond (!eqS a0n.Name [])
   (some true)
   (cond (!eqI a0n.N 0)
    (some true)
    ((g_ref02_Count n a0n 1500).bind fun r5 =>
    some (ltI 1500 r5))))).bind fun j1 =>
 cond j1
  (some false)
  (loopN (fun recl6 l6=>g_ref02_Valid_l6 n a0n recl6 l6) n 0)
theorem g_ref02_Valid_ok (n:Nat) (a0n:GN):∀ r,g_ref02_Valid n a0n=some r→PCall Tryd.prog 17 [ag (GN.csu a0n)] (.ret (B r)):=by
 refine pcall_sim Tryd.func17 rfl Tryd.ntmps17 rfl ?_
 unfold g_ref02_Valid
 refine sRK Tryd.fm ⟨[qq 1],hq77 (GN.csu a0n)⟩ krf (sS (sBi (fun j1=>⟨[qq 1,(21,B j1)],hq77 (GN.csu a0n)⟩:Bool→St) ?_ ?_))
 ·refine sG (xR 4 krf (xS (!eqI a0n.Kind 1) (fun h2=>xN (want_ft krf h2) krf (xR 13 krf (xE (nqK true krf)))) (fun h2=>xO (want_ff krf h2) krf (xR 4 krf (xS (!eqS a0n.Name []) (fun h3=>xN (want_ft krf h3) krf (xR 8 krf (xE (nqK true krf)))) (fun h3=>xO (want_ff krf h3) krf (xR 4 krf (xS (!eqI a0n.N 0) (fun h4=>xN (want_ft krf h4) krf (xR 3 krf (xE (nqK true krf)))) (fun h4=>xO (want_ff krf h4) krf ?_)))))))))
  refine xC [] krf (g_ref02_Count_ok n a0n 1500) krf krf kff (fun r5=>?_)
  exact xR 2 krf (xE (nqK (ltI 1500 r5) krf))
 rintro j1
 refine sC j1 krf (sRK Tryd.fm ⟨[(2,B false)],[]⟩ krf (sT (sq_r (qR (.id) krf krf krf)))) (sK (sNK ⟨[qq 1],hq77 (GN.csu a0n)⟩ krf (sS (sRK Tryd.fm (sq31 0 (GN.csu a0n)) krf (sB (sim_loop (fun l6=>(sq31 l6 (GN.csu a0n)):Int→St) (wsK krf) ?_))))))
 rintro recl6 l6
 show SimE (g_ref02_Valid_l6 n a0n recl6 l6) _ _ _ _ _ _
 unfold g_ref02_Valid_l6
 refine sS (sRK Tryd.fm ⟨[qq 1,(3,I l6),(26,B (ltI l6 (lenI (mI a0n.Kids))))],hq77 (GN.csu a0n)⟩ krf (sC (ltI l6 (lenI (mI a0n.Kids))) krf (sK (sNK (sq31 l6 (GN.csu a0n)) krf (sS (sB (sS (sG (xR 3 krf (xG krf krf (aop_idxU (e:=25) (S:=5) (enc:=GN.csu) (dec:=GN.of) (l:=a0n.Kids) (k:=.i64) (n:=l6) (sv:=.p (.slu 5 (mI a0n.Kids))) GN.of_csu rfl krf krf krf krf krf) (fun x7=>xR 1 krf ?_))))))))) (sim_exit (sq_x (kq_x (bq_hit (sNK ⟨[],[]⟩ krf (sRK Tryd.fm ⟨[(2,B true)],[]⟩ krf (sT (qR (.id) krf krf krf))))))))))
 refine xC [] krf (g_ref02_item_ok n x7) krf krf kff (fun r8=>?_)
 exact xR 1 krf (xE (sNK ⟨[qq 1,(3,I l6),(35,B (!r8))],hq77 (GN.csu a0n)⟩ krf (sC (!r8) krf (sRK Tryd.fm ⟨[(2,B false)],[]⟩ krf (sT (bq_r (sq_r (kq_r (bq_r (sq_r (qR (.id) krf krf krf)))))))) (sK (bq_n (sNK (sq31 l6 (GN.csu a0n)) krf (sL Tryd.fm krf (kqK (wi (l6+1)) krf))))))))
def g_strconv_Itoa (n:Nat) (a0i:Int):Option (List UInt8) :=
 cond (leI (-9223372036854775808) a0i&&leI a0i 9223372036854775807) (some (Lib.itoa a0i)) none
theorem g_strconv_Itoa_ok (n:Nat) (a0i:Int):∀ r,g_strconv_Itoa n a0i=some r→PCall Tryd.prog 27 [I a0i] (.ret (S r)):=by
 intro r hr
 unfold g_strconv_Itoa at hr
 cases h:leI (-9223372036854775808) a0i&&leI a0i 9223372036854775807
 ·rw [h] at hr; cases hr
 rw [h] at hr; cases hr
 simp only [leI,bae,zDT] at h
 exact itoa_at h.1 h.2
def g_law02_Text_l3 (a0n:GN) (rf_law02_Text:GN→Option (List UInt8)) (recl3:((List UInt8) × Bool × Int)→Option ((List UInt8) × Bool)) (l3_1:List UInt8) (l3_2:Bool) (l3_3:Int):Option ((List UInt8) × Bool) :=
 cond (ltI l3_3 (lenI (List.map idc a0n.Kids)))
  ((Option.bind (getI a0n.Kids l3_3) GN.of).bind fun x4 =>
  ((cond (eqI x4.Kind 4)
   (some (!l3_2))
   (some false)).bind fun j6 =>
  cond j6
   (cond (sumB l3_1 [32,123]) (
    some (l3_1++[32,123],true)) none)
   (some (l3_1,l3_2))).bind fun (j5_1,j5_2) =>
  (rf_law02_Text x4).bind fun r8 =>
  cond (sumB [32] r8) (
   cond (sumB j5_1 ([32]++r8)) (
    cond (eqI x4.Kind 4)
     (cond (sumB (j5_1++([32]++r8)) [59]) (
      recl3 ((j5_1++([32]++r8))++[59],j5_2,wi (l3_3+1))) none)
     (recl3 (j5_1++([32]++r8),j5_2,wi (l3_3+1)))) none) none)
  (some (l3_1,l3_2))
def g_law02_Text_j1 (n:Nat) (a0n:GN) (rf_law02_Text:GN→Option (List UInt8)) (j1:List UInt8):Option (List UInt8) :=
 cond (sumB j1 a0n.Name) (
  (loopN (fun recl3 (l3_1,l3_2,l3_3)=>g_law02_Text_l3 a0n rf_law02_Text recl3 l3_1 l3_2 l3_3) n (j1++a0n.Name,false,0)).bind fun (j2_1,j2_2) =>
  cond (!eqI a0n.Kind 2)
   (some j2_1)
   (cond (!eqI a0n.N 7)
    (cond (sumB j2_1 [59]) (
     some (j2_1++[59])) none)
    (cond (!j2_2)
     (cond (sumB j2_1 [32,123]) (
      cond (sumB (j2_1++[32,123]) [32,125]) (
       some ((j2_1++[32,123])++[32,125])) none) none)
     (cond (sumB j2_1 [32,125]) (
      some (j2_1++[32,125])) none)))) none
def g_law02_Text_l9 (a0n:GN) (rf_law02_Text:GN→Option (List UInt8)) (recl9:((List UInt8) × Int)→Option (List UInt8)) (l9_1:List UInt8) (l9_2:Int):Option (List UInt8) :=
 cond (ltI l9_2 (lenI (List.map idc a0n.Kids)))
  ((Option.bind (getI a0n.Kids l9_2) GN.of).bind fun x10 =>
  (rf_law02_Text x10).bind fun r11 =>
  cond (sumB r11 [10]) (
   cond (sumB l9_1 (r11++[10])) (
    recl9 (l9_1++(r11++[10]),wi (l9_2+1))) none) none)
  (some l9_1)
def g_law02_Text_body (n:Nat) (rf_law02_Text:GN→Option (List UInt8)) (a0n:GN):Option (List UInt8) :=
 cond (eqI a0n.Kind 1)
  (loopN (fun recl9 (l9_1,l9_2)=>g_law02_Text_l9 a0n rf_law02_Text recl9 l9_1 l9_2) n ([],0))
  (cond (eqI a0n.Kind 6)
   ((g_strconv_Itoa n a0n.N).bind fun r12 =>
   some r12)
   (cond (eqI a0n.Kind 5)
    (some a0n.Name)
    (cond (eqI a0n.Kind 2)
     ((g_ref02_Kinds n).bind fun r13 =>
     (getI r13 (wi (a0n.N - 1))).bind fun x14 =>
     cond (sumB x14 [32]) (
      g_law02_Text_j1 n a0n rf_law02_Text (x14++[32])) none)
     (g_law02_Text_j1 n a0n rf_law02_Text []))))
def g_law02_Text:Nat→GN→Option (List UInt8)
 | 0,_=>none
 | n+1,a0n=>g_law02_Text_body n (g_law02_Text n) a0n
def sq32:=fun x0 x1=>(⟨[(1, .ptr 1 0),(3,S x0)],hq77 x1⟩:St)
def tq84:=fun x0 x1 x2 x3=>([(3,S x0),(14, .p x1),(15,I (lenI (List.map idc (GN.Kids x2)))),(16,I x3)]:List (Nat × AV))
def tq81:=fun x0 x1=>([(1, .ptr 1 0),(3,S x0),(6,B x1)]:List (Nat × AV))
def tq82:=fun x0 x1 x2 x3 x4=>([(1, .ptr 1 0),(3,S x0),(6,B x1),(50, .p x2),(51,I (lenI (List.map idc (GN.Kids x3)))),(52,I x4)]:List (Nat × AV))
def tq83:=fun x0 x1 x2 x3 x4=>([(1, .ptr 1 0),(3,S x0),(6,B x1),(8, .ptr 8 0),(50, .p x2),(51,I (lenI (List.map idc (GN.Kids x3)))),(52,I x4)]:List (Nat × AV))
def hq78:=fun x0 x1=>([(1, .box 25 (bxc x0)),(8, .box 25 (bxc x1))]:List (Nat × Blk))
theorem g_law02_Text_ok (n:Nat) (a0n:GN):∀ r,g_law02_Text n a0n=some r→PCall Tryd.prog 18 [ag (GN.csu a0n)] (.ret (S r)):=by
 induction n generalizing a0n with
 | zero=>intro r hr; cases (show (none:Option (List UInt8))=some r from hr)
 | succ n ih =>
 show ∀ r,g_law02_Text_body n (g_law02_Text n) a0n=some r→_
 generalize g_law02_Text n=rf_law02_Text at ih ⊢
 refine pcall_sim Tryd.func18 rfl Tryd.ntmps18 rfl ?_
 unfold g_law02_Text_body
 refine sRK Tryd.fm ⟨[qq 1],hq77 (GN.csu a0n)⟩ krf (sRK Tryd.fm (sq32 [] (GN.csu a0n)) krf (sim_cps (fun j1=>(sq32 j1 (GN.csu a0n)):(List UInt8)→St) (fun j1=>g_law02_Text_j1 n a0n rf_law02_Text j1) ?_ ?_))
 rotate_left
 ·refine sRK Tryd.fm ⟨[qq 1,(3,S []),(10,I a0n.Kind)],hq77 (GN.csu a0n)⟩ krf (sB (sRK Tryd.fm ⟨[qq 1,(3,S []),(10,I a0n.Kind),(11,B (eqI a0n.Kind 1))],hq77 (GN.csu a0n)⟩ krf (sC (eqI a0n.Kind 1) krf ?_ ?_)))
  rotate_left
  ·refine sRK Tryd.fm ⟨[qq 1,(3,S []),(10,I a0n.Kind),(27,B (eqI a0n.Kind 6))],hq77 (GN.csu a0n)⟩ krf (sC (eqI a0n.Kind 6) krf ?_ ?_)
   ·refine sS (sG (xR 2 krf ?_))
    refine xC [] krf (g_strconv_Itoa_ok n a0n.N) krf krf kff (fun r12=>?_)
    exact xR 1 krf (xE (sNK ⟨[(2,S r12)],[]⟩ krf (sT (bq_r (kq_r (qR (.id) krf krf krf))))))
   refine sRK Tryd.fm ⟨[qq 1,(3,S []),(10,I a0n.Kind),(32,B (eqI a0n.Kind 5))],hq77 (GN.csu a0n)⟩ krf (sC (eqI a0n.Kind 5) krf (sRK Tryd.fm ⟨[(2,S a0n.Name)],[]⟩ krf (sT (bq_r (kq_r (qR (.id) krf krf krf))))) (sRK Tryd.fm ⟨[qq 1,(3,S []),(36,B (eqI a0n.Kind 2))],hq77 (GN.csu a0n)⟩ krf (sC (eqI a0n.Kind 2) krf ?_ ?_)))
   ·refine sDr Tryd.fm rfl ?_
    refine xC [] krf (g_ref02_Kinds_ok n) krf krf kff (fun r13=>?_)
    exact xR 3 krf (xG krf krf (aop_idx (e:=9) (S:=1) (enc:=cstr) (l:=r13) (k:=.i64) (n:=wi (a0n.N - 1)) (sv:=.p (.sl 1 (List.map cstr r13))) rfl krf krf krf krf krf) (fun x14=>xR 1 krf (xF krf krf (aop_sadd (a:=x14) (b:=[32]) rfl krf krf) (xR 1 krf (xED krf (bq_n (kqK (k:=fun j1=>g_law02_Text_j1 n a0n rf_law02_Text j1) (x14++[32]) krf)))))))
   exact sK (bq_n (kqK (k:=fun j1=>g_law02_Text_j1 n a0n rf_law02_Text j1) [] krf))
  refine sS (sRK Tryd.fm ⟨tq84 [] (.slu 5 (mI a0n.Kids)) a0n 0,[]⟩ krf (sB (sim_loop (fun (l9_1,l9_2)=>⟨tq84 l9_1 (.slu 5 (mI a0n.Kids)) a0n l9_2,[]⟩:((List UInt8) × Int)→St) (wsK krf) ?_)))
  rintro recl9 ⟨l9_1,l9_2⟩
  show SimE (g_law02_Text_l9 a0n rf_law02_Text recl9 l9_1 l9_2) _ _ _ _ _ _
  unfold g_law02_Text_l9
  refine sRK Tryd.fm ⟨[(3,S l9_1),(14, .p (.slu 5 (mI a0n.Kids))),(15,I (lenI (mI a0n.Kids))),(16,I l9_2),(17,B (ltI l9_2 (lenI (mI a0n.Kids))))],[]⟩ krf (sS (sC (ltI l9_2 (lenI (mI a0n.Kids))) krf (sK (sNK ⟨tq84 l9_1 (.slu 5 (mI a0n.Kids)) a0n l9_2,[]⟩ krf (sS (sB (sS (sG (xG krf krf (aop_idxU (e:=25) (S:=5) (enc:=GN.csu) (dec:=GN.of) (l:=a0n.Kids) (k:=.i64) (n:=l9_2) (sv:=.p (.slu 5 (mI a0n.Kids))) GN.of_csu rfl krf krf krf krf krf) (fun x10=>xR 3 krf (xE (sNK ⟨[(3,S l9_1),qq 5,(14, .p (.slu 5 (mI a0n.Kids))),(15,I (lenI (mI a0n.Kids))),(16,I l9_2)],[(5, .box 25 (bxc (GN.csu x10)))]⟩ krf (sG (xR 2 krf ?_)))))))))))) (sim_exit (sq_x (kq_x (bq_hit (sNK ⟨[(3,S l9_1)],[]⟩ krf (sRK Tryd.fm ⟨[(2,S l9_1)],[]⟩ krf (sT (bq_r (kq_r (qR (.id) krf krf krf))))))))))))
  refine xC [] krf (ih x10) krf krf kff (fun r11=>?_)
  exact xF krf krf (aop_sadd (a:=r11) (b:=[10]) rfl krf krf) (xF krf krf (aop_sadd (a:=l9_1) (b:=r11++[10]) rfl krf krf) (xR 1 krf (xE (bq_n (sNK ⟨tq84 (l9_1++(r11++[10])) (.slu 5 (mI a0n.Kids)) a0n l9_2,[]⟩ krf (sL Tryd.fm krf (kqK (l9_1++(r11++[10]),wi (l9_2+1)) krf)))))))
 rintro j1
 show SimE (g_law02_Text_j1 n a0n rf_law02_Text j1) _ _ _ _ _ _
 unfold g_law02_Text_j1
 refine sS (sG (xR 3 krf (xF krf krf (aop_sadd (a:=j1) (b:=a0n.Name) rfl krf krf) (xR 1 krf (xE (sNK (sq32 (j1++a0n.Name) (GN.csu a0n)) krf (sRK Tryd.fm ⟨tq81 (j1++a0n.Name) false,hq77 (GN.csu a0n)⟩ krf (sBi (fun (j2_1,j2_2)=>⟨tq81 j2_1 j2_2,hq77 (GN.csu a0n)⟩:((List UInt8) × Bool)→St) ?_ ?_))))))))
 rotate_left
 ·rintro ⟨j2_1,j2_2⟩
  exact sS (sRK Tryd.fm ⟨[qq 1,(3,S j2_1),(6,B j2_2),(78,B (!eqI a0n.Kind 2))],hq77 (GN.csu a0n)⟩ krf (sC (!eqI a0n.Kind 2) krf (sRK Tryd.fm ⟨[(2,S j2_1)],[]⟩ krf (sT (sq_r (qR (.id) krf krf krf)))) (sK (sNK ⟨tq81 j2_1 j2_2,hq77 (GN.csu a0n)⟩ krf (sS (sRK Tryd.fm ⟨[(3,S j2_1),(6,B j2_2),(82,B (!eqI a0n.N 7))],[]⟩ krf (sC (!eqI a0n.N 7) krf (sS (sG (xR 1 krf (xF krf krf (aop_sadd (a:=j2_1) (b:=[59]) rfl krf krf) (xR 1 krf (xE (sNK ⟨[(2,S (j2_1++[59]))],[]⟩ krf (sT (sq_r (qR (.id) krf krf krf)))))))))) (sK (sNK ⟨[(3,S j2_1),(6,B j2_2)],[]⟩ krf (sS (sRK Tryd.fm ⟨[(3,S j2_1),(86,B (!j2_2))],[]⟩ krf (sC (!j2_2) krf (sG (xR 1 krf (xF krf krf (aop_sadd (a:=j2_1) (b:=[32,123]) rfl krf krf) (xR 1 krf (xE (sNK ⟨[(3,S (j2_1++[32,123]))],[]⟩ krf (sS (sG (xR 1 krf (xF krf krf (aop_sadd (a:=j2_1++[32,123]) (b:=[32,125]) rfl krf krf) (xR 1 krf (xE (sNK ⟨[(2,S ((j2_1++[32,123])++[32,125]))],[]⟩ krf (sT (qR (.id) krf krf krf))))))))))))))) (sK (sNK ⟨[(3,S j2_1)],[]⟩ krf (sS (sG (xR 1 krf (xF krf krf (aop_sadd (a:=j2_1) (b:=[32,125]) rfl krf krf) (xR 1 krf (xE (sNK ⟨[(2,S (j2_1++[32,125]))],[]⟩ krf (sT (qR (.id) krf krf krf)))))))))))))))))))))))
 refine sRK Tryd.fm ⟨tq82 (j1++a0n.Name) false (.slu 5 (mI a0n.Kids)) a0n 0,hq77 (GN.csu a0n)⟩ krf (sB (sim_loop (fun (l3_1,l3_2,l3_3)=>⟨tq82 l3_1 l3_2 (.slu 5 (mI a0n.Kids)) a0n l3_3,hq77 (GN.csu a0n)⟩:((List UInt8) × Bool × Int)→St) (wsK krf) ?_))
 rintro recl3 ⟨l3_1,l3_2,l3_3⟩
 show SimE (g_law02_Text_l3 a0n rf_law02_Text recl3 l3_1 l3_2 l3_3) _ _ _ _ _ _
 unfold g_law02_Text_l3
 refine sRK Tryd.fm ⟨[qq 1,(3,S l3_1),(6,B l3_2),(50, .p (.slu 5 (mI a0n.Kids))),(51,I (lenI (mI a0n.Kids))),(52,I l3_3),(53,B (ltI l3_3 (lenI (mI a0n.Kids))))],hq77 (GN.csu a0n)⟩ krf (sS (sC (ltI l3_3 (lenI (mI a0n.Kids))) krf (sK (sNK ⟨tq82 l3_1 l3_2 (.slu 5 (mI a0n.Kids)) a0n l3_3,hq77 (GN.csu a0n)⟩ krf (sS (sB (sS (sG (xG krf krf (aop_idxU (e:=25) (S:=5) (enc:=GN.csu) (dec:=GN.of) (l:=a0n.Kids) (k:=.i64) (n:=l3_3) (sv:=.p (.slu 5 (mI a0n.Kids))) GN.of_csu rfl krf krf krf krf krf) (fun x4=>xR 3 krf (xE (sNK ⟨tq83 l3_1 l3_2 (.slu 5 (mI a0n.Kids)) a0n l3_3,hq78 (GN.csu a0n) (GN.csu x4)⟩ krf (sBi (fun (j5_1,j5_2)=>⟨tq83 j5_1 j5_2 (.slu 5 (mI a0n.Kids)) a0n l3_3,hq78 (GN.csu a0n) (GN.csu x4)⟩:((List UInt8) × Bool)→St) ?_ ?_))))))))))) (sim_exit (sq_x (kq_x (bq_hit (nqK (l3_1,l3_2) krf)))))))
 ·refine sBi (fun j6=>⟨[qq 1,(3,S l3_1),(6,B l3_2),qq 8,(50, .p (.slu 5 (mI a0n.Kids))),(51,I (lenI (mI a0n.Kids))),(52,I l3_3),(62,B j6)],hq78 (GN.csu a0n) (GN.csu x4)⟩:Bool→St) (sG (xR 4 krf (xS (eqI x4.Kind 4) (fun h7=>xO (want_tt krf h7) krf (xR 2 krf (xE (nqK (!l3_2) krf)))) (fun h7=>xN (want_tf krf h7) krf (xR 2 krf (xE (nqK false krf))))))) ?_
  rintro j6
  exact sC j6 krf (sS (sG (xR 1 krf (xF krf krf (aop_sadd (a:=l3_1) (b:=[32,123]) rfl krf krf) (xR 1 krf (xE (sNK ⟨[qq 1,(3,S (l3_1++[32,123])),qq 8,(50, .p (.slu 5 (mI a0n.Kids))),(51,I (lenI (mI a0n.Kids))),(52,I l3_3)],hq78 (GN.csu a0n) (GN.csu x4)⟩ krf (sL Tryd.fm krf (nqK (l3_1++[32,123],true) krf))))))))) (sK (nqK (l3_1,l3_2) krf))
 rintro ⟨j5_1,j5_2⟩
 refine sS (sG (xR 2 krf ?_))
 refine xC [] krf (ih x4) krf krf kff (fun r8=>?_)
 exact xF krf krf (aop_sadd (a:=[32]) (b:=r8) rfl krf krf) (xF krf krf (aop_sadd (a:=j5_1) (b:=[32]++r8) rfl krf krf) (xR 1 krf (xE (sNK ⟨tq83 (j5_1++([32]++r8)) j5_2 (.slu 5 (mI a0n.Kids)) a0n l3_3,hq78 (GN.csu a0n) (GN.csu x4)⟩ krf (sRK Tryd.fm ⟨[qq 1,(3,S (j5_1++([32]++r8))),(6,B j5_2),(50, .p (.slu 5 (mI a0n.Kids))),(51,I (lenI (mI a0n.Kids))),(52,I l3_3),(72,B (eqI x4.Kind 4))],hq77 (GN.csu a0n)⟩ krf (sC (eqI x4.Kind 4) krf (sG (xR 1 krf (xF krf krf (aop_sadd (a:=j5_1++([32]++r8)) (b:=[59]) rfl krf krf) (xR 1 krf (xE (bq_n (sNK ⟨tq82 ((j5_1++([32]++r8))++[59]) j5_2 (.slu 5 (mI a0n.Kids)) a0n l3_3,hq77 (GN.csu a0n)⟩ krf (sL Tryd.fm krf (kqK ((j5_1++([32]++r8))++[59],j5_2,wi (l3_3+1)) krf))))))))) (sK (bq_n (sNK ⟨tq82 (j5_1++([32]++r8)) j5_2 (.slu 5 (mI a0n.Kids)) a0n l3_3,hq77 (GN.csu a0n)⟩ krf (sL Tryd.fm krf (kqK (j5_1++([32]++r8),j5_2,wi (l3_3+1)) krf)))))))))))
def g_ref01_Gap_l1 (a0s:List UInt8) (recl1:(Int × Bool)→Option Int) (l1_1:Int) (l1_2:Bool):Option Int :=
 cond (ltI l1_1 (lenI a0s))
  ((getI a0s l1_1).bind fun x2 =>
  (cond (eqI (b2i x2) 35)
   (some true)
   (some l1_2)).bind fun j3 =>
  (cond (eqI (b2i x2) 10)
   (some false)
   (some j3)).bind fun j4 =>
  (cond (!j4)
   (cond (!eqI (b2i x2) 32)
    (cond (!eqI (b2i x2) 9)
     (some (!eqI (b2i x2) 10))
     (some false))
    (some false))
   (some false)).bind fun j5 =>
  cond j5
   (some l1_1)
   (recl1 (wi (l1_1+1),j4)))
  (some l1_1)
def g_ref01_Gap (n:Nat) (a0s:List UInt8) (a1at:Int):Option Int :=
 loopN (fun recl1 (l1_1,l1_2)=>g_ref01_Gap_l1 a0s recl1 l1_1 l1_2) n (a1at,false)
def sq33:=fun x0 x1 x2=>(⟨[(0,S x0),(1,I x1),(5,B x2)],[]⟩:St)
def tq85:=fun x0 x1 x2 x3=>([(0,S x0),(1,I x1),(5,B x2),(6,B8 x3)]:List (Nat × AV))
theorem g_ref01_Gap_ok (n:Nat) (a0s:List UInt8) (a1at:Int):∀ r,g_ref01_Gap n a0s a1at=some r→PCall Tryd.prog 32 [S a0s,I a1at] (.ret (I r)):=by
 refine pcall_sim Tryd.func32 rfl Tryd.ntmps32 rfl ?_
 unfold g_ref01_Gap
 refine sRK Tryd.fm ⟨[(0,S a0s),(1,I a1at)],[]⟩ krf (sRK Tryd.fm (sq33 a0s a1at false) krf (sS (sB (sim_loop (fun (l1_1,l1_2)=>(sq33 a0s l1_1 l1_2):(Int × Bool)→St) (wsK krf) ?_))))
 rintro recl1 ⟨l1_1,l1_2⟩
 show SimE (g_ref01_Gap_l1 a0s recl1 l1_1 l1_2) _ _ _ _ _ _
 unfold g_ref01_Gap_l1
 refine sS (sRK Tryd.fm ⟨[(0,S a0s),(1,I l1_1),(5,B l1_2),(10,B (ltI l1_1 (lenI a0s)))],[]⟩ krf (sC (ltI l1_1 (lenI a0s)) krf (sK (sNK (sq33 a0s l1_1 l1_2) krf (sB (sS (sG (xR 2 krf (xG krf krf (aop_sidx (l:=a0s) (k:=.i64) (n:=l1_1) rfl krf krf krf) (fun x2=>xR 1 krf (xE (sNK ⟨tq85 a0s l1_1 l1_2 (b2i x2),[]⟩ krf (sBi (fun j3=>⟨tq85 a0s l1_1 j3 (b2i x2),[]⟩:Bool→St) (sRK Tryd.fm ⟨[(0,S a0s),(1,I l1_1),(5,B l1_2),(6,B8 (b2i x2)),(15,B (eqI (b2i x2) 35))],[]⟩ krf (sC (eqI (b2i x2) 35) krf (sL Tryd.fm krf (nqK true krf)) (sK (nqK l1_2 krf)))) ?_))))))))))) (sim_exit (sq_x (kq_x (bq_hit (sNK ⟨[(1,I l1_1)],[]⟩ krf (sRK Tryd.fm ⟨[(4,I l1_1)],[]⟩ krf (sT (qR (.id) krf krf krf))))))))))
 rintro j3
 refine sBi (fun j4=>⟨tq85 a0s l1_1 j4 (b2i x2),[]⟩:Bool→St) (sRK Tryd.fm ⟨[(0,S a0s),(1,I l1_1),(5,B j3),(6,B8 (b2i x2)),(17,B (eqI (b2i x2) 10))],[]⟩ krf (sC (eqI (b2i x2) 10) krf (sL Tryd.fm krf (nqK false krf)) (sK (nqK j3 krf)))) ?_
 rintro j4
 refine sS (sBi (fun j5=>⟨[(0,S a0s),(1,I l1_1),(5,B j4),(31,B j5)],[]⟩:Bool→St) ?_ ?_)
 rotate_left
 ·rintro j5
  exact sC j5 krf (sRK Tryd.fm ⟨[(4,I l1_1)],[]⟩ krf (sT (sq_r (bq_r (kq_r (bq_r (sq_r (qR (.id) krf krf krf)))))))) (sK (sNK (sq33 a0s l1_1 j4) krf (sL Tryd.fm krf (bq_n (kqK (wi (l1_1+1),j4) krf)))))
 exact sG (xR 3 krf (xS (!j4) (fun h6=>xO (want_tt krf h6) krf (xR 3 krf (xS (!eqI (b2i x2) 32) (fun h7=>xO (want_tt krf h7) krf (xR 3 krf (xS (!eqI (b2i x2) 9) (fun h8=>xO (want_tt krf h8) krf (xR 2 krf (xE (nqK (!eqI (b2i x2) 10) krf)))) (fun h8=>xN (want_tf krf h8) krf (xR 2 krf (xE (nqK false krf))))))) (fun h7=>xN (want_tf krf h7) krf (xR 6 krf (xE (nqK false krf))))))) (fun h6=>xN (want_tf krf h6) krf (xR 10 krf (xE (nqK false krf))))))
def g_ref01_Letter (n:Nat) (a0c:Int):Option Bool :=
 cond (leI 97 a0c)
  (some (leI a0c 122))
  (some false)
theorem g_ref01_Letter_ok (n:Nat) (a0c:Int):∀ r,g_ref01_Letter n a0c=some r→PCall Tryd.prog 50 [B8 a0c] (.ret (B r)):=by
 refine pcall_sim Tryd.func50 rfl Tryd.ntmps50 rfl ?_
 unfold g_ref01_Letter
 exact sRK Tryd.fm ⟨[(0,B8 a0c)],[]⟩ krf (sS (sG (xR 3 krf (xS (leI 97 a0c) (fun h1=>xO (want_tt krf h1) krf (xR 3 krf (xE (sNK ⟨[(2,B (leI a0c 122))],[]⟩ krf (sT (qR (.id) krf krf krf)))))) (fun h1=>xN (want_tf krf h1) krf (xR 3 krf (xE (sNK ⟨[(2,B false)],[]⟩ krf (sT (qR (.id) krf krf krf))))))))))
def g_ref01_Digit (n:Nat) (a0c:Int):Option Bool :=
 cond (leI 48 a0c)
  (some (leI a0c 57))
  (some false)
theorem g_ref01_Digit_ok (n:Nat) (a0c:Int):∀ r,g_ref01_Digit n a0c=some r→PCall Tryd.prog 51 [B8 a0c] (.ret (B r)):=by
 refine pcall_sim Tryd.func51 rfl Tryd.ntmps51 rfl ?_
 unfold g_ref01_Digit
 exact sRK Tryd.fm ⟨[(0,B8 a0c)],[]⟩ krf (sS (sG (xR 3 krf (xS (leI 48 a0c) (fun h1=>xO (want_tt krf h1) krf (xR 3 krf (xE (sNK ⟨[(2,B (leI a0c 57))],[]⟩ krf (sT (qR (.id) krf krf krf)))))) (fun h1=>xN (want_tf krf h1) krf (xR 3 krf (xE (sNK ⟨[(2,B false)],[]⟩ krf (sT (qR (.id) krf krf krf))))))))))
def g_ref01_End_l6 (n:Nat) (a0s:List UInt8) (recl6:Int→Option Int) (l6:Int):Option Int :=
 (cond (ltI l6 (lenI a0s))
  ((getI a0s l6).bind fun x9 =>
  (g_ref01_Letter n (b2i x9)).bind fun r10 =>
  cond r10
   (some true)
   ((getI a0s l6).bind fun x12 =>
   (g_ref01_Digit n (b2i x12)).bind fun r13 =>
   cond r13
    (some true)
    ((getI a0s l6).bind fun x15 =>
    some (eqI (b2i x15) 95))))
  (some false)).bind fun j7 =>
 cond j7
  (recl6 (wi (l6+1)))
  (some l6)
def g_ref01_End_l17 (n:Nat) (a0s:List UInt8) (recl17:Int→Option Int) (l17:Int):Option Int :=
 (cond (ltI l17 (lenI a0s))
  ((getI a0s l17).bind fun x20 =>
  (g_ref01_Digit n (b2i x20)).bind fun r21 =>
  some r21)
  (some false)).bind fun j18 =>
 cond j18
  (recl17 (wi (l17+1)))
  (some l17)
def g_ref01_End (n:Nat) (a0s:List UInt8) (a1at:Int):Option Int :=
 cond (leI (lenI a0s) a1at)
  (some a1at)
  ((getI a0s a1at).bind fun x1 =>
  (cond (eqI (b2i x1) 59)
   (some true)
   (cond (eqI (b2i x1) 123)
    (some true)
    (some (eqI (b2i x1) 125)))).bind fun j2 =>
  cond j2
   (some (wi (a1at+1)))
   ((g_ref01_Letter n (b2i x1)).bind fun r5 =>
   cond r5
    (loopN (fun recl6 l6=>g_ref01_End_l6 n a0s recl6 l6) n a1at)
    ((g_ref01_Digit n (b2i x1)).bind fun r16 =>
    cond r16
     (loopN (fun recl17 l17=>g_ref01_End_l17 n a0s recl17 l17) n a1at)
     (some a1at))))
theorem g_ref01_End_ok (n:Nat) (a0s:List UInt8) (a1at:Int):∀ r,g_ref01_End n a0s a1at=some r→PCall Tryd.prog 33 [S a0s,I a1at] (.ret (I r)):=by
 refine pcall_sim Tryd.func33 rfl Tryd.ntmps33 rfl ?_
 unfold g_ref01_End
 refine sRK Tryd.fm ⟨[(0,S a0s),(1,I a1at)],[]⟩ krf (sS (sRK Tryd.fm ⟨[(0,S a0s),(1,I a1at),(10,B (leI (lenI a0s) a1at))],[]⟩ krf (sC (leI (lenI a0s) a1at) krf (sRK Tryd.fm ⟨[(4,I a1at)],[]⟩ krf (sT (sq_r (qR (.id) krf krf krf)))) (sK (sNK ⟨[(0,S a0s),(1,I a1at)],[]⟩ krf (sS (sG (xR 2 krf (xG krf krf (aop_sidx (l:=a0s) (k:=.i64) (n:=a1at) rfl krf krf krf) (fun x1=>xR 1 krf (xE (sNK ⟨[(0,S a0s),(1,I a1at),(5,B8 (b2i x1))],[]⟩ krf (sS (sBi (fun j2=>⟨[(0,S a0s),(1,I a1at),(5,B8 (b2i x1)),(24,B j2)],[]⟩:Bool→St) (sG (xR 3 krf (xS (eqI (b2i x1) 59) (fun h3=>xN (want_ft krf h3) krf (xR 6 krf (xE (nqK true krf)))) (fun h3=>xO (want_ff krf h3) krf (xR 3 krf (xS (eqI (b2i x1) 123) (fun h4=>xN (want_ft krf h4) krf (xR 2 krf (xE (nqK true krf)))) (fun h4=>xO (want_ff krf h4) krf (xR 2 krf (xE (nqK (eqI (b2i x1) 125) krf)))))))))) ?_))))))))))))))
 rintro j2
 refine sC j2 krf (sRK Tryd.fm ⟨[(4,I (wi (a1at+1)))],[]⟩ krf (sT (sq_r (qR (.id) krf krf krf)))) (sK (sNK ⟨[(0,S a0s),(1,I a1at),(5,B8 (b2i x1))],[]⟩ krf (sRK Tryd.fm ⟨[(0,S a0s),(5,B8 (b2i x1)),(6,I a1at)],[]⟩ krf (sS (sS (sG (xR 1 krf ?_)))))))
 refine xC [] krf (g_ref01_Letter_ok n (b2i x1)) krf krf kff (fun r5=>?_)
 refine xE (sNK ⟨[(0,S a0s),(5,B8 (b2i x1)),(6,I a1at),(29,B r5)],[]⟩ krf (sC r5 krf ?_ ?_))
 rotate_left
 ·refine sS (sG (xR 1 krf ?_))
  refine xC [] krf (g_ref01_Digit_ok n (b2i x1)) krf krf kff (fun r16=>?_)
  refine xE (sNK ⟨[(0,S a0s),(6,I a1at),(55,B r16)],[]⟩ krf (sC r16 krf (sB (sim_loop (fun l17=>⟨[(0,S a0s),(6,I l17)],[]⟩:Int→St) (wsK krf) ?_)) (sK (sNK ⟨[(6,I a1at)],[]⟩ krf (sRK Tryd.fm ⟨[(4,I a1at)],[]⟩ krf (sT (qR (.id) krf krf krf)))))))
  rintro recl17 l17
  show SimE (g_ref01_End_l17 n a0s recl17 l17) _ _ _ _ _ _
  unfold g_ref01_End_l17
  refine sS (sBi (fun j18=>⟨[(0,S a0s),(6,I l17),(65,B j18)],[]⟩:Bool→St) ?_ ?_)
  ·refine sG (xR 5 krf (xS (ltI l17 (lenI a0s)) (fun h19=>?_) (fun h19=>?_)))
   ·refine xO (want_tt krf h19) krf (xR 1 krf (xG krf krf (aop_sidx (l:=a0s) (k:=.i64) (n:=l17) rfl krf krf krf) (fun x20=>?_)))
    refine xC [] krf (g_ref01_Digit_ok n (b2i x20)) krf krf kff (fun r21=>?_)
    exact xR 1 krf (xE (nqK r21 krf))
   exact xN (want_tf krf h19) krf (xR 4 krf (xE (nqK false krf)))
  rintro j18
  exact sC j18 krf (sK (sNK ⟨[(0,S a0s),(6,I l17)],[]⟩ krf (sB (sL Tryd.fm krf (bq_n (kqK (wi (l17+1)) krf)))))) (sim_exit (sq_x (kq_x (bq_hit (sNK ⟨[(6,I l17)],[]⟩ krf (sRK Tryd.fm ⟨[(4,I l17)],[]⟩ krf (sT (qR (.id) krf krf krf))))))))
 refine sB (sim_loop (fun l6=>⟨[(0,S a0s),(6,I l6)],[]⟩:Int→St) (wsK krf) ?_)
 rintro recl6 l6
 show SimE (g_ref01_End_l6 n a0s recl6 l6) _ _ _ _ _ _
 unfold g_ref01_End_l6
 refine sS (sBi (fun j7=>⟨[(0,S a0s),(6,I l6),(51,B j7)],[]⟩:Bool→St) ?_ ?_)
 rotate_left
 ·rintro j7
  exact sC j7 krf (sK (sNK ⟨[(0,S a0s),(6,I l6)],[]⟩ krf (sB (sL Tryd.fm krf (bq_n (kqK (wi (l6+1)) krf)))))) (sim_exit (sq_x (kq_x (bq_hit (sNK ⟨[(6,I l6)],[]⟩ krf (sRK Tryd.fm ⟨[(4,I l6)],[]⟩ krf (sT (qR (.id) krf krf krf))))))))
 refine sG (xR 5 krf (xS (ltI l6 (lenI a0s)) (fun h8=>xO (want_tt krf h8) krf (xR 1 krf (xG krf krf (aop_sidx (l:=a0s) (k:=.i64) (n:=l6) rfl krf krf krf) (fun x9=>?_)))) (fun h8=>xN (want_tf krf h8) krf (xR 16 krf (xE (nqK false krf))))))
 refine xC [] krf (g_ref01_Letter_ok n (b2i x9)) krf krf kff (fun r10=>?_)
 refine xR 1 krf (xS r10 (fun h11=>xN (want_ft krf h11) krf (xR 11 krf (xE (nqK true krf)))) (fun h11=>xO (want_ff krf h11) krf (xR 1 krf (xG krf krf (aop_sidx (l:=a0s) (k:=.i64) (n:=l6) rfl krf krf krf) (fun x12=>?_)))))
 refine xC [] krf (g_ref01_Digit_ok n (b2i x12)) krf krf kff (fun r13=>?_)
 exact xR 2 krf (xS r13 (fun h14=>xN (want_ft krf h14) krf (xR 5 krf (xE (nqK true krf)))) (fun h14=>xO (want_ff krf h14) krf (xR 1 krf (xG krf krf (aop_sidx (l:=a0s) (k:=.i64) (n:=l6) rfl krf krf krf) (fun x15=>xR 3 krf (xE (nqK (eqI (b2i x15) 95) krf)))))))
def g_ref01_Token_l6 (a0text:List UInt8) (recl6:(Int × Int)→Option (GTk × Int)) (l6_1:Int) (l6_2:Int):Option (GTk × Int) :=
 cond (ltI l6_2 (lenI a0text))
  ((getI a0text l6_2).bind fun x7 =>
  cond (ltI 1000000 (wi ((wi (10 * l6_1))+(wi (w8 ((b2i x7) - 48))))))
   (some ((⟨0,[],0,0⟩:GTk),3))
   (recl6 (wi ((wi (10 * l6_1))+(wi (w8 ((b2i x7) - 48)))),wi (l6_2+1))))
  (some ((⟨2,[],l6_1,0⟩:GTk),0))
def g_ref01_Token (n:Nat) (a0text:List UInt8):Option (GTk × Int) :=
 (getI a0text 0).bind fun x1 =>
 (g_ref01_Letter n (b2i x1)).bind fun r2 =>
 cond r2
  (cond (ltI 12 (lenI a0text))
   (some ((⟨0,[],0,0⟩:GTk),3))
   (some ((⟨1,a0text,0,0⟩:GTk),0)))
  ((g_ref01_Digit n (b2i x1)).bind fun r3 =>
  cond (!r3)
   (some ((⟨3,a0text,0,0⟩:GTk),0))
   ((cond (ltI 1 (lenI a0text))
    (some (eqI (b2i x1) 48))
    (some false)).bind fun j4 =>
   cond j4
    (some ((⟨0,[],0,0⟩:GTk),7))
    (loopN (fun recl6 (l6_1,l6_2)=>g_ref01_Token_l6 a0text recl6 l6_1 l6_2) n (0,0))))
def tq86:=fun x0 x1=>([(0,S x0),(2, .ptr 2 0),(4,B8 x1)]:List (Nat × AV))
def sq34:=fun x0 x1 x2 x3=>(⟨[(2, .ptr 2 0),(3,I x0)],hq3 x1 x2 x3 0⟩:St)
def tq87:=fun x0 x1 x2=>([(0,S x0),(2, .ptr 2 0),(5,I x1),(6,I x2)]:List (Nat × AV))
theorem g_ref01_Token_ok (n:Nat) (a0text:List UInt8):∀ r,g_ref01_Token n a0text=some r→PCall Tryd.prog 34 [S a0text] (.ret (.tup [ag (GTk.cs r.1),I r.2])):=by
 refine pcall_sim Tryd.func34 rfl Tryd.ntmps34 rfl ?_
 unfold g_ref01_Token
 refine sRK Tryd.fm ⟨[(0,S a0text),qq 2],hq3 0 [] 0 0⟩ krf (sS (sG (xR 1 krf (xG krf krf (aop_sidx (l:=a0text) (k:=.i64) (n:=0) rfl krf krf krf) (fun x1=>xR 1 krf (xE (sNK ⟨tq86 a0text (b2i x1),hq3 0 [] 0 0⟩ krf (sS (sS (sG (xR 1 krf ?_)))))))))))
 refine xC [] krf (g_ref01_Letter_ok n (b2i x1)) krf krf kff (fun r2=>?_)
 refine xE (sNK ⟨[(0,S a0text),qq 2,(4,B8 (b2i x1)),(10,B r2)],hq3 0 [] 0 0⟩ krf (sC r2 krf (sS (sRK Tryd.fm ⟨[(0,S a0text),qq 2,(13,B (ltI 12 (lenI a0text)))],hq3 0 [] 0 0⟩ krf (sC (ltI 12 (lenI a0text)) krf (sRK Tryd.fm (sq34 3 0 [] 0) krf (sT (sq_r (sq_r (qR (.id) krf krf krf))))) (sK (sNK ⟨[(0,S a0text),qq 2],hq3 0 [] 0 0⟩ krf (sRK Tryd.fm (sq34 0 1 a0text 0) krf (sT (sq_r (qR (.id) krf krf krf))))))))) (sK (sNK ⟨tq86 a0text (b2i x1),hq3 0 [] 0 0⟩ krf (sS (sS (sG (xR 1 krf ?_))))))))
 refine xC [] krf (g_ref01_Digit_ok n (b2i x1)) krf krf kff (fun r3=>?_)
 refine xR 1 krf (xE (sNK ⟨[(0,S a0text),qq 2,(4,B8 (b2i x1)),(19,B (!r3))],hq3 0 [] 0 0⟩ krf (sC (!r3) krf (sRK Tryd.fm (sq34 0 3 a0text 0) krf (sT (sq_r (qR (.id) krf krf krf)))) (sK (sNK ⟨tq86 a0text (b2i x1),hq3 0 [] 0 0⟩ krf (sS (sBi (fun j4=>⟨[(0,S a0text),qq 2,(28,B j4)],hq3 0 [] 0 0⟩:Bool→St) (sG (xR 4 krf (xS (ltI 1 (lenI a0text)) (fun h5=>xO (want_tt krf h5) krf (xR 2 krf (xE (nqK (eqI (b2i x1) 48) krf)))) (fun h5=>xN (want_tf krf h5) krf (xR 2 krf (xE (nqK false krf))))))) ?_)))))))
 rintro j4
 refine sC j4 krf (sRK Tryd.fm (sq34 7 0 [] 0) krf (sT (sq_r (qR (.id) krf krf krf)))) (sK (sNK ⟨[(0,S a0text),qq 2],hq3 0 [] 0 0⟩ krf (sRK Tryd.fm ⟨[(0,S a0text),qq 2,(5,I 0)],hq3 0 [] 0 0⟩ krf (sS (sRK Tryd.fm ⟨tq87 a0text 0 0,hq3 0 [] 0 0⟩ krf (sB (sim_loop (fun (l6_1,l6_2)=>⟨tq87 a0text l6_1 l6_2,hq3 0 [] 0 0⟩:(Int × Int)→St) (wsK krf) ?_)))))))
 rintro recl6 ⟨l6_1,l6_2⟩
 show SimE (g_ref01_Token_l6 a0text recl6 l6_1 l6_2) _ _ _ _ _ _
 unfold g_ref01_Token_l6
 exact sS (sRK Tryd.fm ⟨[(0,S a0text),qq 2,(5,I l6_1),(6,I l6_2),(33,B (ltI l6_2 (lenI a0text)))],hq3 0 [] 0 0⟩ krf (sC (ltI l6_2 (lenI a0text)) krf (sK (sNK ⟨tq87 a0text l6_1 l6_2,hq3 0 [] 0 0⟩ krf (sS (sB (sS (sG (xR 4 krf (xG krf krf (aop_sidx (l:=a0text) (k:=.i64) (n:=l6_2) rfl krf krf krf) (fun x7=>xR 4 krf (xE (sNK ⟨tq87 a0text (wi ((wi (10 * l6_1))+(wi (w8 ((b2i x7) - 48))))) l6_2,hq3 0 [] 0 0⟩ krf (sRK Tryd.fm ⟨[(0,S a0text),qq 2,(5,I (wi ((wi (10 * l6_1))+(wi (w8 ((b2i x7) - 48)))))),(6,I l6_2),(45,B (ltI 1000000 (wi ((wi (10 * l6_1))+(wi (w8 ((b2i x7) - 48)))))))],hq3 0 [] 0 0⟩ krf (sC (ltI 1000000 (wi ((wi (10 * l6_1))+(wi (w8 ((b2i x7) - 48)))))) krf (sRK Tryd.fm (sq34 3 0 [] 0) krf (sT (bq_r (sq_r (kq_r (bq_r (sq_r (qR (.id) krf krf krf)))))))) (sK (bq_n (sNK ⟨tq87 a0text (wi ((wi (10 * l6_1))+(wi (w8 ((b2i x7) - 48))))) l6_2,hq3 0 [] 0 0⟩ krf (sL Tryd.fm krf (kqK (wi ((wi (10 * l6_1))+(wi (w8 ((b2i x7) - 48)))),wi (l6_2+1)) krf)))))))))))))))))) (sim_exit (sq_x (kq_x (bq_hit (sNK ⟨[qq 2,(5,I l6_1)],hq3 0 [] 0 0⟩ krf (sRK Tryd.fm (sq34 0 2 [] l6_1) krf (sT (qR (.id) krf krf krf))))))))))
def g_ref01_Lex_l2 (n:Nat) (a0z:List UInt8) (recl2:((List GTk) × Int)→Option ((List GTk) × Int × Int)) (l2_1:List GTk) (l2_2:Int):Option ((List GTk) × Int × Int) :=
 cond (ltI l2_2 (lenI a0z))
  (cond (eqI (lenI (List.map GTk.cs l2_1)) 2000)
   (some ([],2,l2_2))
   ((g_ref01_End n a0z l2_2).bind fun r3 =>
   cond (eqI r3 l2_2)
    (some ([],7,l2_2))
    (cond (sliceB l2_2 r3 (List.length a0z)) (
     (g_ref01_Token n (List.drop (Int.toNat l2_2) (List.take (Int.toNat r3) a0z))).bind fun r4 =>
     cond (!eqI r4.2 0)
      (some ([],r4.2,l2_2))
      (cond (roomB (List.length (l2_1++[(⟨r4.1.Kind,r4.1.Text,r4.1.N,l2_2⟩:GTk)])) 40) (
       (g_ref01_Gap n a0z r3).bind fun r5 =>
       recl2 (l2_1++[(⟨r4.1.Kind,r4.1.Text,r4.1.N,l2_2⟩:GTk)],r5)) none)) none)))
  (some (l2_1,0,0))
def g_ref01_Lex (n:Nat) (a0z:List UInt8):Option ((List GTk) × Int × Int) :=
 cond (ltI 8000 (lenI a0z))
  (some ([],2,0))
  ((g_ref01_Gap n a0z 0).bind fun r1 =>
  loopN (fun recl2 (l2_1,l2_2)=>g_ref01_Lex_l2 n a0z recl2 l2_1 l2_2) n ([],r1))
def tq88:=fun x0 x1 x2=>([(0,S x0),(5, .tsl 4 (List.map GTk.cs x1) 47),(6,I x2)]:List (Nat × AV))
def hq79:=fun x0=>([(47,(bq1 x0))]:List (Nat × Blk))
def tq89:=fun x0 x1 x2 x3=>([(0,S x0),(5, .tsl 4 (List.map GTk.cs x1) 47),(6,I x2),(7,I x3)]:List (Nat × AV))
def hq80:=fun x0 x1=>([(8, .box 43 (bxc (GTk.cs x0))),(47,(bq1 x1))]:List (Nat × Blk))
theorem g_ref01_Lex_ok (n:Nat) (a0z:List UInt8):∀ r,g_ref01_Lex n a0z=some r→PCall Tryd.prog 14 [S a0z] (.ret (.tup [.p (.sl 4 (mTk r.1)),I r.2.1,I r.2.2])):=by
 refine pcall_sim Tryd.func14 rfl Tryd.ntmps14 rfl ?_
 unfold g_ref01_Lex
 refine sRK Tryd.fm ⟨[(0,S a0z)],[]⟩ krf (sS (sRK Tryd.fm ⟨[(0,S a0z),(12,B (ltI 8000 (lenI a0z)))],[]⟩ krf (sC (ltI 8000 (lenI a0z)) krf (sRK Tryd.fm ⟨tq4 2 0,[]⟩ krf (sT (sq_r (qR (.agg [.sl 4, .id, .id]) krf krf krf)))) (sK (sNK ⟨[(0,S a0z)],[]⟩ krf (sRK Tryd.fm ⟨[(0,S a0z),(5,zS)],[]⟩ krf (sS (sG (xR 1 krf ?_)))))))))
 refine xC [] krf (g_ref01_Gap_ok n a0z 0) krf krf kff (fun r1=>?_)
 refine xR 1 krf (xE (sNK ⟨[(0,S a0z),(5,zS),(6,I r1)],[]⟩ krf (sS (sB (sPK ⟨[(0,S a0z),(5,zS),(6,I r1)],[]⟩ krf (sim_weak (weak_pn 43 4 47 [5] [] krf) (sim_loop (fun (l2_1,l2_2)=>⟨tq88 a0z l2_1 l2_2,hq79 l2_1⟩:((List GTk) × Int)→St) (wsK krf) ?_)))))))
 rintro recl2 ⟨l2_1,l2_2⟩
 show SimE (g_ref01_Lex_l2 n a0z recl2 l2_1 l2_2) _ _ _ _ _ _
 unfold g_ref01_Lex_l2
 refine sS (sRK Tryd.fm ⟨[(0,S a0z),(5, .tsl 4 (mTk l2_1) 47),(6,I l2_2),(18,B (ltI l2_2 (lenI a0z)))],hq79 l2_1⟩ krf (sC (ltI l2_2 (lenI a0z)) krf (sK (sNK ⟨tq88 a0z l2_1 l2_2,hq79 l2_1⟩ krf (sB (sS (sRK Tryd.fm ⟨[(0,S a0z),(5, .tsl 4 (mTk l2_1) 47),(6,I l2_2),(21,B (eqI (lenI (mTk l2_1)) 2000))],hq79 l2_1⟩ krf (sC (eqI (lenI (mTk l2_1)) 2000) krf (sRK Tryd.fm ⟨tq4 2 l2_2,[]⟩ krf (sT (sq_r (bq_r (kq_r (bq_r (sq_r (qR (.agg [.sl 4, .id, .id]) krf krf krf)))))))) (sK (sNK ⟨tq88 a0z l2_1 l2_2,hq79 l2_1⟩ krf (sS (sG (xR 2 krf ?_))))))))))) (sim_exit (sq_x (kq_x (bq_hit (sNK ⟨[(5, .tsl 4 (mTk l2_1) 47)],hq79 l2_1⟩ krf (sRK Tryd.fm ⟨[(2, .tsl 4 (mTk l2_1) 47),(3,I 0),(4,I 0)],hq79 l2_1⟩ krf (sT (qR (.agg [.sl 4, .id, .id]) krf krf krf))))))))))
 refine xC [] krf (g_ref01_End_ok n a0z l2_2) krf krf kff (fun r3=>?_)
 refine xR 1 krf (xE (sNK ⟨tq89 a0z l2_1 l2_2 r3,hq79 l2_1⟩ krf (sS (sRK Tryd.fm ⟨[(0,S a0z),(5, .tsl 4 (mTk l2_1) 47),(6,I l2_2),(7,I r3),(28,B (eqI r3 l2_2))],hq79 l2_1⟩ krf (sC (eqI r3 l2_2) krf (sRK Tryd.fm ⟨tq4 7 l2_2,[]⟩ krf (sT (sq_r (bq_r (kq_r (bq_r (sq_r (qR (.agg [.sl 4, .id, .id]) krf krf krf)))))))) (sK (sNK ⟨tq89 a0z l2_1 l2_2 r3,hq79 l2_1⟩ krf (sS (sG (xR 3 krf (xF krf krf (aop_sslice (l:=a0z) (a:=l2_2) (b:=r3) rfl krf krf krf krf) ?_)))))))))))
 refine xC [] krf (g_ref01_Token_ok n (List.drop (Int.toNat l2_2) (List.take (Int.toNat r3) a0z))) krf krf kff (fun r4=>?_)
 refine xR 6 krf (xE (sNK ⟨[(0,S a0z),(5, .tsl 4 (mTk l2_1) 47),(6,I l2_2),(7,I r3),qq 8,(9,I r4.2)],hq80 r4.1 l2_1⟩ krf (sS (sRK Tryd.fm ⟨[(0,S a0z),(5, .tsl 4 (mTk l2_1) 47),(6,I l2_2),(7,I r3),qq 8,(9,I r4.2),(39,B (!eqI r4.2 0))],hq80 r4.1 l2_1⟩ krf (sC (!eqI r4.2 0) krf (sRK Tryd.fm ⟨tq4 r4.2 l2_2,[]⟩ krf (sT (sq_r (bq_r (kq_r (bq_r (sq_r (qR (.agg [.sl 4, .id, .id]) krf krf krf)))))))) (sK (sNK ⟨[(0,S a0z),(5, .tsl 4 (mTk l2_1) 47),(6,I l2_2),(7,I r3),qq 8],hq80 r4.1 l2_1⟩ krf (sRK Tryd.fm ⟨[(0,S a0z),(5, .tsl 4 (mTk l2_1) 47),(7,I r3),qq 8],[(8,(bq0 r4.1.Kind r4.1.Text r4.1.N l2_2)),(47,(bq1 l2_1))]⟩ krf (sS (sG (xR 3 krf (xF krf krf (aop_app (e:=43) (S:=4) (by_:=40) (enc:=GTk.cs) (tk:=47) (l:=l2_1) (l2:=[(⟨r4.1.Kind,r4.1.Text,r4.1.N,l2_2⟩:GTk)]) (xv:=.tsl 4 (mTk [(⟨r4.1.Kind,r4.1.Text,r4.1.N,l2_2⟩:GTk)]) 46) rfl krf krf rfl krf krf krf rfl krf) (xR 1 krf (xE (sNK ⟨[(0,S a0z),(5, .tsl 4 (mTk (l2_1++[(⟨r4.1.Kind,r4.1.Text,r4.1.N,l2_2⟩:GTk)])) 47),(7,I r3)],hq79 (l2_1++[(⟨r4.1.Kind,r4.1.Text,r4.1.N,l2_2⟩:GTk)])⟩ krf (sG (xR 2 krf ?_)))))))))))))))))
 refine xC [] krf (g_ref01_Gap_ok n a0z r3) krf krf kff (fun r5=>?_)
 exact xR 1 krf (xE (bq_n (kqK (l2_1++[(⟨r4.1.Kind,r4.1.Text,r4.1.N,l2_2⟩:GTk)],r5) krf)))
def g_law02_usable (n:Nat) (a0s:List UInt8):Option Bool :=
 (g_ref01_Lex n a0s).bind fun r1 =>
 some (eqI r1.2.1 0)
theorem g_law02_usable_ok (n:Nat) (a0s:List UInt8):∀ r,g_law02_usable n a0s=some r→PCall Tryd.prog 19 [S a0s] (.ret (B r)):=by
 refine pcall_sim Tryd.func19 rfl Tryd.ntmps19 rfl ?_
 unfold g_law02_usable
 refine sRK Tryd.fm ⟨[(0,S a0s)],[]⟩ krf (sS (sG (xR 1 krf ?_)))
 refine xC [] krf (g_ref01_Lex_ok n a0s) krf krf kff (fun r1=>?_)
 exact xR 7 krf (xE (sNK ⟨[(4,I r1.2.1)],[]⟩ krf (sRK Tryd.fm ⟨[(2,B (eqI r1.2.1 0))],[]⟩ krf (sT (qR (.id) krf krf krf)))))
def g_ref02_Strip_l1 (a0n:GN) (rf_ref02_Strip:GN→Option GN) (recl1:(Int × (List (List PV)))→Option GN) (l1_1:Int) (l1_2:List (List PV)):Option GN :=
 cond (ltI l1_1 (lenI (List.map idc a0n.Kids)))
  ((Option.bind (getI a0n.Kids l1_1) GN.of).bind fun x2 =>
  (rf_ref02_Strip x2).bind fun r3 =>
  cond (roomB (List.length (l1_2++[GN.cs r3])) 64) (
   recl1 (wi (l1_1+1),l1_2++[GN.cs r3])) none)
  (some (⟨a0n.Kind,a0n.Name,a0n.N,0,l1_2⟩:GN))
def g_ref02_Strip_body (n:Nat) (rf_ref02_Strip:GN→Option GN) (a0n:GN):Option GN :=
 loopN (fun recl1 (l1_1,l1_2)=>g_ref02_Strip_l1 a0n rf_ref02_Strip recl1 l1_1 l1_2) n (0,[])
def g_ref02_Strip:Nat→GN→Option GN
 | 0,_=>none
 | n+1,a0n=>g_ref02_Strip_body n (g_ref02_Strip n) a0n
def hq81:=fun x0 x1=>([(1, .box 25 (bxc x0)),(2,(bq3 0 [] 0 0)),(3,(bq26 x1))]:List (Nat × Blk))
def tq90:=fun x0=>([(1, .ptr 1 0),(2, .ptr 2 0),(3, .ptr 3 0),(4,I x0)]:List (Nat × AV))
def bq28:=fun x0 x1=>(.box 25 [I (GN.Kind x0),S (GN.Name x0),I (GN.N x0),I 0, .tsl 5 (List.map idc x1) 300]:Blk)
def hq82:=fun x0 x1 x2=>([(1, .box 25 (bxc x0)),(2,(bq3 0 [] 0 0)),(3,(bq28 x1 x2))]:List (Nat × Blk))
theorem g_ref02_Strip_ok (n:Nat) (a0n:GN):∀ r,g_ref02_Strip n a0n=some r→PCall Tryd.prog 13 [ag (GN.csu a0n)] (.ret (ag (GN.cs r))):=by
 induction n generalizing a0n with
 | zero=>intro r hr; cases (show (none:Option GN)=some r from hr)
 | succ n ih =>
 show ∀ r,g_ref02_Strip_body n (g_ref02_Strip n) a0n=some r→_
 generalize g_ref02_Strip n=rf_ref02_Strip at ih ⊢
 refine pcall_sim Tryd.func13 rfl Tryd.ntmps13 rfl ?_
 unfold g_ref02_Strip_body
 refine sRK Tryd.fm ⟨[qq 1,qq 2],[(1, .box 25 (bxc (GN.csu a0n))),(2,(bq3 0 [] 0 0))]⟩ krf (sRK Tryd.fm ⟨tq22,hq81 (GN.csu a0n) a0n⟩ krf (sS (sRK Tryd.fm ⟨tq90 0,hq81 (GN.csu a0n) a0n⟩ krf (sB (sPK ⟨tq90 0,hq81 (GN.csu a0n) a0n⟩ krf (sim_weak (weak_pn 25 5 300 [] [(3,4)] krf) (sim_loop (fun (l1_1,l1_2)=>⟨tq90 l1_1,hq82 (GN.csu a0n) a0n l1_2++hq6 l1_2⟩:(Int × (List (List PV)))→St) (wsK krf) ?_)))))))
 rintro recl1 ⟨l1_1,l1_2⟩
 show SimE (g_ref02_Strip_l1 a0n rf_ref02_Strip recl1 l1_1 l1_2) _ _ _ _ _ _
 unfold g_ref02_Strip_l1
 refine sS (sRK Tryd.fm ⟨[qq 1,qq 2,qq 3,(4,I l1_1),(16,B (ltI l1_1 (lenI (mI a0n.Kids))))],hq82 (GN.csu a0n) a0n l1_2++hq6 l1_2⟩ krf (sC (ltI l1_1 (lenI (mI a0n.Kids))) krf (sK (sNK ⟨tq90 l1_1,hq82 (GN.csu a0n) a0n l1_2++hq6 l1_2⟩ krf (sS (sB (sDr Tryd.fm rfl (xR 5 krf (xG krf krf (aop_idxU (e:=25) (S:=5) (enc:=GN.csu) (dec:=GN.of) (l:=a0n.Kids) (k:=.i64) (n:=l1_1) (sv:=.p (.slu 5 (mI a0n.Kids))) GN.of_csu rfl krf krf krf krf krf) (fun x2=>xR 1 krf ?_)))))))) (sim_exit (sq_x (kq_x (bq_hit (sNK ⟨[qq 2,qq 3],[(2,(bq3 0 [] 0 0)),(3,(bq28 a0n l1_2))]++hq6 l1_2⟩ krf (sRK Tryd.fm ⟨[qq 2],[(2,(bq28 a0n l1_2))]++hq6 l1_2⟩ krf (sT (qR (.agg [.id, .id, .id, .id, .sl 5]) krf krf krf))))))))))
 refine xC [] krf (ih x2) krf krf kff (fun r3=>?_)
 exact xR 1 krf (xF krf krf (aop_app (e:=25) (S:=5) (by_:=64) (enc:=idc) (tk:=300) (l:=l1_2) (l2:=[GN.cs r3]) (xv:=.tsl 5 (mI [GN.cs r3]) 27) rfl krf krf rfl krf krf krf rfl krf) (xR 2 krf (xED krf (bq_n (sNK ⟨tq90 l1_1,hq82 (GN.csu a0n) a0n (l1_2++[GN.cs r3])++hq10 (l1_2++[GN.cs r3])⟩ krf (sL Tryd.fm krf (kqK (wi (l1_1+1),l1_2++[GN.cs r3]) krf)))))))
def g_law02_ParserTexts (n:Nat) (a0n:GN):Option Bool :=
 (g_law02_head n).bind fun r1 =>
 ((g_ref02_Few n a0n 1500).bind fun r3 =>
 cond (!r3)
  (some true)
  ((g_ref02_Valid n a0n).bind fun r5 =>
  some (!r5))).bind fun j2 =>
 cond j2
  (some r1)
  ((g_law02_Text n a0n).bind fun r6 =>
  (g_p_Parse n r6).bind fun r7 =>
  cond r1
   ((g_law02_usable n r6).bind fun r9 =>
   cond (!r9)
    (some true)
    (cond (eqI (lenI (List.map GDg.cs r7.2)) 0)
     ((g_p_Strip n r7.1).bind fun r12 =>
     (g_ref02_Strip n a0n).bind fun r13 =>
     (g_ref02_Same n r12 r13).bind fun r14 =>
     some r14)
     (some false)))
   (some false))
theorem g_law02_ParserTexts_ok (n:Nat) (a0n:GN):∀ r,g_law02_ParserTexts n a0n=some r→PCall Tryd.prog 5 [ag (GN.csu a0n)] (.ret (B r)):=by
 refine pcall_sim Tryd.func5 rfl Tryd.ntmps5 rfl ?_
 unfold g_law02_ParserTexts
 refine sRK Tryd.fm ⟨[qq 1],hq77 (GN.csu a0n)⟩ krf (sS (sG ?_))
 refine xC [] krf (g_law02_head_ok n) krf krf kff (fun r1=>?_)
 refine xR 1 krf (xE (sNK ⟨[qq 1,(3,B r1)],hq77 (GN.csu a0n)⟩ krf (sS (sBi (fun j2=>⟨[qq 1,(3,B r1),(15,B j2)],hq77 (GN.csu a0n)⟩:Bool→St) ?_ ?_))))
 ·refine sG (xR 1 krf ?_)
  refine xC [] krf (g_ref02_Few_ok n a0n 1500) krf krf kff (fun r3=>?_)
  refine xR 2 krf (xS (!r3) (fun h4=>xN (want_ft krf h4) krf (xR 3 krf (xE (nqK true krf)))) (fun h4=>xO (want_ff krf h4) krf ?_))
  refine xC [] krf (g_ref02_Valid_ok n a0n) krf krf kff (fun r5=>?_)
  exact xR 2 krf (xE (nqK (!r5) krf))
 rintro j2
 refine sC j2 krf (sRK Tryd.fm ⟨[(2,B r1)],[]⟩ krf (sT (sq_r (qR (.id) krf krf krf)))) (sK (sNK ⟨[qq 1,(3,B r1)],hq77 (GN.csu a0n)⟩ krf (sS (sG (xR 1 krf ?_)))))
 refine xC [] krf (g_law02_Text_ok n a0n) krf krf kff (fun r6=>?_)
 refine xR 1 krf (xE (sNK ⟨[qq 1,(3,B r1),(4,S r6)],hq77 (GN.csu a0n)⟩ krf (sS (sG (xR 1 krf ?_)))))
 refine xC [] krf (g_p_Parse_ok n r6) krf krf kff (fun r7=>?_)
 refine xR 6 krf (xE (sNK ⟨[qq 1,(3,B r1),(4,S r6),qq 5,(6, .p (.sl 2 (mDg r7.2)))],[(1, .box 25 (bxc (GN.csu a0n))),(5,bGN25 r7.1)]⟩ krf (sS (sDr Tryd.fm rfl (xR 2 krf (xS r1 (fun h8=>xO (want_tt krf h8) krf ?_) (fun h8=>xN (want_tf krf h8) krf (xR 16 krf (xED krf (sNK ⟨[(2,B false)],[]⟩ krf (sT (qR (.id) krf krf krf))))))))))))
 refine xC [] krf (g_law02_usable_ok n r6) krf krf kff (fun r9=>?_)
 refine xR 2 krf (xS (!r9) (fun h10=>xN (want_ft krf h10) krf (xR 12 krf (xED krf (sNK ⟨[(2,B true)],[]⟩ krf (sT (qR (.id) krf krf krf)))))) (fun h10=>xO (want_ff krf h10) krf (xR 3 krf (xS (eqI (lenI (mDg r7.2)) 0) (fun h11=>?_) (fun h11=>?_)))))
 ·refine xO (want_tt krf h11) krf ?_
  refine xC [] krf (g_p_Strip_ok n r7.1) krf krf kff (fun r12=>?_)
  refine xR 1 krf ?_
  refine xC [] krf (g_ref02_Strip_ok n a0n) krf krf kff (fun r13=>?_)
  refine xC [] krf (g_ref02_Same_ok n r12 r13) krf krf kff (fun r14=>?_)
  exact xR 4 krf (xED krf (sNK ⟨[(2,B r14)],[]⟩ krf (sT (qR (.id) krf krf krf))))
 exact xN (want_tf krf h11) krf (xR 8 krf (xED krf (sNK ⟨[(2,B false)],[]⟩ krf (sT (qR (.id) krf krf krf)))))
def kindsTab:List (List UInt8):=[[],[102,101,101,100,101,114],[99,97,98,108,101],[111,119,110,101,114],[99,111,110,116,114,97,99,116],[99,104,97,114,103,101,114],[98,97,121],[116,97,114,105,102,102]]
structure GFuse where
 Rated:Int
 Heat:Int
deriving DecidableEq
def GFuse.cs (x:GFuse):List PV:=[VI x.Rated,VI x.Heat]
structure GCable where
 Ambient:Int
 Most:Int
 Gain:Int
 Loss:Int
 Den:Int
deriving DecidableEq
def GCable.cs (x:GCable):List PV:=[VI x.Ambient,VI x.Most,VI x.Gain,VI x.Loss,VI x.Den]
structure GCo where
 Name:List UInt8
 Up:Int
 Limit:Int
 Neutral:Int
 Fuse:GFuse
 Cable:GCable
deriving DecidableEq
def GCo.cs (x:GCo):List PV:=[VS x.Name,VI x.Up,VI x.Limit,VI x.Neutral,VI x.Fuse.Rated,VI x.Fuse.Heat,VI x.Cable.Ambient,VI x.Cable.Most,VI x.Cable.Gain,VI x.Cable.Loss,VI x.Cable.Den]
structure GOwner where
 Name:List UInt8
deriving DecidableEq
def GOwner.cs (x:GOwner):List PV:=[VS x.Name]
structure GCt where
 Name:List UInt8
 Owner:Int
 Rank:Int
 Card:Int
deriving DecidableEq
def GCt.cs (x:GCt):List PV:=[VS x.Name,VI x.Owner,VI x.Rank,VI x.Card]
structure GCg where
 Name:List UInt8
 At:Int
 Phases:Int
 Min:Int
 Max:Int
 Step:Int
 Fallback:Int
 Owner:Int
deriving DecidableEq
def GCg.cs (x:GCg):List PV:=[VS x.Name,VI x.At,VI x.Phases,VI x.Min,VI x.Max,VI x.Step,VI x.Fallback,VI x.Owner]
structure GBay where
 Name:List UInt8
 Charger:Int
deriving DecidableEq
def GBay.cs (x:GBay):List PV:=[VS x.Name,VI x.Charger]
structure GSite where
 Conductors:List GCo
 Owners:List GOwner
 Contracts:List GCt
 Chargers:List GCg
 Bays:List GBay
deriving DecidableEq
def GSite.cs (x:GSite):List PV:=[.sl 11 (List.map GCo.cs x.Conductors), .sl 1 (List.map GOwner.cs x.Owners), .sl 4 (List.map GCt.cs x.Contracts), .sl 8 (List.map GCg.cs x.Chargers), .sl 2 (List.map GBay.cs x.Bays)]
structure GTh where
 kind:Int
 index:Int
deriving DecidableEq
def GTh.cs (x:GTh):List PV:=[VI x.kind,VI x.index]
structure GSp where
 from_:Int
 to_:Int
deriving DecidableEq
def GSp.cs (x:GSp):List PV:=[VI x.from_,VI x.to_]
structure GSiteStop where
 diag:GDg
deriving DecidableEq
def GSiteStop.cs (x:GSiteStop):List PV:=[VI x.diag.Err,VI x.diag.At]
def enc_3_int (x:Int × Int × Int):List PV:=[VI x.1,VI x.2.1,VI x.2.2]
structure GViolation where
 Conductor:Int
 Phase:Int
 Amps:Int
deriving DecidableEq
def GViolation.cs (x:GViolation):List PV:=[VI x.Conductor,VI x.Phase,VI x.Amps]
structure GCableWarm where
 Cable:GCable
 now:Int
deriving DecidableEq
def GCableWarm.cs (x:GCableWarm):List PV:=[VI x.Cable.Ambient,VI x.Cable.Most,VI x.Cable.Gain,VI x.Cable.Loss,VI x.Cable.Den,VI x.now]
structure GLimitsPlace where
 conductor:Int
 phase:Int
deriving DecidableEq
def GLimitsPlace.cs (x:GLimitsPlace):List PV:=[VI x.conductor,VI x.phase]
structure GProof where
 Sums:List (Int × Int × Int)
deriving DecidableEq
def GProof.cs (x:GProof):List PV:=[.sl 3 (List.map enc_3_int x.Sums)]
structure GFuseWarm where
 Fuse:GFuse
 now:Int
deriving DecidableEq
def GFuseWarm.cs (x:GFuseWarm):List PV:=[VI x.Fuse.Rated,VI x.Fuse.Heat,VI x.now]
structure GAr where
 Kind:Int
 Days:Int
 From:Int
 To:Int
 Price:Int
 Unit:Int
 Free:Int
deriving DecidableEq
def GAr.cs (x:GAr):List PV:=[VI x.Kind,VI x.Days,VI x.From,VI x.To,VI x.Price,VI x.Unit,VI x.Free]
structure GTr where
 article:GAr
 values:List (List PV)
 good:Bool
def GTr.cs (x:GTr):List PV:=[VI x.article.Kind,VI x.article.Days,VI x.article.From,VI x.article.To,VI x.article.Price,VI x.article.Unit,VI x.article.Free, .sl 5 (List.map idc x.values),VB x.good]
structure GTf where
 Name:List UInt8
 Articles:List GAr
deriving DecidableEq
def GTf.cs (x:GTf):List PV:=[VS x.Name, .sl 7 (List.map GAr.cs x.Articles)]
structure GCh where
 At:Int
 Offset:Int
deriving DecidableEq
def GCh.cs (x:GCh):List PV:=[VI x.At,VI x.Offset]
structure GCl where
 Offset:Int
 Changes:List GCh
 Holidays:List Int
deriving DecidableEq
def GCl.cs (x:GCl):List PV:=[VI x.Offset, .sl 2 (List.map GCh.cs x.Changes), .sl 1 (List.map ci x.Holidays)]
structure GSl where
 Minute:Int
 Energy:Int
deriving DecidableEq
def GSl.cs (x:GSl):List PV:=[VI x.Minute,VI x.Energy]
structure GSs where
 From:Int
 To:Int
 End:Int
 Slices:List GSl
deriving DecidableEq
def GSs.cs (x:GSs):List PV:=[VI x.From,VI x.To,VI x.End, .sl 2 (List.map GSl.cs x.Slices)]
structure GLine where
 Article:Int
 Amount:Int
deriving DecidableEq
def GLine.cs (x:GLine):List PV:=[VI x.Article,VI x.Amount]
structure GBill where
 Lines:List GLine
 Net:Int
 Tax:Int
 Total:Int
deriving DecidableEq
def GBill.cs (x:GBill):List PV:=[.sl 2 (List.map GLine.cs x.Lines),VI x.Net,VI x.Tax,VI x.Total]
structure GBB where
 article:GAr
 calendar:GCl
 session:GSs
deriving DecidableEq
def GBB.cs (x:GBB):List PV:=[VI x.article.Kind,VI x.article.Days,VI x.article.From,VI x.article.To,VI x.article.Price,VI x.article.Unit,VI x.article.Free,VI x.calendar.Offset, .sl 2 (List.map GCh.cs x.calendar.Changes), .sl 1 (List.map ci x.calendar.Holidays),VI x.session.From,VI x.session.To,VI x.session.End, .sl 2 (List.map GSl.cs x.session.Slices)]
structure GQuoteQuoted where
 Tariff:GTf
 calendar:GCl
 from_:Int
 to_:Int
deriving DecidableEq
def GQuoteQuoted.cs (x:GQuoteQuoted):List PV:=[VS x.Tariff.Name, .sl 7 (List.map GAr.cs x.Tariff.Articles),VI x.calendar.Offset, .sl 2 (List.map GCh.cs x.calendar.Changes), .sl 1 (List.map ci x.calendar.Holidays),VI x.from_,VI x.to_]
structure GReading where
 Serial:Int
 Number:Int
 Minute:Int
 Register:Int
 Link:Int
deriving DecidableEq
def GReading.cs (x:GReading):List PV:=[VI x.Serial,VI x.Number,VI x.Minute,VI x.Register,VU x.Link]
structure GClaim where
 Tariff:GTf
 Calendar:GCl
 Readings:List GReading
 Seed:Int
 Session:GSs
 Bill:GBill
deriving DecidableEq
def GClaim.cs (x:GClaim):List PV:=[VS x.Tariff.Name, .sl 7 (List.map GAr.cs x.Tariff.Articles),VI x.Calendar.Offset, .sl 2 (List.map GCh.cs x.Calendar.Changes), .sl 1 (List.map ci x.Calendar.Holidays), .sl 5 (List.map GReading.cs x.Readings),VU x.Seed,VI x.Session.From,VI x.Session.To,VI x.Session.End, .sl 2 (List.map GSl.cs x.Session.Slices), .sl 2 (List.map GLine.cs x.Bill.Lines),VI x.Bill.Net,VI x.Bill.Tax,VI x.Bill.Total]
structure GAE where
 Claim:GClaim
 follows:GSs
 bill:GBill
 rate:Int
deriving DecidableEq
def GAE.cs (x:GAE):List PV:=[VS x.Claim.Tariff.Name, .sl 7 (List.map GAr.cs x.Claim.Tariff.Articles),VI x.Claim.Calendar.Offset, .sl 2 (List.map GCh.cs x.Claim.Calendar.Changes), .sl 1 (List.map ci x.Claim.Calendar.Holidays), .sl 5 (List.map GReading.cs x.Claim.Readings),VU x.Claim.Seed,VI x.Claim.Session.From,VI x.Claim.Session.To,VI x.Claim.Session.End, .sl 2 (List.map GSl.cs x.Claim.Session.Slices), .sl 2 (List.map GLine.cs x.Claim.Bill.Lines),VI x.Claim.Bill.Net,VI x.Claim.Bill.Tax,VI x.Claim.Bill.Total,VI x.follows.From,VI x.follows.To,VI x.follows.End, .sl 2 (List.map GSl.cs x.follows.Slices), .sl 2 (List.map GLine.cs x.bill.Lines),VI x.bill.Net,VI x.bill.Tax,VI x.bill.Total,VI x.rate]
def g_a_isKey (n:Nat) (a0w:List UInt8):Option Bool :=
 (cond (eqS a0w [102,101,101,100,101,114])
  (some (eqS a0w [102,101,101,100,101,114]))
  (cond (eqS a0w [99,97,98,108,101])
   (some (eqS a0w [99,97,98,108,101]))
   (cond (eqS a0w [111,119,110,101,114])
    (some (eqS a0w [111,119,110,101,114]))
    (cond (eqS a0w [99,111,110,116,114,97,99,116])
     (some (eqS a0w [99,111,110,116,114,97,99,116]))
     (cond (eqS a0w [99,104,97,114,103,101,114])
      (some (eqS a0w [99,104,97,114,103,101,114]))
      (cond (eqS a0w [98,97,121])
       (some (eqS a0w [98,97,121]))
       (some (eqS a0w [116,97,114,105,102,102])))))))).bind fun j1 =>
 cond j1
  (some true)
  ((cond (eqS a0w [108,105,109,105,116])
   (some (eqS a0w [108,105,109,105,116]))
   (cond (eqS a0w [110,101,117,116,114,97,108])
    (some (eqS a0w [110,101,117,116,114,97,108]))
    (cond (eqS a0w [102,117,115,101])
     (some (eqS a0w [102,117,115,101]))
     (cond (eqS a0w [116,104,101,114,109,97,108])
      (some (eqS a0w [116,104,101,114,109,97,108]))
      (cond (eqS a0w [102,114,111,109])
       (some (eqS a0w [102,114,111,109]))
       (cond (eqS a0w [97,116])
        (some (eqS a0w [97,116]))
        (cond (eqS a0w [112,104,97,115,101,115])
         (some (eqS a0w [112,104,97,115,101,115]))
         (cond (eqS a0w [97,109,112,115])
          (some (eqS a0w [97,109,112,115]))
          (cond (eqS a0w [102,97,108,108,98,97,99,107])
           (some (eqS a0w [102,97,108,108,98,97,99,107]))
           (cond (eqS a0w [99,97,114,100])
            (some (eqS a0w [99,97,114,100]))
            (some (eqS a0w [114,97,110,107])))))))))))).bind fun j2 =>
  cond j2
   (some true)
   ((cond (eqS a0w [115,116,97,114,116])
    (some (eqS a0w [115,116,97,114,116]))
    (cond (eqS a0w [101,110,101,114,103,121])
     (some (eqS a0w [101,110,101,114,103,121]))
     (cond (eqS a0w [116,105,109,101])
      (some (eqS a0w [116,105,109,101]))
      (cond (eqS a0w [105,100,108,101])
       (some (eqS a0w [105,100,108,101]))
       (cond (eqS a0w [99,97,112])
        (some (eqS a0w [99,97,112]))
        (some (eqS a0w [116,97,120]))))))).bind fun j3 =>
   cond j3
    (some true)
    ((cond (eqS a0w [111,110])
     (some (eqS a0w [111,110]))
     (cond (eqS a0w [119,111,114,107])
      (some (eqS a0w [119,111,114,107]))
      (cond (eqS a0w [115,97,116,117,114,100,97,121])
       (some (eqS a0w [115,97,116,117,114,100,97,121]))
       (cond (eqS a0w [115,117,110,100,97,121])
        (some (eqS a0w [115,117,110,100,97,121]))
        (cond (eqS a0w [98,101,116,119,101,101,110])
         (some (eqS a0w [98,101,116,119,101,101,110]))
         (cond (eqS a0w [112,101,114])
          (some (eqS a0w [112,101,114]))
          (some (eqS a0w [102,114,101,101])))))))).bind fun j4 =>
    cond j4
     (some true)
     (some false))))
structure GLs where
 from_:Int
 to_:Int
deriving DecidableEq
def GLs.cs (x:GLs):List PV:=[VI x.from_,VI x.to_]
end Go.Proofs
namespace Go.Proofs
open Go Go.Abs Go.ChangeShapes Go.WideShapes Go.ChangeAt Go.RowKit Go.Proofs.YtniaojaeacgpoaaDoor
set_option maxRecDepth 100000
def GN.wfd:Nat→GN→Prop
 | 0,_=>False
 | d+1,x=>i64b x.Kind∧strb x.Name∧i64b x.N∧i64b x.At∧(List.length x.Kids≤maxLen∧∀ k ∈ x.Kids,∃ y:GN,k=GN.cs y∧GN.wfd d y)
theorem GN.wfd_succ:∀ (d:Nat) (x:GN),GN.wfd d x→GN.wfd (d+1) x
 | 0,_,h=>h.elim
 | d+1,x,h=>by
  obtain ⟨h0,h1,h2,h3,h4⟩:=h
  exact ⟨h0,h1,h2,h3,⟨h4.1,fun k hk=>by obtain ⟨y,e,g⟩:=h4.2 k hk; exact ⟨y,e,GN.wfd_succ d y g⟩⟩⟩
theorem sh_GN:∀ (d:Nat) (cs:List PV),Sh Tryd.prog d 25 cs→∃ r:GN,cs=GN.cs r∧GN.wfd d r
 | 0,_,h=>h.elim
 | 1,cs,h=>by
  have h:=sh_struct Tryd.underlying25 h
  obtain ⟨_,_,rfl,h0,_,_,rfl,h1,_,_,rfl,h2,_,_,rfl,h3,_,_,rfl,h4,rfl⟩:=h
  exact h0.elim
 | d+2,cs,h=>by
  have h:=sh_struct Tryd.underlying25 h
  obtain ⟨_,_,rfl,h0,_,_,rfl,h1,_,_,rfl,h2,_,_,rfl,h3,_,_,rfl,h4,rfl⟩:=h
  obtain ⟨x0,rfl,w0⟩:=sh_i64 Tryd.underlying3 h0
  obtain ⟨x1,rfl,w1⟩:=sh_str Tryd.underlying9 h1
  obtain ⟨x2,rfl,w2⟩:=sh_i64 Tryd.underlying3 h2
  obtain ⟨x3,rfl,w3⟩:=sh_i64 Tryd.underlying3 h3
  simp only [Sh,Tryd.underlying23] at h4
  obtain ⟨x4,rfl,w4,g4⟩:=h4
  refine ⟨⟨x0,x1,x2,x3,x4⟩,?_,w0,w1,w2,w3,w4,fun k hk=>?_⟩
  ·simp only [GN.cs,map_idc,show Tryd.prog.cellsOf 25=5 from by kernel_rfl,List.cons_append,List.nil_append,List.append_nil]
  ·obtain ⟨y,e,g⟩:=sh_GN d k (g4 k hk)
   exact ⟨y,e,GN.wfd_succ d y g⟩
theorem sh_GN_ex {d:Nat} {cs:List PV} (h:Sh Tryd.prog d 25 cs):∃ r:GN,cs=GN.cs r∧∃ d,GN.wfd d r:=by
 obtain ⟨r,e,g⟩:=sh_GN d cs h
 exact ⟨r,e,d,g⟩
def ParserTextsPlain:Prop:=∀ (a0:GN),(fun x=>∃ d,GN.wfd d x) a0→∃ n,g_law02_ParserTexts n a0=some true
theorem parserTexts_call (h:ParserTextsPlain):∀ (D:Nat) xs,ArgsShU Tryd.prog (D+9) Tryd.f5.params.toList xs→PCall Tryd.prog 5 xs (.ret (.p (.val (.bool true)))):=by
 intro D xs ha
 rw [Tryd.params5] at ha
 obtain ⟨_,_,rfl,h0,rfl⟩:=ha
 obtain ⟨a0,rfl,w0⟩:=sh_GN_ex h0
 obtain ⟨n,hn⟩:=h a0 w0
 rw [avOf_struct Tryd.underlying25]
 exact g_law02_ParserTexts_ok n a0 true hn
theorem gm_laid {W:World} (h:laidMetH Tryd.prog Rows.parserTextsRow.laid W):gmW W:=by
 have h2:=MakeChecks.laidMetH_plain Tryd.prog Rows.parserTextsRow.laid W krf
 have h3:laidMet Tryd.prog Rows.parserTextsRow.laid W:=h2 ▸ h
 obtain ⟨ps,⟨_,_,_,_,_,_,_,_,_,_,⟨_,_,_,_,_,_,_,_,_,_,⟨g,t,cs,fuel,p,q,hg,ht,hv,hd,_,_⟩,_⟩,_⟩,_,_⟩:=h3
 obtain rfl:=Option.some.inj ((show Tryd.prog.globalNamed "internal/strconv.uint64pow10"=some 0 by kernel_rfl).symm.trans hg)
 refine gm_tab ?_
 unfold Lib.TabIs
 have e:(Rows.laid_internal_strconv_uint64pow10:DataW Unit)=Lib.tabData .u64 Lib.pow10Tab:=by kernel_rfl
 rw [e] at hd
 obtain rfl:=Option.some.inj ((show (Tryd.prog.globals[0]?).map (·.type)=some 108 by kernel_rfl).symm.trans ht)
 rw [hv,← Lib.cells_of_tab Tryd.underlying108 Tryd.underlying101 krf krf hd]
set_option maxRecDepth 100000 in
theorem parserTexts_lifted (h:ParserTextsPlain) (os:Os) (started:os.Started) (H:Type) (enc:TypeId × Value→H) :
  ReturnsInHanded {} Tryd.checked os 5 .any (fun w args=>(Rows.parserTextsSpec.pre enc Tryd.prog Tryd.f5 Rows.parserTextsRow.domain false w args∧laidMetH Tryd.prog Rows.parserTextsRow.laid w)∧sizedMet enc Tryd.prog Tryd.f5 (OpenSpec.ofChange Rows.parserTextsSpec) false w args) (Rows.parserTextsSpec.post enc Tryd.prog Tryd.f5 false true false false):=by
 refine returnsInHanded_of_change_and (C:=Tryd.checked) (X:=fun w _=>laidMetH Tryd.prog Rows.parserTextsRow.laid w) (fun _ _ _ hh h=>h.of_heap hh) krf started krf Tryd.func5
  (ChangeSpec.witness_shaped (enc:=enc) (C:=Tryd.checked) (os:=os) (X:=fun w _=>laidMetH Tryd.prog Rows.parserTextsRow.laid w) false (World.laidAll Tryd.prog os Rows.parserTextsRow.laid) #[.agg #[.int .i64 0, .string ⟨#[]⟩, .int .i64 0, .int .i64 0, .slice none 0 0]] 8 (World.laidAll_os _ _ _)
   (World.shaped_of_ZipB krf krf) krf krf krf
   (by rw [MakeChecks.laidMetH_plain _ _ _ krf]; exact laidMet_laidAll _ krf krf)) ?_
 intro W base args ds gs before hval hW _ _ hL _
 exact law_contractU (P:=Tryd.prog) (f:=5) (fn:=Tryd.f5) (s:=Rows.parserTextsSpec) (tb:=4) (TS:=[3,9,23,25]) krf krf krf krf krf Tryd.underlying4 rfl
  (fun ds hd=>by
   have hd:ds.length=1:=by rw [hd,show Tryd.f5.params.size=1 from by kernel_rfl]
   match ds,hd with
   | [d0],_=>rfl)
  (parserTexts_call h) hval hW (gm_laid hL)
theorem parserTexts_said (h:ParserTextsPlain):Rows.ParserTextsSaid :=
 OpenClaim.holds_of_wide 5 Tryd.f5 rfl rfl rfl rfl rfl rfl rfl ⟨rfl,rfl,rfl,rfl,rfl⟩ rfl rfl rfl rfl rfl krf Tryd.func5 krf
  (of_decide_eq_true krf) (by unfold Func.isWrapper; first | (rw [if_pos (by decide +kernel)]; kernel_rfl) | (rw [if_neg (by decide +kernel)]; exact ⟨rfl,rfl⟩))
  (fun os started H enc _=>parserTexts_lifted h os started H enc)
theorem parserTexts_card (h:ParserTextsPlain):Rows.ParserTextsCardSaid :=
 Claim7.holds_tied_plain_at .later [] [.data, .data, .data] true (true,"ff2cb692223487a39003cc858dff74ab49d6771f2ed06d23d89a44b0ab4dff66") true
  (parserTexts_said h) (fun _ h=>by cases h) krf (fun _ h=>by cases h) parserTexts_row_tie rfl ⟨rfl,rfl⟩ krf rfl
  (fun f fn hf hfn=>by
   obtain rfl:f=5:=Option.some.inj ((show Tryd.prog.funcNamed Rows.parserTextsRow.func=some 5 by kernel_rfl).symm.trans hf) |>.symm
   obtain rfl:fn=Tryd.f5:=(Option.some.inj (Tryd.func5.symm.trans hfn)).symm
   exact ⟨by kernel_rfl,fun j t ht=>by
    rw [Tryd.params5] at ht
    have h3:t=25:=by
     rcases j with _ | j
     ·simpa using ht.symm
     ·simp at ht
    subst h3
    exact (show Tryd.prog.wantsStandIn 25=false by kernel_rfl)⟩)
  krf
end Go.Proofs
namespace Go.Proofs
open Go Go.Abs
set_option maxRecDepth 100000
theorem loopN_s {V R:Type} (B:(V→Option R)→V→Option R) (n:Nat) (v:V):loopN B (n+1) v=B (loopN B n) v:=rfl
def Does {α:Type} (m:Option α) (Q:α→Prop):Prop:=∃ r,m=some r∧Q r
section
variable {α β V R E:Type}
theorem does_some {x:α} {Q:α→Prop} (h:Q x):Does (some x) Q:=⟨x,rfl,h⟩
theorem does_mono {m:Option α} {Q Q':α→Prop} (h:Does m Q) (hq:∀ x,Q x→Q' x):Does m Q':=by obtain ⟨x,e,h⟩:=h; exact ⟨x,e,hq x h⟩
theorem does_bind {m:Option α} {k:α→Option β} {Q:α→Prop} {Q':β→Prop} (h:Does m Q) (hk:∀ x,Q x→Does (k x) Q'):Does (m.bind k) Q':=by
 obtain ⟨x,rfl,h⟩:=h
 exact hk x h
theorem does_cond {b:Bool} {x y:Option α} {Q:α→Prop} (h1:b=true→Does x Q) (h2:b=false→Does y Q):Does (cond b x y) Q:=by
 cases b
 ·exact h2 rfl
 ·exact h1 rfl
theorem does_loop {B:(V→Option R)→V→Option R} {Q:V→R→Prop} (μ:V→Nat) (Inv:V→Prop)
  (hB:∀ rec v,Inv v→(∀ v',Inv v'→μ v' < μ v→Does (rec v') (Q v'))→Does (B rec v) (Q v)):∀ {n:Nat} {v:V},Inv v→μ v < n→Does (loopN B n v) (Q v)
 | 0,_,_,h=>absurd h (Nat.not_lt_zero _)
 | n+1,v,hv,h=>hB _ v hv (fun v' h1 h2=>does_loop μ Inv hB h1 zo)
end
theorem getI_nat {α:Type} {l:List α} {i:Nat}:getI l (i:Int)=l[i]?:=by
 unfold getI; rw [if_neg zo]; simp
theorem wi_id {x:Int} (h1:-9223372036854775808≤x) (h2:x≤9223372036854775807):wi x=x:=by
 simp [wi,IntKind.wrap,IntKind.signed,IntKind.bits]; omega
def folB (a r:GReading):Bool:=if r.Serial=a.Serial then decide (a.Minute≤r.Minute∧a.Register≤r.Register) else decide (r.Minute=a.Minute)
def mixB (s x k:Int):Int:=wu ((bXor .u64 s (bAnd .u64 (shrI .u64 (wu x) k) 255)) * 1099511628211)
def mixW (s x:Int):Int:=[56,48,40,32,24,16,8,0].foldl (fun s k=>mixB s x k) s
def linkF (s:Int) (r:GReading):Int:=[r.Serial,r.Number,r.Minute,r.Register].foldl mixW s
def prevLink (seed:Int) (l:List GReading) (i:Nat):Int:=if i=0 then seed else ((l[i - 1]?).map (·.Link)).getD 0
def chainAt (seed:Int) (l:List GReading) (i:Nat):Prop:=∀ r ∈ l[i]?,(1≤r.Serial∧r.Serial≤1000000)∧r.Number=i+1∧(0≤r.Minute∧r.Minute≤52560000)∧(0≤r.Register∧r.Register≤1000000000) ∧
 (i ≠ 0→∀ a ∈ l[i - 1]?,folB a r=true)∧r.Link=linkF (prevLink seed l i) r
def chainOk (seed:Int) (l:List GReading):Prop:=(1≤l.length∧l.length≤64)∧∀ i,i < l.length→chainAt seed l i
theorem eqI_d (x y:Int):eqI x y=decide (x=y):=by unfold eqI; by_cases h:x=y <;> simp [h]
theorem cond_some {α:Type} {b:Bool} {x y:α}:cond b (some x) (some y)=some (cond b x y):=by cases b <;> rfl
def keyB (w:List UInt8):Bool:=(g_a_isKey 0 w).getD false
def chrB (x:UInt8):Bool:=decide ((97≤b2i x∧b2i x≤122)∨(48≤b2i x∧b2i x≤57)∨b2i x=95)
def nameB (s:List UInt8):Bool:=decide (1≤s.length∧s.length≤12)&&decide (∀ x ∈ s.head?,97≤b2i x∧b2i x≤122)&&!keyB s&&s.all chrB
theorem loop_list {α R:Type} {l:List α} {B:(Int→Option R)→Int→Option R} {F:List α→R} (hlen:l.length≤4611686018427387904)
  (hend:∀ rec,B rec (l.length:Int)=some (F []))
  (hstep:∀ (rec:Int→Option R) (i:Nat) (x:α) (r:List α),l.drop i=x :: r→l[i]?=some x→i < l.length→wi ((i:Int)+1)=((i+1:Nat):Int)→(rec ((i+1:Nat):Int)=some (F r))→B rec (i:Int)=some (F (x :: r))) :
  ∀ {n:Nat} (i:Nat),i≤l.length→l.length - i < n→loopN B n (i:Int)=some (F (l.drop i))
 | 0,_,_,h=>absurd h (Nat.not_lt_zero _)
 | n+1,i,hi,h=>by
  unfold loopN
  by_cases he:i=l.length
  ·subst he; rw [hend]; simp
  ·have hlt:i < l.length:=by omega
   have hd:l.drop i=l[i] :: l.drop (i+1):=by rw [List.drop_eq_getElem_cons hlt]
   rw [hd]
   exact hstep _ i _ _ hd (by simp [hlt]) hlt (by rw [wi_id] <;> omega) (loop_list hlen hend hstep (i+1) zo zo)
theorem chr_lem (c:Int):(bif decide (97≤c) then bif decide (c≤122) then false else bif decide (48≤c) then bif decide (c≤57) then false else !(c == 95) else !(c == 95)
  else bif decide (48≤c) then bif decide (c≤57) then false else !(c == 95) else !(c == 95))=!decide ((97≤c∧c≤122)∨(48≤c∧c≤57)∨c=95):=by
 by_cases h1:97≤c <;> by_cases h2:c≤122 <;> by_cases h3:48≤c <;> by_cases h4:c≤57 <;> by_cases h5:c=95 <;> simp [h1,h2,h3,h4,h5] <;> omega
theorem loop_gen {α R A V:Type} {l:List α} (S:A→Int→V) {B:(V→Option R)→V→Option R} {F:A→List α→R} (Inv:Nat→A→Prop) (hlen:l.length≤4611686018427387904)
  (hend:∀ rec a,Inv l.length a→B rec (S a (l.length:Int))=some (F a []))
  (hstep:∀ (rec:V→Option R) (a:A) (i:Nat) (x:α) (r:List α),Inv i a→l.drop i=x :: r→l[i]?=some x→i < l.length→wi ((i:Int)+1)=((i+1:Nat):Int)→(∀ a,Inv (i+1) a→rec (S a ((i+1:Nat):Int))=some (F a r))→B rec (S a (i:Int))=some (F a (x :: r))) :
  ∀ {n:Nat} (i:Nat) (a:A),Inv i a→i≤l.length→l.length - i < n→loopN B n (S a (i:Int))=some (F a (l.drop i))
 | 0,_,_,_,_,h=>absurd h (Nat.not_lt_zero _)
 | n+1,i,a,ha,hi,h=>by
  unfold loopN
  by_cases he:i=l.length
  ·subst he; rw [hend _ _ ha]; simp
  ·have hlt:i < l.length:=by omega
   have hd:l.drop i=l[i] :: l.drop (i+1):=by rw [List.drop_eq_getElem_cons hlt]
   rw [hd]
   exact hstep _ a i _ _ ha hd (by simp [hlt]) hlt (by rw [wi_id] <;> omega) (fun a ha=>loop_gen S Inv hlen hend hstep (i+1) a ha zo zo)
theorem loop_does {α R A V:Type} {l:List α} (S:A→Int→V) {B:(V→Option R)→V→Option R} {Q:A→List α→R→Prop} (Inv:Nat→A→Prop) (hlen:l.length≤4611686018427387904)
  (hend:∀ rec a,Inv l.length a→Does (B rec (S a (l.length:Int))) (Q a []))
  (hstep:∀ (rec:V→Option R) (a:A) (i:Nat) (x:α) (r:List α),Inv i a→l.drop i=x :: r→l[i]?=some x→i < l.length→wi ((i:Int)+1)=((i+1:Nat):Int)→(∀ a,Inv (i+1) a→Does (rec (S a ((i+1:Nat):Int))) (Q a r))→Does (B rec (S a (i:Int))) (Q a (x :: r))) :
  ∀ {n:Nat} (i:Nat) (a:A),Inv i a→i≤l.length→l.length - i < n→Does (loopN B n (S a (i:Int))) (Q a (l.drop i))
 | 0,_,_,_,_,h=>absurd h (Nat.not_lt_zero _)
 | n+1,i,a,ha,hi,h=>by
  unfold loopN
  by_cases he:i=l.length
  ·subst he; simpa using hend _ _ ha
  ·have hlt:i < l.length:=by omega
   have hd:l.drop i=l[i] :: l.drop (i+1):=by rw [List.drop_eq_getElem_cons hlt]
   rw [hd]
   exact hstep _ a i _ _ ha hd (by simp [hlt]) hlt (by rw [wi_id] <;> omega) (fun a ha=>loop_does S Inv hlen hend hstep (i+1) a ha zo zo)
def ks:List Nat:=[56,48,40,32,24,16,8,0]
theorem r_in (n:Nat) (l:List (List UInt8)) (s:List UInt8) (hn:1000≤n) (hl:l.length≤900):Does (g_ref02_In n l s) (fun r=>leI 0 r=l.contains s):=by
 unfold g_ref02_In
 have:=loop_does (l:=l) (fun (_:Unit) i=>i) (B:=fun recl1 l1=>g_ref02_In_l1 l s recl1 l1) (Q:=fun _ r x=>leI 0 x=r.contains s) (fun _ _=>True) zo ?_ ?_ (n:=n) 0 () trivial zo zo
 ·exact this
 ·intro rec a _
  simp only [g_ref02_In_l1,lenI,zLM,ltI]
  rw [dzF zo,zCF]
  exact does_some rfl
 ·intro rec a i x r _ hd hx hi hw hr
  simp only [g_ref02_In_l1,lenI,zLM,ltI,getI_nat,hx,obs,eqS]
  rw [dzT zo,zCT]
  by_cases h:x=s
  ·subst h
   rw [beq_self_eq_true,zCT]
   refine does_some ?_
   simp [leI]
  ·rw [show (x == s)=false from by simpa using h,zCF,hw]
   refine does_mono (hr () trivial) (fun y hy=>?_)
   rw [hy,List.contains_cons,show (s == x)=false from by simpa using fun e=>h e.symm,Bool.false_or]
def keyL:List (List UInt8):=((g_ref02_Kinds 0).getD [])++(((g_ref02_Attrs 0).getD [])++(((g_ref02_Articles 0).getD [])++((g_ref02_Words 0).getD [])))
theorem cse (b c:Bool):(bif b then b else c)=(b||c):=by cases b <;> rfl
theorem cst (b c:Bool):(bif b then true else c)=(b||c):=by cases b <;> rfl
def keyA:List (List UInt8):=[[102,101,101,100,101,114],[99,97,98,108,101],[111,119,110,101,114],[99,111,110,116,114,97,99,116],[99,104,97,114,103,101,114],[98,97,121],[116,97,114,105,102,102],[108,105,109,105,116],[110,101,117,116,114,97,108],[102,117,115,101],[116,104,101,114,109,97,108],[102,114,111,109],[97,116],[112,104,97,115,101,115],[97,109,112,115],[102,97,108,108,98,97,99,107],[99,97,114,100],[114,97,110,107],[115,116,97,114,116],[101,110,101,114,103,121],[116,105,109,101],[105,100,108,101],[99,97,112],[116,97,120],[111,110],[119,111,114,107],[115,97,116,117,114,100,97,121],[115,117,110,100,97,121],[98,101,116,119,101,101,110],[112,101,114],[102,114,101,101]]
theorem keyB_any (s:List UInt8):keyB s=keyA.contains s:=by
 unfold keyB g_a_isKey keyA
 simp only [cond_some,obs,Option.getD_some,cse,cst,eqS,List.contains_cons,List.contains_nil,Bool.or_assoc,Bool.or_false]
theorem keyB_mem (s:List UInt8):keyB s=keyL.contains s:=by
 rw [keyB_any,Bool.eq_iff_iff,List.contains_iff_mem,List.contains_iff_mem]
 have h1:∀ x ∈ keyA,x ∈ keyL:=by decide
 have h2:∀ x ∈ keyL,x ∈ keyA:=by decide
 exact ⟨h1 s,h2 s⟩
theorem r_namej (n:Nat) (s:List UInt8) (hn:1000≤n):g_ref02_Name_j1 n s=some (decide (1≤s.length∧s.length≤12)&&!keyB s):=by
 unfold g_ref02_Name_j1 g_ref02_Kinds g_ref02_Attrs g_ref02_Articles g_ref02_Words
 simp only [obs]
 rw [keyB_mem]
 unfold keyL g_ref02_Kinds g_ref02_Attrs g_ref02_Articles g_ref02_Words
 simp only [Option.getD_some]
 have e:=fun (l:List (List UInt8)) (hl:l.length≤900)=>r_in n l s hn hl
 obtain ⟨r1,e1,h1⟩:=e [[102,101,101,100,101,114],[99,97,98,108,101],[111,119,110,101,114],[99,111,110,116,114,97,99,116],[99,104,97,114,103,101,114],[98,97,121],[116,97,114,105,102,102]] (by decide)
 obtain ⟨r2,e2,h2⟩:=e [[108,105,109,105,116],[110,101,117,116,114,97,108],[102,117,115,101],[116,104,101,114,109,97,108],[102,114,111,109],[97,116],[112,104,97,115,101,115],[97,109,112,115],[102,97,108,108,98,97,99,107],[111,119,110,101,114],[99,97,114,100],[114,97,110,107],[99,104,97,114,103,101,114]] (by decide)
 obtain ⟨r3,e3,h3⟩:=e [[115,116,97,114,116],[101,110,101,114,103,121],[116,105,109,101],[105,100,108,101],[99,97,112],[116,97,120]] (by decide)
 obtain ⟨r4,e4,h4⟩:=e [[111,110],[119,111,114,107],[115,97,116,117,114,100,97,121],[115,117,110,100,97,121],[98,101,116,119,101,101,110],[112,101,114],[102,114,101,101]] (by decide)
 rw [e1,obs,e2,obs,e3,obs,e4,obs,h1,h2,h3,h4]
 have ha:∀ (a b:List (List UInt8)),(a++b).contains s=(a.contains s||b.contains s):=by intro a b; simp
 rw [ha,ha,ha]
 simp only [cond_some,obs,leI,lenI,cst]
 generalize ((_:Bool)||_)=k
 by_cases c1:1≤s.length
 ·by_cases c2:s.length≤12
  ·rw [dzT (show (1:Int)≤s.length by omega),dzT (show (s.length:Int)≤12 by omega),dzT (show 1≤s.length∧s.length≤12 from ⟨c1,c2⟩)]; rfl
  ·rw [dzT (show (1:Int)≤s.length by omega),dzF (show ¬ (s.length:Int)≤12 by omega),dzF (show ¬ (1≤s.length∧s.length≤12) from fun h=>c2 h.2)]; rfl
 ·rw [dzF (show ¬ (1:Int)≤s.length by omega),dzF (show ¬ (1≤s.length∧s.length≤12) from fun h=>c1 h.1)]; rfl
theorem chr_ref (c:Int) (z:Bool):(bif decide (c < 97) then bif z then true else bif decide (c < 48) then !decide (c=95) else bif decide (57 < c) then !decide (c=95) else false
  else bif decide (122 < c) then bif z then true else bif decide (c < 48) then !decide (c=95) else bif decide (57 < c) then !decide (c=95) else false else false)=!(bif z then decide (97≤c∧c≤122) else decide ((97≤c∧c≤122)∨(48≤c∧c≤57)∨c=95)):=by
 cases z <;> by_cases h1:c < 97 <;> by_cases h2:122 < c <;> by_cases h3:c < 48 <;> by_cases h4:57 < c <;> by_cases h5:c=95 <;> simp [h1,h2,h3,h4,h5] <;> omega
theorem r_name (n:Nat) (s:List UInt8) (hn:1000≤n) (hl:s.length≤900):g_ref02_Name n s=some (nameB s):=by
 unfold g_ref02_Name
 have h1:∀ (rec:Int→Option Bool) (a:Unit),(1≤s.length∨s.length=0)→g_ref02_Name_l16 n s rec (s.length:Int)=some (([]:List UInt8).all chrB&&(decide (1≤s.length∧s.length≤12)&&!keyB s)):=by
  intro rec a ha
  simp only [g_ref02_Name_l16,lenI,ltI]
  rw [dzF zo,zCF,r_namej n s hn]
  rfl
 have h2:∀ (rec:Int→Option Bool) (a:Unit) (i:Nat) (x:UInt8) (r:List UInt8),(1≤i∨s.length=0)→s.drop i=x :: r→s[i]?=some x→i < s.length→wi ((i:Int)+1)=((i+1:Nat):Int) →
   (∀ a:Unit,(1≤i+1∨s.length=0)→rec ((i+1:Nat):Int)=some (r.all chrB&&(decide (1≤s.length∧s.length≤12)&&!keyB s)))→g_ref02_Name_l16 n s rec (i:Int)=some ((x :: r).all chrB&&(decide (1≤s.length∧s.length≤12)&&!keyB s)):=by
  intro rec a i x r ha hd hx hi hw hr
  simp only [g_ref02_Name_l16,lenI,ltI,getI_nat,hx,obs,hw,cond_some,eqI_d,chr_ref]
  rw [dzT zo,zCT,dzF (show ¬ (i:Int)=0 by omega),zCF,hr () (Or.inl zo),List.all_cons]
  show (bif !chrB x then some false else _)=_
  cases chrB x <;> rfl
 cases s with
 | nil =>
  have:=loop_gen (l:=[]) (fun (_:Unit) i=>i) (F:=fun _ r=>r.all chrB&&(decide (1≤([]:List UInt8).length∧([]:List UInt8).length≤12)&&!keyB [])) (fun i _=>1≤i∨([]:List UInt8).length=0) zq h1 h2 (n:=n) 0 () (Or.inr rfl) zq (by simp; omega)
  rw [show ((0:Nat):Int)=0 from rfl] at this
  rw [this]; rfl
 | cons x r =>
  obtain ⟨m,rfl⟩:∃ m,n=m+1:=⟨n - 1,by omega⟩
  have hs:=loop_gen (l:=x :: r) (fun (_:Unit) i=>i) (F:=fun _ q=>q.all chrB&&(decide (1≤(x :: r).length∧(x :: r).length≤12)&&!keyB (x :: r))) (fun i _=>1≤i∨(x :: r).length=0) zo h1 h2 (n:=m) 1 () (Or.inl (zNR _)) zq (by simp at hl ⊢; omega)
  rw [show ((1:Nat):Int)=1 from rfl] at hs
  unfold loopN
  show g_ref02_Name_l16 (m+1) (x :: r) (loopN (g_ref02_Name_l16 (m+1) (x :: r)) m) 0=_
  generalize loopN (g_ref02_Name_l16 (m+1) (x :: r)) m=L at hs ⊢
  unfold g_ref02_Name_l16
  rw [show getI (x :: r) 0=some x from rfl]
  simp only [lenI,ltI,obs,cond_some,eqI_d,chr_ref,show wi (0+1)=1 from rfl]
  rw [hs,dzT (show (0:Int) < ((x :: r).length:Nat) by simp),zCT,decide_true,zCT]
  unfold nameB
  simp only [List.head?_cons,Option.mem_def,sie,forall_eq',List.drop_succ_cons,List.drop_zero,List.all_cons]
  by_cases hx:97≤b2i x∧b2i x≤122
  ·rw [dzT hx]
   have:chrB x=true:=by unfold chrB; rw [dzT]; exact Or.inl hx
   rw [this]
   cases decide (1≤(x :: r).length∧(x :: r).length≤12) <;> cases keyB (x :: r) <;> cases r.all chrB <;> rfl
  ·rw [dzF hx]
   cases decide (1≤(x :: r).length∧(x :: r).length≤12) <;> rfl
theorem b_goodWord (n:Nat) (s:List UInt8) (hn:1000≤n):g_p_goodWord n s=some (decide (1≤s.length∧s.length≤12)&&decide (∀ x ∈ s.head?,97≤b2i x∧b2i x≤122)&&s.all chrB):=by
 unfold g_p_goodWord
 simp only [lenI,ltI]
 cases s with
 | nil=>simp
 | cons x r =>
  rw [dzF (show ¬ (((x :: r).length:Nat):Int) < 1 by simp only [zLC]; omega),zCF]
  by_cases hl:(x :: r).length≤12
  rotate_left
  ·rw [dzT (show (12:Int) < (((x :: r).length:Nat):Int) by omega),dzF (show ¬ (1≤(x :: r).length∧(x :: r).length≤12) by omega)]; rfl
  rw [dzF (show ¬ (12:Int) < (((x :: r).length:Nat):Int) by omega),zCF,dzT (show 1≤(x :: r).length∧(x :: r).length≤12 by simp only [zLC] at hl ⊢; omega)]
  rw [show getI (x :: r) 0=some x from rfl]
  have hloop:loopN (fun recl7 l7=>g_p_goodWord_l7 (x :: r) recl7 l7) n 1=some (r.all chrB):=by
   have:=loop_list (l:=x :: r) (B:=fun recl7 l7=>g_p_goodWord_l7 (x :: r) recl7 l7) (F:=fun r=>r.all chrB) zo ?_ ?_ (n:=n) 1 zq zo
   ·simpa using this
   ·intro rec; simp [g_p_goodWord_l7,ltI,lenI]
   ·intro rec i y q hd hx hi hw hr
    unfold g_p_goodWord_l7
    simp only [lenI,getI_nat,hx,obs,hw,hr,ltI,leI,eqI,cond_some]
    rw [dzT zo,zCT,List.all_cons]
    rw [chr_lem,chrB]
    cases decide ((97≤b2i y∧b2i y≤122)∨(48≤b2i y∧b2i y≤57)∨b2i y=95) <;> simp
  rw [hloop]
  simp only [obs,cond_some,List.head?_cons,Option.mem_def,sie,forall_eq',Bool.true_and,List.all_cons]
  by_cases h1:b2i x < 97
  ·rw [dzT h1,dzF (show ¬ (97≤b2i x∧b2i x≤122) by omega)]; rfl
  ·rw [dzF h1,zCF]
   by_cases h2:122 < b2i x
   ·rw [dzT h2,dzF (show ¬ (97≤b2i x∧b2i x≤122) by omega)]; rfl
   ·have h3:97≤b2i x∧b2i x≤122:=by omega
    have h4:chrB x=true:=by unfold chrB; rw [dzT]; exact Or.inl h3
    rw [dzF h2,dzT h3,h4]; rfl
theorem cnz (b:Bool) (k r:Int) (hk:k ≠ 0):(!eqI (bif b then k else r) 0)=(b||!eqI r 0):=by
 cases b
 ·rfl
 ·simp [eqI,hk]
theorem b_isKey (n:Nat) (s:List UInt8):g_p_isKey n s=some (keyB s):=by
 unfold g_p_isKey g_p_kindOf g_p_isAttr g_p_isArticle g_p_isWord
 rw [keyB_mem]
 simp only [cond_some,obs,cse,cst,keyL,g_ref02_Kinds,g_ref02_Attrs,g_ref02_Articles,g_ref02_Words,Option.getD_some,List.cons_append,List.nil_append,List.contains_cons,List.contains_nil,Bool.or_false,eqS]
 rw [cnz _ 1 _ (by decide),cnz _ 2 _ (by decide),cnz _ 3 _ (by decide),cnz _ 4 _ (by decide),cnz _ 5 _ (by decide),cnz _ 6 _ (by decide),cnz _ 7 _ (by decide),show (!eqI 0 0)=false from rfl]
 simp only [Bool.or_assoc,Bool.or_false]
theorem b_goodName (n:Nat) (s:List UInt8) (hn:1000≤n):g_p_goodName n s=some (nameB s):=by
 unfold g_p_goodName nameB
 rw [b_goodWord n s hn,obs,b_isKey,obs,cond_some]
 generalize decide (1≤s.length∧s.length≤12)=a
 generalize decide (∀ x ∈ s.head?,97≤b2i x∧b2i x≤122)=b
 generalize s.all chrB=c
 generalize keyB s=d
 cases a <;> cases b <;> cases c <;> cases d <;> rfl
theorem of_cs' (k:Int) (s:List UInt8) (m t:Int) (l:List (List PV)):GN.of (GN.cs ⟨k,s,m,t,l⟩)=some ⟨k,s,m,t,l⟩:=by
 unfold GN.cs GN.of
 simp only [map_idc,byt_mkS,if_true]
def treeD:Nat→GN→Prop
 | 0,_=>False
 | d+1,x=>(-9223372036854775808≤x.Kind∧x.Kind≤9223372036854775807)∧(-9223372036854775808≤x.N∧x.N≤9223372036854775807)∧(-9223372036854775808≤x.At∧x.At≤9223372036854775807)∧x.Name.length≤maxLen∧x.Kids.length≤maxLen∧∀ k ∈ x.Kids,∃ y,GN.of k=some y∧treeD d y
def kidsD (d:Nat) (l:List (List PV)):Prop:=∀ k ∈ l,∃ y,GN.of k=some y∧treeD d y
theorem tree_kids {d:Nat} {x:GN} (h:treeD d x):∃ e,d=e+1∧x.Kids.length≤9223372036854775807∧x.Name.length≤9223372036854775807∧kidsD e x.Kids:=by
 cases d with
 | zero=>exact h.elim
 | succ e=>exact ⟨e,rfl,by have:=h.2.2.2.2.1; simpa [maxLen] using this,by have:=h.2.2.2.1; simpa [maxLen] using this,h.2.2.2.2.2⟩
theorem kid_at {d:Nat} {l:List (List PV)} (h:kidsD d l) {i:Nat} (hi:i < l.length):∃ y,Option.bind (getI l (i:Int)) GN.of=some y∧treeD d y∧(l.drop i=l[i]'hi :: l.drop (i+1)∧GN.of (l[i]'hi)=some y):=by
 obtain ⟨y,e,t⟩:=h (l[i]'hi) (List.getElem_mem hi)
 refine ⟨y,?_,t,List.drop_eq_getElem_cons hi,e⟩
 rw [getI_nat,List.getElem?_eq_getElem hi]
 exact e
def Tot {α:Type} (m:Option α):Prop:=Does m fun _=>True
theorem tot_some {α:Type} (x:α):Tot (some x):=⟨x,rfl,trivial⟩
end Go.Proofs
