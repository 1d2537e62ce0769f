/-
  A part of the proof of a statement of the seat YteakahdpnpecoaaGreat.
-/
import Derived.Test.YteakahdpnpecoaaGreatNam03
set_option linter.unusedVariables false
namespace Go.Proofs
open Go Go.Abs
set_option maxRecDepth 100000
theorem TE (n:Nat) (a0r:KA) (h03w:Option Addr) (h03l h03c:Nat):∀ r,FO n a0r=some r→Wz Tryz.prog 119 [YY, .p (.val (.func (.func 103) #[] #[]))] (Go.Abs.look [(1000, .box 95 [.p (.sl 4 (Hf a0r.tks)),I a0r.pos,I a0r.length,hS h03w h03l h03c])]) (J7 (fun r:(List (List PV)) × KA=>((.ret (.p (.sl 5 (mI r.1))),[(1000, .box 95 [.p (.sl 4 (Hf r.2.tks)),I r.2.pos,I r.2.length,hS h03w h03l h03c])]):QV × List (Nat × Blk))) r):=by
 refine Vd (X:=fun r:(List (List PV)) × KA=>((.ret (.p (.sl 5 (mI r.1))),(Gw r.2.tks r.2.pos r.2.length (.slice h03w h03l h03c))):QV × List (Nat × Blk))) (Gw a0r.tks a0r.pos a0r.length (.slice h03w h03l h03c)) Tryz.func119 rfl Tryz.ntmps119 rfl ?_
 unfold FO
 refine Qg Qd ⟨[(0,YY),(1, .p (.val (.func (.func 103) #[] #[])))],Gw a0r.tks a0r.pos a0r.length (.slice h03w h03l h03c)⟩ Qa (Qg Qd ⟨bD (.func (.func 103) #[] #[]),Gw a0r.tks a0r.pos a0r.length (.slice h03w h03l h03c)⟩ Qa (sB (CQ ⟨bD (.func (.func 103) #[] #[]),Gw a0r.tks a0r.pos a0r.length (.slice h03w h03l h03c)⟩ Qa (Zj (Z8 24 5 300 [5] [] Qa) (QH (fun (l1_1,l1_2)=>⟨lQ (.func (.func 103) #[] #[]) l1_1,TD l1_1++Gw a0r.tks l1_2 a0r.length (.slice h03w h03l h03c)⟩:((List (List PV)) × Int)→St) (Xk Qa) ?_)))))
 rintro recl1 ⟨l1_1,l1_2⟩
 show QX (Gq n a0r recl1 l1_1 l1_2) _ _ _ _ _ _
 unfold Gq
 refine sB (sS (sG (xR 1 Qa ?_)))
 refine Hz [.ro []] Qa (X7 n (⟨a0r.tks,l1_2,a0r.length,[]⟩:KA) h03w h03l h03c) Qa Qa QS (fun r2=>?_)
 refine xR 2 Qa (xE (Ql ⟨Qal (.func (.func 103) #[] #[]) l1_1,iq r2++TD l1_1++Gw a0r.tks l1_2 a0r.length (.slice h03w h03l h03c)⟩ Qa (sS (sB (Qg Qd ⟨Qam (.func (.func 103) #[] #[]) l1_1 (Qi r2.Kind 2),iq r2++TD l1_1++Gw a0r.tks l1_2 a0r.length (.slice h03w h03l h03c)⟩ Qa (sC (Qi r2.Kind 2) Qa ?_ ?_))))))
 ·refine sG (xR 4 Qa (Vp [] [.agg [I r2.Kind,S r2.Text,I r2.N,I r2.At],I 6,S [],I r2.N,zS] [] [] [] Qa Tryz.func39 rfl Tryz.ntmps39 rfl Qa Qa Qa (Qg Qd ⟨bE 6 [] r2.N,lS r2⟩ Qa (Qg Qd ⟨bF,Dk 6 [] r2.N r2.At⟩ Qa (Yj (fun _=>(sq3 6 [] r2.N r2.At):Unit→St) ?_ ?_)))))
  ·refine Qg Qd ⟨bG,Dk 6 [] r2.N r2.At⟩ Qa (sB (Vq 0 (Qg Qd ⟨bH,Dk 6 [] r2.N r2.At⟩ Qa (sS (Zm Qa (Qz (Kb ?_)))))))
   refine SG (QW ?_)
   exact QO () Qa
  rintro _
  refine Qg Qd (sq4 6 [] r2.N r2.At) Qa (sT (Q0 (.agg [.id, .id, .id, .id, .sl 5]) [] [] (.agg [I 6,S [],I r2.N,I r2.At, .p (.sl 5 (mI []))]) Qa Qa (WG (xR 1 Qa (xF Qa Qa (Zy (e:=24) (S:=5) (by_:=64) (enc:=KI) (tk:=300) (l:=l1_1) (l2:=[GN.cs (⟨6,[],r2.N,r2.At,[]⟩:GN)]) (xv:=.tsl 5 (mI [GN.cs (⟨6,[],r2.N,r2.At,[]⟩:GN)]) 19) rfl Qa Qa rfl Qa Qa Qa rfl Qa) (xR 1 Qa (xE ?_)))))))
  refine Za (Ql (sq5 (.func (.func 103) #[] #[]) (l1_1++[GN.cs (⟨6,[],r2.N,r2.At,[]⟩:GN)]) a0r.tks l1_2 a0r.length (.slice h03w h03l h03c)) Qa (sL Qd Qa (Za ?_)))
  exact KZ (l1_1++[GN.cs (⟨6,[],r2.N,r2.At,[]⟩:GN)],wi (l1_2+1)) Qa
 refine Yj (fun j4=>⟨Qan (.func (.func 103) #[] #[]) l1_1 j4,iq r2++TD l1_1++Gw a0r.tks l1_2 a0r.length (.slice h03w h03l h03c)⟩:Bool→St) ?_ ?_
 ·refine sG (xR 4 Qa ?_)
  refine xS (Qi r2.Kind 1) (fun h5=>?_) (fun h5=>?_)
  ·refine xO (Qp Qa h5) Qa (xR 2 Qa ?_)
   refine xC [] Qa (Gp n r2.Text) Qa Qa QS (fun r6=>?_)
   refine xR 2 Qa (xE ?_)
   exact QO r6 Qa
  refine xN (Qq Qa h5) Qa (xR 5 Qa (xE ?_))
  exact QO false Qa
 rintro j4
 refine sC j4 Qa ?_ ?_
 rotate_left
 ·refine Qg Qd ⟨[(4, .tsl 5 (mI l1_1) 300)],TD l1_1++Gw a0r.tks l1_2 a0r.length (.slice h03w h03l h03c)⟩ Qa (sT (Zh (Q8 (Zh (Yv (Zh ?_))))))
  exact Y2 (.sl 5) [1000] [] Qa Qa Qa Qa
 refine sG (xR 4 Qa (Vp [] [.agg [I r2.Kind,S r2.Text,I r2.N,I r2.At],I 5,S r2.Text,I 0,zS] [] [] [] Qa Tryz.func39 rfl Tryz.ntmps39 rfl Qa Qa Qa (Qg Qd ⟨bE 5 r2.Text 0,lS r2⟩ Qa (Qg Qd ⟨bF,Dk 5 r2.Text 0 r2.At⟩ Qa (Yj (fun _=>(sq3 5 r2.Text 0 r2.At):Unit→St) ?_ ?_)))))
 ·refine Qg Qd ⟨bG,Dk 5 r2.Text 0 r2.At⟩ Qa (sB (Vq 0 (Qg Qd ⟨bH,Dk 5 r2.Text 0 r2.At⟩ Qa (sS (Zm Qa (Qz (Kb ?_)))))))
  refine SG (QW ?_)
  exact QO () Qa
 rintro _
 refine Qg Qd (sq4 5 r2.Text 0 r2.At) Qa (sT (Q0 (.agg [.id, .id, .id, .id, .sl 5]) [] [] (.agg [I 5,S r2.Text,I 0,I r2.At, .p (.sl 5 (mI []))]) Qa Qa (WG (xR 1 Qa (xF Qa Qa (Zy (e:=24) (S:=5) (by_:=64) (enc:=KI) (tk:=300) (l:=l1_1) (l2:=[GN.cs (⟨5,r2.Text,0,r2.At,[]⟩:GN)]) (xv:=.tsl 5 (mI [GN.cs (⟨5,r2.Text,0,r2.At,[]⟩:GN)]) 36) rfl Qa Qa rfl Qa Qa Qa rfl Qa) (xR 1 Qa (xE ?_)))))))
 refine Za (Ql (sq5 (.func (.func 103) #[] #[]) (l1_1++[GN.cs (⟨5,r2.Text,0,r2.At,[]⟩:GN)]) a0r.tks l1_2 a0r.length (.slice h03w h03l h03c)) Qa (sL Qd Qa (Za ?_)))
 exact KZ (l1_1++[GN.cs (⟨5,r2.Text,0,r2.At,[]⟩:GN)],wi (l1_2+1)) Qa
def YB (n:Nat) (a0r:KA):Option YQ :=
 cond (QL a0r.pos (Qc (List.map YQ.cs a0r.tks)))
  ((Q4 a0r.tks a0r.pos).bind fun x1 =>
  some x1)
  (some (⟨0,[],0,a0r.length⟩:YQ))
theorem KO (n:Nat) (a0r:KA):∀ r,YB n a0r=some r→Q9 Tryz.prog 114 [.eptr (KA.cs a0r)] (.ret (ag (YQ.cs r))):=by
 refine Qt (X:=fun r:YQ=>QV.ret (ag (YQ.cs r))) Tryz.func114 rfl Tryz.ntmps114 rfl ?_
 unfold YB
 refine Qg Qd ⟨tq8 (.eptr (KA.cs a0r)),rX 0⟩ Qa (sS (Qg Qd ⟨[(0, .eptr (KA.cs a0r)),qq 2,(12,B (QL a0r.pos (Qc (Hf a0r.tks))))],rX 0⟩ Qa (sC (QL a0r.pos (Qc (Hf a0r.tks))) Qa ?_ ?_)))
 ·refine sS (Vo Qd rfl (xR 8 Qa ?_))
  refine xG Qa Qa (QN (e:=98) (S:=4) (enc:=YQ.cs) (l:=a0r.tks) (k:=.i64) (n:=a0r.pos) (sv:=.p (.sl 4 (Hf a0r.tks))) rfl Qa Qa Qa Qa Qa) (fun x1=>?_)
  refine xR 2 Qa (Yg Qa (Ql ⟨[qq 2],hq4 x1⟩ Qa (sT (Q8 ?_))))
  exact qR (.id) Qa Qa Qa
 refine sK (Ql ⟨tq8 (.eptr (KA.cs a0r)),rX 0⟩ Qa (Qg Qd ⟨[qq 2],rX a0r.length⟩ Qa (sT ?_)))
 exact qR (.id) Qa Qa Qa
def XI (n:Nat) (a0r:KA):Option (Except Int Unit) :=
 (YB n a0r).bind fun r1 =>
 some (.error r1.At)
theorem XQ (n:Nat) (a0r:KA):∀ r,XI n a0r=some r→Q9 Tryz.prog 115 [.eptr (KA.cs a0r)] (Ea (fun r:Unit=>(.tup []:AV)) (fun e:Int=>(.ifc 149 (.agg [I e]):AV)) r):=by
 refine Qt (X:=Ea (fun r:Unit=>(.tup []:AV)) (fun e:Int=>(.ifc 149 (.agg [I e]):AV))) Tryz.func115 rfl Tryz.ntmps115 rfl ?_
 unfold XI
 refine sG (xR 1 Qa ?_)
 refine xC [] Qa (KO n a0r) Qa Qa QS (fun r1=>?_)
 refine xR 3 Qa (XC 149 (.agg [I r1.At]) Qa rfl Qa ?_)
 exact qI Qa Qa
def Uf (n:Nat) (a0text:List UInt8):Option Bool :=
 (U2 n a0text).bind fun r1 =>
 cond r1
  (some true)
  ((WK n a0text).bind fun r3 =>
  some r3)
theorem Dl (n:Nat) (a0text:List UInt8):∀ r,Uf n a0text=some r→Q9 Tryz.prog 124 [S a0text] (.ret (B r)):=by
 refine Qt (X:=fun r:Bool=>QV.ret (B r)) Tryz.func124 rfl Tryz.ntmps124 rfl ?_
 unfold Uf
 refine Qg Qd ⟨[(0,S a0text)],[]⟩ Qa (sS (sG (xR 1 Qa ?_)))
 refine xC [] Qa (Gp n a0text) Qa Qa QS (fun r1=>?_)
 refine xR 1 Qa ?_
 refine xS r1 (fun h2=>?_) (fun h2=>?_)
 ·refine xN (Qy Qa h2) Qa (xR 3 Qa (xE (Ql ⟨[(2,B true)],[]⟩ Qa (sT ?_))))
  exact qR (.id) Qa Qa Qa
 refine xO (Qx Qa h2) Qa ?_
 refine xC [] Qa (Gn n a0text) Qa Qa QS (fun r3=>?_)
 refine xR 2 Qa (xE (Ql ⟨[(2,B r3)],[]⟩ Qa (sT ?_)))
 exact qR (.id) Qa Qa Qa
def Ug (n:Nat) (a0r:KA) (recl1:((List (List PV)) × Int)→Option ((List (List PV)) × KA)) (l1_1:List (List PV)) (l1_2:Int):Option ((List (List PV)) × KA) :=
 (U1 n (⟨a0r.tks,l1_2,a0r.length,[]⟩:KA)).bind fun r2 =>
 cond (Qi r2.Kind 2)
  ((some ()).bind fun _ =>
  cond (Zo (List.length (l1_1++[GN.cs (⟨6,[],r2.N,r2.At,[]⟩:GN)])) 64) (
   recl1 (l1_1++[GN.cs (⟨6,[],r2.N,r2.At,[]⟩:GN)],wi (l1_2+1))) none)
  ((cond (Qi r2.Kind 1)
   ((Uf n r2.Text).bind fun r6 =>
   some r6)
   (some false)).bind fun j4 =>
  cond j4
   ((some ()).bind fun _ =>
   cond (Zo (List.length (l1_1++[GN.cs (⟨5,r2.Text,0,r2.At,[]⟩:GN)])) 64) (
    recl1 (l1_1++[GN.cs (⟨5,r2.Text,0,r2.At,[]⟩:GN)],wi (l1_2+1))) none)
   (some (l1_1,(⟨a0r.tks,l1_2,a0r.length,[]⟩:KA))))
def FP (n:Nat) (a0r:KA):Option ((List (List PV)) × KA) :=
 QT (fun recl1 (l1_1,l1_2)=>Ug n a0r recl1 l1_1 l1_2) n ([],a0r.pos)
theorem NC (n:Nat) (a0r:KA) (h03w:Option Addr) (h03l h03c:Nat):∀ r,FP n a0r=some r→Wz Tryz.prog 119 [YY, .p (.val (.func (.func 124) #[] #[]))] (Go.Abs.look [(1000, .box 95 [.p (.sl 4 (Hf a0r.tks)),I a0r.pos,I a0r.length,hS h03w h03l h03c])]) (J7 (fun r:(List (List PV)) × KA=>((.ret (.p (.sl 5 (mI r.1))),[(1000, .box 95 [.p (.sl 4 (Hf r.2.tks)),I r.2.pos,I r.2.length,hS h03w h03l h03c])]):QV × List (Nat × Blk))) r):=by
 refine Vd (X:=fun r:(List (List PV)) × KA=>((.ret (.p (.sl 5 (mI r.1))),(Gw r.2.tks r.2.pos r.2.length (.slice h03w h03l h03c))):QV × List (Nat × Blk))) (Gw a0r.tks a0r.pos a0r.length (.slice h03w h03l h03c)) Tryz.func119 rfl Tryz.ntmps119 rfl ?_
 unfold FP
 refine Qg Qd ⟨[(0,YY),(1, .p (.val (.func (.func 124) #[] #[])))],Gw a0r.tks a0r.pos a0r.length (.slice h03w h03l h03c)⟩ Qa (Qg Qd ⟨bD (.func (.func 124) #[] #[]),Gw a0r.tks a0r.pos a0r.length (.slice h03w h03l h03c)⟩ Qa (sB (CQ ⟨bD (.func (.func 124) #[] #[]),Gw a0r.tks a0r.pos a0r.length (.slice h03w h03l h03c)⟩ Qa (Zj (Z8 24 5 300 [5] [] Qa) (QH (fun (l1_1,l1_2)=>⟨lQ (.func (.func 124) #[] #[]) l1_1,TD l1_1++Gw a0r.tks l1_2 a0r.length (.slice h03w h03l h03c)⟩:((List (List PV)) × Int)→St) (Xk Qa) ?_)))))
 rintro recl1 ⟨l1_1,l1_2⟩
 show QX (Ug n a0r recl1 l1_1 l1_2) _ _ _ _ _ _
 unfold Ug
 refine sB (sS (sG (xR 1 Qa ?_)))
 refine Hz [.ro []] Qa (X7 n (⟨a0r.tks,l1_2,a0r.length,[]⟩:KA) h03w h03l h03c) Qa Qa QS (fun r2=>?_)
 refine xR 2 Qa (xE (Ql ⟨Qal (.func (.func 124) #[] #[]) l1_1,iq r2++TD l1_1++Gw a0r.tks l1_2 a0r.length (.slice h03w h03l h03c)⟩ Qa (sS (sB (Qg Qd ⟨Qam (.func (.func 124) #[] #[]) l1_1 (Qi r2.Kind 2),iq r2++TD l1_1++Gw a0r.tks l1_2 a0r.length (.slice h03w h03l h03c)⟩ Qa (sC (Qi r2.Kind 2) Qa ?_ ?_))))))
 ·refine sG (xR 4 Qa (Vp [] [.agg [I r2.Kind,S r2.Text,I r2.N,I r2.At],I 6,S [],I r2.N,zS] [] [] [] Qa Tryz.func39 rfl Tryz.ntmps39 rfl Qa Qa Qa (Qg Qd ⟨bE 6 [] r2.N,lS r2⟩ Qa (Qg Qd ⟨bF,Dk 6 [] r2.N r2.At⟩ Qa (Yj (fun _=>(sq3 6 [] r2.N r2.At):Unit→St) ?_ ?_)))))
  ·refine Qg Qd ⟨bG,Dk 6 [] r2.N r2.At⟩ Qa (sB (Vq 0 (Qg Qd ⟨bH,Dk 6 [] r2.N r2.At⟩ Qa (sS (Zm Qa (Qz (Kb ?_)))))))
   refine SG (QW ?_)
   exact QO () Qa
  rintro _
  refine Qg Qd (sq4 6 [] r2.N r2.At) Qa (sT (Q0 (.agg [.id, .id, .id, .id, .sl 5]) [] [] (.agg [I 6,S [],I r2.N,I r2.At, .p (.sl 5 (mI []))]) Qa Qa (WG (xR 1 Qa (xF Qa Qa (Zy (e:=24) (S:=5) (by_:=64) (enc:=KI) (tk:=300) (l:=l1_1) (l2:=[GN.cs (⟨6,[],r2.N,r2.At,[]⟩:GN)]) (xv:=.tsl 5 (mI [GN.cs (⟨6,[],r2.N,r2.At,[]⟩:GN)]) 19) rfl Qa Qa rfl Qa Qa Qa rfl Qa) (xR 1 Qa (xE ?_)))))))
  refine Za (Ql (sq5 (.func (.func 124) #[] #[]) (l1_1++[GN.cs (⟨6,[],r2.N,r2.At,[]⟩:GN)]) a0r.tks l1_2 a0r.length (.slice h03w h03l h03c)) Qa (sL Qd Qa (Za ?_)))
  exact KZ (l1_1++[GN.cs (⟨6,[],r2.N,r2.At,[]⟩:GN)],wi (l1_2+1)) Qa
 refine Yj (fun j4=>⟨Qan (.func (.func 124) #[] #[]) l1_1 j4,iq r2++TD l1_1++Gw a0r.tks l1_2 a0r.length (.slice h03w h03l h03c)⟩:Bool→St) ?_ ?_
 ·refine sG (xR 4 Qa ?_)
  refine xS (Qi r2.Kind 1) (fun h5=>?_) (fun h5=>?_)
  ·refine xO (Qp Qa h5) Qa (xR 2 Qa ?_)
   refine xC [] Qa (Dl n r2.Text) Qa Qa QS (fun r6=>?_)
   refine xR 2 Qa (xE ?_)
   exact QO r6 Qa
  refine xN (Qq Qa h5) Qa (xR 5 Qa (xE ?_))
  exact QO false Qa
 rintro j4
 refine sC j4 Qa ?_ ?_
 rotate_left
 ·refine Qg Qd ⟨[(4, .tsl 5 (mI l1_1) 300)],TD l1_1++Gw a0r.tks l1_2 a0r.length (.slice h03w h03l h03c)⟩ Qa (sT (Zh (Q8 (Zh (Yv (Zh ?_))))))
  exact Y2 (.sl 5) [1000] [] Qa Qa Qa Qa
 refine sG (xR 4 Qa (Vp [] [.agg [I r2.Kind,S r2.Text,I r2.N,I r2.At],I 5,S r2.Text,I 0,zS] [] [] [] Qa Tryz.func39 rfl Tryz.ntmps39 rfl Qa Qa Qa (Qg Qd ⟨bE 5 r2.Text 0,lS r2⟩ Qa (Qg Qd ⟨bF,Dk 5 r2.Text 0 r2.At⟩ Qa (Yj (fun _=>(sq3 5 r2.Text 0 r2.At):Unit→St) ?_ ?_)))))
 ·refine Qg Qd ⟨bG,Dk 5 r2.Text 0 r2.At⟩ Qa (sB (Vq 0 (Qg Qd ⟨bH,Dk 5 r2.Text 0 r2.At⟩ Qa (sS (Zm Qa (Qz (Kb ?_)))))))
  refine SG (QW ?_)
  exact QO () Qa
 rintro _
 refine Qg Qd (sq4 5 r2.Text 0 r2.At) Qa (sT (Q0 (.agg [.id, .id, .id, .id, .sl 5]) [] [] (.agg [I 5,S r2.Text,I 0,I r2.At, .p (.sl 5 (mI []))]) Qa Qa (WG (xR 1 Qa (xF Qa Qa (Zy (e:=24) (S:=5) (by_:=64) (enc:=KI) (tk:=300) (l:=l1_1) (l2:=[GN.cs (⟨5,r2.Text,0,r2.At,[]⟩:GN)]) (xv:=.tsl 5 (mI [GN.cs (⟨5,r2.Text,0,r2.At,[]⟩:GN)]) 36) rfl Qa Qa rfl Qa Qa Qa rfl Qa) (xR 1 Qa (xE ?_)))))))
 refine Za (Ql (sq5 (.func (.func 124) #[] #[]) (l1_1++[GN.cs (⟨5,r2.Text,0,r2.At,[]⟩:GN)]) a0r.tks l1_2 a0r.length (.slice h03w h03l h03c)) Qa (sL Qd Qa (Za ?_)))
 exact KZ (l1_1++[GN.cs (⟨5,r2.Text,0,r2.At,[]⟩:GN)],wi (l1_2+1)) Qa
abbrev Vz:=(Except (Int × KA) (GN × KA))
def Y3 (r1:YQ) (j3_1:List (List PV)) (j3_2:List YQ) (j3_3:Int) (j3_4:Int):Option Vz :=
 some (.ok ((⟨4,r1.Text,0,r1.At,j3_1⟩:GN),(⟨j3_2,wi (j3_3+1),j3_4,[]⟩:KA)))
def Y4 (n:Nat) (a0r:KA) (r1:YQ):Option Vz :=
 ((FP n (⟨a0r.tks,wi (a0r.pos+1),a0r.length,[]⟩:KA)).bind fun r4 =>
 cond (Zo (List.length ([]++r4.1)) 64) (
  some ([]++r4.1,r4.2.tks,r4.2.pos,r4.2.length)) none).bind fun (j3_1,j3_2,j3_3,j3_4) =>
 (U1 n (⟨j3_2,j3_3,j3_4,[]⟩:KA)).bind fun r5 =>
 (cond (Qi r5.Kind 0)
  (some true)
  ((cond (Qi r5.Kind 3)
   (some (QK r5.Text [59]))
   (some false)).bind fun j9 =>
  some (!j9))).bind fun j7 =>
 cond j7
  ((CW n (⟨j3_2,j3_3,j3_4,[]⟩:KA)).bind (Rh (fun r11 =>
   Y3 r1 j3_1 j3_2 j3_3 j3_4) fun e12=>some (.error (e12,(⟨j3_2,j3_3,j3_4,[]⟩:KA)))))
  (Y3 r1 j3_1 j3_2 j3_3 j3_4)
def Rw (n:Nat) (a0r:KA):Option Vz :=
 (U1 n (⟨a0r.tks,a0r.pos,a0r.length,[]⟩:KA)).bind fun r1 =>
 (cond (Qi r1.Kind 0)
  (some true)
  ((cond (Qi r1.Kind 1)
   ((YR n r1.Text).bind fun r17 =>
   some r17)
   (some false)).bind fun j15 =>
  some (!j15))).bind fun j13 =>
 cond j13
  ((CW n (⟨a0r.tks,a0r.pos,a0r.length,[]⟩:KA)).bind (Rh (fun r18 =>
   Y4 n a0r r1) fun e19=>some (.error (e19,(⟨a0r.tks,a0r.pos,a0r.length,[]⟩:KA)))))
  (Y4 n a0r r1)
def bI:List (Nat × Blk):=[(1, .box 93 [.ptr 1000 0]),(2,(H6 0 [] 0 0))]
def bq5:=fun x0=>(.box 82 [.p (.val x0)]:Blk)
def sq6:=fun x0=>(⟨[(1, .ptr 1 0)],[(1,(bq5 x0))]⟩:St)
def sq7:=fun x0=>(⟨[(2, .fn (.func 116) [] [.ptr 1 0])],[(1,(bq5 x0))]⟩:St)
def yc:=fun x0 x1 x2 x3=>([(1000,(bq2 x0 x1 x2 x3)),(1001,(bq5 (.func (.func 112) #[] #[])))]:List (Nat × Blk))
def Qap:=fun x0=>([(0, .ptr 1000 0),(1, .fn x0 [] [.ptr 1001 0]),(4, .ptr 4 0)]:List (Nat × AV))
def jT:List (Nat × Blk):=[(4, .box 98 [I 0,S [],I 0,I 0])]
def Qaq:=fun x0=>([(0, .ptr 1000 0),(1, .fn x0 [] [.ptr 1001 0]),(4, .ptr 4 0),(5, .ptr 5 0)]:List (Nat × AV))
def Us:=fun x0=>([(4, .box 98 [I 0,S [],I 0,I 0]),(5, .box 98 (KJ (YQ.cs x0)))]:List (Nat × Blk))
def jU:List (Nat × AV):=[(0, .ptr 1000 0),(4, .ptr 4 0),(5, .ptr 5 0)]
def jV:=fun x0=>([(0, .ptr 1000 0),(4, .ptr 4 0),(5, .ptr 5 0),(16,B x0)]:List (Nat × AV))
def yf:=fun x0=>([(1000,(bq5 x0))]:List (Nat × Blk))
def lT:=fun x0 x1=>(⟨[(1, .ptr 1000 0),(2, .ptr 2 0)],hq4 x0++yf x1⟩:St)
def jW:=fun x0=>([(4, .box 98 (KJ (YQ.cs x0)))]:List (Nat × Blk))
def fJ:List (Nat × AV):=[(1, .ptr 1 0),(2, .ptr 2 0),(3, .ptr 3 0)]
def zi:=fun x0=>([(1, .box 93 [.ptr 1000 0]),(2,(H6 0 [] 0 0)),(3, .box 98 (KJ (YQ.cs x0)))]:List (Nat × Blk))
def bq6:Blk:=.box 99 [.fn (.func 123) [] [.ptr 1001 0]]
def Mq:=fun x0 x1 x2 x3=>([(1000,(bq2 x0 x1 x2 x3)),(1001, .box 93 [.ptr 1000 0]),(1002,bq6)]:List (Nat × Blk))
def lU:=fun x0 x1 x2 x3=>([(1,I x0),(2,S (YQ.Text x1)),(3,I x2),(4,x3),(5, .ptr 5 0),(10, .ptr 10 0)]:List (Nat × AV))
def jX:=fun x0=>([(4,x0),(10, .ptr 10 0),(11, .ptr 11 0)]:List (Nat × AV))
def bq7:=fun x0=>(.box 24 [I 4,S (YQ.Text x0),I 0,I (YQ.At x0), .p (.val (.slice none 0 0))]:Blk)
def jY:=fun x0=>([(10,(H6 0 [] 0 0)),(11,(bq7 x0))]:List (Nat × Blk))
def bq8:=fun x0 x1=>(.box 24 [I 4,S (YQ.Text x0),I 0,I (YQ.At x0), .tsl 5 (List.map KI x1) 300]:Blk)
abbrev mY:=((List (List PV)) × (List YQ) × Int × Int)
def Gt:=fun x0 x1 x2=>([(10, .ptr 10 0),(11, .ptr 11 0),(20,x0),(21,I x1),(22,I x2)]:List (Nat × AV))
def Dm:=fun x0 x1 x2 x3=>([(10, .ptr 10 0),(11, .ptr 11 0),(20,x0),(21,I x1),(22,I x2),(23,B x3)]:List (Nat × AV))
def Qas:List (Nat × AV):=[(10, .ptr 10 0),(11, .ptr 11 0),(13, .fn (.func 123) [] [.ptr 1001 0]),(20,(.bsl 1002 1)),(21,I 1),(22,I 0)]
def lV:=fun x0 x1 x2 x3=>([(1000,(bq2 x0 x1 x2 x3)),(1001, .box 93 [.ptr 1000 0])]:List (Nat × Blk))
def vL:=fun x0=>(.box 24 (KJ (GN.cs x0)):Blk)
def fK:=fun x0=>([(1, .box 9 [S x0])]:List (Nat × Blk))
def sq8:=fun x0=>(⟨[(2, .fn (.func 117) [] [.ptr 1 0])],fK x0⟩:St)
def yg:=fun x0 x1 x2 x3=>([(1000,(bq2 x0 x1 x2 x3)),(1001, .box 9 [S [59]])]:List (Nat × Blk))
def Oe:=fun x0=>([(1000, .box 9 [S x0])]:List (Nat × Blk))
def sq9:=fun x0 x1=>(⟨[(1, .ptr 1000 0),(2, .ptr 2 0)],hq4 x0++Oe x1⟩:St)
theorem EH (n:Nat) (a0r:KA) (h03w:Option Addr) (h03l h03c:Nat):∀ r,Rw n a0r=some r→Wz Tryz.prog 121 [YY] (Go.Abs.look [(1000, .box 95 [.p (.sl 4 (Hf a0r.tks)),I a0r.pos,I a0r.length,hS h03w h03l h03c])]) (J7 (Cm (fun r:GN × KA=>((.ret (ag (GN.cs r.1)),[(1000, .box 95 [.p (.sl 4 (Hf r.2.tks)),I r.2.pos,I r.2.length,hS h03w h03l h03c])]):QV × List (Nat × Blk))) (fun e:Int × KA=>((.panic (.ifc 149 (.agg [I e.1])),[(1000, .box 95 [.p (.sl 4 (Hf e.2.tks)),I e.2.pos,I e.2.length,hS h03w h03l h03c])]):QV × List (Nat × Blk)))) r):=by
 refine Vd (X:=Cm (fun r:GN × KA=>((.ret (ag (GN.cs r.1)),(Gw r.2.tks r.2.pos r.2.length (.slice h03w h03l h03c))):QV × List (Nat × Blk))) (fun e:Int × KA=>((.panic (.ifc 149 (.agg [I e.1])),(Gw e.2.tks e.2.pos e.2.length (.slice h03w h03l h03c))):QV × List (Nat × Blk)))) (Gw a0r.tks a0r.pos a0r.length (.slice h03w h03l h03c)) Tryz.func121 rfl Tryz.ntmps121 rfl ?_
 unfold Rw
 refine Qg Qd ⟨[qq 1,qq 2],bI++Gw a0r.tks a0r.pos a0r.length (.slice h03w h03l h03c)⟩ Qa (sS (CQ ⟨[qq 1,qq 2],bI++Gw a0r.tks a0r.pos a0r.length (.slice h03w h03l h03c)⟩ Qa (qV [0] 3 3 [1,2,3,4] Qd rfl Qa Qa (QP (Zq YY Qa rfl) (Qj)) Qa (NT (f:=100) (args:=[.p (.val (.func (.func 112) #[] #[]))]) (dst:=some 6) Qa Qa rfl (ZA (hc:=[]) (args':=[.p (.val (.func (.func 112) #[] #[]))]) [(1,401)] [] [] Tryz.func100 rfl Tryz.ntmps100 rfl Qa Qa Qa (Qg Qd (sq6 (.func (.func 112) #[] #[])) Qa (Qg Qd (sq7 (.func (.func 112) #[] #[])) Qa ?_)))))))
 refine sT (Q0 (.id) [1] [] (.fn (.func 116) [] [.ptr 1 0]) Qa Qa (kf [0] Qa (QP (Zq YY Qa rfl) (Qj)) Qa (NT (f:=99) (args:=[YY, .fn (.func 116) [] [.ptr 401 0]]) (dst:=some 7) Qa Qa rfl (ZA (hc:=(yc a0r.tks a0r.pos a0r.length (.slice h03w h03l h03c))) (args':=[YY, .fn (.func 116) [] [Tf]]) [(1001,401),(1000,1000)] [] [] Tryz.func99 rfl Tryz.ntmps99 rfl Qa Qa Qa (Qg Qd ⟨Qap (.func 116),jT++yc a0r.tks a0r.pos a0r.length (.slice h03w h03l h03c)⟩ Qa (sS (sG ?_)))))))
 refine xR 1 Qa ?_
 refine Hz [.ro []] Qa (X7 n (⟨a0r.tks,a0r.pos,a0r.length,[]⟩:KA) h03w h03l h03c) Qa Qa QS (fun r1=>?_)
 refine xR 2 Qa (xE (Ql ⟨Qaq (.func 116),Us r1++yc a0r.tks a0r.pos a0r.length (.slice h03w h03l h03c)⟩ Qa (Kr (fun _=>⟨jU,Us r1++yc a0r.tks a0r.pos a0r.length (.slice h03w h03l h03c)⟩:Unit→St) (fun _=>Y4 n a0r r1) ?_ ?_)))
 rotate_left
 ·refine Yj (fun j13=>⟨jV j13,Us r1++yc a0r.tks a0r.pos a0r.length (.slice h03w h03l h03c)⟩:Bool→St) ?_ ?_
  rotate_left
  ·rintro j13
   refine sC j13 Qa ?_ ?_
   ·refine sG (xR 1 Qa ?_)
    refine BU [.ro []] Qa (Ns n (⟨a0r.tks,a0r.pos,a0r.length,[]⟩:KA) h03w h03l h03c) Qa Qa QS QS (fun r18=>?_) (fun e19=>?_)
    ·refine xE ?_
     exact KZ (k:=fun _=>Y4 n a0r r1) () Qa
    refine Zk (ZR [1000,1001] [] Qa (qO _ rfl (Kj ?_)))
    exact Kz [1000] [] Qa Qa Qa
   refine sK ?_
   exact KZ (k:=fun _=>Y4 n a0r r1) () Qa
  refine sG (xR 4 Qa ?_)
  refine xS (Qi r1.Kind 0) (fun h14=>?_) (fun h14=>?_)
  ·refine xN (Qy Qa h14) Qa (xR 4 Qa (xE ?_))
   exact QO true Qa
  refine xO (Qx Qa h14) Qa (xR 1 Qa (Vp (yf (.func (.func 112) #[] #[])) [.agg [I r1.Kind,S r1.Text,I r1.N,I r1.At],YY] [(1000,1001)] [] [] Qa Tryz.func116 rfl Tryz.ntmps116 rfl Qa Qa Qa (Qg Qd (lT r1 (.func (.func 112) #[] #[])) Qa (Yj (fun j15=>⟨[(3,B j15)],yf (.func (.func 112) #[] #[])⟩:Bool→St) ?_ ?_))))
  ·refine sG (xR 4 Qa ?_)
   refine xS (Qi r1.Kind 1) (fun h16=>?_) (fun h16=>?_)
   ·refine xO (Qp Qa h16) Qa (xR 2 Qa ?_)
    refine xC [] Qa (XH n r1.Text) Qa Qa QS (fun r17=>?_)
    refine xR 2 Qa (xE ?_)
    exact QO r17 Qa
   refine xN (Qq Qa h16) Qa (xR 5 Qa (xE ?_))
   exact QO false Qa
  rintro j15
  refine sT (Q0 (.id) [1000] [] (B j15) Qa Qa (WG (xR 2 Qa (xE ?_))))
  exact QO (!j15) Qa
 rintro _
 show QX (Y4 n a0r r1) _ _ _ _ _ _
 unfold Y4
 refine Qg Qd ⟨[qq 4,qq 5],Us r1++yc a0r.tks (wi (a0r.pos+1)) a0r.length (.slice h03w h03l h03c)⟩ Qa (Qg Qd ⟨[qq 4],jW r1++yc a0r.tks (wi (a0r.pos+1)) a0r.length (.slice h03w h03l h03c)⟩ Qa (sT (Q0 (.id) [1000,1001] [] (.agg [I r1.Kind,S r1.Text,I r1.N,I r1.At]) Qa Qa (kf [] Qa (Qj) Qa (f_q [0] Qa Qa (QP (Zq YY Qa rfl) (Qj)) (Qad [] rfl Qa Qa (Qj) Qa (rR ?_)))))))
 refine Ql ⟨fJ,zi r1++Gw a0r.tks (wi (a0r.pos+1)) a0r.length (.slice h03w h03l h03c)⟩ Qa (sS (sG (xR 5 Qa (Vp (Mq a0r.tks (wi (a0r.pos+1)) a0r.length (.slice h03w h03l h03c)) [.agg [I r1.Kind,S r1.Text,I r1.N,I r1.At],I 4,S r1.Text,I 0, .bsl 1002 1] [(1001,1),(1002,12),(1000,1000)] [] [] Qa Tryz.func39 rfl Tryz.ntmps39 rfl Qa Qa Qa (Qg Qd ⟨lU 4 r1 0 (.bsl 1002 1),lS r1++Mq a0r.tks (wi (a0r.pos+1)) a0r.length (.slice h03w h03l h03c)⟩ Qa (Qg Qd ⟨jX (.bsl 1002 1),jY r1++Mq a0r.tks (wi (a0r.pos+1)) a0r.length (.slice h03w h03l h03c)⟩ Qa (Yj (fun (j3_1,j3_2,j3_3,j3_4)=>⟨[qq 10,qq 11],[(10,(H6 0 [] 0 0)),(11,(bq8 r1 j3_1))]++TD j3_1++Mq j3_2 j3_3 j3_4 (.slice h03w h03l h03c)⟩:mY→St) ?_ ?_)))))))
 ·refine Qg Qd ⟨Gt (.bsl 1002 1) 1 0,jY r1++Mq a0r.tks (wi (a0r.pos+1)) a0r.length (.slice h03w h03l h03c)⟩ Qa (sB (Vq 1 (Qg Qd ⟨Dm (.bsl 1002 1) 1 0 true,jY r1++Mq a0r.tks (wi (a0r.pos+1)) a0r.length (.slice h03w h03l h03c)⟩ Qa (sS (Zl Qa (sK (Ql ⟨Gt (.bsl 1002 1) 1 0,jY r1++Mq a0r.tks (wi (a0r.pos+1)) a0r.length (.slice h03w h03l h03c)⟩ Qa ?_)))))))
  refine sS (sB (Qg Qd ⟨Qas,jY r1++Mq a0r.tks (wi (a0r.pos+1)) a0r.length (.slice h03w h03l h03c)⟩ Qa (CQ ⟨Qas,jY r1++Mq a0r.tks (wi (a0r.pos+1)) a0r.length (.slice h03w h03l h03c)⟩ Qa (Zj (Z8 24 5 300 [] [(11,4)] Qa) (V5 [0,1,2] [0,1] [(3,[]),(4,[]),(5,[]),(6,[])] Qd rfl Qa Qa (Yh (f:=123) (args:=[Tf]) (dst:=some 29) Qa Qa (ZA (hc:=(lV a0r.tks (wi (a0r.pos+1)) a0r.length (.slice h03w h03l h03c))) (args':=[Tf]) [(1000,1000),(1001,1001)] [] [] Tryz.func123 rfl Tryz.ntmps123 rfl Qa Qa Qa ?_)))))))
  refine Qg Qd ⟨[(0,Tf)],lV a0r.tks (wi (a0r.pos+1)) a0r.length (.slice h03w h03l h03c)⟩ Qa (sS (sG (xR 1 Qa ?_)))
  refine IZ [(1000,1000)] [] [] Qa (NC n (⟨a0r.tks,wi (a0r.pos+1),a0r.length,[]⟩:KA) h03w h03l h03c) Qa Qa Qa QS QS (fun r4=>?_)
  refine xR 1 Qa (xE (Ql ⟨[(1, .p (.sl 5 (mI r4.1)))],lV r4.2.tks r4.2.pos r4.2.length (.slice h03w h03l h03c)⟩ Qa (sT (Q0 (.id) [1000,1001] [] (.p (.sl 5 (mI r4.1))) Qa Qa (kh [0,1] Qa (QP (Zq (.ptr 11 4) Qa rfl) (QP (WJ (S:=5) (t:=300) (ty:=24) (es:=mI []) Qa Qa rfl) (Qj))) Qa (Em [] rfl Qa Qa (WH (e:=24) (S:=5) (by_:=64) (enc:=KI) (tk:=300) (l:=[]) (l2:=r4.1) (xv:=.p (.sl 5 (mI r4.1))) rfl Qa Qa rfl Qa Qa Qa Qa) (fun _=>Qj) (Ja [] Qa Qa (Qj) ?_)))))))
  refine Ja [] Qa Qa (Qj) (Js (Za (Ql ⟨Gt (.bsl 1002 1) 1 0,[(10,(H6 0 [] 0 0)),(11,(bq8 r1 ([]++r4.1)))]++Gs ([]++r4.1)++Mq r4.2.tks r4.2.pos r4.2.length (.slice h03w h03l h03c)⟩ Qa (sL Qd Qa (I6 ⟨[10,11,20,21,22],[10,11,300,1000,1001,1002],[],[]⟩ ⟨Gt (.bsl 1002 1) 1 1,[(10,(H6 0 [] 0 0)),(11,(bq8 r1 ([]++r4.1)))]++Gs ([]++r4.1)++Mq r4.2.tks r4.2.pos r4.2.length (.slice h03w h03l h03c)⟩ Qa (Qg Qd ⟨Dm (.bsl 1002 1) 1 1 false,[(10,(H6 0 [] 0 0)),(11,(bq8 r1 ([]++r4.1)))]++Gs ([]++r4.1)++Mq r4.2.tks r4.2.pos r4.2.length (.slice h03w h03l h03c)⟩ Qa (sS ?_)))))))
  refine Zm Qa (Qz (Kb (SG (QW ?_))))
  exact QO ([]++r4.1,r4.2.tks,r4.2.pos,r4.2.length) Qa
 rintro ⟨j3_1,j3_2,j3_3,j3_4⟩
 refine Qg Qd ⟨[qq 10],[(10,(bq8 r1 j3_1))]++TD j3_1++Mq j3_2 j3_3 j3_4 (.slice h03w h03l h03c)⟩ Qa (sT (Q0 (.agg [.id, .id, .id, .id, .sl 5]) [1000,1001,1002] [] (.agg [I 4,S r1.Text,I 0,I r1.At, .p (.sl 5 (mI j3_1))]) Qa Qa (WG (xR 2 Qa (xE (Ql ⟨[qq 1,qq 2,qq 4],[(1, .box 93 [YY]),(2,(H6 0 [] 0 0)),(4,(vL ⟨4,r1.Text,0,r1.At,j3_1⟩))]++Gw j3_2 j3_3 j3_4 (.slice h03w h03l h03c)⟩ Qa (sS ?_)))))))
 refine V5 [0] [0] [(1,[]),(2,[])] Qd rfl Qa Qa (Yh (f:=105) (args:=[S [59]]) (dst:=some 15) Qa Qa (ZA (hc:=[]) (args':=[S [59]]) [(1,401)] [] [] Tryz.func105 rfl Tryz.ntmps105 rfl Qa Qa Qa (Qg Qd ⟨[qq 1],fK [59]⟩ Qa (Qg Qd (sq8 [59]) Qa (sT (Q0 (.id) [1] [] (.fn (.func 117) [] [.ptr 1 0]) Qa Qa (kh [0] Qa (QP (Zq YY Qa rfl) (Qj)) Qa ?_)))))))
 refine Yh (f:=99) (args:=[YY, .fn (.func 117) [] [.ptr 401 0]]) (dst:=some 16) Qa Qa (ZA (hc:=(yg j3_2 j3_3 j3_4 (.slice h03w h03l h03c))) (args':=[YY, .fn (.func 117) [] [Tf]]) [(1001,401),(1000,1000)] [] [] Tryz.func99 rfl Tryz.ntmps99 rfl Qa Qa Qa (Qg Qd ⟨Qap (.func 117),jT++yg j3_2 j3_3 j3_4 (.slice h03w h03l h03c)⟩ Qa (sS (sG (xR 1 Qa ?_)))))
 refine Hz [.ro []] Qa (X7 n (⟨j3_2,j3_3,j3_4,[]⟩:KA) h03w h03l h03c) Qa Qa QS (fun r5=>?_)
 refine xR 2 Qa (xE (Ql ⟨Qaq (.func 117),Us r5++yg j3_2 j3_3 j3_4 (.slice h03w h03l h03c)⟩ Qa (Kr (fun _=>⟨jU,Us r5++yg j3_2 j3_3 j3_4 (.slice h03w h03l h03c)⟩:Unit→St) (fun _=>Y3 r1 j3_1 j3_2 j3_3 j3_4) ?_ ?_)))
 ·rintro _
  show QX (Y3 r1 j3_1 j3_2 j3_3 j3_4) _ _ _ _ _ _
  unfold Y3
  refine Qg Qd ⟨[qq 4,qq 5],Us r5++yg j3_2 (wi (j3_3+1)) j3_4 (.slice h03w h03l h03c)⟩ Qa (Qg Qd ⟨[qq 4],jW r5++yg j3_2 (wi (j3_3+1)) j3_4 (.slice h03w h03l h03c)⟩ Qa (sT (Q0 (.id) [1000,1001] [] (.agg [I r5.Kind,S r5.Text,I r5.N,I r5.At]) Qa Qa (kh [] Qa (Qj) Qa (Js (Ql ⟨[qq 2,qq 4],[(2,(H6 0 [] 0 0)),(4,(vL ⟨4,r1.Text,0,r1.At,j3_1⟩))]++Gw j3_2 (wi (j3_3+1)) j3_4 (.slice h03w h03l h03c)⟩ Qa (Qg Qd ⟨[qq 2],[(2,(vL ⟨4,r1.Text,0,r1.At,j3_1⟩))]++Gw j3_2 (wi (j3_3+1)) j3_4 (.slice h03w h03l h03c)⟩ Qa ?_)))))))
  refine sT ?_
  exact Y2 (.id) [1000] [] Qa Qa Qa Qa
 refine Yj (fun j7=>⟨jV j7,Us r5++yg j3_2 j3_3 j3_4 (.slice h03w h03l h03c)⟩:Bool→St) ?_ ?_
 rotate_left
 ·rintro j7
  refine sC j7 Qa ?_ ?_
  ·refine sG (xR 1 Qa ?_)
   refine BU [.ro []] Qa (Ns n (⟨j3_2,j3_3,j3_4,[]⟩:KA) h03w h03l h03c) Qa Qa QS QS (fun r11=>?_) (fun e12=>?_)
   ·refine xE ?_
    exact KZ (k:=fun _=>Y3 r1 j3_1 j3_2 j3_3 j3_4) () Qa
   refine Zk (ZR [1000,1001] [] Qa (qO _ rfl (Kj ?_)))
   exact Kz [1000] [] Qa Qa Qa
  refine sK ?_
  exact KZ (k:=fun _=>Y3 r1 j3_1 j3_2 j3_3 j3_4) () Qa
 refine sG (xR 4 Qa ?_)
 refine xS (Qi r5.Kind 0) (fun h8=>?_) (fun h8=>?_)
 ·refine xN (Qy Qa h8) Qa (xR 4 Qa (xE ?_))
  exact QO true Qa
 refine xO (Qx Qa h8) Qa (xR 1 Qa (Vp (Oe [59]) [.agg [I r5.Kind,S r5.Text,I r5.N,I r5.At],YY] [(1000,1001)] [] [] Qa Tryz.func117 rfl Tryz.ntmps117 rfl Qa Qa Qa (Qg Qd (sq9 r5 [59]) Qa (Yj (fun j9=>⟨[(3,B j9)],Oe [59]⟩:Bool→St) ?_ ?_))))
 ·refine sG (xR 4 Qa ?_)
  refine xS (Qi r5.Kind 3) (fun h10=>?_) (fun h10=>?_)
  ·refine xO (Qp Qa h10) Qa (xR 5 Qa (xE ?_))
   exact QO (QK r5.Text [59]) Qa
  refine xN (Qq Qa h10) Qa (xR 5 Qa (xE ?_))
  exact QO false Qa
 rintro j9
 refine sT (Q0 (.id) [1000] [] (B j9) Qa Qa (WG (xR 2 Qa (xE ?_))))
 exact QO (!j9) Qa
def Rx (a0r:KA) (recl1:Int→Option ((List UInt8) × KA)) (l1:Int):Option ((List UInt8) × KA) :=
 cond (QL l1 (Qc (List.map YQ.cs a0r.tks)))
  ((Q4 a0r.tks l1).bind fun x2 =>
  (cond (Qi x2.Kind 3)
   (some (!QK x2.Text [123]))
   (some false)).bind fun j3 =>
  cond j3
   (some (x2.Text,(⟨a0r.tks,wi (l1+1),a0r.length,[]⟩:KA)))
   (recl1 (wi (l1+1))))
  (some ([],(⟨a0r.tks,l1,a0r.length,[]⟩:KA)))
def CY (n:Nat) (a0r:KA):Option ((List UInt8) × KA) :=
 QT (fun recl1 l1=>Rx a0r recl1 l1) n a0r.pos
def lW:=fun x0=>([(3, .box 98 (KJ (YQ.cs x0)))]:List (Nat × Blk))
theorem Nu (n:Nat) (a0r:KA) (h03w:Option Addr) (h03l h03c:Nat):∀ r,CY n a0r=some r→Wz Tryz.prog 98 [YY] (Go.Abs.look [(1000, .box 95 [.p (.sl 4 (Hf a0r.tks)),I a0r.pos,I a0r.length,hS h03w h03l h03c])]) (J7 (fun r:(List UInt8) × KA=>((.ret (S r.1),[(1000, .box 95 [.p (.sl 4 (Hf r.2.tks)),I r.2.pos,I r.2.length,hS h03w h03l h03c])]):QV × List (Nat × Blk))) r):=by
 refine Vd (X:=fun r:(List UInt8) × KA=>((.ret (S r.1),(Gw r.2.tks r.2.pos r.2.length (.slice h03w h03l h03c))):QV × List (Nat × Blk))) (Gw a0r.tks a0r.pos a0r.length (.slice h03w h03l h03c)) Tryz.func98 rfl Tryz.ntmps98 rfl ?_
 unfold CY
 refine Qg Qd ⟨[(0,YY)],Gw a0r.tks a0r.pos a0r.length (.slice h03w h03l h03c)⟩ Qa (sS (sB (QH (fun l1=>⟨[(0,YY)],Gw a0r.tks l1 a0r.length (.slice h03w h03l h03c)⟩:Int→St) (Xk Qa) ?_)))
 rintro recl1 l1
 show QX (Rx a0r recl1 l1) _ _ _ _ _ _
 unfold Rx
 refine sS (Qg Qd ⟨[(0,YY),(13,B (QL l1 (Qc (Hf a0r.tks))))],Gw a0r.tks l1 a0r.length (.slice h03w h03l h03c)⟩ Qa (sC (QL l1 (Qc (Hf a0r.tks))) Qa ?_ ?_))
 rotate_left
 ·refine Qz (Kb (KY (QW (Ql ⟨[],Gw a0r.tks l1 a0r.length (.slice h03w h03l h03c)⟩ Qa (Qg Qd ⟨[(2,S [])],Gw a0r.tks l1 a0r.length (.slice h03w h03l h03c)⟩ Qa (sT ?_))))))
  exact Y2 (.id) [1000] [] Qa Qa Qa Qa
 refine sK (Ql ⟨[(0,YY)],Gw a0r.tks l1 a0r.length (.slice h03w h03l h03c)⟩ Qa (sB (sS (Vo Qd rfl (xR 8 Qa ?_)))))
 refine xG Qa Qa (QN (e:=98) (S:=4) (enc:=YQ.cs) (l:=a0r.tks) (k:=.i64) (n:=l1) (sv:=.p (.sl 4 (Hf a0r.tks))) rfl Qa Qa Qa Qa Qa) (fun x2=>?_)
 refine xR 3 Qa (Yg Qa (Ql ⟨[(0,YY),qq 3],lW x2++Gw a0r.tks l1 a0r.length (.slice h03w h03l h03c)⟩ Qa (Qg Qd ⟨[(0,YY),qq 3],lW x2++Gw a0r.tks (wi (l1+1)) a0r.length (.slice h03w h03l h03c)⟩ Qa (Yj (fun j3=>⟨[(0,YY),qq 3,(38,B j3)],lW x2++Gw a0r.tks (wi (l1+1)) a0r.length (.slice h03w h03l h03c)⟩:Bool→St) ?_ ?_))))
 ·refine sG (xR 4 Qa ?_)
  refine xS (Qi x2.Kind 3) (fun h4=>?_) (fun h4=>?_)
  ·refine xO (Qp Qa h4) Qa (xR 3 Qa (xE ?_))
   exact QO (!QK x2.Text [123]) Qa
  refine xN (Qq Qa h4) Qa (xR 3 Qa (xE ?_))
  exact QO false Qa
 rintro j3
 refine sC j3 Qa ?_ ?_
 ·refine Qg Qd ⟨[(2,S x2.Text)],Gw a0r.tks (wi (l1+1)) a0r.length (.slice h03w h03l h03c)⟩ Qa (sT (Zh (Yv (Zh (Q8 ?_)))))
  exact Y2 (.id) [1000] [] Qa Qa Qa Qa
 refine sK (Za ?_)
 exact KZ (wi (l1+1)) Qa
def X8 (r1:YQ) (r3:YQ) (r5:Int) (j6_1:List (List PV)) (j6_2:List YQ) (j6_3:Int) (j6_4:Int) (j6_5:List Zr):Option Vz :=
 some (.ok ((⟨2,r3.Text,r5,r1.At,j6_1⟩:GN),(⟨j6_2,j6_3,j6_4,j6_5⟩:KA)))
abbrev ty5:=((List (List PV)) × (List YQ) × Int × Int × Int × (List UInt8) × Int × Int)
def Ry (n:Nat) (a0r:KA) (recl9:ty5→Option mY) (l9_1:List (List PV)) (l9_2:List YQ) (l9_3:Int) (l9_4:Int) (l9_5:Int) (l9_6:List UInt8) (l9_7:Int) (l9_8:Int):Option mY :=
 (cond (Qi l9_5 1)
  ((V6 n l9_6).bind fun r12 =>
  some r12)
  (some false)).bind fun j10 =>
 cond j10
  (((FO n (⟨l9_2,wi (l9_3+1),l9_4,[]⟩:KA)).bind fun r14 =>
  cond (Zo (List.length ([]++r14.1)) 64) (
   some ([]++r14.1,r14.2.tks,r14.2.pos,r14.2.length)) none).bind fun (j13_1,j13_2,j13_3,j13_4) =>
  cond (Zo (List.length (l9_1++[GN.cs (⟨3,l9_6,0,l9_8,j13_1⟩:GN)])) 64) (
   (YB n (⟨j13_2,j13_3,j13_4,a0r.dg⟩:KA)).bind fun r15 =>
   recl9 (l9_1++[GN.cs (⟨3,l9_6,0,l9_8,j13_1⟩:GN)],j13_2,j13_3,j13_4,r15.Kind,r15.Text,r15.N,r15.At)) none)
  (some (l9_1,l9_2,l9_3,l9_4))
abbrev Mv:=((List (List PV)) × (List YQ) × Int × Int × (List Zr))
def J9 (j7_1:List (List PV)) (j19_1:List (List PV)) (j19_2:List YQ) (j19_3:Int) (j19_4:Int) (j19_5:List Zr):Option Mv :=
 cond (Zo (List.length ((([]++j7_1)++[])++j19_1)) 64) (
  some ((([]++j7_1)++[])++j19_1,j19_2,j19_3,j19_4,j19_5)) none
def FQ (n:Nat) (j7_1:List (List PV)) (recl20:Mv→Option Mv) (l20_1:List (List PV)) (l20_2:List YQ) (l20_3:Int) (l20_4:Int) (l20_5:List Zr):Option Mv :=
 (CV n (⟨l20_2,l20_3,l20_4,l20_5⟩:KA)).bind fun r21 =>
 cond (!r21)
  ((YB n (⟨l20_2,l20_3,l20_4,l20_5⟩:KA)).bind fun r22 =>
  (cond (Qi r22.Kind 3)
   (some (QK r22.Text [125]))
   (some false)).bind fun j23 =>
  cond j23
   (cond (Zo (List.length ((([]++j7_1)++[])++l20_1)) 64) (
    some ((([]++j7_1)++[])++l20_1,l20_2,wi (l20_3+1),l20_4,l20_5)) none)
   (((Rw n (⟨l20_2,l20_3,l20_4,[]⟩:KA)).bind (Rh (fun r26 =>
    some (true,[],r26.2.tks,r26.2.pos,r26.2.length,l20_5,r26.1.Kind,r26.1.Name,r26.1.N,r26.1.At,r26.1.Kids)) fun e27=>cond (Zo (List.length (l20_5++[(⟨7,e27.1⟩:Zr)])) 16) (
    (CY n (⟨e27.2.tks,e27.2.pos,e27.2.length,[]⟩:KA)).bind fun r28 =>
    some (false,r28.1,r28.2.tks,r28.2.pos,r28.2.length,l20_5++[(⟨7,e27.1⟩:Zr)],0,[],0,0,[])) none)).bind fun (j25_1,j25_2,j25_3,j25_4,j25_5,j25_6,j25_7,j25_8,j25_9,j25_10,j25_11) =>
   cond j25_1
    (cond (Zo (List.length (l20_1++[GN.cs (⟨j25_7,j25_8,j25_9,j25_10,j25_11⟩:GN)])) 64) (
     recl20 (l20_1++[GN.cs (⟨j25_7,j25_8,j25_9,j25_10,j25_11⟩:GN)],j25_3,j25_4,j25_5,j25_6)) none)
    (cond (!QK j25_2 [59])
     (cond (Zo (List.length ((([]++j7_1)++[])++l20_1)) 64) (
      some ((([]++j7_1)++[])++l20_1,j25_3,j25_4,j25_5,j25_6)) none)
     (recl20 (l20_1,j25_3,j25_4,j25_5,j25_6)))))
  (J9 j7_1 l20_1 l20_2 l20_3 l20_4 l20_5)
def V7 (n:Nat) (a0r:KA) (r1:YQ) (r3:YQ) (r5:Int) (j7_1:List (List PV)) (j7_2:List YQ) (j7_3:Int) (j7_4:Int):Option Vz :=
 cond (Zo (List.length (([]++j7_1)++[])) 64) (
  (QT (fun recl20 (l20_1,l20_2,l20_3,l20_4,l20_5)=>FQ n j7_1 recl20 l20_1 l20_2 l20_3 l20_4 l20_5) n ([],j7_2,wi (j7_3+1),j7_4,a0r.dg)).bind fun (j18_1,j18_2,j18_3,j18_4,j18_5) =>
  X8 r1 r3 r5 j18_1 j18_2 j18_3 j18_4 j18_5) none
def Xa (a0r:KA) (r1:YQ) (r3:YQ) (r5:Int) (j35_1:List (List PV)) (j35_2:List YQ) (j35_3:Int) (j35_4:Int):Option Vz :=
 some (.ok ((⟨2,r3.Text,r5,r1.At,j35_1⟩:GN),(⟨j35_2,j35_3,j35_4,a0r.dg⟩:KA)))
def FR (n:Nat) (a0r:KA) (recl38:ty5→Option mY) (l38_1:List (List PV)) (l38_2:List YQ) (l38_3:Int) (l38_4:Int) (l38_5:Int) (l38_6:List UInt8) (l38_7:Int) (l38_8:Int):Option mY :=
 (cond (Qi l38_5 1)
  ((V6 n l38_6).bind fun r41 =>
  some r41)
  (some false)).bind fun j39 =>
 cond j39
  (((FO n (⟨l38_2,wi (l38_3+1),l38_4,[]⟩:KA)).bind fun r43 =>
  cond (Zo (List.length ([]++r43.1)) 64) (
   some ([]++r43.1,r43.2.tks,r43.2.pos,r43.2.length)) none).bind fun (j42_1,j42_2,j42_3,j42_4) =>
  cond (Zo (List.length (l38_1++[GN.cs (⟨3,l38_6,0,l38_8,j42_1⟩:GN)])) 64) (
   (YB n (⟨j42_2,j42_3,j42_4,a0r.dg⟩:KA)).bind fun r44 =>
   recl38 (l38_1++[GN.cs (⟨3,l38_6,0,l38_8,j42_1⟩:GN)],j42_2,j42_3,j42_4,r44.Kind,r44.Text,r44.N,r44.At)) none)
  (some (l38_1,l38_2,l38_3,l38_4))
def V9 (a0r:KA) (r1:YQ) (r3:YQ) (r5:Int) (j36_1:List (List PV)) (j36_2:List YQ) (j36_3:Int) (j36_4:Int):Option Vz :=
 cond (Zo (List.length (([]++j36_1)++[])) 64) (
  Xa a0r r1 r3 r5 (([]++j36_1)++[]) j36_2 (wi (j36_3+1)) j36_4) none
def WL (n:Nat) (a0r:KA) (r1:YQ) (r3:YQ):Option Vz :=
 (XG n r1.Text).bind fun r5 =>
 cond (Qi r5 7)
  (((YB n (⟨a0r.tks,wi ((wi (a0r.pos+1))+1),a0r.length,a0r.dg⟩:KA)).bind fun r8 =>
  QT (fun recl9 (l9_1,l9_2,l9_3,l9_4,l9_5,l9_6,l9_7,l9_8)=>Ry n a0r recl9 l9_1 l9_2 l9_3 l9_4 l9_5 l9_6 l9_7 l9_8) n ([],a0r.tks,wi ((wi (a0r.pos+1))+1),a0r.length,r8.Kind,r8.Text,r8.N,r8.At)).bind fun (j7_1,j7_2,j7_3,j7_4) =>
  cond (Zo (List.length ([]++j7_1)) 64) (
   (YB n (⟨j7_2,j7_3,j7_4,a0r.dg⟩:KA)).bind fun r16 =>
   (cond (Qi r16.Kind 0)
    (some true)
    ((cond (Qi r16.Kind 3)
     (some (QK r16.Text [123]))
     (some false)).bind fun j31 =>
    some (!j31))).bind fun j29 =>
   cond j29
    ((XI n (⟨j7_2,j7_3,j7_4,a0r.dg⟩:KA)).bind (Rh (fun r33 =>
     V7 n a0r r1 r3 r5 j7_1 j7_2 j7_3 j7_4) fun e34=>some (.error (e34,(⟨j7_2,j7_3,j7_4,a0r.dg⟩:KA)))))
    (V7 n a0r r1 r3 r5 j7_1 j7_2 j7_3 j7_4)) none)
  (((YB n (⟨a0r.tks,wi ((wi (a0r.pos+1))+1),a0r.length,a0r.dg⟩:KA)).bind fun r37 =>
  QT (fun recl38 (l38_1,l38_2,l38_3,l38_4,l38_5,l38_6,l38_7,l38_8)=>FR n a0r recl38 l38_1 l38_2 l38_3 l38_4 l38_5 l38_6 l38_7 l38_8) n ([],a0r.tks,wi ((wi (a0r.pos+1))+1),a0r.length,r37.Kind,r37.Text,r37.N,r37.At)).bind fun (j36_1,j36_2,j36_3,j36_4) =>
  cond (Zo (List.length ([]++j36_1)) 64) (
   (YB n (⟨j36_2,j36_3,j36_4,a0r.dg⟩:KA)).bind fun r45 =>
   (cond (Qi r45.Kind 0)
    (some true)
    ((cond (Qi r45.Kind 3)
     (some (QK r45.Text [59]))
     (some false)).bind fun j49 =>
    some (!j49))).bind fun j47 =>
   cond j47
    ((XI n (⟨j36_2,j36_3,j36_4,a0r.dg⟩:KA)).bind (Rh (fun r51 =>
     V9 a0r r1 r3 r5 j36_1 j36_2 j36_3 j36_4) fun e52=>some (.error (e52,(⟨j36_2,j36_3,j36_4,a0r.dg⟩:KA)))))
    (V9 a0r r1 r3 r5 j36_1 j36_2 j36_3 j36_4)) none)
def WM (n:Nat) (a0r:KA) (r1:YQ):Option Vz :=
 (YB n (⟨a0r.tks,wi (a0r.pos+1),a0r.length,a0r.dg⟩:KA)).bind fun r3 =>
 (cond (Qi r3.Kind 0)
  (some true)
  ((cond (Qi r3.Kind 1)
   ((U2 n r3.Text).bind fun r57 =>
   some r57)
   (some false)).bind fun j55 =>
  some (!j55))).bind fun j53 =>
 cond j53
  ((XI n (⟨a0r.tks,wi (a0r.pos+1),a0r.length,a0r.dg⟩:KA)).bind (Rh (fun r58 =>
   WL n a0r r1 r3) fun e59=>some (.error (e59,(⟨a0r.tks,wi (a0r.pos+1),a0r.length,a0r.dg⟩:KA)))))
  (WL n a0r r1 r3)
def EI (n:Nat) (a0r:KA):Option Vz :=
 (YB n a0r).bind fun r1 =>
 (cond (Qi r1.Kind 0)
  (some true)
  ((cond (Qi r1.Kind 1)
   ((Dj n r1.Text).bind fun r64 =>
   some r64)
   (some false)).bind fun j62 =>
  some (!j62))).bind fun j60 =>
 cond j60
  ((XI n a0r).bind (Rh (fun r65 =>
   WM n a0r r1) fun e66=>some (.error (e66,a0r))))
  (WM n a0r r1)
def Qb7:=fun x0 x1 x2 x3=>(.box 95 [.p (.sl 4 (List.map YQ.cs x0)),I x1,I x2, .tsl 2 (List.map Zr.cs x3) 1103]:Blk)
def Wv:=fun x0=>(.arr 65 2 (List.map Zr.cs x0).length:Blk)
def CZ:=fun x0 x1 x2 x3=>([(1000,(Qb7 x0 x1 x2 x3)),(1103,(Wv x3))]:List (Nat × Blk))
def Og:=fun x0 x1 x2 x3=>(.box 95 [.p (.sl 4 (List.map YQ.cs x0)),I x1,I x2, .tsl 2 (List.map Zr.cs x3) 1001]:Blk)
def C8:=fun x0 x1 x2 x3 x4=>([(1000,(Og x0 x1 x2 x3)),(1001,(Wv x3)),(1002,(bq5 x4))]:List (Nat × Blk))
def nq0:List (Nat × Nat):=[(1002,401),(1000,1000),(1001,1103)]
def bJ:=fun x0=>([(0, .ptr 1000 0),(1, .fn x0 [] [.ptr 1002 0]),(4, .ptr 4 0)]:List (Nat × AV))
def bK:=fun x0=>([(0, .ptr 1000 0),(1, .fn x0 [] [.ptr 1002 0]),(4, .ptr 4 0),(5, .ptr 5 0)]:List (Nat × AV))
def Qat:=fun x0 x1=>([(1, .ptr 1 0),(2, .ptr 2 0),(3, .ptr 3 0),(4,S (YQ.Text x0)),(5,I x1)]:List (Nat × AV))
def Qb8:Blk:=.box 99 [.fn (.func 106) [.ptr 1000 0] [], .fn (.func 108) [] [.ptr 1002 0]]
def C9:=fun x0 x1 x2 x3=>([(1000,(Og x0 x1 x2 x3)),(1001,(Wv x3)),(1002, .box 93 [.ptr 1000 0]),(1003,Qb8)]:List (Nat × Blk))
def Qb9:=fun x0 x1 x2=>(.box 24 [I 2,S (YQ.Text x0),I x1,I (YQ.At x2), .p (.val (.slice none 0 0))]:Blk)
def ND:=fun x0 x1 x2=>([(10,(H6 0 [] 0 0)),(11,(Qb9 x0 x1 x2))]:List (Nat × Blk))
def lX:=fun x0 x1 x2 x3=>(.box 24 [I 2,S (YQ.Text x0),I x1,I (YQ.At x2), .tsl 5 (List.map KI x3) 300]:Blk)
def Ba:=fun x0 x1 x2 x3=>([(10,(H6 0 [] 0 0)),(11,(lX x0 x1 x2 x3))]:List (Nat × Blk))
def yj:=fun x0 x1 x2 x3=>([(10, .ptr 10 0),(11, .ptr 11 0),(13, .fn x0 [.ptr 1000 0] []),(20,x1),(21,I x2),(22,I x3)]:List (Nat × AV))
def VA:=fun x0 x1 x2 x3=>([(1000,(Og x0 x1 x2 x3)),(1001,(Wv x3))]:List (Nat × Blk))
def Oh:List (Nat × Blk):=[(1, .box 93 [.ptr 1000 0])]
def lY:=fun x0 x1 x2 x3=>(⟨[(1, .ptr 1 0)],Oh++VA x0 x1 x2 x3⟩:St)
def yl:List (Nat × AV):=[(1, .ptr 1 0),(3, .p (.val (.slice none 0 0)))]
def bL:List (Nat × AV):=[(1, .ptr 1 0),(3, .p (.val (.slice none 0 0))),(4, .ptr 4 0)]
def bM:=fun x0=>([(1, .box 93 [.ptr 1000 0]),(4, .box 98 (KJ (YQ.cs x0)))]:List (Nat × Blk))
def Qau:=fun x0=>([(1, .ptr 1 0),(3, .tsl 5 (List.map KI x0) 300),(4, .ptr 4 0)]:List (Nat × AV))
def bN:=fun x0 x1 x2 x3=>([(1, .box 93 [.ptr 1000 0]),(4,(bq0 x0 x1 x2 x3))]:List (Nat × Blk))
def jZ:=fun x0 x1 x2 x3 x4 x5 x6 x7 x8=>(⟨Qau x0,bN x1 x2 x3 x4++TD x0++VA x5 x6 x7 x8⟩:St)
def Qav:=fun x0 x1=>([(1, .ptr 1 0),(3, .tsl 5 (List.map KI x0) 300),(4, .ptr 4 0),(14,B x1)]:List (Nat × AV))
def Qca:Blk:=.box 99 [.fn (.func 118) [] [.ptr 1002 0]]
def U3:=fun x0 x1 x2 x3=>([(1000,(Og x0 x1 x2 x3)),(1001,(Wv x3)),(1002, .box 93 [.ptr 1000 0]),(1003,Qca)]:List (Nat × Blk))
def nq1:List (Nat × Nat):=[(1002,1),(1003,29),(1000,1000),(1001,1001)]
def lZ:=fun x0 x1 x2=>([(1,I x0),(2,S x1),(3,I 0),(4,x2),(5, .ptr 5 0),(10, .ptr 10 0)]:List (Nat × AV))
def bO:=fun x0 x1 x2 x3=>(.box 24 [I x0,S x1,I 0,I x2, .tsl 5 (List.map KI x3) 300]:Blk)
def Oi:=fun x0 x1 x2 x3=>([(10,(H6 0 [] 0 0)),(11,(bO x0 x1 x2 x3))]:List (Nat × Blk))
def bP:=fun x0 x1 x2 x3 x4 x5 x6 x7 x8=>(⟨Qau x0,bN x1 x2 x3 x4++Gs x0++VA x5 x6 x7 x8⟩:St)
def Qcb:=fun x0 x1 x2 x3 x4=>([(1, .ptr 1 0),(3, .tsl 5 (List.map KI x0) 300),(33, .agg [I x1,S x2,I x3,I x4])]:List (Nat × AV))
def Qaw:=fun x0 x1 x2 x3 x4 x5 x6 x7 x8=>(⟨Qcb x0 x1 x2 x3 x4,Oh++Gs x0++VA x5 x6 x7 x8⟩:St)
def xc:=fun x0 x1 x2 x3=>([(10, .ptr 10 0),(11, .ptr 11 0),(13, .fn x0 [] [.ptr 1002 0]),(20,x1),(21,I x2),(22,I x3)]:List (Nat × AV))
def EJ:=fun x0 x1 x2 x3=>([(1000,(Og x0 x1 x2 x3)),(1001,(Wv x3)),(1002, .box 93 [.ptr 1000 0])]:List (Nat × Blk))
def nq2:List (Nat × Nat):=[(1000,1000),(1001,1001),(1002,1002)]
def bQ:=fun x0 x1 x2 x3=>(⟨[(0, .ptr 1002 0)],EJ x0 x1 x2 x3⟩:St)
def bR:=fun x0 x1 x2 x3 x4 x5 x6 x7=>(⟨Gt (.bsl 1003 1) 1 x0,Oi 3 x1 x2 x3++Gs x3++U3 x4 x5 x6 x7⟩:St)
def fM:=fun x0 x1 x2 x3 x4 x5 x6 x7 x8=>(⟨Gt (.bsl 1003 2) 2 x0,Ba x1 x2 x3 x4++Gs x4++C9 x5 x6 x7 x8⟩:St)
def Bc:=fun x0 x1 x2 x3 x4=>([(1000,(Og x0 x1 x2 x3)),(1001,(Wv x3)),(1002, .box 9 [S x4])]:List (Nat × Blk))
def nq3:List (Nat × Nat):=[(1002,401),(1000,1000),(1001,1001)]
def Qcc:Blk:=.box 99 [.fn (.func 106) [.ptr 1000 0] [], .fn (.func 104) [] [.ptr 1002 0], .fn (.func 107) [.ptr 1000 0] []]
def Lj:=fun x0 x1 x2 x3=>([(1000,(Og x0 x1 x2 x3)),(1001,(Wv x3)),(1002, .box 93 [.ptr 1000 0]),(1003,Qcc)]:List (Nat × Blk))
def xe:=fun x0 x1 x2 x3 x4 x5 x6 x7 x8=>(⟨Gt (.bsl 1003 3) 3 x0,Ba x1 x2 x3 x4++Gs x4++Lj x5 x6 x7 x8⟩:St)
def l5:=fun x0=>([(32, .arr 24 5 (List.map KI x0).length)]:List (Nat × Blk))
def l8:=fun x0 x1 x2 x3 x4=>(⟨[(2, .tsl 5 (List.map KI x0) 32)],l5 x0++VA x1 x2 x3 x4⟩:St)
def fO:=fun x0=>([(1, .ptr 1 0),(3, .tsl 5 (List.map KI x0) 32)]:List (Nat × AV))
def xg:=fun x0=>([(1, .box 93 [.ptr 1000 0]),(32, .arr 24 5 (List.map KI x0).length)]:List (Nat × Blk))
def Qax:=fun x0=>([(1, .ptr 1 0),(3, .tsl 5 (List.map KI x0) 32),(4, .ptr 4 0)]:List (Nat × AV))
def Qay:=fun x0 x1=>([(1, .box 93 [.ptr 1000 0]),(4,(vL x0)),(32, .arr 24 5 (List.map KI x1).length)]:List (Nat × Blk))
def ek:=fun x0 x1 x2 x3=>([(1000,(Og x0 x1 x2 x3)),(1001,(Wv x3)),(1002, .box 93 [.ptr 1000 0]),(1003,(H6 0 [] 0 0))]:List (Nat × Blk))
def Qaz:=fun x0=>([(1, .fn x0 [] [.ptr 1002 0, .ptr 1003 0]),(4, .ptr 1901 0),(5, .ptr 1902 0)]:List (Nat × AV))
def eu:=fun x0=>([(1900, .box 93 [.ptr 1000 0]),(1901, .box 4 [B x0]),(1902, .box 9 [S []])]:List (Nat × Blk))
def nq4:List (Nat × Nat):=[(1000,1000),(1001,1001),(1002,1002),(1003,1003)]
def QaA:=fun x0 x1 x2 x3 x4=>([(1000,(Og x0 x1 x2 x3)),(1001,(Wv x3)),(1002, .box 93 [.ptr 1000 0]),(1003, .box 24 (KJ (GN.cs x4)))]:List (Nat × Blk))
def nq5:List (Nat × Nat):=[(1000,1000),(1001,1001),(1002,1900),(1003,1901),(1004,1902)]
def Oj:=fun x0=>([(1002, .box 93 [.ptr 1000 0]),(1003, .box 4 [B x0]),(1004, .box 9 [S []])]:List (Nat × Blk))
def QaB:List (Nat × AV):=[(0, .ptr 1002 0),(1, .ptr 1003 0),(2, .ptr 1004 0),(3, .p (.val (.nilIface))),(8,B true)]
def QaC:=fun x0=>([(0, .ptr 1002 0),(1, .ptr 1003 0),(2, .ptr 1004 0),(3, .ifc 149 (.agg [I x0])),(8,B false)]:List (Nat × AV))
def QaD:=fun x0=>([(0, .ptr 1002 0),(1, .ptr 1003 0),(2, .ptr 1004 0),(3, .ifc 149 (.agg [I x0]))]:List (Nat × AV))
def QaE:=fun x0=>([(0, .ptr 1002 0),(1, .ptr 1003 0),(2, .ptr 1004 0),(3, .ifc 149 (.agg [I x0])),(4, .ptr 4 0),(5,B true)]:List (Nat × AV))
def xh:=fun x0=>([(4, .box 149 [I x0])]:List (Nat × Blk))
def QaF:=fun x0=>([(0, .ptr 1002 0),(1, .ptr 1003 0),(2, .ptr 1004 0),(3, .ifc 149 (.agg [I x0])),(4, .ptr 4 0),(15,B false)]:List (Nat × AV))
def QaG:List (Nat × AV):=[(0, .ptr 1002 0),(1, .ptr 1003 0),(2, .ptr 1004 0),(4, .ptr 4 0)]
def QaH:List (Nat × AV):=[(0, .ptr 1002 0),(1, .ptr 1003 0),(2, .ptr 1004 0)]
abbrev ym (x:List Zr):Go.Abs.Blk:=.arr 65 2 (K5 x).length
abbrev AY (x:List (List PV)):Go.Abs.Blk:=.arr 24 5 (mI x).length
theorem zk (n:Nat) (a0r:KA):∀ r,EI n a0r=some r→Wz Tryz.prog 75 [YY] (Go.Abs.look [(1000, .box 95 [.p (.sl 4 (Hf a0r.tks)),I a0r.pos,I a0r.length, .tsl 2 (K5 a0r.dg) 1103]),(1103,ym a0r.dg)]) (J7 (Cm (fun r:GN × KA=>((.ret (ag (GN.cs r.1)),[(1000, .box 95 [.p (.sl 4 (Hf r.2.tks)),I r.2.pos,I r.2.length, .tsl 2 (K5 r.2.dg) 1103]),(1103,ym r.2.dg)]):QV × List (Nat × Blk))) (fun e:Int × KA=>((.panic (.ifc 149 (.agg [I e.1])),[(1000, .box 95 [.p (.sl 4 (Hf e.2.tks)),I e.2.pos,I e.2.length, .tsl 2 (K5 e.2.dg) 1103]),(1103,ym e.2.dg)]):QV × List (Nat × Blk)))) r):=by
 refine Vd (X:=Cm (fun r:GN × KA=>((.ret (ag (GN.cs r.1)),(CZ r.2.tks r.2.pos r.2.length r.2.dg)):QV × List (Nat × Blk))) (fun e:Int × KA=>((.panic (.ifc 149 (.agg [I e.1])),(CZ e.2.tks e.2.pos e.2.length e.2.dg)):QV × List (Nat × Blk)))) (CZ a0r.tks a0r.pos a0r.length a0r.dg) Tryz.func75 rfl Tryz.ntmps75 rfl ?_
 unfold EI
 refine Qg Qd ⟨[qq 1,qq 2],bI++CZ a0r.tks a0r.pos a0r.length a0r.dg⟩ Qa (sS (CQ ⟨[qq 1,qq 2],bI++CZ a0r.tks a0r.pos a0r.length a0r.dg⟩ Qa (qV [0] 3 3 [1,2,3,4] Qd rfl Qa Qa (QP (Zq YY Qa rfl) (Qj)) Qa (NT (f:=100) (args:=[.p (.val (.func (.func 101) #[] #[]))]) (dst:=some 9) Qa Qa rfl (ZA (hc:=[]) (args':=[.p (.val (.func (.func 101) #[] #[]))]) [(1,401)] [] [] Tryz.func100 rfl Tryz.ntmps100 rfl Qa Qa Qa (Qg Qd (sq6 (.func (.func 101) #[] #[])) Qa (Qg Qd (sq7 (.func (.func 101) #[] #[])) Qa ?_)))))))
 refine sT (Q0 (.id) [1] [] (.fn (.func 116) [] [.ptr 1 0]) Qa Qa (kf [0] Qa (QP (Zq YY Qa rfl) (Qj)) Qa (NT (f:=99) (args:=[YY, .fn (.func 116) [] [.ptr 401 0]]) (dst:=some 10) Qa Qa rfl (ZA (hc:=(C8 a0r.tks a0r.pos a0r.length a0r.dg (.func (.func 101) #[] #[]))) (args':=[YY, .fn (.func 116) [] [Lr]]) nq0 [] [] Tryz.func99 rfl Tryz.ntmps99 rfl Qa Qa Qa (Qg Qd ⟨bJ (.func 116),jT++C8 a0r.tks a0r.pos a0r.length a0r.dg (.func (.func 101) #[] #[])⟩ Qa (sS (sG ?_)))))))
 refine xR 1 Qa ?_
 refine Hz [.ro [.id, .id, .id, .sl 2]] Qa (KO n a0r) Qa Qa QS (fun r1=>?_)
 refine xR 2 Qa (xE (Ql ⟨bK (.func 116),Us r1++C8 a0r.tks a0r.pos a0r.length a0r.dg (.func (.func 101) #[] #[])⟩ Qa (Kr (fun _=>⟨jU,Us r1++C8 a0r.tks a0r.pos a0r.length a0r.dg (.func (.func 101) #[] #[])⟩:Unit→St) (fun _=>WM n a0r r1) ?_ ?_)))
 rotate_left
 ·refine Yj (fun j60=>⟨jV j60,Us r1++C8 a0r.tks a0r.pos a0r.length a0r.dg (.func (.func 101) #[] #[])⟩:Bool→St) ?_ ?_
  rotate_left
  ·rintro j60
   refine sC j60 Qa ?_ ?_
   ·refine sG (xR 1 Qa ?_)
    refine BU [.ro [.id, .id, .id, .sl 2]] Qa (XQ n a0r) Qa Qa QS QS (fun r65=>?_) (fun e66=>?_)
    ·refine xE ?_
     exact KZ (k:=fun _=>WM n a0r r1) () Qa
    refine Zk (ZR [1000,1001,1002] [] Qa (qO _ rfl (Kj ?_)))
    exact Kz [1000,1103] [] Qa Qa Qa
   refine sK ?_
   exact KZ (k:=fun _=>WM n a0r r1) () Qa
  refine sG (xR 4 Qa ?_)
  refine xS (Qi r1.Kind 0) (fun h61=>?_) (fun h61=>?_)
  ·refine xN (Qy Qa h61) Qa (xR 4 Qa (xE ?_))
   exact QO true Qa
  refine xO (Qx Qa h61) Qa (xR 1 Qa (Vp (yf (.func (.func 101) #[] #[])) [.agg [I r1.Kind,S r1.Text,I r1.N,I r1.At],YY] [(1000,1002)] [] [] Qa Tryz.func116 rfl Tryz.ntmps116 rfl Qa Qa Qa (Qg Qd (lT r1 (.func (.func 101) #[] #[])) Qa (Yj (fun j62=>⟨[(3,B j62)],yf (.func (.func 101) #[] #[])⟩:Bool→St) ?_ ?_))))
  ·refine sG (xR 4 Qa ?_)
   refine xS (Qi r1.Kind 1) (fun h63=>?_) (fun h63=>?_)
   ·refine xO (Qp Qa h63) Qa (xR 2 Qa ?_)
    refine xC [] Qa (SV n r1.Text) Qa Qa QS (fun r64=>?_)
    refine xR 2 Qa (xE ?_)
    exact QO r64 Qa
   refine xN (Qq Qa h63) Qa (xR 5 Qa (xE ?_))
   exact QO false Qa
  rintro j62
  refine sT (Q0 (.id) [1000] [] (B j62) Qa Qa (WG (xR 2 Qa (xE ?_))))
  exact QO (!j62) Qa
 rintro _
 show QX (WM n a0r r1) _ _ _ _ _ _
 unfold WM
 refine Qg Qd ⟨[qq 4,qq 5],Us r1++C8 a0r.tks (wi (a0r.pos+1)) a0r.length a0r.dg (.func (.func 101) #[] #[])⟩ Qa (Qg Qd ⟨[qq 4],jW r1++C8 a0r.tks (wi (a0r.pos+1)) a0r.length a0r.dg (.func (.func 101) #[] #[])⟩ Qa (sT (Q0 (.id) [1000,1001,1002] [] (.agg [I r1.Kind,S r1.Text,I r1.N,I r1.At]) Qa Qa (kf [] Qa (Qj) Qa (f_q [0] Qa Qa (QP (Zq YY Qa rfl) (Qj)) (Qad [] rfl Qa Qa (Qj) Qa (rR ?_)))))))
 refine Ql ⟨fJ,zi r1++CZ a0r.tks (wi (a0r.pos+1)) a0r.length a0r.dg⟩ Qa (sS (V5 [0] [0] [(1,[]),(2,[]),(3,[]),(4,[])] Qd rfl Qa Qa (Yh (f:=100) (args:=[.p (.val (.func (.func 103) #[] #[]))]) (dst:=some 12) Qa Qa (ZA (hc:=[]) (args':=[.p (.val (.func (.func 103) #[] #[]))]) [(1,401)] [] [] Tryz.func100 rfl Tryz.ntmps100 rfl Qa Qa Qa (Qg Qd (sq6 (.func (.func 103) #[] #[])) Qa (Qg Qd (sq7 (.func (.func 103) #[] #[])) Qa (sT ?_)))))))
 refine Q0 (.id) [1] [] (.fn (.func 116) [] [.ptr 1 0]) Qa Qa (kh [0] Qa (QP (Zq YY Qa rfl) (Qj)) Qa (Yh (f:=99) (args:=[YY, .fn (.func 116) [] [.ptr 401 0]]) (dst:=some 13) Qa Qa (ZA (hc:=(C8 a0r.tks (wi (a0r.pos+1)) a0r.length a0r.dg (.func (.func 103) #[] #[]))) (args':=[YY, .fn (.func 116) [] [Lr]]) nq0 [] [] Tryz.func99 rfl Tryz.ntmps99 rfl Qa Qa Qa (Qg Qd ⟨bJ (.func 116),jT++C8 a0r.tks (wi (a0r.pos+1)) a0r.length a0r.dg (.func (.func 103) #[] #[])⟩ Qa (sS (sG (xR 1 Qa ?_)))))))
 refine Hz [.ro [.id, .id, .id, .sl 2]] Qa (KO n (⟨a0r.tks,wi (a0r.pos+1),a0r.length,a0r.dg⟩:KA)) Qa Qa QS (fun r3=>?_)
 refine xR 2 Qa (xE (Ql ⟨bK (.func 116),Us r3++C8 a0r.tks (wi (a0r.pos+1)) a0r.length a0r.dg (.func (.func 103) #[] #[])⟩ Qa (Kr (fun _=>⟨jU,Us r3++C8 a0r.tks (wi (a0r.pos+1)) a0r.length a0r.dg (.func (.func 103) #[] #[])⟩:Unit→St) (fun _=>WL n a0r r1 r3) ?_ ?_)))
 rotate_left
 ·refine Yj (fun j53=>⟨jV j53,Us r3++C8 a0r.tks (wi (a0r.pos+1)) a0r.length a0r.dg (.func (.func 103) #[] #[])⟩:Bool→St) ?_ ?_
  rotate_left
  ·rintro j53
   refine sC j53 Qa ?_ ?_
   ·refine sG (xR 1 Qa ?_)
    refine BU [.ro [.id, .id, .id, .sl 2]] Qa (XQ n (⟨a0r.tks,wi (a0r.pos+1),a0r.length,a0r.dg⟩:KA)) Qa Qa QS QS (fun r58=>?_) (fun e59=>?_)
    ·refine xE ?_
     exact KZ (k:=fun _=>WL n a0r r1 r3) () Qa
    refine Zk (ZR [1000,1001,1002] [] Qa (qO _ rfl (Kj ?_)))
    exact Kz [1000,1103] [] Qa Qa Qa
   refine sK ?_
   exact KZ (k:=fun _=>WL n a0r r1 r3) () Qa
  refine sG (xR 4 Qa ?_)
  refine xS (Qi r3.Kind 0) (fun h54=>?_) (fun h54=>?_)
  ·refine xN (Qy Qa h54) Qa (xR 4 Qa (xE ?_))
   exact QO true Qa
  refine xO (Qx Qa h54) Qa (xR 1 Qa (Vp (yf (.func (.func 103) #[] #[])) [.agg [I r3.Kind,S r3.Text,I r3.N,I r3.At],YY] [(1000,1002)] [] [] Qa Tryz.func116 rfl Tryz.ntmps116 rfl Qa Qa Qa (Qg Qd (lT r3 (.func (.func 103) #[] #[])) Qa (Yj (fun j55=>⟨[(3,B j55)],yf (.func (.func 103) #[] #[])⟩:Bool→St) ?_ ?_))))
  ·refine sG (xR 4 Qa ?_)
   refine xS (Qi r3.Kind 1) (fun h56=>?_) (fun h56=>?_)
   ·refine xO (Qp Qa h56) Qa (xR 2 Qa ?_)
    refine xC [] Qa (Gp n r3.Text) Qa Qa QS (fun r57=>?_)
    refine xR 2 Qa (xE ?_)
    exact QO r57 Qa
   refine xN (Qq Qa h56) Qa (xR 5 Qa (xE ?_))
   exact QO false Qa
  rintro j55
  refine sT (Q0 (.id) [1000] [] (B j55) Qa Qa (WG (xR 2 Qa (xE ?_))))
  exact QO (!j55) Qa
 rintro _
 show QX (WL n a0r r1 r3) _ _ _ _ _ _
 unfold WL
 refine Qg Qd ⟨[qq 4,qq 5],Us r3++C8 a0r.tks (wi ((wi (a0r.pos+1))+1)) a0r.length a0r.dg (.func (.func 103) #[] #[])⟩ Qa (Qg Qd ⟨[qq 4],jW r3++C8 a0r.tks (wi ((wi (a0r.pos+1))+1)) a0r.length a0r.dg (.func (.func 103) #[] #[])⟩ Qa (sT (Q0 (.id) [1000,1001,1002] [] (.agg [I r3.Kind,S r3.Text,I r3.N,I r3.At]) Qa Qa (kh [] Qa (Qj) Qa (Ja [] Qa Qa (Qj) (Ja [] Qa Qa (Qj) (Js ?_)))))))
 refine Ql ⟨[qq 1,qq 2,qq 3,(4,S r3.Text)],zi r1++CZ a0r.tks (wi ((wi (a0r.pos+1))+1)) a0r.length a0r.dg⟩ Qa (sS (sG (xR 2 Qa ?_)))
 refine xC [] Qa (Gm n r1.Text) Qa Qa QS (fun r5=>?_)
 refine xR 1 Qa (xE (Ql ⟨Qat r3 r5,zi r1++CZ a0r.tks (wi ((wi (a0r.pos+1))+1)) a0r.length a0r.dg⟩ Qa (sS (Qg Qd ⟨[qq 1,qq 2,qq 3,(4,S r3.Text),(5,I r5),(19,B (Qi r5 7))],zi r1++CZ a0r.tks (wi ((wi (a0r.pos+1))+1)) a0r.length a0r.dg⟩ Qa (sC (Qi r5 7) Qa ?_ ?_)))))
 rotate_left
 ·refine sK (Ql ⟨Qat r3 r5,zi r1++CZ a0r.tks (wi ((wi (a0r.pos+1))+1)) a0r.length a0r.dg⟩ Qa (Qg Qd ⟨[qq 1,qq 2,qq 3,(4,S r3.Text),(5,I r5),(7, .fn (.func 108) [] [.ptr 1 0])],zi r1++CZ a0r.tks (wi ((wi (a0r.pos+1))+1)) a0r.length a0r.dg⟩ Qa (sS (sG (xR 7 Qa (Vp (C9 a0r.tks (wi ((wi (a0r.pos+1))+1)) a0r.length a0r.dg) [.agg [I r1.Kind,S r1.Text,I r1.N,I r1.At],I 2,S r3.Text,I r5, .bsl 1003 2] [(1002,1),(1003,38),(1000,1000),(1001,1103)] [] [] Qa Tryz.func39 rfl Tryz.ntmps39 rfl Qa Qa Qa (Qg Qd ⟨lU 2 r3 r5 (.bsl 1003 2),lS r1++C9 a0r.tks (wi ((wi (a0r.pos+1))+1)) a0r.length a0r.dg⟩ Qa ?_)))))))
  refine Qg Qd ⟨jX (.bsl 1003 2),ND r3 r5 r1++C9 a0r.tks (wi ((wi (a0r.pos+1))+1)) a0r.length a0r.dg⟩ Qa (Kr (fun (j35_1,j35_2,j35_3,j35_4)=>⟨[qq 10,qq 11],Ba r3 r5 r1 j35_1++TD j35_1++C9 j35_2 j35_3 j35_4 a0r.dg⟩:mY→St) (fun (j35_1,j35_2,j35_3,j35_4)=>Xa a0r r1 r3 r5 j35_1 j35_2 j35_3 j35_4) ?_ ?_)
  ·rintro ⟨j35_1,j35_2,j35_3,j35_4⟩
   show QX (Xa a0r r1 r3 r5 j35_1 j35_2 j35_3 j35_4) _ _ _ _ _ _
   unfold Xa
   refine Qg Qd ⟨[qq 10],[(10,(lX r3 r5 r1 j35_1))]++TD j35_1++C9 j35_2 j35_3 j35_4 a0r.dg⟩ Qa (sT (Q0 (.agg [.id, .id, .id, .id, .sl 5]) [1000,1001,1002,1003] [] (.agg [I 2,S r3.Text,I r5,I r1.At, .p (.sl 5 (mI j35_1))]) Qa Qa (WG (xR 1 Qa (xE (Ql ⟨[qq 2],[(2,(vL ⟨2,r3.Text,r5,r1.At,j35_1⟩))]++CZ j35_2 j35_3 j35_4 a0r.dg⟩ Qa (sT ?_)))))))
   exact Y2 (.id) [1000,1103] [] Qa Qa Qa Qa
  refine Qg Qd ⟨Gt (.bsl 1003 2) 2 0,ND r3 r5 r1++C9 a0r.tks (wi ((wi (a0r.pos+1))+1)) a0r.length a0r.dg⟩ Qa (sB (Vq 2 (Qg Qd ⟨Dm (.bsl 1003 2) 2 0 true,ND r3 r5 r1++C9 a0r.tks (wi ((wi (a0r.pos+1))+1)) a0r.length a0r.dg⟩ Qa (sS (Zl Qa (sK (Ql ⟨Gt (.bsl 1003 2) 2 0,ND r3 r5 r1++C9 a0r.tks (wi ((wi (a0r.pos+1))+1)) a0r.length a0r.dg⟩ Qa ?_)))))))
  refine sS (sB (Qg Qd ⟨yj (.func 106) (.bsl 1003 2) 2 0,ND r3 r5 r1++C9 a0r.tks (wi ((wi (a0r.pos+1))+1)) a0r.length a0r.dg⟩ Qa (CQ ⟨yj (.func 106) (.bsl 1003 2) 2 0,ND r3 r5 r1++C9 a0r.tks (wi ((wi (a0r.pos+1))+1)) a0r.length a0r.dg⟩ Qa (Zj (Z8 24 5 300 [] [(11,4)] Qa) (V5 [0,1,2] [0,1] [(3,[]),(4,[]),(5,[]),(6,[])] Qd rfl Qa Qa (Yh (f:=106) (args:=[YY]) (dst:=some 29) Qa Qa (ZA (hc:=(VA a0r.tks (wi ((wi (a0r.pos+1))+1)) a0r.length a0r.dg)) (args':=[YY]) [(1000,1000),(1001,1001)] [] [] Tryz.func106 rfl Tryz.ntmps106 rfl Qa Qa Qa ?_)))))))
  refine Qg Qd (lY a0r.tks (wi ((wi (a0r.pos+1))+1)) a0r.length a0r.dg) Qa (Qg Qd ⟨yl,Oh++VA a0r.tks (wi ((wi (a0r.pos+1))+1)) a0r.length a0r.dg⟩ Qa (Yj (fun (j36_1,j36_2,j36_3,j36_4)=>⟨[(3, .tsl 5 (mI j36_1) 300)],TD j36_1++VA j36_2 j36_3 j36_4 a0r.dg⟩:mY→St) ?_ ?_))
  ·refine sS (sG (xR 1 Qa ?_))
   refine Hz [.ro [.id, .id, .id, .sl 2]] Qa (KO n (⟨a0r.tks,wi ((wi (a0r.pos+1))+1),a0r.length,a0r.dg⟩:KA)) Qa Qa QS (fun r37=>?_)
   refine xR 2 Qa (xE (Ql ⟨bL,bM r37++VA a0r.tks (wi ((wi (a0r.pos+1))+1)) a0r.length a0r.dg⟩ Qa (sB (CQ ⟨bL,bM r37++VA a0r.tks (wi ((wi (a0r.pos+1))+1)) a0r.length a0r.dg⟩ Qa (Zj (Z8 24 5 300 [3] [] Qa) (QH (fun (l38_1,l38_2,l38_3,l38_4,l38_5,l38_6,l38_7,l38_8)=>(jZ l38_1 l38_5 l38_6 l38_7 l38_8 l38_2 l38_3 l38_4 a0r.dg):ty5→St) (Xk Qa) ?_))))))
   rintro recl38 ⟨l38_1,l38_2,l38_3,l38_4,l38_5,l38_6,l38_7,l38_8⟩
   show QX (FR n a0r recl38 l38_1 l38_2 l38_3 l38_4 l38_5 l38_6 l38_7 l38_8) _ _ _ _ _ _
   unfold FR
   refine sS (Yj (fun j39=>⟨Qav l38_1 j39,bN l38_5 l38_6 l38_7 l38_8++TD l38_1++VA l38_2 l38_3 l38_4 a0r.dg⟩:Bool→St) ?_ ?_)
   ·refine sG (xR 4 Qa ?_)
    refine xS (Qi l38_5 1) (fun h40=>?_) (fun h40=>?_)
    ·refine xO (Qp Qa h40) Qa (xR 1 Qa ?_)
     refine xC [] Qa (XP n l38_6) Qa Qa QS (fun r41=>?_)
     refine xR 1 Qa (xE ?_)
     exact QO r41 Qa
    refine xN (Qq Qa h40) Qa (xR 3 Qa (xE ?_))
    exact QO false Qa
   rintro j39
   refine sC j39 Qa ?_ ?_
   rotate_left
   ·refine Qz (Kb (KY (QW ?_)))
    exact QO (l38_1,l38_2,l38_3,l38_4) Qa
   refine sK (Ql (jZ l38_1 l38_5 l38_6 l38_7 l38_8 l38_2 l38_3 l38_4 a0r.dg) Qa (sS (sB (Qg Qd (jZ l38_1 l38_5 l38_6 l38_7 l38_8 l38_2 (wi (l38_3+1)) l38_4 a0r.dg) Qa (sG (xR 6 Qa (Vp (U3 l38_2 (wi (l38_3+1)) l38_4 a0r.dg) [.agg [I l38_5,S l38_6,I l38_7,I l38_8],I 3,S l38_6,I 0, .bsl 1003 1] nq1 [] [] Qa Tryz.func39 rfl Tryz.ntmps39 rfl Qa Qa Qa ?_)))))))
   refine Qg Qd ⟨lZ 3 l38_6 (.bsl 1003 1),[(5,(bq0 l38_5 l38_6 l38_7 l38_8)),(10,(H6 0 [] 0 0))]++U3 l38_2 (wi (l38_3+1)) l38_4 a0r.dg⟩ Qa (Qg Qd ⟨jX (.bsl 1003 1),Dk 3 l38_6 0 l38_8++U3 l38_2 (wi (l38_3+1)) l38_4 a0r.dg⟩ Qa (Yj (fun (j42_1,j42_2,j42_3,j42_4)=>⟨[qq 10,qq 11],Oi 3 l38_6 l38_8 j42_1++TD j42_1++U3 j42_2 j42_3 j42_4 a0r.dg⟩:mY→St) ?_ ?_))
   rotate_left
   ·rintro ⟨j42_1,j42_2,j42_3,j42_4⟩
    refine Qg Qd ⟨[qq 10],[(10,(bO 3 l38_6 l38_8 j42_1))]++TD j42_1++U3 j42_2 j42_3 j42_4 a0r.dg⟩ Qa (sT (Q0 (.agg [.id, .id, .id, .id, .sl 5]) [1000,1001,1002,1003] [] (.agg [I 3,S l38_6,I 0,I l38_8, .p (.sl 5 (mI j42_1))]) Qa Qa (WG (xR 1 Qa (xF Qa Qa (Zy (e:=24) (S:=5) (by_:=64) (enc:=KI) (tk:=300) (l:=l38_1) (l2:=[GN.cs (⟨3,l38_6,0,l38_8,j42_1⟩:GN)]) (xv:=.tsl 5 (mI [GN.cs (⟨3,l38_6,0,l38_8,j42_1⟩:GN)]) 31) rfl Qa Qa rfl Qa Qa Qa rfl Qa) (xR 1 Qa (xE ?_)))))))
    refine Za (Ql (bP (l38_1++[GN.cs (⟨3,l38_6,0,l38_8,j42_1⟩:GN)]) l38_5 l38_6 l38_7 l38_8 j42_2 j42_3 j42_4 a0r.dg) Qa (sS (Qg Qd (Qaw (l38_1++[GN.cs (⟨3,l38_6,0,l38_8,j42_1⟩:GN)]) l38_5 l38_6 l38_7 l38_8 j42_2 j42_3 j42_4 a0r.dg) Qa (sL Qd Qa (Ql (bP (l38_1++[GN.cs (⟨3,l38_6,0,l38_8,j42_1⟩:GN)]) l38_5 l38_6 l38_7 l38_8 j42_2 j42_3 j42_4 a0r.dg) Qa (sG (xR 1 Qa ?_)))))))
    refine Hz [.ro [.id, .id, .id, .sl 2]] Qa (KO n (⟨j42_2,j42_3,j42_4,a0r.dg⟩:KA)) Qa Qa QS (fun r44=>?_)
    refine xR 1 Qa (xE ?_)
    exact KZ (l38_1++[GN.cs (⟨3,l38_6,0,l38_8,j42_1⟩:GN)],j42_2,j42_3,j42_4,r44.Kind,r44.Text,r44.N,r44.At) Qa
   refine Qg Qd ⟨Gt (.bsl 1003 1) 1 0,Dk 3 l38_6 0 l38_8++U3 l38_2 (wi (l38_3+1)) l38_4 a0r.dg⟩ Qa (sB (Vq 1 (Qg Qd ⟨Dm (.bsl 1003 1) 1 0 true,Dk 3 l38_6 0 l38_8++U3 l38_2 (wi (l38_3+1)) l38_4 a0r.dg⟩ Qa (sS (Zl Qa (sK (Ql ⟨Gt (.bsl 1003 1) 1 0,Dk 3 l38_6 0 l38_8++U3 l38_2 (wi (l38_3+1)) l38_4 a0r.dg⟩ Qa ?_)))))))
   refine sS (sB (Qg Qd ⟨xc (.func 118) (.bsl 1003 1) 1 0,Dk 3 l38_6 0 l38_8++U3 l38_2 (wi (l38_3+1)) l38_4 a0r.dg⟩ Qa (CQ ⟨xc (.func 118) (.bsl 1003 1) 1 0,Dk 3 l38_6 0 l38_8++U3 l38_2 (wi (l38_3+1)) l38_4 a0r.dg⟩ Qa (Zj (Z8 24 5 300 [] [(11,4)] Qa) (V5 [0,1,2] [0,1] [(3,[]),(4,[]),(5,[]),(6,[])] Qd rfl Qa Qa (Yh (f:=118) (args:=[Lr]) (dst:=some 29) Qa Qa (ZA (hc:=(EJ l38_2 (wi (l38_3+1)) l38_4 a0r.dg)) (args':=[Lr]) nq2 [] [] Tryz.func118 rfl Tryz.ntmps118 rfl Qa Qa Qa ?_)))))))
   refine Qg Qd (bQ l38_2 (wi (l38_3+1)) l38_4 a0r.dg) Qa (sS (sG (xR 1 Qa (Yk (f:=119) (args:=[YY, .p (.val (.func (.func 103) #[] #[]))]) Qa Qa Qa ?_))))
   refine CG 1000 3 1001 65 2 (K5 a0r.dg).length (K5 a0r.dg) ⟨[0,2],[1000,1002],[],[]⟩ Qa Qa rfl (fun _ _ _=>by kernel_rfl) (fun hu43w hu43l hu43c=>?_)
   refine Ci [(1000,1000)] [] [] (TE n (⟨l38_2,wi (l38_3+1),l38_4,[]⟩:KA) hu43w hu43l hu43c) Qa Qa Qa QS QS (fun r43=>?_)
   refine Et _ rfl Qa Qa (WG (xR 1 Qa (xE (Ql ⟨[(1, .p (.sl 5 (mI r43.1)))],EJ r43.2.tks r43.2.pos r43.2.length a0r.dg⟩ Qa (sT (Q0 (.id) [1000,1001,1002] [] (.p (.sl 5 (mI r43.1))) Qa Qa (kh [0,1] Qa (QP (Zq (.ptr 11 4) Qa rfl) (QP (WJ (S:=5) (t:=300) (ty:=24) (es:=mI []) Qa Qa rfl) (Qj))) Qa ?_)))))))
   refine Em [] rfl Qa Qa (WH (e:=24) (S:=5) (by_:=64) (enc:=KI) (tk:=300) (l:=[]) (l2:=r43.1) (xv:=.p (.sl 5 (mI r43.1))) rfl Qa Qa rfl Qa Qa Qa Qa) (fun _=>Qj) (Ja [] Qa Qa (Qj) (Ja [] Qa Qa (Qj) (Js (Za (Ql (bR 0 l38_6 l38_8 ([]++r43.1) r43.2.tks r43.2.pos r43.2.length a0r.dg) Qa (sL Qd Qa (I6 ⟨[10,11,20,21,22],[10,11,300,1000,1001,1002,1003],[],[]⟩ (bR 1 l38_6 l38_8 ([]++r43.1) r43.2.tks r43.2.pos r43.2.length a0r.dg) Qa ?_)))))))
   refine Qg Qd ⟨Dm (.bsl 1003 1) 1 1 false,Oi 3 l38_6 l38_8 ([]++r43.1)++Gs ([]++r43.1)++U3 r43.2.tks r43.2.pos r43.2.length a0r.dg⟩ Qa (sS (Zm Qa (Qz (Kb (SG (QW ?_))))))
   exact QO ([]++r43.1,r43.2.tks,r43.2.pos,r43.2.length) Qa
  rintro ⟨j36_1,j36_2,j36_3,j36_4⟩
  refine Qg Qd ⟨[(2, .tsl 5 (mI j36_1) 300)],TD j36_1++VA j36_2 j36_3 j36_4 a0r.dg⟩ Qa (sT (Q0 (.sl 5) [1000,1001] [] (.p (.sl 5 (mI j36_1))) Qa Qa (kh [0,1] Qa (QP (Zq (.ptr 11 4) Qa rfl) (QP (WJ (S:=5) (t:=300) (ty:=24) (es:=mI []) Qa Qa rfl) (Qj))) Qa (Em [] rfl Qa Qa (WH (e:=24) (S:=5) (by_:=64) (enc:=KI) (tk:=300) (l:=[]) (l2:=j36_1) (xv:=.p (.sl 5 (mI j36_1))) rfl Qa Qa rfl Qa Qa Qa Qa) (fun _=>Qj) (Ja [] Qa Qa (Qj) (Ja [] Qa Qa (Qj) (Js ?_)))))))
  refine Za (Ql (fM 0 r3 r5 r1 ([]++j36_1) j36_2 j36_3 j36_4 a0r.dg) Qa (sL Qd Qa (I6 ⟨[10,11,20,21,22],[10,11,300,1000,1001,1002,1003],[],[]⟩ (fM 1 r3 r5 r1 ([]++j36_1) j36_2 j36_3 j36_4 a0r.dg) Qa (Qg Qd ⟨Dm (.bsl 1003 2) 2 1 true,Ba r3 r5 r1 ([]++j36_1)++Gs ([]++j36_1)++C9 j36_2 j36_3 j36_4 a0r.dg⟩ Qa (sS (Zl Qa (sK ?_)))))))
  refine Ql (fM 1 r3 r5 r1 ([]++j36_1) j36_2 j36_3 j36_4 a0r.dg) Qa (sS (sB (Qg Qd ⟨xc (.func 108) (.bsl 1003 2) 2 1,Ba r3 r5 r1 ([]++j36_1)++Gs ([]++j36_1)++C9 j36_2 j36_3 j36_4 a0r.dg⟩ Qa (V5 [0,1,2] [0,1] [(3,[]),(4,[]),(5,[]),(6,[])] Qd rfl Qa Qa (Yh (f:=108) (args:=[Lr]) (dst:=some 29) Qa Qa (ZA (hc:=(EJ j36_2 j36_3 j36_4 a0r.dg)) (args':=[Lr]) nq2 [] [] Tryz.func108 rfl Tryz.ntmps108 rfl Qa Qa Qa (Qg Qd (bQ j36_2 j36_3 j36_4 a0r.dg) Qa ?_)))))))
  refine sS (V5 [0] [0] [(1,[]),(2,[])] Qd rfl Qa Qa (Yh (f:=105) (args:=[S [59]]) (dst:=some 3) Qa Qa (ZA (hc:=[]) (args':=[S [59]]) [(1,401)] [] [] Tryz.func105 rfl Tryz.ntmps105 rfl Qa Qa Qa (Qg Qd ⟨[qq 1],fK [59]⟩ Qa (Qg Qd (sq8 [59]) Qa (sT (Q0 (.id) [1] [] (.fn (.func 117) [] [.ptr 1 0]) Qa Qa ?_)))))))
  refine kh [0] Qa (QP (Zq YY Qa rfl) (Qj)) Qa (Yh (f:=99) (args:=[YY, .fn (.func 117) [] [.ptr 401 0]]) (dst:=some 4) Qa Qa (ZA (hc:=(Bc j36_2 j36_3 j36_4 a0r.dg [59])) (args':=[YY, .fn (.func 117) [] [Lr]]) nq3 [] [] Tryz.func99 rfl Tryz.ntmps99 rfl Qa Qa Qa (Qg Qd ⟨bJ (.func 117),jT++Bc j36_2 j36_3 j36_4 a0r.dg [59]⟩ Qa (sS (sG (xR 1 Qa ?_))))))
  refine Hz [.ro [.id, .id, .id, .sl 2]] Qa (KO n (⟨j36_2,j36_3,j36_4,a0r.dg⟩:KA)) Qa Qa QS (fun r45=>?_)
  refine xR 2 Qa (xE (Ql ⟨bK (.func 117),Us r45++Bc j36_2 j36_3 j36_4 a0r.dg [59]⟩ Qa (Kr (fun _=>⟨jU,Us r45++Bc j36_2 j36_3 j36_4 a0r.dg [59]⟩:Unit→St) (fun _=>V9 a0r r1 r3 r5 j36_1 j36_2 j36_3 j36_4) ?_ ?_)))
  ·rintro _
   show QX (V9 a0r r1 r3 r5 j36_1 j36_2 j36_3 j36_4) _ _ _ _ _ _
   unfold V9
   refine Qg Qd ⟨[qq 4,qq 5],Us r45++Bc j36_2 (wi (j36_3+1)) j36_4 a0r.dg [59]⟩ Qa (Qg Qd ⟨[qq 4],jW r45++Bc j36_2 (wi (j36_3+1)) j36_4 a0r.dg [59]⟩ Qa (sT (Q0 (.id) [1000,1001,1002] [] (.agg [I r45.Kind,S r45.Text,I r45.N,I r45.At]) Qa Qa (kh [] Qa (Qj) Qa (Js (Ql ⟨[],EJ j36_2 (wi (j36_3+1)) j36_4 a0r.dg⟩ Qa (Qg Qd ⟨[(1,zS)],EJ j36_2 (wi (j36_3+1)) j36_4 a0r.dg⟩ Qa ?_)))))))
   refine sT (Q0 (.sl 5) [1000,1001,1002] [] (.p (.sl 5 (mI []))) Qa Qa (kh [0,1] Qa (QP (Zq (.ptr 11 4) Qa rfl) (QP (WJ (S:=5) (t:=300) (ty:=24) (es:=mI ([]++j36_1)) Qa Qa rfl) (Qj))) Qa (Em [] rfl Qa Qa (WH (e:=24) (S:=5) (by_:=64) (enc:=KI) (tk:=300) (l:=[]++j36_1) (l2:=[]) (xv:=.p (.sl 5 (mI []))) rfl Qa Qa rfl Qa Qa Qa Qa) (fun _=>Qj) (Ja [] Qa Qa (Qj) (Ja [] Qa Qa (Qj) (Js (Za ?_)))))))
   refine Ql (fM 1 r3 r5 r1 (([]++j36_1)++[]) j36_2 (wi (j36_3+1)) j36_4 a0r.dg) Qa (sL Qd Qa (I6 ⟨[10,11,20,21,22],[10,11,300,1000,1001,1002,1003],[],[]⟩ (fM 2 r3 r5 r1 (([]++j36_1)++[]) j36_2 (wi (j36_3+1)) j36_4 a0r.dg) Qa (Qg Qd ⟨Dm (.bsl 1003 2) 2 2 false,Ba r3 r5 r1 (([]++j36_1)++[])++Gs (([]++j36_1)++[])++C9 j36_2 (wi (j36_3+1)) j36_4 a0r.dg⟩ Qa (sS (Zm Qa (Qz (Kb ?_)))))))
   refine SG (QW ?_)
   exact KZ (k:=fun (j35_1,j35_2,j35_3,j35_4)=>Xa a0r r1 r3 r5 j35_1 j35_2 j35_3 j35_4) (([]++j36_1)++[],j36_2,wi (j36_3+1),j36_4) Qa
  refine Yj (fun j47=>⟨jV j47,Us r45++Bc j36_2 j36_3 j36_4 a0r.dg [59]⟩:Bool→St) ?_ ?_
  rotate_left
  ·rintro j47
   refine sC j47 Qa ?_ ?_
   rotate_left
   ·refine sK ?_
    exact KZ (k:=fun _=>V9 a0r r1 r3 r5 j36_1 j36_2 j36_3 j36_4) () Qa
   refine sG (xR 1 Qa ?_)
   refine BU [.ro [.id, .id, .id, .sl 2]] Qa (XQ n (⟨j36_2,j36_3,j36_4,a0r.dg⟩:KA)) Qa Qa QS QS (fun r51=>?_) (fun e52=>?_)
   ·refine xE ?_
    exact KZ (k:=fun _=>V9 a0r r1 r3 r5 j36_1 j36_2 j36_3 j36_4) () Qa
   refine Zk (ZR [1000,1001,1002] [] Qa (qO _ rfl (Kj (ZR [1000,1001,1002] [] Qa (qO _ rfl (Zd (Kj ?_)))))))
   refine Qac (Zd (Zk (ZR [1000,1001,1002,1003] [] Qa (Kj ?_))))
   exact Kz [1000,1103] [] Qa Qa Qa
  refine sG (xR 4 Qa ?_)
  refine xS (Qi r45.Kind 0) (fun h48=>?_) (fun h48=>?_)
  ·refine xN (Qy Qa h48) Qa (xR 4 Qa (xE ?_))
   exact QO true Qa
  refine xO (Qx Qa h48) Qa (xR 1 Qa (Vp (Oe [59]) [.agg [I r45.Kind,S r45.Text,I r45.N,I r45.At],YY] [(1000,1002)] [] [] Qa Tryz.func117 rfl Tryz.ntmps117 rfl Qa Qa Qa (Qg Qd (sq9 r45 [59]) Qa (Yj (fun j49=>⟨[(3,B j49)],Oe [59]⟩:Bool→St) ?_ ?_))))
  ·refine sG (xR 4 Qa ?_)
   refine xS (Qi r45.Kind 3) (fun h50=>?_) (fun h50=>?_)
   ·refine xO (Qp Qa h50) Qa (xR 5 Qa (xE ?_))
    exact QO (QK r45.Text [59]) Qa
   refine xN (Qq Qa h50) Qa (xR 5 Qa (xE ?_))
   exact QO false Qa
  rintro j49
  refine sT (Q0 (.id) [1000] [] (B j49) Qa Qa (WG (xR 2 Qa (xE ?_))))
  exact QO (!j49) Qa
 refine Qg Qd ⟨[qq 1,qq 2,qq 3,(4,S r3.Text),(5,I r5),(6, .fn (.func 104) [] [.ptr 1 0])],zi r1++CZ a0r.tks (wi ((wi (a0r.pos+1))+1)) a0r.length a0r.dg⟩ Qa (sS (sG (xR 9 Qa (Vp (Lj a0r.tks (wi ((wi (a0r.pos+1))+1)) a0r.length a0r.dg) [.agg [I r1.Kind,S r1.Text,I r1.N,I r1.At],I 2,S r3.Text,I r5, .bsl 1003 3] [(1002,1),(1003,29),(1000,1000),(1001,1103)] [] [] Qa Tryz.func39 rfl Tryz.ntmps39 rfl Qa Qa Qa (Qg Qd ⟨lU 2 r3 r5 (.bsl 1003 3),lS r1++Lj a0r.tks (wi ((wi (a0r.pos+1))+1)) a0r.length a0r.dg⟩ Qa (Qg Qd ⟨jX (.bsl 1003 3),ND r3 r5 r1++Lj a0r.tks (wi ((wi (a0r.pos+1))+1)) a0r.length a0r.dg⟩ Qa (Kr (fun (j6_1,j6_2,j6_3,j6_4,j6_5)=>⟨[qq 10,qq 11],Ba r3 r5 r1 j6_1++TD j6_1++Lj j6_2 j6_3 j6_4 j6_5⟩:Mv→St) (fun (j6_1,j6_2,j6_3,j6_4,j6_5)=>X8 r1 r3 r5 j6_1 j6_2 j6_3 j6_4 j6_5) ?_ ?_)))))))
 ·rintro ⟨j6_1,j6_2,j6_3,j6_4,j6_5⟩
  show QX (X8 r1 r3 r5 j6_1 j6_2 j6_3 j6_4 j6_5) _ _ _ _ _ _
  unfold X8
  refine Qg Qd ⟨[qq 10],[(10,(lX r3 r5 r1 j6_1))]++TD j6_1++Lj j6_2 j6_3 j6_4 j6_5⟩ Qa (sT (Q0 (.agg [.id, .id, .id, .id, .sl 5]) [1000,1001,1002,1003] [] (.agg [I 2,S r3.Text,I r5,I r1.At, .p (.sl 5 (mI j6_1))]) Qa Qa (WG (xR 1 Qa (xE (Ql ⟨[qq 2],[(2,(vL ⟨2,r3.Text,r5,r1.At,j6_1⟩))]++CZ j6_2 j6_3 j6_4 j6_5⟩ Qa (sT ?_)))))))
  refine Q8 ?_
  exact Y2 (.id) [1000,1103] [] Qa Qa Qa Qa
 refine Qg Qd ⟨Gt (.bsl 1003 3) 3 0,ND r3 r5 r1++Lj a0r.tks (wi ((wi (a0r.pos+1))+1)) a0r.length a0r.dg⟩ Qa (sB (Vq 3 (Qg Qd ⟨Dm (.bsl 1003 3) 3 0 true,ND r3 r5 r1++Lj a0r.tks (wi ((wi (a0r.pos+1))+1)) a0r.length a0r.dg⟩ Qa (sS (Zl Qa (sK (Ql ⟨Gt (.bsl 1003 3) 3 0,ND r3 r5 r1++Lj a0r.tks (wi ((wi (a0r.pos+1))+1)) a0r.length a0r.dg⟩ Qa ?_)))))))
 refine sS (sB (Qg Qd ⟨yj (.func 106) (.bsl 1003 3) 3 0,ND r3 r5 r1++Lj a0r.tks (wi ((wi (a0r.pos+1))+1)) a0r.length a0r.dg⟩ Qa (CQ ⟨yj (.func 106) (.bsl 1003 3) 3 0,ND r3 r5 r1++Lj a0r.tks (wi ((wi (a0r.pos+1))+1)) a0r.length a0r.dg⟩ Qa (Zj (Z8 24 5 300 [] [(11,4)] Qa) (V5 [0,1,2] [0,1] [(3,[]),(4,[]),(5,[]),(6,[])] Qd rfl Qa Qa (Yh (f:=106) (args:=[YY]) (dst:=some 29) Qa Qa (ZA (hc:=(VA a0r.tks (wi ((wi (a0r.pos+1))+1)) a0r.length a0r.dg)) (args':=[YY]) [(1000,1000),(1001,1001)] [] [] Tryz.func106 rfl Tryz.ntmps106 rfl Qa Qa Qa ?_)))))))
 refine Qg Qd (lY a0r.tks (wi ((wi (a0r.pos+1))+1)) a0r.length a0r.dg) Qa (Qg Qd ⟨yl,Oh++VA a0r.tks (wi ((wi (a0r.pos+1))+1)) a0r.length a0r.dg⟩ Qa (Yj (fun (j7_1,j7_2,j7_3,j7_4)=>⟨[(3, .tsl 5 (mI j7_1) 300)],TD j7_1++VA j7_2 j7_3 j7_4 a0r.dg⟩:mY→St) ?_ ?_))
 ·refine sS (sG (xR 1 Qa ?_))
  refine Hz [.ro [.id, .id, .id, .sl 2]] Qa (KO n (⟨a0r.tks,wi ((wi (a0r.pos+1))+1),a0r.length,a0r.dg⟩:KA)) Qa Qa QS (fun r8=>?_)
  refine xR 2 Qa (xE (Ql ⟨bL,bM r8++VA a0r.tks (wi ((wi (a0r.pos+1))+1)) a0r.length a0r.dg⟩ Qa (sB (CQ ⟨bL,bM r8++VA a0r.tks (wi ((wi (a0r.pos+1))+1)) a0r.length a0r.dg⟩ Qa (Zj (Z8 24 5 300 [3] [] Qa) (QH (fun (l9_1,l9_2,l9_3,l9_4,l9_5,l9_6,l9_7,l9_8)=>(jZ l9_1 l9_5 l9_6 l9_7 l9_8 l9_2 l9_3 l9_4 a0r.dg):ty5→St) (Xk Qa) ?_))))))
  rintro recl9 ⟨l9_1,l9_2,l9_3,l9_4,l9_5,l9_6,l9_7,l9_8⟩
  show QX (Ry n a0r recl9 l9_1 l9_2 l9_3 l9_4 l9_5 l9_6 l9_7 l9_8) _ _ _ _ _ _
  unfold Ry
  refine sS (Yj (fun j10=>⟨Qav l9_1 j10,bN l9_5 l9_6 l9_7 l9_8++TD l9_1++VA l9_2 l9_3 l9_4 a0r.dg⟩:Bool→St) ?_ ?_)
  ·refine sG (xR 4 Qa ?_)
   refine xS (Qi l9_5 1) (fun h11=>?_) (fun h11=>?_)
   ·refine xO (Qp Qa h11) Qa (xR 1 Qa ?_)
    refine xC [] Qa (XP n l9_6) Qa Qa QS (fun r12=>?_)
    refine xR 1 Qa (xE ?_)
    exact QO r12 Qa
   refine xN (Qq Qa h11) Qa (xR 3 Qa (xE ?_))
   exact QO false Qa
  rintro j10
  refine sC j10 Qa ?_ ?_
  rotate_left
  ·refine Qz (Kb (KY (QW ?_)))
   exact QO (l9_1,l9_2,l9_3,l9_4) Qa
  refine sK (Ql (jZ l9_1 l9_5 l9_6 l9_7 l9_8 l9_2 l9_3 l9_4 a0r.dg) Qa (sS (sB (Qg Qd (jZ l9_1 l9_5 l9_6 l9_7 l9_8 l9_2 (wi (l9_3+1)) l9_4 a0r.dg) Qa (sG (xR 6 Qa (Vp (U3 l9_2 (wi (l9_3+1)) l9_4 a0r.dg) [.agg [I l9_5,S l9_6,I l9_7,I l9_8],I 3,S l9_6,I 0, .bsl 1003 1] nq1 [] [] Qa Tryz.func39 rfl Tryz.ntmps39 rfl Qa Qa Qa ?_)))))))
  refine Qg Qd ⟨lZ 3 l9_6 (.bsl 1003 1),[(5,(bq0 l9_5 l9_6 l9_7 l9_8)),(10,(H6 0 [] 0 0))]++U3 l9_2 (wi (l9_3+1)) l9_4 a0r.dg⟩ Qa (Qg Qd ⟨jX (.bsl 1003 1),Dk 3 l9_6 0 l9_8++U3 l9_2 (wi (l9_3+1)) l9_4 a0r.dg⟩ Qa (Yj (fun (j13_1,j13_2,j13_3,j13_4)=>⟨[qq 10,qq 11],Oi 3 l9_6 l9_8 j13_1++TD j13_1++U3 j13_2 j13_3 j13_4 a0r.dg⟩:mY→St) ?_ ?_))
  rotate_left
  ·rintro ⟨j13_1,j13_2,j13_3,j13_4⟩
   refine Qg Qd ⟨[qq 10],[(10,(bO 3 l9_6 l9_8 j13_1))]++TD j13_1++U3 j13_2 j13_3 j13_4 a0r.dg⟩ Qa (sT (Q0 (.agg [.id, .id, .id, .id, .sl 5]) [1000,1001,1002,1003] [] (.agg [I 3,S l9_6,I 0,I l9_8, .p (.sl 5 (mI j13_1))]) Qa Qa (WG (xR 1 Qa (xF Qa Qa (Zy (e:=24) (S:=5) (by_:=64) (enc:=KI) (tk:=300) (l:=l9_1) (l2:=[GN.cs (⟨3,l9_6,0,l9_8,j13_1⟩:GN)]) (xv:=.tsl 5 (mI [GN.cs (⟨3,l9_6,0,l9_8,j13_1⟩:GN)]) 31) rfl Qa Qa rfl Qa Qa Qa rfl Qa) (xR 1 Qa (xE ?_)))))))
   refine Za (Ql (bP (l9_1++[GN.cs (⟨3,l9_6,0,l9_8,j13_1⟩:GN)]) l9_5 l9_6 l9_7 l9_8 j13_2 j13_3 j13_4 a0r.dg) Qa (sS (Qg Qd (Qaw (l9_1++[GN.cs (⟨3,l9_6,0,l9_8,j13_1⟩:GN)]) l9_5 l9_6 l9_7 l9_8 j13_2 j13_3 j13_4 a0r.dg) Qa (sL Qd Qa (Ql (bP (l9_1++[GN.cs (⟨3,l9_6,0,l9_8,j13_1⟩:GN)]) l9_5 l9_6 l9_7 l9_8 j13_2 j13_3 j13_4 a0r.dg) Qa (sG (xR 1 Qa ?_)))))))
   refine Hz [.ro [.id, .id, .id, .sl 2]] Qa (KO n (⟨j13_2,j13_3,j13_4,a0r.dg⟩:KA)) Qa Qa QS (fun r15=>?_)
   refine xR 1 Qa (xE ?_)
   exact KZ (l9_1++[GN.cs (⟨3,l9_6,0,l9_8,j13_1⟩:GN)],j13_2,j13_3,j13_4,r15.Kind,r15.Text,r15.N,r15.At) Qa
  refine Qg Qd ⟨Gt (.bsl 1003 1) 1 0,Dk 3 l9_6 0 l9_8++U3 l9_2 (wi (l9_3+1)) l9_4 a0r.dg⟩ Qa (sB (Vq 1 (Qg Qd ⟨Dm (.bsl 1003 1) 1 0 true,Dk 3 l9_6 0 l9_8++U3 l9_2 (wi (l9_3+1)) l9_4 a0r.dg⟩ Qa (sS (Zl Qa (sK (Ql ⟨Gt (.bsl 1003 1) 1 0,Dk 3 l9_6 0 l9_8++U3 l9_2 (wi (l9_3+1)) l9_4 a0r.dg⟩ Qa ?_)))))))
  refine sS (sB (Qg Qd ⟨xc (.func 118) (.bsl 1003 1) 1 0,Dk 3 l9_6 0 l9_8++U3 l9_2 (wi (l9_3+1)) l9_4 a0r.dg⟩ Qa (CQ ⟨xc (.func 118) (.bsl 1003 1) 1 0,Dk 3 l9_6 0 l9_8++U3 l9_2 (wi (l9_3+1)) l9_4 a0r.dg⟩ Qa (Zj (Z8 24 5 300 [] [(11,4)] Qa) (V5 [0,1,2] [0,1] [(3,[]),(4,[]),(5,[]),(6,[])] Qd rfl Qa Qa (Yh (f:=118) (args:=[Lr]) (dst:=some 29) Qa Qa (ZA (hc:=(EJ l9_2 (wi (l9_3+1)) l9_4 a0r.dg)) (args':=[Lr]) nq2 [] [] Tryz.func118 rfl Tryz.ntmps118 rfl Qa Qa Qa ?_)))))))
  refine Qg Qd (bQ l9_2 (wi (l9_3+1)) l9_4 a0r.dg) Qa (sS (sG (xR 1 Qa (Yk (f:=119) (args:=[YY, .p (.val (.func (.func 103) #[] #[]))]) Qa Qa Qa ?_))))
  refine CG 1000 3 1001 65 2 (K5 a0r.dg).length (K5 a0r.dg) ⟨[0,2],[1000,1002],[],[]⟩ Qa Qa rfl (fun _ _ _=>by kernel_rfl) (fun hu14w hu14l hu14c=>?_)
  refine Ci [(1000,1000)] [] [] (TE n (⟨l9_2,wi (l9_3+1),l9_4,[]⟩:KA) hu14w hu14l hu14c) Qa Qa Qa QS QS (fun r14=>?_)
  refine Et _ rfl Qa Qa (WG (xR 1 Qa (xE (Ql ⟨[(1, .p (.sl 5 (mI r14.1)))],EJ r14.2.tks r14.2.pos r14.2.length a0r.dg⟩ Qa (sT (Q0 (.id) [1000,1001,1002] [] (.p (.sl 5 (mI r14.1))) Qa Qa (kh [0,1] Qa (QP (Zq (.ptr 11 4) Qa rfl) (QP (WJ (S:=5) (t:=300) (ty:=24) (es:=mI []) Qa Qa rfl) (Qj))) Qa ?_)))))))
  refine Em [] rfl Qa Qa (WH (e:=24) (S:=5) (by_:=64) (enc:=KI) (tk:=300) (l:=[]) (l2:=r14.1) (xv:=.p (.sl 5 (mI r14.1))) rfl Qa Qa rfl Qa Qa Qa Qa) (fun _=>Qj) (Ja [] Qa Qa (Qj) (Ja [] Qa Qa (Qj) (Js (Za (Ql (bR 0 l9_6 l9_8 ([]++r14.1) r14.2.tks r14.2.pos r14.2.length a0r.dg) Qa (sL Qd Qa (I6 ⟨[10,11,20,21,22],[10,11,300,1000,1001,1002,1003],[],[]⟩ (bR 1 l9_6 l9_8 ([]++r14.1) r14.2.tks r14.2.pos r14.2.length a0r.dg) Qa ?_)))))))
  refine Qg Qd ⟨Dm (.bsl 1003 1) 1 1 false,Oi 3 l9_6 l9_8 ([]++r14.1)++Gs ([]++r14.1)++U3 r14.2.tks r14.2.pos r14.2.length a0r.dg⟩ Qa (sS (Zm Qa (Qz (Kb (SG (QW ?_))))))
  exact QO ([]++r14.1,r14.2.tks,r14.2.pos,r14.2.length) Qa
 rintro ⟨j7_1,j7_2,j7_3,j7_4⟩
 refine Qg Qd ⟨[(2, .tsl 5 (mI j7_1) 300)],TD j7_1++VA j7_2 j7_3 j7_4 a0r.dg⟩ Qa (sT (Q0 (.sl 5) [1000,1001] [] (.p (.sl 5 (mI j7_1))) Qa Qa (kh [0,1] Qa (QP (Zq (.ptr 11 4) Qa rfl) (QP (WJ (S:=5) (t:=300) (ty:=24) (es:=mI []) Qa Qa rfl) (Qj))) Qa (Em [] rfl Qa Qa (WH (e:=24) (S:=5) (by_:=64) (enc:=KI) (tk:=300) (l:=[]) (l2:=j7_1) (xv:=.p (.sl 5 (mI j7_1))) rfl Qa Qa rfl Qa Qa Qa Qa) (fun _=>Qj) (Ja [] Qa Qa (Qj) (Ja [] Qa Qa (Qj) (Js ?_)))))))
 refine Za (Ql (xe 0 r3 r5 r1 ([]++j7_1) j7_2 j7_3 j7_4 a0r.dg) Qa (sL Qd Qa (I6 ⟨[10,11,20,21,22],[10,11,300,1000,1001,1002,1003],[],[]⟩ (xe 1 r3 r5 r1 ([]++j7_1) j7_2 j7_3 j7_4 a0r.dg) Qa (Qg Qd ⟨Dm (.bsl 1003 3) 3 1 true,Ba r3 r5 r1 ([]++j7_1)++Gs ([]++j7_1)++Lj j7_2 j7_3 j7_4 a0r.dg⟩ Qa (sS (Zl Qa (sK ?_)))))))
 refine Ql (xe 1 r3 r5 r1 ([]++j7_1) j7_2 j7_3 j7_4 a0r.dg) Qa (sS (sB (Qg Qd ⟨xc (.func 104) (.bsl 1003 3) 3 1,Ba r3 r5 r1 ([]++j7_1)++Gs ([]++j7_1)++Lj j7_2 j7_3 j7_4 a0r.dg⟩ Qa (V5 [0,1,2] [0,1] [(3,[]),(4,[]),(5,[]),(6,[])] Qd rfl Qa Qa (Yh (f:=104) (args:=[Lr]) (dst:=some 29) Qa Qa (ZA (hc:=(EJ j7_2 j7_3 j7_4 a0r.dg)) (args':=[Lr]) nq2 [] [] Tryz.func104 rfl Tryz.ntmps104 rfl Qa Qa Qa (Qg Qd (bQ j7_2 j7_3 j7_4 a0r.dg) Qa ?_)))))))
 refine sS (V5 [0] [0] [(1,[]),(2,[])] Qd rfl Qa Qa (Yh (f:=105) (args:=[S [123]]) (dst:=some 3) Qa Qa (ZA (hc:=[]) (args':=[S [123]]) [(1,401)] [] [] Tryz.func105 rfl Tryz.ntmps105 rfl Qa Qa Qa (Qg Qd ⟨[qq 1],fK [123]⟩ Qa (Qg Qd (sq8 [123]) Qa (sT (Q0 (.id) [1] [] (.fn (.func 117) [] [.ptr 1 0]) Qa Qa ?_)))))))
 refine kh [0] Qa (QP (Zq YY Qa rfl) (Qj)) Qa (Yh (f:=99) (args:=[YY, .fn (.func 117) [] [.ptr 401 0]]) (dst:=some 4) Qa Qa (ZA (hc:=(Bc j7_2 j7_3 j7_4 a0r.dg [123])) (args':=[YY, .fn (.func 117) [] [Lr]]) nq3 [] [] Tryz.func99 rfl Tryz.ntmps99 rfl Qa Qa Qa (Qg Qd ⟨bJ (.func 117),jT++Bc j7_2 j7_3 j7_4 a0r.dg [123]⟩ Qa (sS (sG (xR 1 Qa ?_))))))
 refine Hz [.ro [.id, .id, .id, .sl 2]] Qa (KO n (⟨j7_2,j7_3,j7_4,a0r.dg⟩:KA)) Qa Qa QS (fun r16=>?_)
 refine xR 2 Qa (xE (Ql ⟨bK (.func 117),Us r16++Bc j7_2 j7_3 j7_4 a0r.dg [123]⟩ Qa (Kr (fun _=>⟨jU,Us r16++Bc j7_2 j7_3 j7_4 a0r.dg [123]⟩:Unit→St) (fun _=>V7 n a0r r1 r3 r5 j7_1 j7_2 j7_3 j7_4) ?_ ?_)))
 rotate_left
 ·refine Yj (fun j29=>⟨jV j29,Us r16++Bc j7_2 j7_3 j7_4 a0r.dg [123]⟩:Bool→St) ?_ ?_
  rotate_left
  ·rintro j29
   refine sC j29 Qa ?_ ?_
   rotate_left
   ·refine sK ?_
    exact KZ (k:=fun _=>V7 n a0r r1 r3 r5 j7_1 j7_2 j7_3 j7_4) () Qa
   refine sG (xR 1 Qa ?_)
   refine BU [.ro [.id, .id, .id, .sl 2]] Qa (XQ n (⟨j7_2,j7_3,j7_4,a0r.dg⟩:KA)) Qa Qa QS QS (fun r33=>?_) (fun e34=>?_)
   ·refine xE ?_
    exact KZ (k:=fun _=>V7 n a0r r1 r3 r5 j7_1 j7_2 j7_3 j7_4) () Qa
   refine Zk (ZR [1000,1001,1002] [] Qa (qO _ rfl (Kj (ZR [1000,1001,1002] [] Qa (qO _ rfl (Zd (Kj ?_)))))))
   refine Qac (Zd (Zk (ZR [1000,1001,1002,1003] [] Qa (Kj (Kj ?_)))))
   exact Kz [1000,1103] [] Qa Qa Qa
  refine sG (xR 4 Qa ?_)
  refine xS (Qi r16.Kind 0) (fun h30=>?_) (fun h30=>?_)
  ·refine xN (Qy Qa h30) Qa (xR 4 Qa (xE ?_))
   exact QO true Qa
  refine xO (Qx Qa h30) Qa (xR 1 Qa (Vp (Oe [123]) [.agg [I r16.Kind,S r16.Text,I r16.N,I r16.At],YY] [(1000,1002)] [] [] Qa Tryz.func117 rfl Tryz.ntmps117 rfl Qa Qa Qa (Qg Qd (sq9 r16 [123]) Qa (Yj (fun j31=>⟨[(3,B j31)],Oe [123]⟩:Bool→St) ?_ ?_))))
  ·refine sG (xR 4 Qa ?_)
   refine xS (Qi r16.Kind 3) (fun h32=>?_) (fun h32=>?_)
   ·refine xO (Qp Qa h32) Qa (xR 5 Qa (xE ?_))
    exact QO (QK r16.Text [123]) Qa
   refine xN (Qq Qa h32) Qa (xR 5 Qa (xE ?_))
   exact QO false Qa
  rintro j31
  refine sT (Q0 (.id) [1000] [] (B j31) Qa Qa (WG (xR 2 Qa (xE ?_))))
  exact QO (!j31) Qa
 rintro _
 show QX (V7 n a0r r1 r3 r5 j7_1 j7_2 j7_3 j7_4) _ _ _ _ _ _
 unfold V7
 refine Qg Qd ⟨[qq 4,qq 5],Us r16++Bc j7_2 (wi (j7_3+1)) j7_4 a0r.dg [123]⟩ Qa (Qg Qd ⟨[qq 4],jW r16++Bc j7_2 (wi (j7_3+1)) j7_4 a0r.dg [123]⟩ Qa (sT (Q0 (.id) [1000,1001,1002] [] (.agg [I r16.Kind,S r16.Text,I r16.N,I r16.At]) Qa Qa (kh [] Qa (Qj) Qa (Js (Ql ⟨[],EJ j7_2 (wi (j7_3+1)) j7_4 a0r.dg⟩ Qa (Qg Qd ⟨[(1,zS)],EJ j7_2 (wi (j7_3+1)) j7_4 a0r.dg⟩ Qa ?_)))))))
 refine sT (Q0 (.sl 5) [1000,1001,1002] [] (.p (.sl 5 (mI []))) Qa Qa (kh [0,1] Qa (QP (Zq (.ptr 11 4) Qa rfl) (QP (WJ (S:=5) (t:=300) (ty:=24) (es:=mI ([]++j7_1)) Qa Qa rfl) (Qj))) Qa (Em [] rfl Qa Qa (WH (e:=24) (S:=5) (by_:=64) (enc:=KI) (tk:=300) (l:=[]++j7_1) (l2:=[]) (xv:=.p (.sl 5 (mI []))) rfl Qa Qa rfl Qa Qa Qa Qa) (fun _=>Qj) (Ja [] Qa Qa (Qj) (Ja [] Qa Qa (Qj) (Js (Za ?_)))))))
 refine Ql (xe 1 r3 r5 r1 (([]++j7_1)++[]) j7_2 (wi (j7_3+1)) j7_4 a0r.dg) Qa (sL Qd Qa (I6 ⟨[10,11,20,21,22],[10,11,300,1000,1001,1002,1003],[],[]⟩ (xe 2 r3 r5 r1 (([]++j7_1)++[]) j7_2 (wi (j7_3+1)) j7_4 a0r.dg) Qa (Qg Qd ⟨Dm (.bsl 1003 3) 3 2 true,Ba r3 r5 r1 (([]++j7_1)++[])++Gs (([]++j7_1)++[])++Lj j7_2 (wi (j7_3+1)) j7_4 a0r.dg⟩ Qa (sS (Zl Qa (sK (Ql (xe 2 r3 r5 r1 (([]++j7_1)++[]) j7_2 (wi (j7_3+1)) j7_4 a0r.dg) Qa ?_)))))))
 refine Yj (fun (j18_1,j18_2,j18_3,j18_4,j18_5)=>⟨Gt (.bsl 1003 3) 3 2,Ba r3 r5 r1 j18_1++TD j18_1++Lj j18_2 j18_3 j18_4 j18_5⟩:Mv→St) ?_ ?_
 rotate_left
 ·rintro ⟨j18_1,j18_2,j18_3,j18_4,j18_5⟩
  refine sL Qd Qa (I6 ⟨[10,11,20,21,22],[10,11,300,1000,1001,1002,1003],[],[]⟩ ⟨Gt (.bsl 1003 3) 3 3,Ba r3 r5 r1 j18_1++TD j18_1++Lj j18_2 j18_3 j18_4 j18_5⟩ Qa (Qg Qd ⟨Dm (.bsl 1003 3) 3 3 false,Ba r3 r5 r1 j18_1++TD j18_1++Lj j18_2 j18_3 j18_4 j18_5⟩ Qa (sS (Zm Qa (Qz (Kb (SG ?_)))))))
  refine QW ?_
  exact KZ (k:=fun (j6_1,j6_2,j6_3,j6_4,j6_5)=>X8 r1 r3 r5 j6_1 j6_2 j6_3 j6_4 j6_5) (j18_1,j18_2,j18_3,j18_4,j18_5) Qa
 refine sB (Qg Qd ⟨yj (.func 107) (.bsl 1003 3) 3 2,Ba r3 r5 r1 (([]++j7_1)++[])++Gs (([]++j7_1)++[])++Lj j7_2 (wi (j7_3+1)) j7_4 a0r.dg⟩ Qa (V5 [0,1,2] [0,1] [(3,[]),(4,[]),(5,[]),(6,[])] Qd rfl Qa Qa (Yh (f:=107) (args:=[YY]) (dst:=some 29) Qa Qa (ZA (hc:=(VA j7_2 (wi (j7_3+1)) j7_4 a0r.dg)) (args':=[YY]) [(1000,1000),(1001,1001)] [] [] Tryz.func107 rfl Tryz.ntmps107 rfl Qa Qa Qa (Qg Qd (lY j7_2 (wi (j7_3+1)) j7_4 a0r.dg) Qa (Qg Qd ⟨yl,Oh++VA j7_2 (wi (j7_3+1)) j7_4 a0r.dg⟩ Qa (Kr (fun (j19_1,j19_2,j19_3,j19_4,j19_5)=>⟨[(3, .tsl 5 (mI j19_1) 32)],l5 j19_1++VA j19_2 j19_3 j19_4 j19_5⟩:Mv→St) (fun (j19_1,j19_2,j19_3,j19_4,j19_5)=>J9 j7_1 j19_1 j19_2 j19_3 j19_4 j19_5) ?_ ?_)))))))
 ·rintro ⟨j19_1,j19_2,j19_3,j19_4,j19_5⟩
  show QX (J9 j7_1 j19_1 j19_2 j19_3 j19_4 j19_5) _ _ _ _ _ _
  unfold J9
  refine Qg Qd (l8 j19_1 j19_2 j19_3 j19_4 j19_5) Qa (sT (Q0 (.sl 5) [1000,1001] [] (.p (.sl 5 (mI j19_1))) Qa Qa (kh [0,1] Qa (QP (Zq (.ptr 11 4) Qa rfl) (QP (WJ (S:=5) (t:=300) (ty:=24) (es:=mI (([]++j7_1)++[])) Qa Qa rfl) (Qj))) Qa (Em [] rfl Qa Qa (WH (e:=24) (S:=5) (by_:=64) (enc:=KI) (tk:=300) (l:=([]++j7_1)++[]) (l2:=j19_1) (xv:=.p (.sl 5 (mI j19_1))) rfl Qa Qa rfl Qa Qa Qa Qa) (fun _=>Qj) (Ja [] Qa Qa (Qj) (Ja [] Qa Qa (Qj) (Js ?_)))))))
  refine Za ?_
  exact QO ((([]++j7_1)++[])++j19_1,j19_2,j19_3,j19_4,j19_5) Qa
 refine sB (CQ ⟨yl,Oh++VA j7_2 (wi (j7_3+1)) j7_4 a0r.dg⟩ Qa (Zj (Z8 24 5 32 [3] [] Qa) (QH (fun (l20_1,l20_2,l20_3,l20_4,l20_5)=>⟨fO l20_1,xg l20_1++VA l20_2 l20_3 l20_4 l20_5⟩:Mv→St) (Xk Qa) ?_)))
 rintro recl20 ⟨l20_1,l20_2,l20_3,l20_4,l20_5⟩
 show QX (FQ n j7_1 recl20 l20_1 l20_2 l20_3 l20_4 l20_5) _ _ _ _ _ _
 unfold FQ
 refine sS (sS (sG (xR 1 Qa ?_)))
 refine Hz [.ro [.id, .id, .id, .sl 2]] Qa (Nr n (⟨l20_2,l20_3,l20_4,l20_5⟩:KA)) Qa Qa QS (fun r21=>?_)
 refine xR 1 Qa (xE (Ql ⟨[qq 1,(3, .tsl 5 (mI l20_1) 32),(9,B (!r21))],xg l20_1++VA l20_2 l20_3 l20_4 l20_5⟩ Qa (sC (!r21) Qa ?_ ?_)))
 rotate_left
 ·refine Qz (Kb (KY (QW ?_)))
  exact KZ (k:=fun (j19_1,j19_2,j19_3,j19_4,j19_5)=>J9 j7_1 j19_1 j19_2 j19_3 j19_4 j19_5) (l20_1,l20_2,l20_3,l20_4,l20_5) Qa
 refine sK (Ql ⟨fO l20_1,xg l20_1++VA l20_2 l20_3 l20_4 l20_5⟩ Qa (sB (sS (sS (V5 [1] [1] [(0,[]),(2,[]),(3,[])] Qd rfl Qa Qa (Yh (f:=105) (args:=[S [125]]) (dst:=some 10) Qa Qa (ZA (hc:=[]) (args':=[S [125]]) [(1,401)] [] [] Tryz.func105 rfl Tryz.ntmps105 rfl Qa Qa Qa ?_)))))))
 refine Qg Qd ⟨[qq 1],fK [125]⟩ Qa (Qg Qd (sq8 [125]) Qa (sT (Q0 (.id) [1] [] (.fn (.func 117) [] [.ptr 1 0]) Qa Qa (kh [1] Qa (QP (Zq YY Qa rfl) (Qj)) Qa (Yh (f:=114) (args:=[YY]) (dst:=some 12) Qa Qa ?_)))))
 refine Qaa [.ro [.id, .id, .id, .sl 2]] (KO n (⟨l20_2,l20_3,l20_4,l20_5⟩:KA)) Qa Qa QS (fun r22=>?_)
 refine kh [] Qa (Qj) Qa (Yh (f:=117) (args:=[.agg [I r22.Kind,S r22.Text,I r22.N,I r22.At], .ptr 401 0]) (dst:=some 13) Qa Qa (ZA (hc:=(Oe [125])) (args':=[.agg [I r22.Kind,S r22.Text,I r22.N,I r22.At],YY]) [(1000,401)] [] [] Tryz.func117 rfl Tryz.ntmps117 rfl Qa Qa Qa (Qg Qd (sq9 r22 [125]) Qa (Yj (fun j23=>⟨[(3,B j23)],Oe [125]⟩:Bool→St) ?_ ?_))))
 ·refine sG (xR 4 Qa ?_)
  refine xS (Qi r22.Kind 3) (fun h24=>?_) (fun h24=>?_)
  ·refine xO (Qp Qa h24) Qa (xR 5 Qa (xE ?_))
   exact QO (QK r22.Text [125]) Qa
  refine xN (Qq Qa h24) Qa (xR 5 Qa (xE ?_))
  exact QO false Qa
 rintro j23
 refine sT (Q0 (.id) [1000] [] (B j23) Qa Qa (kh [] Qa (Qj) Qa (Js (Ql ⟨[qq 1,(3, .tsl 5 (mI l20_1) 32),(13,B j23)],xg l20_1++VA l20_2 l20_3 l20_4 l20_5⟩ Qa (sC j23 Qa ?_ ?_)))))
 ·refine Qg Qd ⟨[(3, .tsl 5 (mI l20_1) 32)],l5 l20_1++VA l20_2 (wi (l20_3+1)) l20_4 l20_5⟩ Qa (Qg Qd (l8 l20_1 l20_2 (wi (l20_3+1)) l20_4 l20_5) Qa (sT (Q8 (Zh (Yv (Zh (Yv ?_)))))))
  refine Q0 (.sl 5) [1000,1001] [] (.p (.sl 5 (mI l20_1))) Qa Qa (kh [0,1] Qa (QP (Zq (.ptr 11 4) Qa rfl) (QP (WJ (S:=5) (t:=300) (ty:=24) (es:=mI (([]++j7_1)++[])) Qa Qa rfl) (Qj))) Qa (Em [] rfl Qa Qa (WH (e:=24) (S:=5) (by_:=64) (enc:=KI) (tk:=300) (l:=([]++j7_1)++[]) (l2:=l20_1) (xv:=.p (.sl 5 (mI l20_1))) rfl Qa Qa rfl Qa Qa Qa Qa) (fun _=>Qj) (Ja [] Qa Qa (Qj) (Ja [] Qa Qa (Qj) (Js (Za ?_))))))
  exact QO ((([]++j7_1)++[])++l20_1,l20_2,wi (l20_3+1),l20_4,l20_5) Qa
 refine sK (Ql ⟨fO l20_1,xg l20_1++VA l20_2 l20_3 l20_4 l20_5⟩ Qa (Qg Qd ⟨Qax l20_1,[(1, .box 93 [YY]),(4,(H6 0 [] 0 0)),(32,AY l20_1)]++VA l20_2 l20_3 l20_4 l20_5⟩ Qa (Yj (fun (j25_1,j25_2,j25_3,j25_4,j25_5,j25_6,j25_7,j25_8,j25_9,j25_10,j25_11)=>⟨[qq 1,(3, .tsl 5 (mI l20_1) 32),qq 4,(5,B j25_1),(6,S j25_2)],Qay ⟨j25_7,j25_8,j25_9,j25_10,j25_11⟩ l20_1++VA j25_3 j25_4 j25_5 j25_6⟩:(Bool × (List UInt8) × (List YQ) × Int × Int × (List Zr) × Int × (List UInt8) × Int × Int × (List (List PV)))→St) ?_ ?_)))
 rotate_left
 ·rintro ⟨j25_1,j25_2,j25_3,j25_4,j25_5,j25_6,j25_7,j25_8,j25_9,j25_10,j25_11⟩
  refine Qg Qd ⟨[qq 1,(3, .tsl 5 (mI l20_1) 32),qq 4,(6,S j25_2),(28,B j25_1)],Qay ⟨j25_7,j25_8,j25_9,j25_10,j25_11⟩ l20_1++VA j25_3 j25_4 j25_5 j25_6⟩ Qa (sC j25_1 Qa ?_ ?_)
  ·refine sG (xR 3 Qa (xF Qa Qa (Zy (e:=24) (S:=5) (by_:=64) (enc:=KI) (tk:=32) (l:=l20_1) (l2:=[GN.cs (⟨j25_7,j25_8,j25_9,j25_10,j25_11⟩:GN)]) (xv:=.tsl 5 (mI [GN.cs (⟨j25_7,j25_8,j25_9,j25_10,j25_11⟩:GN)]) 31) rfl Qa Qa rfl Qa Qa Qa rfl Qa) (xR 1 Qa (xE (Za ?_)))))
   exact KZ (l20_1++[GN.cs (⟨j25_7,j25_8,j25_9,j25_10,j25_11⟩:GN)],j25_3,j25_4,j25_5,j25_6) Qa
  refine Qg Qd ⟨[qq 1,(3, .tsl 5 (mI l20_1) 32),(34,B (!QK j25_2 [59]))],xg l20_1++VA j25_3 j25_4 j25_5 j25_6⟩ Qa (sC (!QK j25_2 [59]) Qa ?_ ?_)
  ·refine Qg Qd (l8 l20_1 j25_3 j25_4 j25_5 j25_6) Qa (sT (Zh (Yv (Zh (Yv (Q0 (.sl 5) [1000,1001] [] (.p (.sl 5 (mI l20_1))) Qa Qa (kh [0,1] Qa (QP (Zq (.ptr 11 4) Qa rfl) (QP (WJ (S:=5) (t:=300) (ty:=24) (es:=mI (([]++j7_1)++[])) Qa Qa rfl) (Qj))) Qa ?_)))))))
   refine Em [] rfl Qa Qa (WH (e:=24) (S:=5) (by_:=64) (enc:=KI) (tk:=300) (l:=([]++j7_1)++[]) (l2:=l20_1) (xv:=.p (.sl 5 (mI l20_1))) rfl Qa Qa rfl Qa Qa Qa Qa) (fun _=>Qj) (Ja [] Qa Qa (Qj) (Ja [] Qa Qa (Qj) (Js (Za ?_))))
   exact QO ((([]++j7_1)++[])++l20_1,j25_3,j25_4,j25_5,j25_6) Qa
  refine sK (Za ?_)
  exact KZ (l20_1,j25_3,j25_4,j25_5,j25_6) Qa
 refine sG (xR 2 Qa (Yk (f:=73) (args:=[YY, .fn (.func 120) [] [.ptr 1 0, .ptr 4 0]]) Qa Qa Qa ?_))
 refine TW (hc:=(ek l20_2 l20_3 l20_4 l20_5)) (args':=[YY, .fn (.func 120) [] [Lr,rW]]) [(1002,1),(1003,4),(1000,1000),(1001,1001)] [] [] (⟨_,_,_,_,_,_,[2,4,5],6,_,rfl,rfl,rfl,rfl,rfl,rfl,rfl,rfl,by decide⟩:GJ Tryz.f73 97) [(2,1900),(4,1901),(5,1902)] Tryz.func73 Tryz.ntmps73 Qa Qa Qa Qa Qa Qd rfl Qa Qa ?_
 refine CQ ⟨Qaz (.func 120),ek l20_2 l20_3 l20_4 l20_5++eu false⟩ Qa (sS (sG (xR 1 Qa (Vp (ek l20_2 l20_3 l20_4 l20_5) [Lr,rW] nq4 [] [] Qa Tryz.func120 rfl Tryz.ntmps120 rfl Qa Qa Qa (sG (xR 1 Qa (Yk (f:=121) (args:=[YY]) Qa Qa Qa ?_)))))))
 refine CG 1000 3 1001 65 2 (K5 l20_5).length (K5 l20_5) ⟨[0,1,2],[1000,1002,1003],[],[]⟩ Qa Qa rfl (fun _ _ _=>by kernel_rfl) (fun hu26w hu26l hu26c=>?_)
 refine qJ [(1000,1000)] [] [] (EH n (⟨l20_2,l20_3,l20_4,[]⟩:KA) hu26w hu26l hu26c) Qa Qa Qa QS QS QS QS (fun r26=>?_) (fun e27=>?_)
 ·refine Et _ rfl Qa Qa (WG (xR 1 Qa (xE (Hg (.id) [1000,1001,1002,1003] [] (.tup []) Qa Qa (WG (xE (Ql ⟨[(4, .ptr 1901 0),(5, .ptr 1902 0)],QaA r26.2.tks r26.2.pos r26.2.length l20_5 r26.1++eu false⟩ Qa ?_)))))))
  refine Qg Qd ⟨[(4, .ptr 1901 0),(5, .ptr 1902 0)],QaA r26.2.tks r26.2.pos r26.2.length l20_5 r26.1++eu true⟩ Qa (sT ?_)
  refine Jl (⟨Tryz.f97,_,_,_,6,3,_,_,Tryz.func97,rfl,rfl,rfl,rfl,rfl,rfl,rfl,by decide,by decide⟩:Ku Tryz.prog 97) nq5 (VA r26.2.tks r26.2.pos r26.2.length l20_5++Oj true) (.p (.val (.nilIface))) [Lr,rW, .ptr 1004 0] [] rfl Qa Qa Qa Qa ?_
  refine sS (Qg Qd ⟨QaB,VA r26.2.tks r26.2.pos r26.2.length l20_5++Oj true⟩ Qa (Zl Qa (sT (Q8 (gW [1000,1001,1002,1003,1004] [] Qa Qa (Q0 (.id) [1000,1001,1002,1003] [] (.tup [B true,S []]) Qa Qa (WG ?_)))))))
  refine xR 5 Qa (xE ?_)
  exact QO (true,[],r26.2.tks,r26.2.pos,r26.2.length,l20_5,r26.1.Kind,r26.1.Name,r26.1.N,r26.1.At,r26.1.Kids) Qa
 refine lI _ rfl Qa Qa (ZR [1000,1001,1002,1003] [] Qa (Kj ?_))
 refine Jl (⟨Tryz.f97,_,_,_,6,3,_,_,Tryz.func97,rfl,rfl,rfl,rfl,rfl,rfl,rfl,by decide,by decide⟩:Ku Tryz.prog 97) nq5 (VA e27.2.tks e27.2.pos e27.2.length l20_5++Oj false) (.ifc 149 (.agg [I e27.1])) [Lr,rW, .ptr 1004 0] [] rfl Qa Qa Qa Qa ?_
 refine sS (Qg Qd ⟨QaC e27.1,VA e27.2.tks e27.2.pos e27.2.length l20_5++Oj false⟩ Qa (Zm Qa (sK (Ql ⟨QaD e27.1,VA e27.2.tks e27.2.pos e27.2.length l20_5++Oj false⟩ Qa (Qg Qd ⟨QaE e27.1,xh e27.1++VA e27.2.tks e27.2.pos e27.2.length l20_5++Oj false⟩ Qa (sS (Qg Qd ⟨QaF e27.1,xh e27.1++VA e27.2.tks e27.2.pos e27.2.length l20_5++Oj false⟩ Qa ?_)))))))
 refine Zm Qa (sK (Ql ⟨QaG,xh e27.1++VA e27.2.tks e27.2.pos e27.2.length l20_5++Oj false⟩ Qa (sS (Vo Qd rfl (xR 9 Qa (xF Qa Qa (Zy (e:=65) (S:=2) (by_:=16) (enc:=Zr.cs) (tk:=1001) (l:=l20_5) (l2:=[(⟨7,e27.1⟩:Zr)]) (xv:=.tsl 2 (K5 [(⟨7,e27.1⟩:Zr)]) 25) rfl Qa Qa rfl Qa Qa Qa rfl Qa) (xR 3 Qa ?_)))))))
 refine Yg Qa (Ql ⟨QaH,VA e27.2.tks e27.2.pos e27.2.length (l20_5++[(⟨7,e27.1⟩:Zr)])++Oj false⟩ Qa (sG (xR 1 Qa (Yk (f:=98) (args:=[YY]) Qa Qa Qa ?_))))
 refine CG 1000 3 1001 65 2 (K5 (l20_5++[(⟨7,e27.1⟩:Zr)])).length (K5 (l20_5++[(⟨7,e27.1⟩:Zr)])) ⟨[0,1,2,29],[1000,1002,1003,1004],[],[]⟩ Qa Qa rfl (fun _ _ _=>by kernel_rfl) (fun hu28w hu28l hu28c=>?_)
 refine Ci [(1000,1000)] [] [] (Nu n (⟨e27.2.tks,e27.2.pos,e27.2.length,[]⟩:KA) hu28w hu28l hu28c) Qa Qa Qa QS QS (fun r28=>?_)
 refine Et _ rfl Qa Qa (WG (xR 2 Qa (xE (Cn [1000,1001,1002,1003,1004] [] Qa Qa (Q0 (.id) [1000,1001,1002,1003] [] (.tup [B false,S r28.1]) Qa Qa (WG (xR 5 Qa ?_)))))))
 refine xE ?_
 exact lv (false,r28.1,r28.2.tks,r28.2.pos,r28.2.length,l20_5++[(⟨7,e27.1⟩:Zr)],0,[],0,0,[]) ⟨[1,3,4,5,6],[1,4,32,1000,1001],[],[(4,[.id, .id, .id, .id, .sl 5])]⟩ Qa
def FT (a0n:GN) (a1limit:Int) (rf_parser_count:GN→Int→Option Int) (recl1:(Int × Int)→Option Int) (l1_1:Int) (l1_2:Int):Option Int :=
 cond (QL l1_2 (Qc (List.map KI a0n.Kids)))
  ((Option.bind (Q4 a0n.Kids l1_2) GN.of).bind fun x2 =>
  cond (QL a1limit l1_1)
   (some l1_1)
   ((rf_parser_count x2 (wi (a1limit - l1_1))).bind fun r3 =>
   recl1 (wi (l1_1+r3),wi (l1_2+1))))
  (some l1_1)
def U4 (n:Nat) (rf_parser_count:GN→Int→Option Int) (a0n:GN) (a1limit:Int):Option Int :=
 QT (fun recl1 (l1_1,l1_2)=>FT a0n a1limit rf_parser_count recl1 l1_1 l1_2) n (1,0)
def GX:Nat→GN→Int→Option Int
 | 0,_,_=>none
 | n+1,a0n,a1limit=>U4 n (GX n) a0n a1limit
def Ym:=fun x0=>([(2, .box 24 (KJ (GN.cs x0)))]:List (Nat × Blk))
def fP:=fun x0 x1=>(⟨[(1,I x0),(2, .ptr 2 0)],Ym x1⟩:St)
def xk:=fun x0 x1=>([(1,I x0),(2, .ptr 2 0),(5,I x1)]:List (Nat × AV))
def bS:=fun x0 x1 x2 x3=>([(1,I x0),(5,I x1),(9, .p (.sl 5 (List.map KI (GN.Kids x2)))),(10,I (Qc (List.map KI (GN.Kids x2)))),(11,I x3)]:List (Nat × AV))
def QaI:=fun x0 x1 x2 x3=>([(1,I x0),(5,I x1),(7, .ptr 7 0),(9, .p (.sl 5 (List.map KI (GN.Kids x2)))),(10,I (Qc (List.map KI (GN.Kids x2)))),(11,I x3)]:List (Nat × AV))
def bT:=fun x0=>([(7, .box 24 (KJ (GN.cs x0)))]:List (Nat × Blk))
theorem Ol (n:Nat) (a0n:GN) (a1limit:Int):∀ r,GX n a0n a1limit=some r→Q9 Tryz.prog 41 [ag (GN.cs a0n),I a1limit] (.ret (I r)):=by
 induction n generalizing a0n a1limit with
 | zero=>intro r hr; cases (show (none:Option Int)=some r from hr)
 | succ n ih =>
 show ∀ r,U4 n (GX n) a0n a1limit=some r→_
 generalize GX n=rf_parser_count at ih ⊢
 refine Qt (X:=fun r:Int=>QV.ret (I r)) Tryz.func41 rfl Tryz.ntmps41 rfl ?_
 unfold U4
 refine Qg Qd (fP a1limit a0n) Qa (Qg Qd ⟨xk a1limit 1,Ym a0n⟩ Qa (sS (Qg Qd ⟨bS a1limit 1 a0n 0,[]⟩ Qa (sB (QH (fun (l1_1,l1_2)=>⟨bS a1limit l1_1 a0n l1_2,[]⟩:(Int × Int)→St) (Xk Qa) ?_)))))
 rintro recl1 ⟨l1_1,l1_2⟩
 show QX (FT a0n a1limit rf_parser_count recl1 l1_1 l1_2) _ _ _ _ _ _
 unfold FT
 refine Qg Qd ⟨[(1,I a1limit),(5,I l1_1),(9, .p (.sl 5 (mI a0n.Kids))),(10,I (Qc (mI a0n.Kids))),(11,I l1_2),(12,B (QL l1_2 (Qc (mI a0n.Kids))))],[]⟩ Qa (sS (sC (QL l1_2 (Qc (mI a0n.Kids))) Qa ?_ ?_))
 rotate_left
 ·refine Qz (Kb (KY (QW (Ql ⟨[(5,I l1_1)],[]⟩ Qa (Qg Qd ⟨[(4,I l1_1)],[]⟩ Qa (sT ?_))))))
  exact qR (.id) Qa Qa Qa
 refine sK (Ql ⟨bS a1limit l1_1 a0n l1_2,[]⟩ Qa (sS (sB (sS (sG ?_)))))
 refine xG Qa Qa (Kg (e:=24) (S:=5) (enc:=GN.cs) (dec:=GN.of) (l:=a0n.Kids) (k:=.i64) (n:=l1_2) (sv:=.p (.sl 5 (mI a0n.Kids))) GN.of_cs rfl Qa Qa Qa Qa Qa) (fun x2=>?_)
 refine xR 3 Qa (xE (Ql ⟨QaI a1limit l1_1 a0n l1_2,bT x2⟩ Qa (sS (Qg Qd ⟨[(1,I a1limit),(5,I l1_1),qq 7,(9, .p (.sl 5 (mI a0n.Kids))),(10,I (Qc (mI a0n.Kids))),(11,I l1_2),(17,B (QL a1limit l1_1))],bT x2⟩ Qa (sC (QL a1limit l1_1) Qa ?_ ?_)))))
 ·refine Qg Qd ⟨[(4,I l1_1)],[]⟩ Qa (sT (Q8 (Zh (Q8 (Yv (Zh (Q8 ?_)))))))
  exact qR (.id) Qa Qa Qa
 refine sK (Ql ⟨QaI a1limit l1_1 a0n l1_2,bT x2⟩ Qa (sG (xR 5 Qa ?_)))
 refine xC [] Qa (ih x2 (wi (a1limit - l1_1))) Qa Qa QS (fun r3=>?_)
 refine xR 2 Qa (xE (Za (Ql ⟨bS a1limit (wi (l1_1+r3)) a0n l1_2,[]⟩ Qa (sL Qd Qa ?_))))
 exact KZ (wi (l1_1+r3),wi (l1_2+1)) Qa
def FU (n:Nat) (recl4:Mv→Option Mv) (l4_1:List (List PV)) (l4_2:List YQ) (l4_3:Int) (l4_4:Int) (l4_5:List Zr):Option Mv :=
 (cond (QL l4_3 (Qc (List.map YQ.cs l4_2)))
  ((CV n (⟨l4_2,l4_3,l4_4,l4_5⟩:KA)).bind fun r7 =>
  some (!r7))
  (some false)).bind fun j5 =>
 cond j5
  (((EI n (⟨l4_2,l4_3,l4_4,l4_5⟩:KA)).bind (Rh (fun r9 =>
   some (true,r9.2.tks,r9.2.pos,r9.2.length,r9.2.dg,r9.1.Kind,r9.1.Name,r9.1.N,r9.1.At,r9.1.Kids)) fun e10=>cond (Zo (List.length (e10.2.dg++[(⟨7,e10.1⟩:Zr)])) 16) (
   (CY n (⟨e10.2.tks,e10.2.pos,e10.2.length,[]⟩:KA)).bind fun r11 =>
   some (false,r11.2.tks,r11.2.pos,r11.2.length,e10.2.dg++[(⟨7,e10.1⟩:Zr)],0,[],0,0,[])) none)).bind fun (j8_1,j8_2,j8_3,j8_4,j8_5,j8_6,j8_7,j8_8,j8_9,j8_10) =>
  cond j8_1
   (cond (Zo (List.length (l4_1++[GN.cs (⟨j8_6,j8_7,j8_8,j8_9,j8_10⟩:GN)])) 64) (
    recl4 (l4_1++[GN.cs (⟨j8_6,j8_7,j8_8,j8_9,j8_10⟩:GN)],j8_2,j8_3,j8_4,j8_5)) none)
   (recl4 (l4_1,j8_2,j8_3,j8_4,j8_5)))
  (some (l4_1,l4_2,l4_3,l4_4,l4_5))
def R9 (n:Nat) (a0z:List UInt8):Option (GN × (List Zr)) :=
 (Od n a0z).bind fun r1 =>
 cond (!Qi r1.2.1 0)
  (some ((⟨0,[],0,0,[]⟩:GN),[(⟨r1.2.1,r1.2.2⟩:Zr)]))
  (((QT (fun recl4 (l4_1,l4_2,l4_3,l4_4,l4_5)=>FU n recl4 l4_1 l4_2 l4_3 l4_4 l4_5) n ([],r1.1,0,Qc a0z,[])).bind fun (j3_1,j3_2,j3_3,j3_4,j3_5) =>
  cond (Zo (List.length ([]++j3_1)) 64) (
   some ([]++j3_1,j3_2,j3_3,j3_4,j3_5)) none).bind fun (j2_1,j2_2,j2_3,j2_4,j2_5) =>
  cond (QL 0 (Qc (List.map Zr.cs j2_5)))
   (some ((⟨0,[],0,0,[]⟩:GN),j2_5))
   ((GX n (⟨1,[],0,0,j2_1⟩:GN) 1500).bind fun r12 =>
   cond (QL 1500 r12)
    (some ((⟨0,[],0,0,[]⟩:GN),[(⟨2,0⟩:Zr)]))
    (some ((⟨1,[],0,0,j2_1⟩:GN),[]))))
def bU:=fun x0=>(.arr 65 2 (List.map Zr.cs [x0]).length:Blk)
def xm:=fun x0 x1=>(.box 95 [.p (.sl 4 (List.map YQ.cs x0)),I 0,I (x1), .p (.val (.slice none 0 0))]:Blk)
def QaJ:Blk:=.box 99 [.fn (.func 40) [.ptr 1000 0] []]
def zl:=fun x0 x1=>([(1000,(xm x0 (x1))),(1001,QaJ)]:List (Nat × Blk))
def bV:=fun x0 x1 x2 x3=>(.box 95 [.p (.sl 4 (List.map YQ.cs x0)),I x1,I x2, .tsl 2 (List.map Zr.cs x3) 700]:Blk)
def fQ:=fun x0 x1 x2 x3=>([(1000,(bV x0 x1 x2 x3)),(1001,QaJ)]:List (Nat × Blk))
def QaK:=fun x0 x1=>([(32, .arr 24 5 (List.map KI x0).length),(700,(Wv x1))]:List (Nat × Blk))
def zm:=fun x0 x1 x2 x3=>([(1000,(bV x0 x1 x2 x3))]:List (Nat × Blk))
def eB:=fun x0 x1=>([(1, .box 93 [.ptr 1000 0]),(32, .arr 24 5 (List.map KI x0).length),(700,(Wv x1))]:List (Nat × Blk))
def QaL:=fun x0 x1 x2=>([(1, .box 93 [.ptr 1000 0]),(4,(vL x0)),(32, .arr 24 5 (List.map KI x1).length),(700,(Wv x2))]:List (Nat × Blk))
def eD:=fun x0 x1 x2 x3=>(.box 95 [.p (.sl 4 (List.map YQ.cs x0)),I x1,I x2, .tsl 2 (List.map Zr.cs x3) 1000]:Blk)
def eF:=fun x0 x1 x2 x3=>([(1000,(Wv x0)),(1001,(eD x1 x2 x3 x0)),(1002, .box 93 [.ptr 1001 0]),(1003,(H6 0 [] 0 0))]:List (Nat × Blk))
def eG:=fun x0=>([(1900, .box 93 [.ptr 1001 0]),(1901, .box 4 [B x0]),(1902, .box 9 [S []])]:List (Nat × Blk))
def QaM:=fun x0 x1 x2 x3 x4=>([(1000,(Wv x0)),(1001,(eD x1 x2 x3 x0)),(1002, .box 93 [.ptr 1001 0]),(1003, .box 24 (KJ (GN.cs x4)))]:List (Nat × Blk))
def Om:=fun x0 x1 x2 x3=>([(1000,(Wv x0)),(1001,(eD x1 x2 x3 x0))]:List (Nat × Blk))
def Oo:=fun x0=>([(1002, .box 93 [.ptr 1001 0]),(1003, .box 4 [B x0]),(1004, .box 9 [S []])]:List (Nat × Blk))
theorem Bd (n:Nat) (a0z:List UInt8):∀ r,R9 n a0z=some r→Q9 Tryz.prog 21 [S a0z] (.ret (.tup [ag (GN.cs r.1), .p (.sl 2 (K5 r.2))])):=by
 refine Qt (X:=fun r:GN × (List Zr)=>QV.ret (.tup [ag (GN.cs r.1), .p (.sl 2 (K5 r.2))])) Tryz.func21 rfl Tryz.ntmps21 rfl ?_
 unfold R9
 refine Qg Qd ⟨[(0,S a0z),qq 2],[(2,(H6 0 [] 0 0))]⟩ Qa (sS (sG (xR 1 Qa ?_)))
 refine xC [] Qa (kZ n a0z) Qa Qa QS (fun r1=>?_)
 refine xR 7 Qa (xE (Ql ⟨[(0,S a0z),qq 2,(4, .p (.sl 4 (Hf r1.1))),(5,I r1.2.1),(6,I r1.2.2)],[(2,(H6 0 [] 0 0))]⟩ Qa (sS (Qg Qd ⟨[(0,S a0z),qq 2,(4, .p (.sl 4 (Hf r1.1))),(5,I r1.2.1),(6,I r1.2.2),(16,B (!Qi r1.2.1 0))],[(2,(H6 0 [] 0 0))]⟩ Qa (sC (!Qi r1.2.1 0) Qa ?_ ?_)))))
 ·refine Qg Qd ⟨[qq 2,(3, .tsl 2 (K5 [(⟨r1.2.1,r1.2.2⟩:Zr)]) 21)],[(2,(H6 0 [] 0 0)),(21,(bU (⟨r1.2.1,r1.2.2⟩:Zr)))]⟩ Qa (sT (Q8 ?_))
  exact qR (.agg [.agg [.id, .id, .id, .id, .sl 5], .sl 2]) Qa Qa Qa
 refine sK (Ql ⟨[(0,S a0z),qq 2,(4, .p (.sl 4 (Hf r1.1)))],[(2,(H6 0 [] 0 0))]⟩ Qa (Qg Qd ⟨[qq 2,(7, .ptr 26 0)],[(2,(H6 0 [] 0 0)),(26,(xm r1.1 (Qc a0z)))]⟩ Qa (sS (sG (xR 4 Qa (Vp (zl r1.1 (Qc a0z)) [.agg [I 0,S [],I 0,I 0],I 1,S [],I 0, .bsl 1001 1] [(1000,26),(1001,30),(700,700)] [] [] Qa Tryz.func39 rfl Tryz.ntmps39 rfl Qa Qa Qa (Qg Qd ⟨lZ 1 [] (.bsl 1001 1),[(5, .box 98 [I 0,S [],I 0,I 0]),(10,(H6 0 [] 0 0))]++zl r1.1 (Qc a0z)⟩ Qa ?_)))))))
 refine Qg Qd ⟨jX (.bsl 1001 1),Dk 1 [] 0 0++zl r1.1 (Qc a0z)⟩ Qa (Yj (fun (j2_1,j2_2,j2_3,j2_4,j2_5)=>⟨[qq 10,qq 11],Oi 1 [] 0 j2_1++TD j2_1++[(700,(Wv j2_5))]++fQ j2_2 j2_3 j2_4 j2_5⟩:Mv→St) ?_ ?_)
 rotate_left
 ·rintro ⟨j2_1,j2_2,j2_3,j2_4,j2_5⟩
  refine Qg Qd ⟨[qq 10],[(10,(bO 1 [] 0 j2_1))]++TD j2_1++[(700,(Wv j2_5))]++fQ j2_2 j2_3 j2_4 j2_5⟩ Qa (sT (Q0 (.agg [.id, .id, .id, .id, .sl 5]) [700,1000,1001] [] (.agg [I 1,S [],I 0,I 0, .p (.sl 5 (mI j2_1))]) Qa Qa (WG (xR 2 Qa (xE (Ql ⟨[qq 2,(7, .ptr 26 0),qq 8],[(2,(H6 0 [] 0 0)),(8,(vL ⟨1,[],0,0,j2_1⟩)),(26,(bV j2_2 j2_3 j2_4 j2_5)),(700,(Wv j2_5))]⟩ Qa (sS ?_)))))))
  refine Qg Qd ⟨[qq 2,(7, .ptr 26 0),qq 8,(37,B (QL 0 (Qc (K5 j2_5))))],[(2,(H6 0 [] 0 0)),(8,(vL ⟨1,[],0,0,j2_1⟩)),(26,(bV j2_2 j2_3 j2_4 j2_5)),(700,(Wv j2_5))]⟩ Qa (sC (QL 0 (Qc (K5 j2_5))) Qa ?_ ?_)
  ·refine Qg Qd ⟨[qq 2,(3, .tsl 2 (K5 j2_5) 700)],[(2,(H6 0 [] 0 0)),(700,(Wv j2_5))]⟩ Qa (sT (Q8 ?_))
   exact qR (.agg [.agg [.id, .id, .id, .id, .sl 5], .sl 2]) Qa Qa Qa
  refine sK (Ql ⟨[qq 2,qq 8],[(2,(H6 0 [] 0 0)),(8,(vL ⟨1,[],0,0,j2_1⟩))]⟩ Qa (sS (sS (sG (xR 1 Qa ?_)))))
  refine xC [] Qa (Ol n (⟨1,[],0,0,j2_1⟩:GN) 1500) Qa Qa QS (fun r12=>?_)
  refine xR 1 Qa (xE (Ql ⟨[qq 2,qq 8,(45,B (QL 1500 r12))],[(2,(H6 0 [] 0 0)),(8,(vL ⟨1,[],0,0,j2_1⟩))]⟩ Qa (sC (QL 1500 r12) Qa ?_ ?_)))
  ·refine Qg Qd ⟨[qq 2,(3, .tsl 2 (K5 [(⟨2,0⟩:Zr)]) 48)],[(2,(H6 0 [] 0 0)),(48,(bU (⟨2,0⟩:Zr)))]⟩ Qa (sT (Q8 ?_))
   exact qR (.agg [.agg [.id, .id, .id, .id, .sl 5], .sl 2]) Qa Qa Qa
  refine sK (Ql ⟨[qq 2,qq 8],[(2,(H6 0 [] 0 0)),(8,(vL ⟨1,[],0,0,j2_1⟩))]⟩ Qa (Qg Qd ⟨[qq 2,(3,zS)],[(2,(vL ⟨1,[],0,0,j2_1⟩))]⟩ Qa (sT ?_)))
  exact qR (.agg [.id, .sl 2]) Qa Qa Qa
 refine Qg Qd ⟨Gt (.bsl 1001 1) 1 0,Dk 1 [] 0 0++zl r1.1 (Qc a0z)⟩ Qa (sB (Vq 1 (Qg Qd ⟨Dm (.bsl 1001 1) 1 0 true,Dk 1 [] 0 0++zl r1.1 (Qc a0z)⟩ Qa (sS (Zl Qa (sK (Ql ⟨Gt (.bsl 1001 1) 1 0,Dk 1 [] 0 0++zl r1.1 (Qc a0z)⟩ Qa ?_)))))))
 refine sS (sB (Qg Qd ⟨yj (.func 40) (.bsl 1001 1) 1 0,Dk 1 [] 0 0++zl r1.1 (Qc a0z)⟩ Qa (CQ ⟨yj (.func 40) (.bsl 1001 1) 1 0,Dk 1 [] 0 0++zl r1.1 (Qc a0z)⟩ Qa (Zj (Z8 24 5 300 [] [(11,4)] Qa) (V5 [0,1,2] [0,1] [(3,[]),(4,[]),(5,[]),(6,[])] Qd rfl Qa Qa (Yh (f:=40) (args:=[YY]) (dst:=some 29) Qa Qa (ZA (hc:=[(1000,(xm r1.1 (Qc a0z)))]) (args':=[YY]) [(1000,1000),(700,700)] [] [] Tryz.func40 rfl Tryz.ntmps40 rfl Qa Qa Qa ?_)))))))
 refine Qg Qd ⟨[qq 1],Oh++[(1000,(xm r1.1 (Qc a0z)))]⟩ Qa (Qg Qd ⟨yl,Oh++[(1000,(xm r1.1 (Qc a0z)))]⟩ Qa (Yj (fun (j3_1,j3_2,j3_3,j3_4,j3_5)=>⟨[(3, .tsl 5 (mI j3_1) 32)],QaK j3_1 j3_5++zm j3_2 j3_3 j3_4 j3_5⟩:Mv→St) ?_ ?_))
 rotate_left
 ·rintro ⟨j3_1,j3_2,j3_3,j3_4,j3_5⟩
  refine Qg Qd ⟨[(2, .tsl 5 (mI j3_1) 32)],QaK j3_1 j3_5++zm j3_2 j3_3 j3_4 j3_5⟩ Qa (sT (Q0 (.sl 5) [700,1000] [] (.p (.sl 5 (mI j3_1))) Qa Qa (kh [0,1] Qa (QP (Zq (.ptr 11 4) Qa rfl) (QP (WJ (S:=5) (t:=300) (ty:=24) (es:=mI []) Qa Qa rfl) (Qj))) Qa (Em [] rfl Qa Qa (WH (e:=24) (S:=5) (by_:=64) (enc:=KI) (tk:=300) (l:=[]) (l2:=j3_1) (xv:=.p (.sl 5 (mI j3_1))) rfl Qa Qa rfl Qa Qa Qa Qa) (fun _=>Qj) (Ja [] Qa Qa (Qj) (Ja [] Qa Qa (Qj) (Js ?_)))))))
  refine Za (Ql ⟨Gt (.bsl 1001 1) 1 0,Oi 1 [] 0 ([]++j3_1)++Gs ([]++j3_1)++[(700,(Wv j3_5))]++fQ j3_2 j3_3 j3_4 j3_5⟩ Qa (sL Qd Qa (I6 ⟨[10,11,20,21,22],[10,11,300,700,1000,1001],[],[]⟩ ⟨Gt (.bsl 1001 1) 1 1,Oi 1 [] 0 ([]++j3_1)++Gs ([]++j3_1)++[(700,(Wv j3_5))]++fQ j3_2 j3_3 j3_4 j3_5⟩ Qa (Qg Qd ⟨Dm (.bsl 1001 1) 1 1 false,Oi 1 [] 0 ([]++j3_1)++Gs ([]++j3_1)++[(700,(Wv j3_5))]++fQ j3_2 j3_3 j3_4 j3_5⟩ Qa (sS (Zm Qa (Qz ?_)))))))
  refine Kb (SG (QW ?_))
  exact QO ([]++j3_1,j3_2,j3_3,j3_4,j3_5) Qa
 refine sB (CQ ⟨yl,Oh++[(1000,(xm r1.1 (Qc a0z)))]⟩ Qa (Zj (Weak.trans (Z8 24 5 32 [3] [] Qa) (Z8 65 2 700 [] [(1000,3)] Qa)) (QH (fun (l4_1,l4_2,l4_3,l4_4,l4_5)=>⟨fO l4_1,eB l4_1 l4_5++zm l4_2 l4_3 l4_4 l4_5⟩:Mv→St) (Xk Qa) ?_)))
 rintro recl4 ⟨l4_1,l4_2,l4_3,l4_4,l4_5⟩
 show QX (FU n recl4 l4_1 l4_2 l4_3 l4_4 l4_5) _ _ _ _ _ _
 unfold FU
 refine sS (Yj (fun j5=>⟨[qq 1,(3, .tsl 5 (mI l4_1) 32),(21,B j5)],eB l4_1 l4_5++zm l4_2 l4_3 l4_4 l4_5⟩:Bool→St) ?_ ?_)
 ·refine Vo Qd rfl (xR 11 Qa ?_)
  refine xS (QL l4_3 (Qc (Hf l4_2))) (fun h6=>?_) (fun h6=>?_)
  ·refine xO (Qp Qa h6) Qa (FK rfl Qa Qa ?_)
   refine Hz [.ro [.id, .id, .id, .sl 2]] Qa (Nr n (⟨l4_2,l4_3,l4_4,l4_5⟩:KA)) Qa Qa QS (fun r7=>?_)
   refine xR 2 Qa (xE ?_)
   exact QO (!r7) Qa
  refine xN (Qq Qa h6) Qa (xR 3 Qa (Yg Qa ?_))
  exact QO false Qa
 rintro j5
 refine sC j5 Qa ?_ ?_
 rotate_left
 ·refine Qz (Kb (KY (QW ?_)))
  exact QO (l4_1,l4_2,l4_3,l4_4,l4_5) Qa
 refine sK (Ql ⟨fO l4_1,eB l4_1 l4_5++zm l4_2 l4_3 l4_4 l4_5⟩ Qa (sB (Qg Qd ⟨Qax l4_1,[(1, .box 93 [YY]),(4,(H6 0 [] 0 0)),(32,AY l4_1),(700,(Wv l4_5))]++zm l4_2 l4_3 l4_4 l4_5⟩ Qa (Yj (fun (j8_1,j8_2,j8_3,j8_4,j8_5,j8_6,j8_7,j8_8,j8_9,j8_10)=>⟨[qq 1,(3, .tsl 5 (mI l4_1) 32),qq 4,(5,B j8_1)],QaL ⟨j8_6,j8_7,j8_8,j8_9,j8_10⟩ l4_1 j8_5++zm j8_2 j8_3 j8_4 j8_5⟩:(Bool × (List YQ) × Int × Int × (List Zr) × Int × (List UInt8) × Int × Int × (List (List PV)))→St) ?_ ?_))))
 rotate_left
 ·rintro ⟨j8_1,j8_2,j8_3,j8_4,j8_5,j8_6,j8_7,j8_8,j8_9,j8_10⟩
  refine Qg Qd ⟨[qq 1,(3, .tsl 5 (mI l4_1) 32),qq 4,(28,B j8_1)],QaL ⟨j8_6,j8_7,j8_8,j8_9,j8_10⟩ l4_1 j8_5++zm j8_2 j8_3 j8_4 j8_5⟩ Qa (sC j8_1 Qa ?_ ?_)
  ·refine sG (xR 3 Qa (xF Qa Qa (Zy (e:=24) (S:=5) (by_:=64) (enc:=KI) (tk:=32) (l:=l4_1) (l2:=[GN.cs (⟨j8_6,j8_7,j8_8,j8_9,j8_10⟩:GN)]) (xv:=.tsl 5 (mI [GN.cs (⟨j8_6,j8_7,j8_8,j8_9,j8_10⟩:GN)]) 31) rfl Qa Qa rfl Qa Qa Qa rfl Qa) (xR 1 Qa (xE (Za ?_)))))
   exact KZ (l4_1++[GN.cs (⟨j8_6,j8_7,j8_8,j8_9,j8_10⟩:GN)],j8_2,j8_3,j8_4,j8_5) Qa
  refine sK (Za ?_)
  exact KZ (l4_1,j8_2,j8_3,j8_4,j8_5) Qa
 refine sG (xR 2 Qa (Yk (f:=73) (args:=[YY, .fn (.func 74) [] [.ptr 1 0, .ptr 4 0]]) Qa Qa Qa ?_))
 refine TW (hc:=(eF l4_5 l4_2 l4_3 l4_4)) (args':=[Tf, .fn (.func 74) [] [Lr,rW]]) [(1002,1),(1003,4),(1000,700),(1001,1000)] [] [] (⟨_,_,_,_,_,_,[2,4,5],6,_,rfl,rfl,rfl,rfl,rfl,rfl,rfl,rfl,by decide⟩:GJ Tryz.f73 97) [(2,1900),(4,1901),(5,1902)] Tryz.func73 Tryz.ntmps73 Qa Qa Qa Qa Qa Qd rfl Qa Qa ?_
 refine CQ ⟨Qaz (.func 74),eF l4_5 l4_2 l4_3 l4_4++eG false⟩ Qa (sS (sG (xR 1 Qa (Vp (eF l4_5 l4_2 l4_3 l4_4) [Lr,rW] nq4 [] [] Qa Tryz.func74 rfl Tryz.ntmps74 rfl Qa Qa Qa (sG (xR 1 Qa ?_))))))
 refine UW [(1000,1001),(1103,1000)] [] [] Qa (zk n (⟨l4_2,l4_3,l4_4,l4_5⟩:KA)) Qa Qa Qa QS QS QS QS (fun r9=>?_) (fun e10=>?_)
 ·refine xR 1 Qa (xE (Hg (.id) [1000,1001,1002,1003] [] (.tup []) Qa Qa (WG (xE (Ql ⟨[(4, .ptr 1901 0),(5, .ptr 1902 0)],QaM r9.2.dg r9.2.tks r9.2.pos r9.2.length r9.1++eG false⟩ Qa (Qg Qd ⟨[(4, .ptr 1901 0),(5, .ptr 1902 0)],QaM r9.2.dg r9.2.tks r9.2.pos r9.2.length r9.1++eG true⟩ Qa (sT ?_)))))))
  refine Jl (⟨Tryz.f97,_,_,_,6,3,_,_,Tryz.func97,rfl,rfl,rfl,rfl,rfl,rfl,rfl,by decide,by decide⟩:Ku Tryz.prog 97) nq5 (Om r9.2.dg r9.2.tks r9.2.pos r9.2.length++Oo true) (.p (.val (.nilIface))) [Lr,rW, .ptr 1004 0] [] rfl Qa Qa Qa Qa ?_
  refine sS (Qg Qd ⟨QaB,Om r9.2.dg r9.2.tks r9.2.pos r9.2.length++Oo true⟩ Qa (Zl Qa (sT (Q8 (gW [1000,1001,1002,1003,1004] [] Qa Qa (Q0 (.id) [1000,1001,1002,1003] [] (.tup [B true,S []]) Qa Qa (WG ?_)))))))
  refine xR 5 Qa (xE ?_)
  exact QO (true,r9.2.tks,r9.2.pos,r9.2.length,r9.2.dg,r9.1.Kind,r9.1.Name,r9.1.N,r9.1.At,r9.1.Kids) Qa
 refine ZR [1000,1001,1002,1003] [] Qa (Kj ?_)
 refine Jl (⟨Tryz.f97,_,_,_,6,3,_,_,Tryz.func97,rfl,rfl,rfl,rfl,rfl,rfl,rfl,by decide,by decide⟩:Ku Tryz.prog 97) nq5 (Om e10.2.dg e10.2.tks e10.2.pos e10.2.length++Oo false) (.ifc 149 (.agg [I e10.1])) [Lr,rW, .ptr 1004 0] [] rfl Qa Qa Qa Qa ?_
 refine sS (Qg Qd ⟨QaC e10.1,Om e10.2.dg e10.2.tks e10.2.pos e10.2.length++Oo false⟩ Qa (Zm Qa (sK (Ql ⟨QaD e10.1,Om e10.2.dg e10.2.tks e10.2.pos e10.2.length++Oo false⟩ Qa (Qg Qd ⟨QaE e10.1,xh e10.1++Om e10.2.dg e10.2.tks e10.2.pos e10.2.length++Oo false⟩ Qa (sS (Qg Qd ⟨QaF e10.1,xh e10.1++Om e10.2.dg e10.2.tks e10.2.pos e10.2.length++Oo false⟩ Qa ?_)))))))
 refine Zm Qa (sK (Ql ⟨QaG,xh e10.1++Om e10.2.dg e10.2.tks e10.2.pos e10.2.length++Oo false⟩ Qa (sS (Vo Qd rfl (xR 9 Qa (xF Qa Qa (Zy (e:=65) (S:=2) (by_:=16) (enc:=Zr.cs) (tk:=1000) (l:=e10.2.dg) (l2:=[(⟨7,e10.1⟩:Zr)]) (xv:=.tsl 2 (K5 [(⟨7,e10.1⟩:Zr)]) 25) rfl Qa Qa rfl Qa Qa Qa rfl Qa) (xR 3 Qa ?_)))))))
 refine Yg Qa (Ql ⟨QaH,Om (e10.2.dg++[(⟨7,e10.1⟩:Zr)]) e10.2.tks e10.2.pos e10.2.length++Oo false⟩ Qa (sG (xR 1 Qa (Yk (f:=98) (args:=[Tf]) Qa Qa Qa ?_))))
 refine CG 1001 3 1000 65 2 (K5 (e10.2.dg++[(⟨7,e10.1⟩:Zr)])).length (K5 (e10.2.dg++[(⟨7,e10.1⟩:Zr)])) ⟨[0,1,2,29],[1001,1002,1003,1004],[],[]⟩ Qa Qa rfl (fun _ _ _=>by kernel_rfl) (fun hu11w hu11l hu11c=>?_)
 refine Ci [(1000,1001)] [] [] (Nu n (⟨e10.2.tks,e10.2.pos,e10.2.length,[]⟩:KA) hu11w hu11l hu11c) Qa Qa Qa QS QS (fun r11=>?_)
 refine Et _ rfl Qa Qa (WG (xR 2 Qa (xE (Cn [1000,1001,1002,1003,1004] [] Qa Qa (Q0 (.id) [1000,1001,1002,1003] [] (.tup [B false,S r11.1]) Qa Qa (WG (xR 5 Qa ?_)))))))
 refine xE ?_
 exact lv (false,r11.2.tks,r11.2.pos,r11.2.length,e10.2.dg++[(⟨7,e10.1⟩:Zr)],0,[],0,0,[]) ⟨[1,3,4,5],[1,4,32,700,1000],[],[(4,[.id, .id, .id, .id, .sl 5])]⟩ Qa
def YC (a0text:List UInt8) (recl7:Int→Option Bool) (l7:Int):Option Bool :=
 cond (QL l7 (Qc a0text))
  ((Q4 a0text l7).bind fun x8 =>
  (cond (leI 97 (KN x8))
   (cond (leI (KN x8) 122)
    (some false)
    (cond (leI 48 (KN x8))
     (cond (leI (KN x8) 57)
      (some false)
      (some (!(Qi (KN x8) 95))))
     (some (!(Qi (KN x8) 95)))))
   (cond (leI 48 (KN x8))
    (cond (leI (KN x8) 57)
     (some false)
     (some (!(Qi (KN x8) 95))))
    (some (!(Qi (KN x8) 95))))).bind fun j9 =>
  cond j9
   (some false)
   (recl7 (wi (l7+1))))
  (some true)
def Xb (n:Nat) (a0text:List UInt8):Option Bool :=
 (cond (QL (Qc a0text) 1)
  (some true)
  (cond (QL 12 (Qc a0text))
   (some true)
   ((Q4 a0text 0).bind fun x4 =>
   cond (QL (KN x4) 97)
    (some true)
    ((Q4 a0text 0).bind fun x6 =>
    some (QL 122 (KN x6)))))).bind fun j1 =>
 cond j1
  (some false)
  (QT (fun recl7 l7=>YC a0text recl7 l7) n 1)
theorem NE (n:Nat) (a0text:List UInt8):∀ r,Xb n a0text=some r→Q9 Tryz.prog 109 [S a0text] (.ret (B r)):=by
 refine Qt (X:=fun r:Bool=>QV.ret (B r)) Tryz.func109 rfl Tryz.ntmps109 rfl ?_
 unfold Xb
 refine Qg Qd ⟨[(0,S a0text)],[]⟩ Qa (sS (Yj (fun j1=>⟨[(0,S a0text),(22,B j1)],[]⟩:Bool→St) ?_ ?_))
 ·refine sG (xR 4 Qa ?_)
  refine xS (QL (Qc a0text) 1) (fun h2=>?_) (fun h2=>?_)
  ·refine xN (Qy Qa h2) Qa (xR 13 Qa (xE ?_))
   exact QO true Qa
  refine xO (Qx Qa h2) Qa (xR 4 Qa ?_)
  refine xS (QL 12 (Qc a0text)) (fun h3=>?_) (fun h3=>?_)
  ·refine xN (Qy Qa h3) Qa (xR 8 Qa (xE ?_))
   exact QO true Qa
  refine xO (Qx Qa h3) Qa ?_
  refine xG Qa Qa (Wm (l:=a0text) (k:=.i64) (n:=0) rfl Qa Qa Qa) (fun x4=>?_)
  refine xR 3 Qa ?_
  refine xS (QL (KN x4) 97) (fun h5=>?_) (fun h5=>?_)
  ·refine xN (Qy Qa h5) Qa (xR 3 Qa (xE ?_))
   exact QO true Qa
  refine xO (Qx Qa h5) Qa ?_
  refine xG Qa Qa (Wm (l:=a0text) (k:=.i64) (n:=0) rfl Qa Qa Qa) (fun x6=>?_)
  refine xR 2 Qa (xE ?_)
  exact QO (QL 122 (KN x6)) Qa
 rintro j1
 refine sC j1 Qa ?_ ?_
 ·refine Qg Qd ⟨[(2,B false)],[]⟩ Qa (sT (Q8 ?_))
  exact qR (.id) Qa Qa Qa
 refine sK (Ql ⟨[(0,S a0text)],[]⟩ Qa (sS (Qg Qd ⟨[(0,S a0text),(3,I 1)],[]⟩ Qa (sB (QH (fun l7=>⟨[(0,S a0text),(3,I l7)],[]⟩:Int→St) (Xk Qa) ?_)))))
 rintro recl7 l7
 show QX (YC a0text recl7 l7) _ _ _ _ _ _
 unfold YC
 refine sS (Qg Qd ⟨[(0,S a0text),(3,I l7),(26,B (QL l7 (Qc a0text)))],[]⟩ Qa (sC (QL l7 (Qc a0text)) Qa ?_ ?_))
 rotate_left
 ·refine Qz (Kb (KY (QW (Ql ⟨[],[]⟩ Qa (Qg Qd ⟨[(2,B true)],[]⟩ Qa (sT ?_))))))
  exact qR (.id) Qa Qa Qa
 refine sK (Ql ⟨[(0,S a0text),(3,I l7)],[]⟩ Qa (sS (sB (sS (sG (xR 2 Qa ?_))))))
 refine xG Qa Qa (Wm (l:=a0text) (k:=.i64) (n:=l7) rfl Qa Qa Qa) (fun x8=>?_)
 refine xR 1 Qa (xE (Ql ⟨[(0,S a0text),(3,I l7),(4,B8 (KN x8))],[]⟩ Qa (Yj (fun j9=>⟨[(0,S a0text),(3,I l7),(50,B j9)],[]⟩:Bool→St) ?_ ?_)))
 rotate_left
 ·rintro j9
  refine sC j9 Qa ?_ ?_
  ·refine Qg Qd ⟨[(2,B false)],[]⟩ Qa (sT (Zh (Q8 (Yv (Zh (Q8 ?_))))))
   exact qR (.id) Qa Qa Qa
  refine sK (Za (Ql ⟨[(0,S a0text),(3,I l7)],[]⟩ Qa (sL Qd Qa ?_)))
  exact KZ (wi (l7+1)) Qa
 refine sG (xR 3 Qa ?_)
 refine xS (leI 97 (KN x8)) (fun h10=>?_) (fun h10=>?_)
 rotate_left
 ·refine xN (Qq Qa h10) Qa (xR 6 Qa ?_)
  refine xS (leI 48 (KN x8)) (fun h14=>?_) (fun h14=>?_)
  ·refine xO (Qp Qa h14) Qa (xR 4 Qa ?_)
   refine xS (leI (KN x8) 57) (fun h15=>?_) (fun h15=>?_)
   ·refine xN (Qy Qa h15) Qa (xR 3 Qa (xE ?_))
    exact QO false Qa
   refine xO (Qx Qa h15) Qa (xR 3 Qa (xE ?_))
   exact QO (!(Qi (KN x8) 95)) Qa
  refine xN (Qq Qa h14) Qa (xR 8 Qa (xE ?_))
  exact QO (!(Qi (KN x8) 95)) Qa
 refine xO (Qp Qa h10) Qa (xR 3 Qa ?_)
 refine xS (leI (KN x8) 122) (fun h11=>?_) (fun h11=>?_)
 ·refine xN (Qy Qa h11) Qa (xR 11 Qa (xE ?_))
  exact QO false Qa
 refine xO (Qx Qa h11) Qa (xR 2 Qa ?_)
 refine xS (leI 48 (KN x8)) (fun h12=>?_) (fun h12=>?_)
 ·refine xO (Qp Qa h12) Qa (xR 4 Qa ?_)
  refine xS (leI (KN x8) 57) (fun h13=>?_) (fun h13=>?_)
  ·refine xN (Qy Qa h13) Qa (xR 3 Qa (xE ?_))
   exact QO false Qa
  refine xO (Qx Qa h13) Qa (xR 3 Qa (xE ?_))
  exact QO (!(Qi (KN x8) 95)) Qa
 refine xN (Qq Qa h12) Qa (xR 8 Qa (xE ?_))
 exact QO (!(Qi (KN x8) 95)) Qa
def Je (n:Nat) (a0text:List UInt8):Option Bool :=
 (Xb n a0text).bind fun r1 =>
 cond r1
  ((UD n a0text).bind fun r3 =>
  some (!r3))
  (some false)
theorem FZ (n:Nat) (a0text:List UInt8):∀ r,Je n a0text=some r→Q9 Tryz.prog 76 [S a0text] (.ret (B r)):=by
 refine Qt (X:=fun r:Bool=>QV.ret (B r)) Tryz.func76 rfl Tryz.ntmps76 rfl ?_
 unfold Je
 refine Qg Qd ⟨[(0,S a0text)],[]⟩ Qa (sS (sG (xR 1 Qa ?_)))
 refine xC [] Qa (NE n a0text) Qa Qa QS (fun r1=>?_)
 refine xR 1 Qa ?_
 refine xS r1 (fun h2=>?_) (fun h2=>?_)
 ·refine xO (Qp Qa h2) Qa ?_
  refine xC [] Qa (CX n a0text) Qa Qa QS (fun r3=>?_)
  refine xR 3 Qa (xE (Ql ⟨[(2,B (!r3))],[]⟩ Qa (sT ?_)))
  exact qR (.id) Qa Qa Qa
 refine xN (Qq Qa h2) Qa (xR 4 Qa (xE (Ql ⟨[(2,B false)],[]⟩ Qa (sT ?_))))
 exact qR (.id) Qa Qa Qa
def WN (n:Nat) (a0n:GN) (a1words:Bool):Option Bool :=
 cond (!Qi (Qc (List.map KI a0n.Kids)) 0)
  (some false)
  (cond (Qi a0n.Kind 5)
   (cond (Qi a0n.N 0)
    ((Je n a0n.Name).bind fun r2 =>
    cond r2
     (some true)
     (cond a1words
      ((WK n a0n.Name).bind fun r5 =>
      some r5)
      (some false)))
    (some false))
   (cond (Qi a0n.Kind 6)
    (cond (QK a0n.Name [])
     (cond (leI 0 a0n.N)
      (some (leI a0n.N 1000000))
      (some false))
     (some false))
    (some false)))
def fT:=fun x0 x1=>(⟨[(1,B x0),(2, .ptr 2 0)],Ym x1⟩:St)
theorem Be (n:Nat) (a0n:GN) (a1words:Bool):∀ r,WN n a0n a1words=some r→Q9 Tryz.prog 113 [ag (GN.cs a0n),B a1words] (.ret (B r)):=by
 refine Qt (X:=fun r:Bool=>QV.ret (B r)) Tryz.func113 rfl Tryz.ntmps113 rfl ?_
 unfold WN
 refine Qg Qd (fT a1words a0n) Qa (sS (Qg Qd ⟨[(1,B a1words),qq 2,(8,B (!Qi (Qc (mI a0n.Kids)) 0))],Ym a0n⟩ Qa (sC (!Qi (Qc (mI a0n.Kids)) 0) Qa ?_ ?_)))
 ·refine Qg Qd ⟨[(4,B false)],[]⟩ Qa (sT (Q8 ?_))
  exact qR (.id) Qa Qa Qa
 refine sK (Ql (fT a1words a0n) Qa (sS (Qg Qd ⟨[(1,B a1words),qq 2,(10,I a0n.Kind)],Ym a0n⟩ Qa (sB (Qg Qd ⟨[(1,B a1words),qq 2,(10,I a0n.Kind),(11,B (Qi a0n.Kind 5))],Ym a0n⟩ Qa (sC (Qi a0n.Kind 5) Qa ?_ ?_))))))
 rotate_left
 ·refine Qg Qd ⟨[qq 2,(29,B (Qi a0n.Kind 6))],Ym a0n⟩ Qa (sC (Qi a0n.Kind 6) Qa ?_ ?_)
  rotate_left
  ·refine sK (Za (Ql ⟨[],[]⟩ Qa (Qg Qd ⟨[(4,B false)],[]⟩ Qa (sT ?_))))
   exact qR (.id) Qa Qa Qa
  refine sS (sG (xR 4 Qa ?_))
  refine xS (QK a0n.Name []) (fun h6=>?_) (fun h6=>?_)
  rotate_left
  ·refine xN (Qq Qa h6) Qa (xR 9 Qa (xE (Ql ⟨[(4,B false)],[]⟩ Qa (sT (Zh (Q8 ?_))))))
   exact qR (.id) Qa Qa Qa
  refine xO (Qp Qa h6) Qa (xR 4 Qa ?_)
  refine xS (leI 0 a0n.N) (fun h7=>?_) (fun h7=>?_)
  ·refine xO (Qp Qa h7) Qa (xR 4 Qa (xE (Ql ⟨[(4,B (leI a0n.N 1000000))],[]⟩ Qa (sT (Zh (Q8 ?_))))))
   exact qR (.id) Qa Qa Qa
  refine xN (Qq Qa h7) Qa (xR 4 Qa (xE (Ql ⟨[(4,B false)],[]⟩ Qa (sT (Zh (Q8 ?_))))))
  exact qR (.id) Qa Qa Qa
 refine sS (sG (xR 4 Qa ?_))
 refine xS (Qi a0n.N 0) (fun h1=>?_) (fun h1=>?_)
 rotate_left
 ·refine xN (Qq Qa h1) Qa (xR 12 Qa (xE (Ql ⟨[(4,B false)],[]⟩ Qa (sT (Zh (Q8 ?_))))))
  exact qR (.id) Qa Qa Qa
 refine xO (Qp Qa h1) Qa (xR 1 Qa ?_)
 refine xC [] Qa (FZ n a0n.Name) Qa Qa QS (fun r2=>?_)
 refine xR 1 Qa ?_
 refine xS r2 (fun h3=>?_) (fun h3=>?_)
 ·refine xN (Qy Qa h3) Qa (xR 8 Qa (xE (Ql ⟨[(4,B true)],[]⟩ Qa (sT (Zh (Q8 ?_))))))
  exact qR (.id) Qa Qa Qa
 refine xO (Qx Qa h3) Qa (xR 1 Qa ?_)
 refine xS a1words (fun h4=>?_) (fun h4=>?_)
 ·refine xO (Qp Qa h4) Qa (xR 1 Qa ?_)
  refine xC [] Qa (Gn n a0n.Name) Qa Qa QS (fun r5=>?_)
  refine xR 4 Qa (xE (Ql ⟨[(4,B r5)],[]⟩ Qa (sT (Zh (Q8 ?_)))))
  exact qR (.id) Qa Qa Qa
 refine xN (Qq Qa h4) Qa (xR 6 Qa (xE (Ql ⟨[(4,B false)],[]⟩ Qa (sT (Zh (Q8 ?_))))))
 exact qR (.id) Qa Qa Qa
def YV (n:Nat) (a0n:GN) (a1left:Int) (recl9:Int→Option (Bool × Int)) (l9:Int):Option (Bool × Int) :=
 cond (QL l9 (Qc (List.map KI a0n.Kids)))
  ((Option.bind (Q4 a0n.Kids l9) GN.of).bind fun x10 =>
  (WN n x10 (Qi a0n.Kind 4)).bind fun r11 =>
  cond (!r11)
   (some (false,wi (a1left - (Qc (List.map KI a0n.Kids)))))
   (recl9 (wi (l9+1))))
  (some (true,wi (a1left - (Qc (List.map KI a0n.Kids)))))
def Jt (n:Nat) (a0n:GN) (a1left:Int):Option (Bool × Int) :=
 cond (!Qi a0n.N 0)
  (some (false,a1left))
  ((cond (Qi a0n.Kind 3)
   ((V6 n a0n.Name).bind fun r3 =>
   some (!r3))
   (some false)).bind fun j1 =>
  cond j1
   (some (false,a1left))
   ((cond (Qi a0n.Kind 4)
    ((YR n a0n.Name).bind fun r6 =>
    some (!r6))
    (some false)).bind fun j4 =>
   cond j4
    (some (false,a1left))
    ((cond (!Qi a0n.Kind 3)
     (some (!Qi a0n.Kind 4))
     (some false)).bind fun j7 =>
    cond j7
     (some (false,a1left))
     (cond (QL (wi (a1left - (Qc (List.map KI a0n.Kids)))) 0)
      (some (false,wi (a1left - (Qc (List.map KI a0n.Kids)))))
      (QT (fun recl9 l9=>YV n a0n a1left recl9 l9) n 0)))))
def JN:=fun x0=>([(1001, .box 3 [I x0])]:List (Nat × Blk))
def eH:=fun x0 x1=>(⟨[(1, .ptr 1001 0),(2, .ptr 2 0)],Ym x0++JN x1⟩:St)
def bW:=fun x0=>([(1, .ptr 1001 0),(2, .ptr 2 0),(5,B x0)]:List (Nat × AV))
def eO:=fun x0=>(.box 3 [I x0]:Blk)
def FW:=fun x0=>([(1001,(eO x0))]:List (Nat × Blk))
def bX:=fun x0 x1 x2=>([(5,B x0),(57, .p (.sl 5 (List.map KI (GN.Kids x1)))),(58,I (Qc (List.map KI (GN.Kids x1)))),(59,I x2)]:List (Nat × AV))
theorem MC (n:Nat) (a0n:GN) (a1left:Int):∀ r,Jt n a0n a1left=some r→Wz Tryz.prog 77 [ag (GN.cs a0n),Tf] (Go.Abs.look [(1001, .box 3 [I a1left])]) (J7 (fun r:Bool × Int=>((.ret (B r.1),[(1001, .box 3 [I r.2])]):QV × List (Nat × Blk))) r):=by
 refine Vd (X:=fun r:Bool × Int=>((.ret (B r.1),(JN r.2)):QV × List (Nat × Blk))) (JN a1left) Tryz.func77 rfl Tryz.ntmps77 rfl ?_
 unfold Jt
 refine Qg Qd (eH a0n a1left) Qa (Qg Qd ⟨bW (Qi a0n.Kind 4),Ym a0n++JN a1left⟩ Qa (sS (sB (Qg Qd ⟨[(1,Tf),qq 2,(5,B (Qi a0n.Kind 4)),(11,B (!Qi a0n.N 0))],Ym a0n++JN a1left⟩ Qa (sC (!Qi a0n.N 0) Qa ?_ ?_)))))
 ·refine Qg Qd ⟨[(4,B false)],JN a1left⟩ Qa (sT (Zh (Q8 ?_)))
  exact Y2 (.id) [1001] [] Qa Qa Qa Qa
 refine Yj (fun j1=>⟨[(1,Tf),qq 2,(5,B (Qi a0n.Kind 4)),(15,B j1)],Ym a0n++JN a1left⟩:Bool→St) ?_ ?_
 ·refine sG (xR 4 Qa ?_)
  refine xS (Qi a0n.Kind 3) (fun h2=>?_) (fun h2=>?_)
  ·refine xO (Qp Qa h2) Qa (xR 1 Qa ?_)
   refine xC [] Qa (XP n a0n.Name) Qa Qa QS (fun r3=>?_)
   refine xR 3 Qa (xE ?_)
   exact QO (!r3) Qa
  refine xN (Qq Qa h2) Qa (xR 5 Qa (xE ?_))
  exact QO false Qa
 rintro j1
 refine sC j1 Qa ?_ ?_
 ·refine Qg Qd ⟨[(4,B false)],JN a1left⟩ Qa (sT (Zh (Q8 ?_)))
  exact Y2 (.id) [1001] [] Qa Qa Qa Qa
 refine Yj (fun j4=>⟨[(1,Tf),qq 2,(5,B (Qi a0n.Kind 4)),(25,B j4)],Ym a0n++JN a1left⟩:Bool→St) ?_ ?_
 ·refine sG (xR 4 Qa ?_)
  refine xS (Qi a0n.Kind 4) (fun h5=>?_) (fun h5=>?_)
  ·refine xO (Qp Qa h5) Qa (xR 1 Qa ?_)
   refine xC [] Qa (XH n a0n.Name) Qa Qa QS (fun r6=>?_)
   refine xR 3 Qa (xE ?_)
   exact QO (!r6) Qa
  refine xN (Qq Qa h5) Qa (xR 5 Qa (xE ?_))
  exact QO false Qa
 rintro j4
 refine sC j4 Qa ?_ ?_
 ·refine Qg Qd ⟨[(4,B false)],JN a1left⟩ Qa (sT (Zh (Q8 ?_)))
  exact Y2 (.id) [1001] [] Qa Qa Qa Qa
 refine Yj (fun j7=>⟨[(1,Tf),qq 2,(5,B (Qi a0n.Kind 4)),(35,B j7)],Ym a0n++JN a1left⟩:Bool→St) ?_ ?_
 ·refine sG (xR 4 Qa ?_)
  refine xS (!Qi a0n.Kind 3) (fun h8=>?_) (fun h8=>?_)
  ·refine xO (Qp Qa h8) Qa (xR 4 Qa (xE ?_))
   exact QO (!Qi a0n.Kind 4) Qa
  refine xN (Qq Qa h8) Qa (xR 4 Qa (xE ?_))
  exact QO false Qa
 rintro j7
 refine sC j7 Qa ?_ ?_
 ·refine Qg Qd ⟨[(4,B false)],JN a1left⟩ Qa (sT (Zh (Q8 ?_)))
  exact Y2 (.id) [1001] [] Qa Qa Qa Qa
 refine sK (Za (Ql ⟨bW (Qi a0n.Kind 4),Ym a0n++JN a1left⟩ Qa (Qg Qd ⟨bW (Qi a0n.Kind 4),Ym a0n++FW (wi (a1left - (Qc (mI a0n.Kids))))⟩ Qa (sS (Qg Qd ⟨[qq 2,(5,B (Qi a0n.Kind 4)),(55,B (QL (wi (a1left - (Qc (mI a0n.Kids)))) 0))],Ym a0n++FW (wi (a1left - (Qc (mI a0n.Kids))))⟩ Qa (sC (QL (wi (a1left - (Qc (mI a0n.Kids)))) 0) Qa ?_ ?_))))))
 ·refine Qg Qd ⟨[(4,B false)],FW (wi (a1left - (Qc (mI a0n.Kids))))⟩ Qa (sT (Q8 ?_))
  exact Y2 (.id) [1001] [] Qa Qa Qa Qa
 refine sK (Ql ⟨[qq 2,(5,B (Qi a0n.Kind 4))],Ym a0n++FW (wi (a1left - (Qc (mI a0n.Kids))))⟩ Qa (sS (Qg Qd ⟨bX (Qi a0n.Kind 4) a0n 0,FW (wi (a1left - (Qc (mI a0n.Kids))))⟩ Qa (sB (QH (fun l9=>⟨bX (Qi a0n.Kind 4) a0n l9,FW (wi (a1left - (Qc (mI a0n.Kids))))⟩:Int→St) (Xk Qa) ?_)))))
 rintro recl9 l9
 show QX (YV n a0n a1left recl9 l9) _ _ _ _ _ _
 unfold YV
 refine Qg Qd ⟨[(5,B (Qi a0n.Kind 4)),(57, .p (.sl 5 (mI a0n.Kids))),(58,I (Qc (mI a0n.Kids))),(59,I l9),(60,B (QL l9 (Qc (mI a0n.Kids))))],FW (wi (a1left - (Qc (mI a0n.Kids))))⟩ Qa (sS (sC (QL l9 (Qc (mI a0n.Kids))) Qa ?_ ?_))
 rotate_left
 ·refine Qz (Kb (KY (QW (Ql ⟨[],FW (wi (a1left - (Qc (mI a0n.Kids))))⟩ Qa (Qg Qd ⟨[(4,B true)],FW (wi (a1left - (Qc (mI a0n.Kids))))⟩ Qa (sT ?_))))))
  exact Y2 (.id) [1001] [] Qa Qa Qa Qa
 refine sK (Ql ⟨bX (Qi a0n.Kind 4) a0n l9,FW (wi (a1left - (Qc (mI a0n.Kids))))⟩ Qa (sS (sB (sS (sG ?_)))))
 refine xG Qa Qa (Kg (e:=24) (S:=5) (enc:=GN.cs) (dec:=GN.of) (l:=a0n.Kids) (k:=.i64) (n:=l9) (sv:=.p (.sl 5 (mI a0n.Kids))) GN.of_cs rfl Qa Qa Qa Qa Qa) (fun x10=>?_)
 refine xR 3 Qa (xE (Ql ⟨[(5,B (Qi a0n.Kind 4)),qq 7,(57, .p (.sl 5 (mI a0n.Kids))),(58,I (Qc (mI a0n.Kids))),(59,I l9)],bT x10++FW (wi (a1left - (Qc (mI a0n.Kids))))⟩ Qa (sS (sG (xR 2 Qa ?_)))))
 refine xC [] Qa (Be n x10 (Qi a0n.Kind 4)) Qa Qa QS (fun r11=>?_)
 refine xR 1 Qa (xE (Ql ⟨[(5,B (Qi a0n.Kind 4)),(57, .p (.sl 5 (mI a0n.Kids))),(58,I (Qc (mI a0n.Kids))),(59,I l9),(66,B (!r11))],FW (wi (a1left - (Qc (mI a0n.Kids))))⟩ Qa (sC (!r11) Qa ?_ ?_)))
 ·refine Qg Qd ⟨[(4,B false)],FW (wi (a1left - (Qc (mI a0n.Kids))))⟩ Qa (sT (Zh (Q8 (Yv (Zh (Q8 ?_))))))
  exact Y2 (.id) [1001] [] Qa Qa Qa Qa
 refine sK (Za (Ql ⟨bX (Qi a0n.Kind 4) a0n l9,FW (wi (a1left - (Qc (mI a0n.Kids))))⟩ Qa (sL Qd Qa ?_)))
 exact KZ (wi (l9+1)) Qa
def YW (a0n:GN) (j6_1:Bool) (j6_2:Int):Option (Bool × Int) :=
 cond (!j6_1)
  (some (true,j6_2))
  (some (Qi a0n.N 7,j6_2))
def Z6 (n:Nat) (l8_2:Int) (l8_3:Int) (recl8:(Bool × Int × Int)→Option (Bool × Int)) (x9:GN) (j10:Bool):Option (Bool × Int) :=
 (Jt n x9 l8_3).bind fun r11 =>
 cond (!r11.1)
  (some (false,r11.2))
  (recl8 (j10,wi (l8_2+1),r11.2))
def VM (n:Nat) (a0n:GN) (recl8:(Bool × Int × Int)→Option (Bool × Int)) (l8_1:Bool) (l8_2:Int) (l8_3:Int):Option (Bool × Int) :=
 cond (QL l8_2 (Qc (List.map KI a0n.Kids)))
  ((Option.bind (Q4 a0n.Kids l8_2) GN.of).bind fun x9 =>
  cond (Qi x9.Kind 4)
   (Z6 n l8_2 l8_3 recl8 x9 true)
   (cond l8_1
    (some (false,l8_3))
    (Z6 n l8_2 l8_3 recl8 x9 l8_1)))
  (YW a0n l8_1 l8_3)
def Ju (n:Nat) (a0n:GN) (a1left:Int):Option (Bool × Int) :=
 (cond (!Qi a0n.Kind 2)
  (some true)
  (cond (QL a0n.N 1)
   (some true)
   (cond (QL 7 a0n.N)
    (some true)
    ((Je n a0n.Name).bind fun r5 =>
    some (!r5))))).bind fun j1 =>
 cond j1
  (some (false,a1left))
  (cond (QL (wi (a1left - (Qc (List.map KI a0n.Kids)))) 0)
   (some (false,wi (a1left - (Qc (List.map KI a0n.Kids)))))
   (QT (fun recl8 (l8_1,l8_2,l8_3)=>VM n a0n recl8 l8_1 l8_2 l8_3) n (false,0,wi (a1left - (Qc (List.map KI a0n.Kids))))))
def QaN:=fun x0 x1=>(⟨[(1, .ptr 1001 0),(2, .ptr 2 0)],Ym x0++FW x1⟩:St)
def bY:=fun x0 x1 x2=>([(1, .ptr 1001 0),(2, .ptr 2 0),(5,B x0),(40, .p (.sl 5 (List.map KI (GN.Kids x1)))),(41,I (Qc (List.map KI (GN.Kids x1)))),(42,I x2)]:List (Nat × AV))
def QaO:=fun x0 x1 x2=>([(1, .ptr 1001 0),(2, .ptr 2 0),(5,B x0),(7, .ptr 7 0),(40, .p (.sl 5 (List.map KI (GN.Kids x1)))),(41,I (Qc (List.map KI (GN.Kids x1)))),(42,I x2)]:List (Nat × AV))
def bZ:=fun x0 x1=>([(2, .box 24 (KJ (GN.cs x0))),(7, .box 24 (KJ (GN.cs x1)))]:List (Nat × Blk))
theorem ME (n:Nat) (a0n:GN) (a1left:Int):∀ r,Ju n a0n a1left=some r→Wz Tryz.prog 42 [ag (GN.cs a0n),Tf] (Go.Abs.look [(1001, .box 3 [I a1left])]) (J7 (fun r:Bool × Int=>((.ret (B r.1),[(1001, .box 3 [I r.2])]):QV × List (Nat × Blk))) r):=by
 refine Vd (X:=fun r:Bool × Int=>((.ret (B r.1),(JN r.2)):QV × List (Nat × Blk))) (JN a1left) Tryz.func42 rfl Tryz.ntmps42 rfl ?_
 unfold Ju
 refine Qg Qd (eH a0n a1left) Qa (sS (Yj (fun j1=>⟨[(1,Tf),qq 2,(26,B j1)],Ym a0n++JN a1left⟩:Bool→St) ?_ ?_))
 ·refine sG (xR 4 Qa ?_)
  refine xS (!Qi a0n.Kind 2) (fun h2=>?_) (fun h2=>?_)
  ·refine xN (Qy Qa h2) Qa (xR 14 Qa (xE ?_))
   exact QO true Qa
  refine xO (Qx Qa h2) Qa (xR 4 Qa ?_)
  refine xS (QL a0n.N 1) (fun h3=>?_) (fun h3=>?_)
  ·refine xN (Qy Qa h3) Qa (xR 9 Qa (xE ?_))
   exact QO true Qa
  refine xO (Qx Qa h3) Qa (xR 4 Qa ?_)
  refine xS (QL 7 a0n.N) (fun h4=>?_) (fun h4=>?_)
  ·refine xN (Qy Qa h4) Qa (xR 4 Qa (xE ?_))
   exact QO true Qa
  refine xO (Qx Qa h4) Qa (xR 1 Qa ?_)
  refine xC [] Qa (FZ n a0n.Name) Qa Qa QS (fun r5=>?_)
  refine xR 2 Qa (xE ?_)
  exact QO (!r5) Qa
 rintro j1
 refine sC j1 Qa ?_ ?_
 ·refine Qg Qd ⟨[(4,B false)],JN a1left⟩ Qa (sT (Q8 ?_))
  exact Y2 (.id) [1001] [] Qa Qa Qa Qa
 refine sK (Ql (eH a0n a1left) Qa (Qg Qd (QaN a0n (wi (a1left - (Qc (mI a0n.Kids))))) Qa (sS (Qg Qd ⟨[(1,Tf),qq 2,(38,B (QL (wi (a1left - (Qc (mI a0n.Kids)))) 0))],Ym a0n++FW (wi (a1left - (Qc (mI a0n.Kids))))⟩ Qa (sC (QL (wi (a1left - (Qc (mI a0n.Kids)))) 0) Qa ?_ ?_)))))
 ·refine Qg Qd ⟨[(4,B false)],FW (wi (a1left - (Qc (mI a0n.Kids))))⟩ Qa (sT (Q8 ?_))
  exact Y2 (.id) [1001] [] Qa Qa Qa Qa
 refine sK (Ql (QaN a0n (wi (a1left - (Qc (mI a0n.Kids))))) Qa (Qg Qd ⟨bW false,Ym a0n++FW (wi (a1left - (Qc (mI a0n.Kids))))⟩ Qa (Kr (fun (j6_1,j6_2)=>⟨[qq 2,(5,B j6_1)],Ym a0n++JN j6_2⟩:(Bool × Int)→St) (fun (j6_1,j6_2)=>YW a0n j6_1 j6_2) ?_ ?_)))
 ·rintro ⟨j6_1,j6_2⟩
  show QX (YW a0n j6_1 j6_2) _ _ _ _ _ _
  unfold YW
  refine sS (sG (xR 3 Qa ?_))
  refine xS (!j6_1) (fun h7=>?_) (fun h7=>?_)
  ·refine xN (Qy Qa h7) Qa (xR 4 Qa (xE (Ql ⟨[(4,B true)],JN j6_2⟩ Qa (sT ?_))))
   exact Y2 (.id) [1001] [] Qa Qa Qa Qa
  refine xO (Qx Qa h7) Qa (xR 4 Qa (xE (Ql ⟨[(4,B (Qi a0n.N 7))],JN j6_2⟩ Qa (sT ?_))))
  exact Y2 (.id) [1001] [] Qa Qa Qa Qa
 refine Qg Qd ⟨bY false a0n 0,Ym a0n++FW (wi (a1left - (Qc (mI a0n.Kids))))⟩ Qa (sB (QH (fun (l8_1,l8_2,l8_3)=>⟨bY l8_1 a0n l8_2,Ym a0n++JN l8_3⟩:(Bool × Int × Int)→St) (Xk Qa) ?_))
 rintro recl8 ⟨l8_1,l8_2,l8_3⟩
 show QX (VM n a0n recl8 l8_1 l8_2 l8_3) _ _ _ _ _ _
 unfold VM
 refine Qg Qd ⟨[(1,Tf),qq 2,(5,B l8_1),(40, .p (.sl 5 (mI a0n.Kids))),(41,I (Qc (mI a0n.Kids))),(42,I l8_2),(43,B (QL l8_2 (Qc (mI a0n.Kids))))],Ym a0n++JN l8_3⟩ Qa (sS (sC (QL l8_2 (Qc (mI a0n.Kids))) Qa ?_ ?_))
 rotate_left
 ·refine Qz (Kb (KY (QW ?_)))
  exact KZ (k:=fun (j6_1,j6_2)=>YW a0n j6_1 j6_2) (l8_1,l8_3) Qa
 refine sK (Ql ⟨bY l8_1 a0n l8_2,Ym a0n++JN l8_3⟩ Qa (sS (sB (sS (sG ?_)))))
 refine xG Qa Qa (Kg (e:=24) (S:=5) (enc:=GN.cs) (dec:=GN.of) (l:=a0n.Kids) (k:=.i64) (n:=l8_2) (sv:=.p (.sl 5 (mI a0n.Kids))) GN.of_cs rfl Qa Qa Qa Qa Qa) (fun x9=>?_)
 refine xR 3 Qa (xE (Ql ⟨QaO l8_1 a0n l8_2,bZ a0n x9++JN l8_3⟩ Qa (Kr (fun j10=>⟨QaO j10 a0n l8_2,bZ a0n x9++JN l8_3⟩:Bool→St) (fun j10=>Z6 n l8_2 l8_3 recl8 x9 j10) ?_ ?_)))
 rotate_left
 ·refine Qg Qd ⟨[(1,Tf),qq 2,(5,B l8_1),qq 7,(40, .p (.sl 5 (mI a0n.Kids))),(41,I (Qc (mI a0n.Kids))),(42,I l8_2),(48,B (Qi x9.Kind 4))],bZ a0n x9++JN l8_3⟩ Qa (sC (Qi x9.Kind 4) Qa ?_ ?_)
  ·refine sL Qd Qa ?_
   exact KZ (k:=fun j10=>Z6 n l8_2 l8_3 recl8 x9 j10) true Qa
  refine Qg Qd ⟨[(1,Tf),qq 2,(5,B l8_1),qq 7,(40, .p (.sl 5 (mI a0n.Kids))),(41,I (Qc (mI a0n.Kids))),(42,I l8_2),(49,B l8_1)],bZ a0n x9++JN l8_3⟩ Qa (sC l8_1 Qa ?_ ?_)
  ·refine Qg Qd ⟨[(4,B false)],JN l8_3⟩ Qa (sT (Yv (Zh (Q8 (Yv (Zh (Yv ?_)))))))
   exact Y2 (.id) [1001] [] Qa Qa Qa Qa
  refine sK ?_
  exact KZ (k:=fun j10=>Z6 n l8_2 l8_3 recl8 x9 j10) l8_1 Qa
 rintro j10
 show QX (Z6 n l8_2 l8_3 recl8 x9 j10) _ _ _ _ _ _
 unfold Z6
 refine sS (sG (xR 2 Qa ?_))
 refine IZ [(1001,1001)] [] [] Qa (MC n x9 l8_3) Qa Qa Qa QS QS (fun r11=>?_)
 refine xR 1 Qa (xE (Ql ⟨[(1,Tf),qq 2,(5,B j10),(40, .p (.sl 5 (mI a0n.Kids))),(41,I (Qc (mI a0n.Kids))),(42,I l8_2),(53,B (!r11.1))],Ym a0n++JN r11.2⟩ Qa (sC (!r11.1) Qa ?_ ?_)))
 ·refine Qg Qd ⟨[(4,B false)],JN r11.2⟩ Qa (sT (Zh (Q8 (Yv (Zh (Yv ?_))))))
  exact Y2 (.id) [1001] [] Qa Qa Qa Qa
 refine sK (Za (Ql ⟨bY j10 a0n l8_2,Ym a0n++JN r11.2⟩ Qa (sL Qd Qa ?_)))
 exact KZ (j10,wi (l8_2+1),r11.2) Qa
def Jf (n:Nat) (a0n:GN) (recl5:(Int × Int)→Option Bool) (l5_1:Int) (l5_2:Int):Option Bool :=
 cond (QL l5_1 (Qc (List.map KI a0n.Kids)))
  ((Option.bind (Q4 a0n.Kids l5_1) GN.of).bind fun x6 =>
  (Ju n x6 l5_2).bind fun r7 =>
  cond (!r7.1)
   (some false)
   (recl5 (wi (l5_1+1),r7.2)))
  (some true)
def UE (n:Nat) (a0n:GN):Option Bool :=
 (cond (!Qi a0n.Kind 1)
  (some true)
  (cond (!QK a0n.Name [])
   (some true)
   (cond (!Qi a0n.N 0)
    (some true)
    (some (QL (wi (1499 - (Qc (List.map KI a0n.Kids)))) 0))))).bind fun j1 =>
 cond j1
  (some false)
  (QT (fun recl5 (l5_1,l5_2)=>Jf n a0n recl5 l5_1 l5_2) n (0,wi (1499 - (Qc (List.map KI a0n.Kids)))))
def Va:=fun x0=>([(1, .box 24 (KJ (GN.cs x0)))]:List (Nat × Blk))
def eP:=fun x0 x1=>([(1, .box 24 (KJ (GN.cs x0))),(3,(eO x1))]:List (Nat × Blk))
def df:=fun x0 x1=>([(3, .ptr 3 0),(28, .p (.sl 5 (List.map KI (GN.Kids x0)))),(29,I (Qc (List.map KI (GN.Kids x0)))),(30,I x1)]:List (Nat × AV))
abbrev F3 (x:GN):Go.Abs.Blk:=.box 24 (KJ (GN.cs x))
theorem Bf (n:Nat) (a0n:GN):∀ r,UE n a0n=some r→Q9 Tryz.prog 24 [ag (GN.cs a0n)] (.ret (B r)):=by
 refine Qt (X:=fun r:Bool=>QV.ret (B r)) Tryz.func24 rfl Tryz.ntmps24 rfl ?_
 unfold UE
 refine Qg Qd ⟨[qq 1],Va a0n⟩ Qa (Qg Qd ⟨[qq 1,qq 3],eP a0n (wi (1499 - (Qc (mI a0n.Kids))))⟩ Qa (sS (Yj (fun j1=>⟨[qq 1,qq 3,(26,B j1)],eP a0n (wi (1499 - (Qc (mI a0n.Kids))))⟩:Bool→St) ?_ ?_)))
 ·refine sG (xR 4 Qa ?_)
  refine xS (!Qi a0n.Kind 1) (fun h2=>?_) (fun h2=>?_)
  ·refine xN (Qy Qa h2) Qa (xR 12 Qa (xE ?_))
   exact QO true Qa
  refine xO (Qx Qa h2) Qa (xR 4 Qa ?_)
  refine xS (!QK a0n.Name []) (fun h3=>?_) (fun h3=>?_)
  ·refine xN (Qy Qa h3) Qa (xR 7 Qa (xE ?_))
   exact QO true Qa
  refine xO (Qx Qa h3) Qa (xR 4 Qa ?_)
  refine xS (!Qi a0n.N 0) (fun h4=>?_) (fun h4=>?_)
  ·refine xN (Qy Qa h4) Qa (xR 2 Qa (xE ?_))
   exact QO true Qa
  refine xO (Qx Qa h4) Qa (xR 2 Qa (xE ?_))
  exact QO (QL (wi (1499 - (Qc (mI a0n.Kids)))) 0) Qa
 rintro j1
 refine sC j1 Qa ?_ ?_
 ·refine Qg Qd ⟨[(2,B false)],[]⟩ Qa (sT (Q8 ?_))
  exact qR (.id) Qa Qa Qa
 refine sK (Ql ⟨[qq 1,qq 3],eP a0n (wi (1499 - (Qc (mI a0n.Kids))))⟩ Qa (sS (Qg Qd ⟨df a0n 0,[(3,(eO (wi (1499 - (Qc (mI a0n.Kids))))))]⟩ Qa (sB (QH (fun (l5_1,l5_2)=>⟨df a0n l5_1,[(3, .box 3 [I l5_2])]⟩:(Int × Int)→St) (Xk Qa) ?_)))))
 rintro recl5 ⟨l5_1,l5_2⟩
 show QX (Jf n a0n recl5 l5_1 l5_2) _ _ _ _ _ _
 unfold Jf
 refine Qg Qd ⟨[qq 3,(28, .p (.sl 5 (mI a0n.Kids))),(29,I (Qc (mI a0n.Kids))),(30,I l5_1),(31,B (QL l5_1 (Qc (mI a0n.Kids))))],[(3, .box 3 [I l5_2])]⟩ Qa (sS (sC (QL l5_1 (Qc (mI a0n.Kids))) Qa ?_ ?_))
 rotate_left
 ·refine Qz (Kb (KY (QW (Ql ⟨[],[]⟩ Qa (Qg Qd ⟨[(2,B true)],[]⟩ Qa (sT ?_))))))
  exact qR (.id) Qa Qa Qa
 refine sK (Ql ⟨df a0n l5_1,[(3, .box 3 [I l5_2])]⟩ Qa (sS (sB (sS (sG ?_)))))
 refine xG Qa Qa (Kg (e:=24) (S:=5) (enc:=GN.cs) (dec:=GN.of) (l:=a0n.Kids) (k:=.i64) (n:=l5_1) (sv:=.p (.sl 5 (mI a0n.Kids))) GN.of_cs rfl Qa Qa Qa Qa Qa) (fun x6=>?_)
 refine xR 3 Qa (xE (Ql ⟨[qq 3,qq 5,(28, .p (.sl 5 (mI a0n.Kids))),(29,I (Qc (mI a0n.Kids))),(30,I l5_1)],[(3, .box 3 [I l5_2]),(5,F3 x6)]⟩ Qa (sS (sG (xR 1 Qa ?_)))))
 refine IZ [(1001,3)] [] [] Qa (ME n x6 l5_2) Qa Qa Qa QS QS (fun r7=>?_)
 refine xR 1 Qa (xE (Ql ⟨[qq 3,(28, .p (.sl 5 (mI a0n.Kids))),(29,I (Qc (mI a0n.Kids))),(30,I l5_1),(36,B (!r7.1))],[(3, .box 3 [I r7.2])]⟩ Qa (sC (!r7.1) Qa ?_ ?_)))
 ·refine Qg Qd ⟨[(2,B false)],[]⟩ Qa (sT (Zh (Q8 (Yv (Zh (Q8 ?_))))))
  exact qR (.id) Qa Qa Qa
 refine sK (Za (Ql ⟨df a0n l5_1,[(3, .box 3 [I r7.2])]⟩ Qa (sL Qd Qa ?_)))
 exact KZ (wi (l5_1+1),r7.2) Qa
def Vk (a0u_0:List Int) (a1kind:Int) (recl1:Int→Option Bool) (l1:Int):Option Bool :=
 cond (QL l1 (Qc (List.map ci a0u_0)))
  ((Q4 a0u_0 l1).bind fun x2 =>
  cond (Qi x2 a1kind)
   (some true)
   (recl1 (wi (l1+1))))
  (some false)
def QB (n:Nat) (a0u_0:List Int) (a0u_1:Bool) (a1kind:Int):Option Bool :=
 QT (fun recl1 l1=>Vk a0u_0 a1kind recl1 l1) n 0
def dh:=fun x0 x1 x2=>([(1,I x0),(8, .p (.sl 1 (List.map ci x1))),(9,I (Qc (List.map ci x1))),(10,I x2)]:List (Nat × AV))
theorem QA (n:Nat) (a0u_0:List Int) (a0u_1:Bool) (a1kind:Int) (hw0_2:FV):∀ r,QB n a0u_0 a0u_1 a1kind=some r→Q9 Tryz.prog 83 [.agg [.p (.sl 1 (List.map ci a0u_0)),B a0u_1, .p (.val (fv hw0_2))],I a1kind] (.ret (B r)):=by
 refine Qt (X:=fun r:Bool=>QV.ret (B r)) Tryz.func83 rfl Tryz.ntmps83 rfl ?_
 unfold QB
 refine Qg Qd ⟨[(1,I a1kind),qq 2],[(2, .box 111 [.p (.sl 1 (List.map ci a0u_0)),B a0u_1, .p (.val (fv hw0_2))])]⟩ Qa (sS (Qg Qd ⟨dh a1kind a0u_0 0,[]⟩ Qa (sB (QH (fun l1=>⟨dh a1kind a0u_0 l1,[]⟩:Int→St) (Xk Qa) ?_))))
 rintro recl1 l1
 show QX (Vk a0u_0 a1kind recl1 l1) _ _ _ _ _ _
 unfold Vk
 refine Qg Qd ⟨[(1,I a1kind),(8, .p (.sl 1 (List.map ci a0u_0))),(9,I (Qc (List.map ci a0u_0))),(10,I l1),(11,B (QL l1 (Qc (List.map ci a0u_0))))],[]⟩ Qa (sS (sC (QL l1 (Qc (List.map ci a0u_0))) Qa ?_ ?_))
 rotate_left
 ·refine Qz (Kb (KY (QW (Ql ⟨[],[]⟩ Qa (Qg Qd ⟨[(4,B false)],[]⟩ Qa (sT ?_))))))
  exact qR (.id) Qa Qa Qa
 refine sK (Ql ⟨dh a1kind a0u_0 l1,[]⟩ Qa (sS (sB (sS (sG ?_)))))
 refine xG Qa Qa (QN (e:=3) (S:=1) (enc:=ci) (l:=a0u_0) (k:=.i64) (n:=l1) (sv:=.p (.sl 1 (List.map ci a0u_0))) rfl Qa Qa Qa Qa Qa) (fun x2=>?_)
 refine xR 2 Qa (xE (Ql ⟨[(1,I a1kind),(6,I x2),(8, .p (.sl 1 (List.map ci a0u_0))),(9,I (Qc (List.map ci a0u_0))),(10,I l1)],[]⟩ Qa (Qg Qd ⟨[(1,I a1kind),(8, .p (.sl 1 (List.map ci a0u_0))),(9,I (Qc (List.map ci a0u_0))),(10,I l1),(16,B (Qi x2 a1kind))],[]⟩ Qa (sC (Qi x2 a1kind) Qa ?_ ?_))))
 ·refine Qg Qd ⟨[(4,B true)],[]⟩ Qa (sT (Zh (Q8 (Yv (Zh (Q8 ?_))))))
  exact qR (.id) Qa Qa Qa
 refine sK (Za (Ql ⟨dh a1kind a0u_0 l1,[]⟩ Qa (sL Qd Qa ?_)))
 exact KZ (wi (l1+1)) Qa
def QD (n:Nat) (a0s:ZH) (a1n:Int):Option Bool :=
 cond (leI a0s.from_ a1n)
  (some (leI a1n a0s.to_))
  (some false)
theorem QC (n:Nat) (a0s:ZH) (a1n:Int):∀ r,QD n a0s a1n=some r→Q9 Tryz.prog 64 [.agg [I a0s.from_,I a0s.to_],I a1n] (.ret (B r)):=by
 refine Qt (X:=fun r:Bool=>QV.ret (B r)) Tryz.func64 rfl Tryz.ntmps64 rfl ?_
 unfold QD
 refine Qg Qd ⟨[(1,I a1n),qq 2],[(2, .box 103 [I a0s.from_,I a0s.to_])]⟩ Qa (sS (sG (xR 5 Qa ?_)))
 refine xS (leI a0s.from_ a1n) (fun h1=>?_) (fun h1=>?_)
 ·refine xO (Qp Qa h1) Qa (xR 5 Qa (xE (Ql ⟨[(4,B (leI a1n a0s.to_))],[]⟩ Qa (sT ?_))))
  exact qR (.id) Qa Qa Qa
 refine xN (Qq Qa h1) Qa (xR 5 Qa (xE (Ql ⟨[(4,B false)],[]⟩ Qa (sT ?_))))
 exact qR (.id) Qa Qa Qa
def Vl (n:Nat) (a0attr:GN) (a1spans:List ZH) (recl2:((List Int) × Int)→Option (Except (Int × Int) (List Int))) (l2_1:List Int) (l2_2:Int):Option (Except (Int × Int) (List Int)) :=
 cond (QL l2_2 (Qc (List.map KI a0attr.Kids)))
  ((Option.bind (Q4 a0attr.Kids l2_2) GN.of).bind fun x3 =>
  (Q4 a1spans l2_2).bind fun x4 =>
  (QD n x4 x3.N).bind fun r5 =>
  cond (!r5)
   (some (.error (3,a0attr.At)))
   ((Q4 l2_1 l2_2).bind fun x6 =>
   recl2 (List.set l2_1 (Int.toNat l2_2) x3.N,wi (l2_2+1))))
  (some (.ok l2_1))
def KT (n:Nat) (a0attr:GN) (a1spans:List ZH):Option (Except (Int × Int) (List Int)) :=
 cond (qK (Qc (List.map ZH.cs a1spans)) (Qc (List.map ZH.cs a1spans)) 8) (
  QT (fun recl2 (l2_1,l2_2)=>Vl n a0attr a1spans recl2 l2_1 l2_2) n (List.replicate (Int.toNat (Qc (List.map ZH.cs a1spans))) 0,0)) none
def Vm (n:Nat) (a0attr:GN) (a1spans:List ZH) (recl7:Int→Option (Except (Int × Int) (List Int))) (l7:Int):Option (Except (Int × Int) (List Int)) :=
 cond (QL l7 (Qc (List.map KI a0attr.Kids)))
  ((Option.bind (Q4 a0attr.Kids l7) GN.of).bind fun x8 =>
  cond (!Qi x8.Kind 6)
   (some (.error (9,a0attr.At)))
   (recl7 (wi (l7+1))))
  (KT n a0attr a1spans)
def Zv (n:Nat) (a0attr:GN) (a1spans:List ZH):Option (Except (Int × Int) (List Int)) :=
 cond (!Qi (Qc (List.map KI a0attr.Kids)) (Qc (List.map ZH.cs a1spans)))
  (some (.error (9,a0attr.At)))
  (QT (fun recl7 l7=>Vm n a0attr a1spans recl7 l7) n 0)
def eQ:=fun x0=>([(1, .p (.sl 2 (List.map ZH.cs x0))),(2, .ptr 2 0)]:List (Nat × AV))
def WA:=fun x0=>([(3, .box 24 (KJ (GN.cs x0)))]:List (Nat × Blk))
def U5:=fun x0 x1=>(⟨[(0,I x0),(3, .ptr 3 0)],WA x1⟩:St)
def dm:=fun x0 x1 x2=>([(1, .p (.sl 2 (List.map ZH.cs x0))),(2, .ptr 2 0),(19, .p (.sl 5 (List.map KI (GN.Kids x1)))),(20,I (Qc (List.map KI (GN.Kids x1)))),(21,I x2)]:List (Nat × AV))
def eT:=fun x0 x1=>([(2, .box 24 (KJ (GN.cs x0))),(33,x1)]:List (Nat × Blk))
def Qcd:=fun x0 x1 x2 x3=>([(1, .p (.sl 2 (List.map ZH.cs x0))),(2, .ptr 2 0),(7,x1),(35, .p (.sl 5 (List.map KI (GN.Kids x2)))),(36,I (Qc (List.map KI (GN.Kids x2)))),(37,I x3)]:List (Nat × AV))
def fU:=fun x0 x1 x2 x3 x4=>(⟨Qcd x0 x1 x2 x3,eT x2 x4⟩:St)
def QaP:=fun x0 x1 x2 x3=>([(1, .p (.sl 2 (List.map ZH.cs x0))),(2, .ptr 2 0),(7,x1),(8,I x2),(9, .ptr 9 0),(35, .p (.sl 5 (List.map KI (GN.Kids x3)))),(36,I (Qc (List.map KI (GN.Kids x3)))),(37,I x2)]:List (Nat × AV))
def eU:=fun x0 x1 x2=>([(2, .box 24 (KJ (GN.cs x0))),(9, .box 24 (KJ (GN.cs x1))),(33,x2)]:List (Nat × Blk))
theorem Z7 (n:Nat) (a0attr:GN) (a1spans:List ZH):∀ r,Zv n a0attr a1spans=some r→Q9 Tryz.prog 47 [ag (GN.cs a0attr), .p (.sl 2 (AR a1spans))] (Ea (fun r:List Int=>(.p (.sl 1 (List.map ci r)):AV)) (fun e:(Int × Int)=>(.ifc 116 (.agg [I e.1,I e.2]):AV)) r):=by
 refine Qt (X:=Ea (fun r:List Int=>(.p (.sl 1 (List.map ci r)):AV)) (fun e:(Int × Int)=>(.ifc 116 (.agg [I e.1,I e.2]):AV))) Tryz.func47 rfl Tryz.ntmps47 rfl ?_
 unfold Zv
 refine Qg Qd ⟨eQ a1spans,Ym a0attr⟩ Qa (sS (Qg Qd ⟨[(1, .p (.sl 2 (AR a1spans))),qq 2,(15,B (!Qi (Qc (mI a0attr.Kids)) (Qc (AR a1spans))))],Ym a0attr⟩ Qa (sC (!Qi (Qc (mI a0attr.Kids)) (Qc (AR a1spans))) Qa ?_ ?_)))
 ·refine sG (xR 1 Qa (Vp [] [I 9, .agg [I a0attr.Kind,S a0attr.Name,I a0attr.N,I a0attr.At, .p (.sl 5 (mI a0attr.Kids))]] [] [] [] Qa Tryz.func49 rfl Tryz.ntmps49 rfl Qa Qa Qa (Qg Qd (U5 9 a0attr) Qa (sG (xR 6 Qa (XC 116 (.agg [I 9,I a0attr.At]) Qa rfl Qa (ZR [] [] Qa ?_)))))))
  refine Kj ?_
  exact qI Qa Qa
 refine sK (Ql ⟨eQ a1spans,Ym a0attr⟩ Qa (Kr (fun _=>⟨eQ a1spans,Ym a0attr⟩:Unit→St) (fun _=>KT n a0attr a1spans) ?_ ?_))
 rotate_left
 ·refine Qg Qd ⟨dm a1spans a0attr 0,Ym a0attr⟩ Qa (sB (QH (fun l7=>⟨dm a1spans a0attr l7,Ym a0attr⟩:Int→St) (Xk Qa) ?_))
  rintro recl7 l7
  show QX (Vm n a0attr a1spans recl7 l7) _ _ _ _ _ _
  unfold Vm
  refine Qg Qd ⟨[(1, .p (.sl 2 (AR a1spans))),qq 2,(19, .p (.sl 5 (mI a0attr.Kids))),(20,I (Qc (mI a0attr.Kids))),(21,I l7),(22,B (QL l7 (Qc (mI a0attr.Kids))))],Ym a0attr⟩ Qa (sS (sC (QL l7 (Qc (mI a0attr.Kids))) Qa ?_ ?_))
  rotate_left
  ·refine Qz (Kb (KY (QW ?_)))
   exact KZ (k:=fun _=>KT n a0attr a1spans) () Qa
  refine sK (Ql ⟨dm a1spans a0attr l7,Ym a0attr⟩ Qa (sS (sB (sS (sG ?_)))))
  refine xG Qa Qa (Kg (e:=24) (S:=5) (enc:=GN.cs) (dec:=GN.of) (l:=a0attr.Kids) (k:=.i64) (n:=l7) (sv:=.p (.sl 5 (mI a0attr.Kids))) GN.of_cs rfl Qa Qa Qa Qa Qa) (fun x8=>?_)
  refine xR 3 Qa (xE (Ql ⟨[(1, .p (.sl 2 (AR a1spans))),qq 2,qq 6,(19, .p (.sl 5 (mI a0attr.Kids))),(20,I (Qc (mI a0attr.Kids))),(21,I l7)],[(2,F3 a0attr),(6,F3 x8)]⟩ Qa (Qg Qd ⟨[(1, .p (.sl 2 (AR a1spans))),qq 2,(19, .p (.sl 5 (mI a0attr.Kids))),(20,I (Qc (mI a0attr.Kids))),(21,I l7),(27,B (!Qi x8.Kind 6))],Ym a0attr⟩ Qa (sC (!Qi x8.Kind 6) Qa ?_ ?_))))
  ·refine sG (xR 1 Qa (Vp [] [I 9, .agg [I a0attr.Kind,S a0attr.Name,I a0attr.N,I a0attr.At, .p (.sl 5 (mI a0attr.Kids))]] [] [] [] Qa Tryz.func49 rfl Tryz.ntmps49 rfl Qa Qa Qa (Qg Qd (U5 9 a0attr) Qa (sG (xR 6 Qa (XC 116 (.agg [I 9,I a0attr.At]) Qa rfl Qa (ZR [] [] Qa ?_)))))))
   refine Zd (Kj (Zk (Zd (Zk ?_))))
   exact qI Qa Qa
  refine sK (Za (Ql ⟨dm a1spans a0attr l7,Ym a0attr⟩ Qa (sL Qd Qa ?_)))
  exact KZ (wi (l7+1)) Qa
 rintro _
 show QX (KT n a0attr a1spans) _ _ _ _ _ _
 unfold KT
 refine sS (sG (xR 2 Qa (xF Qa Qa (gI (e:=3) (S:=1) (by_:=8) (d:=33) (enc:=ci) (z0:=0) (k:=.i64) (k':=.i64) (l:=Qc (AR a1spans)) (c:=Qc (AR a1spans)) rfl rfl Qa Qa rfl Qa Qa Qa Qa) (xR 1 Qa (xE (Ql ⟨[(1, .p (.sl 2 (AR a1spans))),qq 2,(7, .vsl 1 33 (List.map ci (List.replicate (Int.toNat (Qc (AR a1spans))) 0)).length)],eT a0attr (.vec 3 1 (List.map ci (List.replicate (Int.toNat (Qc (AR a1spans))) 0)))⟩ Qa (sS ?_)))))))
 refine Qg Qd (fU a1spans (.vsl 1 33 (List.map ci (List.replicate (Int.toNat (Qc (AR a1spans))) 0)).length) a0attr 0 (.vec 3 1 (List.map ci (List.replicate (Int.toNat (Qc (AR a1spans))) 0)))) Qa (sB (QH (fun (l2_1,l2_2)=>(fU a1spans (.vsl 1 33 (List.map ci l2_1).length) a0attr l2_2 (.vec 3 1 (List.map ci l2_1))):((List Int) × Int)→St) (Xk Qa) ?_))
 rintro recl2 ⟨l2_1,l2_2⟩
 show QX (Vl n a0attr a1spans recl2 l2_1 l2_2) _ _ _ _ _ _
 unfold Vl
 refine Qg Qd ⟨[(1, .p (.sl 2 (AR a1spans))),qq 2,(7, .vsl 1 33 (List.map ci l2_1).length),(35, .p (.sl 5 (mI a0attr.Kids))),(36,I (Qc (mI a0attr.Kids))),(37,I l2_2),(38,B (QL l2_2 (Qc (mI a0attr.Kids))))],eT a0attr (.vec 3 1 (List.map ci l2_1))⟩ Qa (sS (sC (QL l2_2 (Qc (mI a0attr.Kids))) Qa ?_ ?_))
 rotate_left
 ·refine Qz (Kb (KY (QW (Ql ⟨[(7, .vsl 1 33 (List.map ci l2_1).length)],[(33, .vec 3 1 (List.map ci l2_1))]⟩ Qa (Zj (gq 33 3 1 (List.map ci l2_1) [(List.map ci l2_1).length] Qa Qa zq Qa Qa) (Qg Qd ⟨[(4, .p (.sl 1 (List.map ci l2_1)))],[]⟩ Qa (sT ?_)))))))
  exact qR (.id) Qa Qa Qa
 refine sK (Ql (fU a1spans (.vsl 1 33 (List.map ci l2_1).length) a0attr l2_2 (.vec 3 1 (List.map ci l2_1))) Qa (sS (sB (sS (sG (xR 1 Qa ?_))))))
 refine xG Qa Qa (Kg (e:=24) (S:=5) (enc:=GN.cs) (dec:=GN.of) (l:=a0attr.Kids) (k:=.i64) (n:=l2_2) (sv:=.p (.sl 5 (mI a0attr.Kids))) GN.of_cs rfl Qa Qa Qa Qa Qa) (fun x3=>?_)
 refine xR 4 Qa (xE (Ql ⟨QaP a1spans (.vsl 1 33 (List.map ci l2_1).length) l2_2 a0attr,eU a0attr x3 (.vec 3 1 (List.map ci l2_1))⟩ Qa (sS (sS (Vo Qd rfl (xR 2 Qa ?_))))))
 refine xG Qa Qa (QN (e:=103) (S:=2) (enc:=ZH.cs) (l:=a1spans) (k:=.i64) (n:=l2_2) (sv:=.p (.sl 2 (AR a1spans))) rfl Qa Qa Qa Qa Qa) (fun x4=>?_)
 refine xR 3 Qa ?_
 refine xC [] Qa (QC n x4 x3.N) Qa Qa QS (fun r5=>?_)
 refine xR 1 Qa (Yg Qa (Ql ⟨[(1, .p (.sl 2 (AR a1spans))),qq 2,(7, .vsl 1 33 (List.map ci l2_1).length),(8,I l2_2),qq 9,(35, .p (.sl 5 (mI a0attr.Kids))),(36,I (Qc (mI a0attr.Kids))),(37,I l2_2),(49,B (!r5))],eU a0attr x3 (.vec 3 1 (List.map ci l2_1))⟩ Qa (sC (!r5) Qa ?_ ?_)))
 ·refine sG (xR 1 Qa (Vp [] [I 3, .agg [I a0attr.Kind,S a0attr.Name,I a0attr.N,I a0attr.At, .p (.sl 5 (mI a0attr.Kids))]] [] [] [] Qa Tryz.func49 rfl Tryz.ntmps49 rfl Qa Qa Qa (Qg Qd (U5 3 a0attr) Qa (sG (xR 6 Qa (XC 116 (.agg [I 3,I a0attr.At]) Qa rfl Qa (ZR [] [] Qa ?_)))))))
  refine Kj (Zd (Kj (Zk (Zd (Kj ?_)))))
  exact qI Qa Qa
 refine sK (Ql ⟨QaP a1spans (.vsl 1 33 (List.map ci l2_1).length) l2_2 a0attr,eU a0attr x3 (.vec 3 1 (List.map ci l2_1))⟩ Qa (sG (xR 4 Qa ?_)))
 refine pV Qa Qa (gH (e:=3) (S:=1) (tk:=33) (ty:=3) (enc:=ci) (l:=l2_1) (k:=.i64) (n:=l2_2) (nn:=(List.map ci l2_1).length) rfl Qa Qa Qa Qa Qa zq) (fun x6 hx6=>?_)
 refine ZM Qa Qa (pX (S:=1) (tb:=3) (tk:=33) (n:=Int.toNat l2_2) (f:=0) (enc:=ci) (l:=l2_1) (v:=x6) (v':=x3.N) (xv:=I x3.N) rfl Qa Qa Qa (pW hx6) Qa) (xE (Za (Ql (fU a1spans (.vsl 1 33 (List.map ci l2_1).length) a0attr l2_2 (.vec 3 1 (List.map ci (List.set l2_1 (Int.toNat l2_2) x3.N)))) Qa (sL Qd Qa ?_))))
 exact QbT  (List.set l2_1 (Int.toNat l2_2) x3.N,wi (l2_2+1)) ⟨[1,2,7,35,36,37],[2,33],[],[]⟩ (fU a1spans (.vsl 1 33 (List.map ci l2_1).length) a0attr (wi (l2_2+1)) (.vec 3 1 (List.map ci (List.set l2_1 (Int.toNat l2_2) x3.N)))) Qa zq
def We (yI:GN) (yC:ZE) (yK:ZO) (yG:ZT) (yB:Q6) (yS:Qm) (yF:Bool) (yD:List Zr) (h7_m:List ((List UInt8) × Bool)) (h8_m:List ((List UInt8) × KC)) (h10_m:List ((List UInt8) × Bool)):List (Nat × Blk):=[(1000, .box 108 ([.ptr 1001 0]++KJ (GN.cs yI)++[.mv 1010]++KJ (ZE.cs yC)++KJ (ZO.cs yK)++KJ (ZT.cs yG)++[S yB.Name,I yB.Charger])),(1001, .box 74 [.tsl 11 (List.map ZE.cs yS.Conductors) 1002, .tsl 1 (List.map QM.cs yS.Owners) 1003, .tsl 4 (List.map ZO.cs yS.Contracts) 1004, .tsl 8 (List.map ZT.cs yS.Chargers) 1005, .tsl 2 (List.map Q6.cs yS.Bays) 1006, .mv 1007,B yF, .mv 1008, .tsl 2 (List.map Zr.cs yD) 1009]),(1002, .arr 49 11 (List.map ZE.cs yS.Conductors).length),(1003, .arr 52 1 (List.map QM.cs yS.Owners).length),(1004, .arr 54 4 (List.map ZO.cs yS.Contracts).length),(1005, .arr 56 8 (List.map ZT.cs yS.Chargers).length),(1006, .arr 58 2 (List.map Q6.cs yS.Bays).length),(1007, .mp (Jp QQ QR h7_m)),(1008, .mp (Jp VK VL h8_m)),(1009, .arr 65 2 (List.map Zr.cs yD).length),(1010, .mp (Jp QQ QR h10_m)),(1011, .arr 3 1 (List.map ci [1,2]).length)]
def yn:List Nat:=[1000,1001,1002,1003,1004,1005,1006,1007,1008,1009,1010,1011]
def Vn (a1attr:GN):Option (Except (Int × Int) Int) :=
 some (.error (8,a1attr.At))
def Xc (a1attr:GN) (h8_m:List ((List UInt8) × KC)) (x4:GN) (recl6:Int→Option (Except (Int × Int) Int)) (l6:Int):Option (Except (Int × Int) Int) :=
 cond (QL l6 (Qc (List.map ci [1,2])))
  ((Q4 [1,2] l6).bind fun x7 =>
  cond (Qi x7 ((QE Qr x4.Name (⟨0,0⟩:KC) h8_m).kind))
   (some (.ok ((QE Qr x4.Name (⟨0,0⟩:KC) h8_m).index)))
   (recl6 (wi (l6+1))))
  (Vn a1attr)
def UF (n:Nat) (a1attr:GN) (yI:GN) (yC:ZE) (yK:ZO) (yG:ZT) (yB:Q6) (yS:Qm) (yF:Bool) (yD:List Zr) (h7_m:List ((List UInt8) × Bool)) (h8_m:List ((List UInt8) × KC)) (h10_m:List ((List UInt8) × Bool)):Option (Except (Int × Int) Int) :=
 (cond (!Qi (Qc (List.map KI a1attr.Kids)) 1)
  (some true)
  ((Option.bind (Q4 a1attr.Kids 0) GN.of).bind fun x3 =>
  some (!Qi x3.Kind 5))).bind fun j1 =>
 cond j1
  (some (.error (9,a1attr.At)))
  ((Option.bind (Q4 a1attr.Kids 0) GN.of).bind fun x4 =>
  cond (Rn Qr x4.Name h8_m)
   (QT (fun recl6 l6=>Xc a1attr h8_m x4 recl6 l6) n 0)
   (Vn a1attr))
def MF (yI:GN) (yC:ZE) (yK:ZO) (yG:ZT) (yB:Q6) (yS:Qm) (yF:Bool) (yD:List Zr) (h7_m:List ((List UInt8) × Bool)) (h8_m:List ((List UInt8) × KC)) (h10_m:List ((List UInt8) × Bool)):List (Nat × Blk):=We yI yC yK yG yB yS yF yD h7_m h8_m h10_m
def xn:=fun x0=>([(0, .ptr 1000 0),(2, .tsl 1 (List.map ci x0) 1011),(4, .ptr 4 0)]:List (Nat × AV))
def Hl:=fun x0=>([(4, .box 24 (KJ (GN.cs x0)))]:List (Nat × Blk))
def eX:=fun x0 x1=>([(0, .ptr 1000 0),(2, .tsl 1 (List.map ci x0) 1011),(4, .ptr 4 0),(22,B x1)]:List (Nat × AV))
def eY:=fun x0 x1=>([(2, .tsl 1 (List.map ci x0) 1011),(4, .ptr 4 0),(7, .ptr 7 0),(8,B x1)]:List (Nat × AV))
def Qce:=fun x0=>(.box 137 (KJ (KC.cs x0)):Blk)
def Gu:=fun x0 x1=>([(4, .box 24 (KJ (GN.cs x0))),(7,(Qce x1))]:List (Nat × Blk))
def eZ:=fun x0 x1=>([(2, .tsl 1 (List.map ci x0) 1011),(4, .ptr 4 0),(7, .ptr 7 0),(41,B x1)]:List (Nat × AV))
def xq:=fun x0 x1 x2=>([(4, .ptr 4 0),(7, .ptr 7 0),(42, .tsl 1 (List.map ci x0) 1011),(43,I (Qc (List.map ci x1))),(44,I x2)]:List (Nat × AV))
def aa:=fun x0 x1 x2 x3=>([(4, .ptr 4 0),(7, .ptr 7 0),(42, .tsl 1 (List.map ci x0) 1011),(43,I (Qc (List.map ci x1))),(44,I x2),(45,B x3)]:List (Nat × AV))
def ae:=fun x0 x1 x2 x3=>([(4, .ptr 4 0),(7, .ptr 7 0),(10,I x0),(42, .tsl 1 (List.map ci x1) 1011),(43,I (Qc (List.map ci x2))),(44,I x3)]:List (Nat × AV))
def af:=fun x0 x1 x2 x3=>([(4, .ptr 4 0),(7, .ptr 7 0),(42, .tsl 1 (List.map ci x0) 1011),(43,I (Qc (List.map ci x1))),(44,I x2),(51,B x3)]:List (Nat × AV))
theorem Bg (n:Nat) (a1attr:GN) (yI:GN) (yC:ZE) (yK:ZO) (yG:ZT) (yB:Q6) (yS:Qm) (yF:Bool) (yD:List Zr) (h7_m:List ((List UInt8) × Bool)) (h8_m:List ((List UInt8) × KC)) (h10_m:List ((List UInt8) × Bool)):∀ r,UF n a1attr yI yC yK yG yB yS yF yD h7_m h8_m h10_m=some r→Wz Tryz.prog 45 [YY,ag (GN.cs a1attr), .tsl 1 (List.map ci [1,2]) 1011] (Go.Abs.look (MF yI yC yK yG yB yS yF yD h7_m h8_m h10_m)) (J7 (Cm (fun r:Int=>((.ret (I r),MF yI yC yK yG yB yS yF yD h7_m h8_m h10_m):QV × List (Nat × Blk))) (fun e:(Int × Int)=>((.panic (.ifc 116 (.agg [I e.1,I e.2])),MF yI yC yK yG yB yS yF yD h7_m h8_m h10_m):QV × List (Nat × Blk)))) r):=by
 refine Vd (X:=Cm (fun r:Int=>((.ret (I r),MF yI yC yK yG yB yS yF yD h7_m h8_m h10_m):QV × List (Nat × Blk))) (fun e:(Int × Int)=>((.panic (.ifc 116 (.agg [I e.1,I e.2])),MF yI yC yK yG yB yS yF yD h7_m h8_m h10_m):QV × List (Nat × Blk)))) (MF yI yC yK yG yB yS yF yD h7_m h8_m h10_m) Tryz.func45 rfl Tryz.ntmps45 rfl ?_
 unfold UF
 refine Qg Qd ⟨xn [1,2],Hl a1attr++We yI yC yK yG yB yS yF yD h7_m h8_m h10_m⟩ Qa (sS (Yj (fun j1=>⟨eX [1,2] j1,Hl a1attr++We yI yC yK yG yB yS yF yD h7_m h8_m h10_m⟩:Bool→St) ?_ ?_))
 ·refine sG (xR 5 Qa ?_)
  refine xS (!Qi (Qc (mI a1attr.Kids)) 1) (fun h2=>?_) (fun h2=>?_)
  ·refine xN (Qy Qa h2) Qa (xR 6 Qa (xE ?_))
   exact QO true Qa
  refine xO (Qx Qa h2) Qa (xR 1 Qa ?_)
  refine xG Qa Qa (Kg (e:=24) (S:=5) (enc:=GN.cs) (dec:=GN.of) (l:=a1attr.Kids) (k:=.i64) (n:=0) (sv:=.p (.sl 5 (mI a1attr.Kids))) GN.of_cs rfl Qa Qa Qa Qa Qa) (fun x3=>?_)
  refine xR 4 Qa (xE ?_)
  exact QO (!Qi x3.Kind 5) Qa
 rintro j1
 refine sC j1 Qa ?_ ?_
 ·refine sG (xR 1 Qa (Vp [] [I 9, .agg [I a1attr.Kind,S a1attr.Name,I a1attr.N,I a1attr.At, .p (.sl 5 (mI a1attr.Kids))]] [] [] [] Qa Tryz.func49 rfl Tryz.ntmps49 rfl Qa Qa Qa (Qg Qd (U5 9 a1attr) Qa (sG (xR 6 Qa (XC 116 (.agg [I 9,I a1attr.At]) Qa rfl Qa (ZR [] [] Qa ?_)))))))
  refine Kj ?_
  exact Kz yn [] Qa Qa Qa
 refine sK (Ql ⟨xn [1,2],Hl a1attr++We yI yC yK yG yB yS yF yD h7_m h8_m h10_m⟩ Qa (sS (Vo Qd rfl (xR 9 Qa ?_))))
 refine xG Qa Qa (Kg (e:=24) (S:=5) (enc:=GN.cs) (dec:=GN.of) (l:=a1attr.Kids) (k:=.i64) (n:=0) (sv:=.p (.sl 5 (mI a1attr.Kids))) GN.of_cs rfl Qa Qa Qa Qa Qa) (fun x4=>?_)
 refine xR 2 Qa ?_
 refine ZM Qa Qa (Zu (kt:=9) (e:=137) (ke:=VK) (ve:=VL) (eq:=Qr) (b:=1008) (m:=h8_m) (k:=x4.Name) (z0:=(⟨0,0⟩:KC)) rfl Qa Qa Qa Qa Qa QS (fun _ _=>QY rfl _ _) Qa) ?_
 refine xR 6 Qa (Yg Qa (Ql ⟨eY [1,2] (Rn Qr x4.Name h8_m),Gu a1attr (QE Qr x4.Name (⟨0,0⟩:KC) h8_m)++We yI yC yK yG yB yS yF yD h7_m h8_m h10_m⟩ Qa (Kr (fun _=>⟨[qq 4],Hl a1attr++We yI yC yK yG yB yS yF yD h7_m h8_m h10_m⟩:Unit→St) (fun _=>Vn a1attr) ?_ ?_)))
 ·rintro _
  show QX (Vn a1attr) _ _ _ _ _ _
  unfold Vn
  refine sS (sG (xR 1 Qa (Vp [] [I 8, .agg [I a1attr.Kind,S a1attr.Name,I a1attr.N,I a1attr.At, .p (.sl 5 (mI a1attr.Kids))]] [] [] [] Qa Tryz.func49 rfl Tryz.ntmps49 rfl Qa Qa Qa (Qg Qd (U5 8 a1attr) Qa (sG (xR 6 Qa (XC 116 (.agg [I 8,I a1attr.At]) Qa rfl Qa ?_)))))))
  refine ZR [] [] Qa (Kj ?_)
  exact Kz yn [] Qa Qa Qa
 refine Qg Qd ⟨eZ [1,2] (Rn Qr x4.Name h8_m),Gu a1attr (QE Qr x4.Name (⟨0,0⟩:KC) h8_m)++We yI yC yK yG yB yS yF yD h7_m h8_m h10_m⟩ Qa (sC (Rn Qr x4.Name h8_m) Qa ?_ ?_)
 rotate_left
 ·refine sK ?_
  exact KZ (k:=fun _=>Vn a1attr) () Qa
 refine Qg Qd ⟨xq [1,2] [1,2] 0,Gu a1attr (QE Qr x4.Name (⟨0,0⟩:KC) h8_m)++We yI yC yK yG yB yS yF yD h7_m h8_m h10_m⟩ Qa (sB (QH (fun l6=>⟨xq [1,2] [1,2] l6,Gu a1attr (QE Qr x4.Name (⟨0,0⟩:KC) h8_m)++We yI yC yK yG yB yS yF yD h7_m h8_m h10_m⟩:Int→St) (Xk Qa) ?_))
 rintro recl6 l6
 show QX (Xc a1attr h8_m x4 recl6 l6) _ _ _ _ _ _
 unfold Xc
 refine Qg Qd ⟨aa [1,2] [1,2] l6 (QL l6 (Qc (List.map ci [1,2]))),Gu a1attr (QE Qr x4.Name (⟨0,0⟩:KC) h8_m)++We yI yC yK yG yB yS yF yD h7_m h8_m h10_m⟩ Qa (sS (sC (QL l6 (Qc (List.map ci [1,2]))) Qa ?_ ?_))
 rotate_left
 ·refine Qz (Kb (KY (QW ?_)))
  exact KZ (k:=fun _=>Vn a1attr) () Qa
 refine sK (Ql ⟨xq [1,2] [1,2] l6,Gu a1attr (QE Qr x4.Name (⟨0,0⟩:KC) h8_m)++We yI yC yK yG yB yS yF yD h7_m h8_m h10_m⟩ Qa (sS (sB (sS (sG ?_)))))
 refine xG Qa Qa (QN (e:=3) (S:=1) (enc:=ci) (l:=[1,2]) (k:=.i64) (n:=l6) (sv:=.tsl 1 (List.map ci [1,2]) 1011) rfl Qa Qa Qa Qa Qa) (fun x7=>?_)
 refine xR 2 Qa (xE (Ql ⟨ae x7 [1,2] [1,2] l6,Gu a1attr (QE Qr x4.Name (⟨0,0⟩:KC) h8_m)++We yI yC yK yG yB yS yF yD h7_m h8_m h10_m⟩ Qa (Qg Qd ⟨af [1,2] [1,2] l6 (Qi x7 ((QE Qr x4.Name (⟨0,0⟩:KC) h8_m).kind)),Gu a1attr (QE Qr x4.Name (⟨0,0⟩:KC) h8_m)++We yI yC yK yG yB yS yF yD h7_m h8_m h10_m⟩ Qa (sC (Qi x7 ((QE Qr x4.Name (⟨0,0⟩:KC) h8_m).kind)) Qa ?_ ?_))))
 ·refine Qg Qd ⟨[(6,I ((QE Qr x4.Name (⟨0,0⟩:KC) h8_m).index))],We yI yC yK yG yB yS yF yD h7_m h8_m h10_m⟩ Qa (sT (Zh (Q8 (Yv (Zh (Yv ?_))))))
  exact Y2 (.id) yn [] Qa Qa Qa Qa
 refine sK (Za (Ql ⟨xq [1,2] [1,2] l6,Gu a1attr (QE Qr x4.Name (⟨0,0⟩:KC) h8_m)++We yI yC yK yG yB yS yF yD h7_m h8_m h10_m⟩ Qa (sL Qd Qa ?_)))
 exact KZ (wi (l6+1)) Qa
def Ve (yI:GN) (yC:ZE) (yK:ZO) (yG:ZT) (yB:Q6) (yS:Qm) (yF:Bool) (yD:List Zr) (h7_m:List ((List UInt8) × Bool)) (h8_m:List ((List UInt8) × KC)) (h10_m:List ((List UInt8) × Bool)):List (Nat × Blk):=[(1000, .box 108 ([.ptr 1001 0]++KJ (GN.cs yI)++[.mv 1010]++KJ (ZE.cs yC)++KJ (ZO.cs yK)++KJ (ZT.cs yG)++[S yB.Name,I yB.Charger])),(1001, .box 74 [.tsl 11 (List.map ZE.cs yS.Conductors) 1002, .tsl 1 (List.map QM.cs yS.Owners) 1003, .tsl 4 (List.map ZO.cs yS.Contracts) 1004, .tsl 8 (List.map ZT.cs yS.Chargers) 1005, .tsl 2 (List.map Q6.cs yS.Bays) 1006, .mv 1007,B yF, .mv 1008, .tsl 2 (List.map Zr.cs yD) 1009]),(1002, .arr 49 11 (List.map ZE.cs yS.Conductors).length),(1003, .arr 52 1 (List.map QM.cs yS.Owners).length),(1004, .arr 54 4 (List.map ZO.cs yS.Contracts).length),(1005, .arr 56 8 (List.map ZT.cs yS.Chargers).length),(1006, .arr 58 2 (List.map Q6.cs yS.Bays).length),(1007, .mp (Jp QQ QR h7_m)),(1008, .mp (Jp VK VL h8_m)),(1009, .arr 65 2 (List.map Zr.cs yD).length),(1010, .mp (Jp QQ QR h10_m)),(1011, .arr 3 1 (List.map ci [3]).length)]
def EK:List Nat:=[1000,1001,1002,1003,1004,1005,1006,1007,1008,1009,1010,1011]
def Yn (a1attr:GN):Option (Except (Int × Int) Int) :=
 some (.error (8,a1attr.At))
def WO (a1attr:GN) (h8_m:List ((List UInt8) × KC)) (x4:GN) (recl6:Int→Option (Except (Int × Int) Int)) (l6:Int):Option (Except (Int × Int) Int) :=
 cond (QL l6 (Qc (List.map ci [3])))
  ((Q4 [3] l6).bind fun x7 =>
  cond (Qi x7 ((QE Qr x4.Name (⟨0,0⟩:KC) h8_m).kind))
   (some (.ok ((QE Qr x4.Name (⟨0,0⟩:KC) h8_m).index)))
   (recl6 (wi (l6+1))))
  (Yn a1attr)
def X9 (n:Nat) (a1attr:GN) (yI:GN) (yC:ZE) (yK:ZO) (yG:ZT) (yB:Q6) (yS:Qm) (yF:Bool) (yD:List Zr) (h7_m:List ((List UInt8) × Bool)) (h8_m:List ((List UInt8) × KC)) (h10_m:List ((List UInt8) × Bool)):Option (Except (Int × Int) Int) :=
 (cond (!Qi (Qc (List.map KI a1attr.Kids)) 1)
  (some true)
  ((Option.bind (Q4 a1attr.Kids 0) GN.of).bind fun x3 =>
  some (!Qi x3.Kind 5))).bind fun j1 =>
 cond j1
  (some (.error (9,a1attr.At)))
  ((Option.bind (Q4 a1attr.Kids 0) GN.of).bind fun x4 =>
  cond (Rn Qr x4.Name h8_m)
   (QT (fun recl6 l6=>WO a1attr h8_m x4 recl6 l6) n 0)
   (Yn a1attr))
def GY (yI:GN) (yC:ZE) (yK:ZO) (yG:ZT) (yB:Q6) (yS:Qm) (yF:Bool) (yD:List Zr) (h7_m:List ((List UInt8) × Bool)) (h8_m:List ((List UInt8) × KC)) (h10_m:List ((List UInt8) × Bool)):List (Nat × Blk):=Ve yI yC yK yG yB yS yF yD h7_m h8_m h10_m
def dn:=fun x0 x1 x2 x3 x4 x5 x6 x7 x8 x9 x10 x11 x12 x13=>(⟨xq [3] [3] x0,Gu x1 x2++Ve x3 x4 x5 x6 x7 x8 x9 x10 x11 x12 x13⟩:St)
theorem EL (n:Nat) (a1attr:GN) (yI:GN) (yC:ZE) (yK:ZO) (yG:ZT) (yB:Q6) (yS:Qm) (yF:Bool) (yD:List Zr) (h7_m:List ((List UInt8) × Bool)) (h8_m:List ((List UInt8) × KC)) (h10_m:List ((List UInt8) × Bool)):∀ r,X9 n a1attr yI yC yK yG yB yS yF yD h7_m h8_m h10_m=some r→Wz Tryz.prog 45 [YY,ag (GN.cs a1attr), .tsl 1 (List.map ci [3]) 1011] (Go.Abs.look (GY yI yC yK yG yB yS yF yD h7_m h8_m h10_m)) (J7 (Cm (fun r:Int=>((.ret (I r),GY yI yC yK yG yB yS yF yD h7_m h8_m h10_m):QV × List (Nat × Blk))) (fun e:(Int × Int)=>((.panic (.ifc 116 (.agg [I e.1,I e.2])),GY yI yC yK yG yB yS yF yD h7_m h8_m h10_m):QV × List (Nat × Blk)))) r):=by
 refine Vd (X:=Cm (fun r:Int=>((.ret (I r),GY yI yC yK yG yB yS yF yD h7_m h8_m h10_m):QV × List (Nat × Blk))) (fun e:(Int × Int)=>((.panic (.ifc 116 (.agg [I e.1,I e.2])),GY yI yC yK yG yB yS yF yD h7_m h8_m h10_m):QV × List (Nat × Blk)))) (GY yI yC yK yG yB yS yF yD h7_m h8_m h10_m) Tryz.func45 rfl Tryz.ntmps45 rfl ?_
 unfold X9
 refine Qg Qd ⟨xn [3],Hl a1attr++Ve yI yC yK yG yB yS yF yD h7_m h8_m h10_m⟩ Qa (sS (Yj (fun j1=>⟨eX [3] j1,Hl a1attr++Ve yI yC yK yG yB yS yF yD h7_m h8_m h10_m⟩:Bool→St) ?_ ?_))
 ·refine sG (xR 5 Qa ?_)
  refine xS (!Qi (Qc (mI a1attr.Kids)) 1) (fun h2=>?_) (fun h2=>?_)
  ·refine xN (Qy Qa h2) Qa (xR 6 Qa (xE ?_))
   exact QO true Qa
  refine xO (Qx Qa h2) Qa (xR 1 Qa ?_)
  refine xG Qa Qa (Kg (e:=24) (S:=5) (enc:=GN.cs) (dec:=GN.of) (l:=a1attr.Kids) (k:=.i64) (n:=0) (sv:=.p (.sl 5 (mI a1attr.Kids))) GN.of_cs rfl Qa Qa Qa Qa Qa) (fun x3=>?_)
  refine xR 4 Qa (xE ?_)
  exact QO (!Qi x3.Kind 5) Qa
 rintro j1
 refine sC j1 Qa ?_ ?_
 ·refine sG (xR 1 Qa (Vp [] [I 9, .agg [I a1attr.Kind,S a1attr.Name,I a1attr.N,I a1attr.At, .p (.sl 5 (mI a1attr.Kids))]] [] [] [] Qa Tryz.func49 rfl Tryz.ntmps49 rfl Qa Qa Qa (Qg Qd (U5 9 a1attr) Qa (sG (xR 6 Qa (XC 116 (.agg [I 9,I a1attr.At]) Qa rfl Qa (ZR [] [] Qa ?_)))))))
  refine Kj ?_
  exact Kz EK [] Qa Qa Qa
 refine sK (Ql ⟨xn [3],Hl a1attr++Ve yI yC yK yG yB yS yF yD h7_m h8_m h10_m⟩ Qa (sS (Vo Qd rfl (xR 9 Qa ?_))))
 refine xG Qa Qa (Kg (e:=24) (S:=5) (enc:=GN.cs) (dec:=GN.of) (l:=a1attr.Kids) (k:=.i64) (n:=0) (sv:=.p (.sl 5 (mI a1attr.Kids))) GN.of_cs rfl Qa Qa Qa Qa Qa) (fun x4=>?_)
 refine xR 2 Qa ?_
 refine ZM Qa Qa (Zu (kt:=9) (e:=137) (ke:=VK) (ve:=VL) (eq:=Qr) (b:=1008) (m:=h8_m) (k:=x4.Name) (z0:=(⟨0,0⟩:KC)) rfl Qa Qa Qa Qa Qa QS (fun _ _=>QY rfl _ _) Qa) ?_
 refine xR 6 Qa (Yg Qa (Ql ⟨eY [3] (Rn Qr x4.Name h8_m),Gu a1attr (QE Qr x4.Name (⟨0,0⟩:KC) h8_m)++Ve yI yC yK yG yB yS yF yD h7_m h8_m h10_m⟩ Qa (Kr (fun _=>⟨[qq 4],Hl a1attr++Ve yI yC yK yG yB yS yF yD h7_m h8_m h10_m⟩:Unit→St) (fun _=>Yn a1attr) ?_ ?_)))
 ·rintro _
  show QX (Yn a1attr) _ _ _ _ _ _
  unfold Yn
  refine sS (sG (xR 1 Qa (Vp [] [I 8, .agg [I a1attr.Kind,S a1attr.Name,I a1attr.N,I a1attr.At, .p (.sl 5 (mI a1attr.Kids))]] [] [] [] Qa Tryz.func49 rfl Tryz.ntmps49 rfl Qa Qa Qa (Qg Qd (U5 8 a1attr) Qa (sG (xR 6 Qa (XC 116 (.agg [I 8,I a1attr.At]) Qa rfl Qa ?_)))))))
  refine ZR [] [] Qa (Kj ?_)
  exact Kz EK [] Qa Qa Qa
 refine Qg Qd ⟨eZ [3] (Rn Qr x4.Name h8_m),Gu a1attr (QE Qr x4.Name (⟨0,0⟩:KC) h8_m)++Ve yI yC yK yG yB yS yF yD h7_m h8_m h10_m⟩ Qa (sC (Rn Qr x4.Name h8_m) Qa ?_ ?_)
 rotate_left
 ·refine sK ?_
  exact KZ (k:=fun _=>Yn a1attr) () Qa
 refine Qg Qd (dn 0 a1attr (QE Qr x4.Name (⟨0,0⟩:KC) h8_m) yI yC yK yG yB yS yF yD h7_m h8_m h10_m) Qa (sB (QH (fun l6=>(dn l6 a1attr (QE Qr x4.Name (⟨0,0⟩:KC) h8_m) yI yC yK yG yB yS yF yD h7_m h8_m h10_m):Int→St) (Xk Qa) ?_))
 rintro recl6 l6
 show QX (WO a1attr h8_m x4 recl6 l6) _ _ _ _ _ _
 unfold WO
 refine Qg Qd ⟨aa [3] [3] l6 (QL l6 (Qc (List.map ci [3]))),Gu a1attr (QE Qr x4.Name (⟨0,0⟩:KC) h8_m)++Ve yI yC yK yG yB yS yF yD h7_m h8_m h10_m⟩ Qa (sS (sC (QL l6 (Qc (List.map ci [3]))) Qa ?_ ?_))
 rotate_left
 ·refine Qz (Kb (KY (QW ?_)))
  exact KZ (k:=fun _=>Yn a1attr) () Qa
 refine sK (Ql (dn l6 a1attr (QE Qr x4.Name (⟨0,0⟩:KC) h8_m) yI yC yK yG yB yS yF yD h7_m h8_m h10_m) Qa (sS (sB (sS (sG ?_)))))
 refine xG Qa Qa (QN (e:=3) (S:=1) (enc:=ci) (l:=[3]) (k:=.i64) (n:=l6) (sv:=.tsl 1 (List.map ci [3]) 1011) rfl Qa Qa Qa Qa Qa) (fun x7=>?_)
 refine xR 2 Qa (xE (Ql ⟨ae x7 [3] [3] l6,Gu a1attr (QE Qr x4.Name (⟨0,0⟩:KC) h8_m)++Ve yI yC yK yG yB yS yF yD h7_m h8_m h10_m⟩ Qa (Qg Qd ⟨af [3] [3] l6 (Qi x7 ((QE Qr x4.Name (⟨0,0⟩:KC) h8_m).kind)),Gu a1attr (QE Qr x4.Name (⟨0,0⟩:KC) h8_m)++Ve yI yC yK yG yB yS yF yD h7_m h8_m h10_m⟩ Qa (sC (Qi x7 ((QE Qr x4.Name (⟨0,0⟩:KC) h8_m).kind)) Qa ?_ ?_))))
 ·refine Qg Qd ⟨[(6,I ((QE Qr x4.Name (⟨0,0⟩:KC) h8_m).index))],Ve yI yC yK yG yB yS yF yD h7_m h8_m h10_m⟩ Qa (sT (Zh (Q8 (Yv (Zh (Yv ?_))))))
  exact Y2 (.id) EK [] Qa Qa Qa Qa
 refine sK (Za (Ql (dn l6 a1attr (QE Qr x4.Name (⟨0,0⟩:KC) h8_m) yI yC yK yG yB yS yF yD h7_m h8_m h10_m) Qa (sL Qd Qa ?_)))
 exact KZ (wi (l6+1)) Qa
def VN (a0attr:GN) (r3:List Int) (recl5:(Int × Int × Int)→Option (Except (Int × Int) Int)) (l5_1:Int) (l5_2:Int) (l5_3:Int):Option (Except (Int × Int) Int) :=
 cond (QL l5_3 (Qc (List.map ci r3)))
  ((Q4 r3 l5_3).bind fun x6 =>
  cond (leI x6 l5_2)
   (some (.error (3,a0attr.At)))
   (cond (!QL (wi (x6 - 1)) 0) (
    recl5 (nQ .i64 l5_1 (Iz .i64 1 (wi (x6 - 1))),x6,wi (l5_3+1))) none))
  (some (.ok l5_1))
def Jv (n:Nat) (a0attr:GN):Option (Except (Int × Int) Int) :=
 (cond (QL (Qc (List.map KI a0attr.Kids)) 1)
  (some true)
  (some (QL 3 (Qc (List.map KI a0attr.Kids))))).bind fun j1 =>
 cond j1
  (some (.error (9,a0attr.At)))
  (cond (sliceB 0 (Qc (List.map KI a0attr.Kids)) (List.length [(⟨1,3⟩:ZH),(⟨1,3⟩:ZH),(⟨1,3⟩:ZH)])) (
   (Zv n a0attr (List.drop (Int.toNat 0) (List.take (Int.toNat (Qc (List.map KI a0attr.Kids))) [(⟨1,3⟩:ZH),(⟨1,3⟩:ZH),(⟨1,3⟩:ZH)]))).bind (Rh (fun r3 =>
    QT (fun recl5 (l5_1,l5_2,l5_3)=>VN a0attr r3 recl5 l5_1 l5_2 l5_3) n (0,0,0)) fun e4=>some (.error (e4.1,e4.2)))) none)
def QaQ:=fun x0=>(.arr 103 2 (List.map ZH.cs [x0,x0,x0]).length:Blk)
def dw:=fun x0 x1 x2 x3=>([(1, .ptr 1 0),(4,I x0),(5,I x1),(30, .p (.sl 1 (List.map ci x2))),(31,I (Qc (List.map ci x2))),(32,I x3)]:List (Nat × AV))
def QaR:=fun x0 x1 x2 x3=>([(1, .ptr 1 0),(4,I x0),(7,I x1),(30, .p (.sl 1 (List.map ci x2))),(31,I (Qc (List.map ci x2))),(32,I x3)]:List (Nat × AV))
theorem MG (n:Nat) (a0attr:GN):∀ r,Jv n a0attr=some r→Q9 Tryz.prog 52 [ag (GN.cs a0attr)] (Ea (fun r:Int=>(I r:AV)) (fun e:(Int × Int)=>(.ifc 116 (.agg [I e.1,I e.2]):AV)) r):=by
 refine Qt (X:=Ea (fun r:Int=>(I r:AV)) (fun e:(Int × Int)=>(.ifc 116 (.agg [I e.1,I e.2]):AV))) Tryz.func52 rfl Tryz.ntmps52 rfl ?_
 unfold Jv
 refine Qg Qd ⟨[qq 1],Va a0attr⟩ Qa (sS (Yj (fun j1=>⟨[qq 1,(17,B j1)],Va a0attr⟩:Bool→St) ?_ ?_))
 ·refine sG (xR 5 Qa ?_)
  refine xS (QL (Qc (mI a0attr.Kids)) 1) (fun h2=>?_) (fun h2=>?_)
  ·refine xN (Qy Qa h2) Qa (xR 4 Qa (xE ?_))
   exact QO true Qa
  refine xO (Qx Qa h2) Qa (xR 4 Qa (xE ?_))
  exact QO (QL 3 (Qc (mI a0attr.Kids))) Qa
 rintro j1
 refine sC j1 Qa ?_ ?_
 ·refine sG (xR 1 Qa (Vp [] [I 9, .agg [I a0attr.Kind,S a0attr.Name,I a0attr.N,I a0attr.At, .p (.sl 5 (mI a0attr.Kids))]] [] [] [] Qa Tryz.func49 rfl Tryz.ntmps49 rfl Qa Qa Qa (Qg Qd (U5 9 a0attr) Qa (sG (xR 6 Qa (XC 116 (.agg [I 9,I a0attr.At]) Qa rfl Qa (ZR [] [] Qa ?_)))))))
  refine Kj ?_
  exact qI Qa Qa
 refine sK (Ql ⟨[qq 1],Va a0attr⟩ Qa (Qg Qd ⟨[qq 1,(3, .tsl 2 (AR [(⟨1,3⟩:ZH),(⟨1,3⟩:ZH),(⟨1,3⟩:ZH)]) 23)],[(1,F3 a0attr),(23,(QaQ (⟨1,3⟩:ZH)))]⟩ Qa (Qg Qd ⟨[qq 1,(3, .tsl 2 (AR [(⟨1,3⟩:ZH),(⟨1,3⟩:ZH),(⟨1,3⟩:ZH)]) 23),(4,I 0),(5,I 0)],[(1,F3 a0attr),(23,(QaQ (⟨1,3⟩:ZH)))]⟩ Qa (sS (sS (fI 8 Qd rfl Qa (xR 6 Qa ?_)))))))
 refine xF Qa Qa (jw (e:=103) (S:=2) (enc:=ZH.cs) (l:=[(⟨1,3⟩:ZH),(⟨1,3⟩:ZH),(⟨1,3⟩:ZH)]) (sv:=.tsl 2 (AR [(⟨1,3⟩:ZH),(⟨1,3⟩:ZH),(⟨1,3⟩:ZH)]) 23) (a:=0) (b:=Qc (mI a0attr.Kids)) rfl Qa Qa Qa Qa Qa Qa) (FK rfl Qa Qa ?_)
 refine Gg [] Qa (Z7 n a0attr (List.drop (Int.toNat 0) (List.take (Int.toNat (Qc (mI a0attr.Kids))) [(⟨1,3⟩:ZH),(⟨1,3⟩:ZH),(⟨1,3⟩:ZH)]))) Qa Qa QS QS (fun r3=>?_) (fun e4=>?_)
 rotate_left
 ·refine QbY rfl (Kj (Kj ?_))
  exact qI Qa Qa
 refine xR 1 Qa (xE (QbX (Ql ⟨dw 0 0 r3 0,Va a0attr⟩ Qa (sB (QH (fun (l5_1,l5_2,l5_3)=>⟨dw l5_1 l5_2 r3 l5_3,Va a0attr⟩:(Int × Int × Int)→St) (Xk Qa) ?_)))))
 rintro recl5 ⟨l5_1,l5_2,l5_3⟩
 show QX (VN a0attr r3 recl5 l5_1 l5_2 l5_3) _ _ _ _ _ _
 unfold VN
 refine Qg Qd ⟨[qq 1,(4,I l5_1),(5,I l5_2),(30, .p (.sl 1 (List.map ci r3))),(31,I (Qc (List.map ci r3))),(32,I l5_3),(33,B (QL l5_3 (Qc (List.map ci r3))))],Va a0attr⟩ Qa (sS (sC (QL l5_3 (Qc (List.map ci r3))) Qa ?_ ?_))
 rotate_left
 ·refine Qz (Kb (KY (QW (Ql ⟨[(4,I l5_1)],[]⟩ Qa (Qg Qd ⟨[(2,I l5_1)],[]⟩ Qa (sT ?_))))))
  exact qR (.id) Qa Qa Qa
 refine sK (Ql ⟨dw l5_1 l5_2 r3 l5_3,Va a0attr⟩ Qa (sS (sB (sS (sG ?_)))))
 refine xG Qa Qa (QN (e:=3) (S:=1) (enc:=ci) (l:=r3) (k:=.i64) (n:=l5_3) (sv:=.p (.sl 1 (List.map ci r3))) rfl Qa Qa Qa Qa Qa) (fun x6=>?_)
 refine xR 2 Qa (xE (Ql ⟨[qq 1,(4,I l5_1),(5,I l5_2),(7,I x6),(30, .p (.sl 1 (List.map ci r3))),(31,I (Qc (List.map ci r3))),(32,I l5_3)],Va a0attr⟩ Qa (sS (Qg Qd ⟨[qq 1,(4,I l5_1),(7,I x6),(30, .p (.sl 1 (List.map ci r3))),(31,I (Qc (List.map ci r3))),(32,I l5_3),(38,B (leI x6 l5_2))],Va a0attr⟩ Qa (sC (leI x6 l5_2) Qa ?_ ?_)))))
 ·refine sG (xR 1 Qa (Vp [] [I 3, .agg [I a0attr.Kind,S a0attr.Name,I a0attr.N,I a0attr.At, .p (.sl 5 (mI a0attr.Kids))]] [] [] [] Qa Tryz.func49 rfl Tryz.ntmps49 rfl Qa Qa Qa (Qg Qd (U5 3 a0attr) Qa (sG (xR 6 Qa (XC 116 (.agg [I 3,I a0attr.At]) Qa rfl Qa (ZR [] [] Qa ?_)))))))
  refine Kj (Zd (Kj (Zk (Zd (Kj ?_)))))
  exact qI Qa Qa
 refine sK (Ql ⟨QaR l5_1 x6 r3 l5_3,Va a0attr⟩ Qa (sS (sG (xR 3 Qa (xF Qa Qa (pR (k:=.i64) (k':=.i64) (a:=1) (b:=wi (x6 - 1)) rfl Qa Qa) (xR 2 Qa (xE ?_)))))))
 refine Ql ⟨QaR (nQ .i64 l5_1 (Iz .i64 1 (wi (x6 - 1)))) x6 r3 l5_3,Va a0attr⟩ Qa (sL Qd Qa (Za (Ql ⟨dw (nQ .i64 l5_1 (Iz .i64 1 (wi (x6 - 1)))) x6 r3 l5_3,Va a0attr⟩ Qa (sL Qd Qa ?_))))
 exact KZ (nQ .i64 l5_1 (Iz .i64 1 (wi (x6 - 1))),x6,wi (l5_3+1)) Qa
def Vf (yI:GN) (yC:ZE) (yK:ZO) (yG:ZT) (yB:Q6) (yS:Qm) (yF:Bool) (yD:List Zr) (h7_m:List ((List UInt8) × Bool)) (h8_m:List ((List UInt8) × KC)) (h10_m:List ((List UInt8) × Bool)):List (Nat × Blk):=[(1000, .box 108 ([.ptr 1001 0]++KJ (GN.cs yI)++[.mv 1010]++KJ (ZE.cs yC)++KJ (ZO.cs yK)++KJ (ZT.cs yG)++[S yB.Name,I yB.Charger])),(1001, .box 74 [.tsl 11 (List.map ZE.cs yS.Conductors) 1002, .tsl 1 (List.map QM.cs yS.Owners) 1003, .tsl 4 (List.map ZO.cs yS.Contracts) 1004, .tsl 8 (List.map ZT.cs yS.Chargers) 1005, .tsl 2 (List.map Q6.cs yS.Bays) 1006, .mv 1007,B yF, .mv 1008, .tsl 2 (List.map Zr.cs yD) 1009]),(1002, .arr 49 11 (List.map ZE.cs yS.Conductors).length),(1003, .arr 52 1 (List.map QM.cs yS.Owners).length),(1004, .arr 54 4 (List.map ZO.cs yS.Contracts).length),(1005, .arr 56 8 (List.map ZT.cs yS.Chargers).length),(1006, .arr 58 2 (List.map Q6.cs yS.Bays).length),(1007, .mp (Jp QQ QR h7_m)),(1008, .mp (Jp VK VL h8_m)),(1009, .arr 65 2 (List.map Zr.cs yD).length),(1010, .mp (Jp QQ QR h10_m)),(1011, .arr 3 1 (List.map ci [5]).length)]
def EM:List Nat:=[1000,1001,1002,1003,1004,1005,1006,1007,1008,1009,1010,1011]
def Yo (a1attr:GN):Option (Except (Int × Int) Int) :=
 some (.error (8,a1attr.At))
def WP (a1attr:GN) (h8_m:List ((List UInt8) × KC)) (x4:GN) (recl6:Int→Option (Except (Int × Int) Int)) (l6:Int):Option (Except (Int × Int) Int) :=
 cond (QL l6 (Qc (List.map ci [5])))
  ((Q4 [5] l6).bind fun x7 =>
  cond (Qi x7 ((QE Qr x4.Name (⟨0,0⟩:KC) h8_m).kind))
   (some (.ok ((QE Qr x4.Name (⟨0,0⟩:KC) h8_m).index)))
   (recl6 (wi (l6+1))))
  (Yo a1attr)
def Ua (n:Nat) (a1attr:GN) (yI:GN) (yC:ZE) (yK:ZO) (yG:ZT) (yB:Q6) (yS:Qm) (yF:Bool) (yD:List Zr) (h7_m:List ((List UInt8) × Bool)) (h8_m:List ((List UInt8) × KC)) (h10_m:List ((List UInt8) × Bool)):Option (Except (Int × Int) Int) :=
 (cond (!Qi (Qc (List.map KI a1attr.Kids)) 1)
  (some true)
  ((Option.bind (Q4 a1attr.Kids 0) GN.of).bind fun x3 =>
  some (!Qi x3.Kind 5))).bind fun j1 =>
 cond j1
  (some (.error (9,a1attr.At)))
  ((Option.bind (Q4 a1attr.Kids 0) GN.of).bind fun x4 =>
  cond (Rn Qr x4.Name h8_m)
   (QT (fun recl6 l6=>WP a1attr h8_m x4 recl6 l6) n 0)
   (Yo a1attr))
def GZ (yI:GN) (yC:ZE) (yK:ZO) (yG:ZT) (yB:Q6) (yS:Qm) (yF:Bool) (yD:List Zr) (h7_m:List ((List UInt8) × Bool)) (h8_m:List ((List UInt8) × KC)) (h10_m:List ((List UInt8) × Bool)):List (Nat × Blk):=Vf yI yC yK yG yB yS yF yD h7_m h8_m h10_m
def dx:=fun x0 x1 x2 x3 x4 x5 x6 x7 x8 x9 x10 x11 x12 x13=>(⟨xq [5] [5] x0,Gu x1 x2++Vf x3 x4 x5 x6 x7 x8 x9 x10 x11 x12 x13⟩:St)
theorem EN (n:Nat) (a1attr:GN) (yI:GN) (yC:ZE) (yK:ZO) (yG:ZT) (yB:Q6) (yS:Qm) (yF:Bool) (yD:List Zr) (h7_m:List ((List UInt8) × Bool)) (h8_m:List ((List UInt8) × KC)) (h10_m:List ((List UInt8) × Bool)):∀ r,Ua n a1attr yI yC yK yG yB yS yF yD h7_m h8_m h10_m=some r→Wz Tryz.prog 45 [YY,ag (GN.cs a1attr), .tsl 1 (List.map ci [5]) 1011] (Go.Abs.look (GZ yI yC yK yG yB yS yF yD h7_m h8_m h10_m)) (J7 (Cm (fun r:Int=>((.ret (I r),GZ yI yC yK yG yB yS yF yD h7_m h8_m h10_m):QV × List (Nat × Blk))) (fun e:(Int × Int)=>((.panic (.ifc 116 (.agg [I e.1,I e.2])),GZ yI yC yK yG yB yS yF yD h7_m h8_m h10_m):QV × List (Nat × Blk)))) r):=by
 refine Vd (X:=Cm (fun r:Int=>((.ret (I r),GZ yI yC yK yG yB yS yF yD h7_m h8_m h10_m):QV × List (Nat × Blk))) (fun e:(Int × Int)=>((.panic (.ifc 116 (.agg [I e.1,I e.2])),GZ yI yC yK yG yB yS yF yD h7_m h8_m h10_m):QV × List (Nat × Blk)))) (GZ yI yC yK yG yB yS yF yD h7_m h8_m h10_m) Tryz.func45 rfl Tryz.ntmps45 rfl ?_
 unfold Ua
 refine Qg Qd ⟨xn [5],Hl a1attr++Vf yI yC yK yG yB yS yF yD h7_m h8_m h10_m⟩ Qa (sS (Yj (fun j1=>⟨eX [5] j1,Hl a1attr++Vf yI yC yK yG yB yS yF yD h7_m h8_m h10_m⟩:Bool→St) ?_ ?_))
 ·refine sG (xR 5 Qa ?_)
  refine xS (!Qi (Qc (mI a1attr.Kids)) 1) (fun h2=>?_) (fun h2=>?_)
  ·refine xN (Qy Qa h2) Qa (xR 6 Qa (xE ?_))
   exact QO true Qa
  refine xO (Qx Qa h2) Qa (xR 1 Qa ?_)
  refine xG Qa Qa (Kg (e:=24) (S:=5) (enc:=GN.cs) (dec:=GN.of) (l:=a1attr.Kids) (k:=.i64) (n:=0) (sv:=.p (.sl 5 (mI a1attr.Kids))) GN.of_cs rfl Qa Qa Qa Qa Qa) (fun x3=>?_)
  refine xR 4 Qa (xE ?_)
  exact QO (!Qi x3.Kind 5) Qa
 rintro j1
 refine sC j1 Qa ?_ ?_
 ·refine sG (xR 1 Qa (Vp [] [I 9, .agg [I a1attr.Kind,S a1attr.Name,I a1attr.N,I a1attr.At, .p (.sl 5 (mI a1attr.Kids))]] [] [] [] Qa Tryz.func49 rfl Tryz.ntmps49 rfl Qa Qa Qa (Qg Qd (U5 9 a1attr) Qa (sG (xR 6 Qa (XC 116 (.agg [I 9,I a1attr.At]) Qa rfl Qa (ZR [] [] Qa ?_)))))))
  refine Kj ?_
  exact Kz EM [] Qa Qa Qa
 refine sK (Ql ⟨xn [5],Hl a1attr++Vf yI yC yK yG yB yS yF yD h7_m h8_m h10_m⟩ Qa (sS (Vo Qd rfl (xR 9 Qa ?_))))
 refine xG Qa Qa (Kg (e:=24) (S:=5) (enc:=GN.cs) (dec:=GN.of) (l:=a1attr.Kids) (k:=.i64) (n:=0) (sv:=.p (.sl 5 (mI a1attr.Kids))) GN.of_cs rfl Qa Qa Qa Qa Qa) (fun x4=>?_)
 refine xR 2 Qa ?_
 refine ZM Qa Qa (Zu (kt:=9) (e:=137) (ke:=VK) (ve:=VL) (eq:=Qr) (b:=1008) (m:=h8_m) (k:=x4.Name) (z0:=(⟨0,0⟩:KC)) rfl Qa Qa Qa Qa Qa QS (fun _ _=>QY rfl _ _) Qa) ?_
 refine xR 6 Qa (Yg Qa (Ql ⟨eY [5] (Rn Qr x4.Name h8_m),Gu a1attr (QE Qr x4.Name (⟨0,0⟩:KC) h8_m)++Vf yI yC yK yG yB yS yF yD h7_m h8_m h10_m⟩ Qa (Kr (fun _=>⟨[qq 4],Hl a1attr++Vf yI yC yK yG yB yS yF yD h7_m h8_m h10_m⟩:Unit→St) (fun _=>Yo a1attr) ?_ ?_)))
 ·rintro _
  show QX (Yo a1attr) _ _ _ _ _ _
  unfold Yo
  refine sS (sG (xR 1 Qa (Vp [] [I 8, .agg [I a1attr.Kind,S a1attr.Name,I a1attr.N,I a1attr.At, .p (.sl 5 (mI a1attr.Kids))]] [] [] [] Qa Tryz.func49 rfl Tryz.ntmps49 rfl Qa Qa Qa (Qg Qd (U5 8 a1attr) Qa (sG (xR 6 Qa (XC 116 (.agg [I 8,I a1attr.At]) Qa rfl Qa ?_)))))))
  refine ZR [] [] Qa (Kj ?_)
  exact Kz EM [] Qa Qa Qa
 refine Qg Qd ⟨eZ [5] (Rn Qr x4.Name h8_m),Gu a1attr (QE Qr x4.Name (⟨0,0⟩:KC) h8_m)++Vf yI yC yK yG yB yS yF yD h7_m h8_m h10_m⟩ Qa (sC (Rn Qr x4.Name h8_m) Qa ?_ ?_)
 rotate_left
 ·refine sK ?_
  exact KZ (k:=fun _=>Yo a1attr) () Qa
 refine Qg Qd (dx 0 a1attr (QE Qr x4.Name (⟨0,0⟩:KC) h8_m) yI yC yK yG yB yS yF yD h7_m h8_m h10_m) Qa (sB (QH (fun l6=>(dx l6 a1attr (QE Qr x4.Name (⟨0,0⟩:KC) h8_m) yI yC yK yG yB yS yF yD h7_m h8_m h10_m):Int→St) (Xk Qa) ?_))
 rintro recl6 l6
 show QX (WP a1attr h8_m x4 recl6 l6) _ _ _ _ _ _
 unfold WP
 refine Qg Qd ⟨aa [5] [5] l6 (QL l6 (Qc (List.map ci [5]))),Gu a1attr (QE Qr x4.Name (⟨0,0⟩:KC) h8_m)++Vf yI yC yK yG yB yS yF yD h7_m h8_m h10_m⟩ Qa (sS (sC (QL l6 (Qc (List.map ci [5]))) Qa ?_ ?_))
 rotate_left
 ·refine Qz (Kb (KY (QW ?_)))
  exact KZ (k:=fun _=>Yo a1attr) () Qa
 refine sK (Ql (dx l6 a1attr (QE Qr x4.Name (⟨0,0⟩:KC) h8_m) yI yC yK yG yB yS yF yD h7_m h8_m h10_m) Qa (sS (sB (sS (sG ?_)))))
 refine xG Qa Qa (QN (e:=3) (S:=1) (enc:=ci) (l:=[5]) (k:=.i64) (n:=l6) (sv:=.tsl 1 (List.map ci [5]) 1011) rfl Qa Qa Qa Qa Qa) (fun x7=>?_)
 refine xR 2 Qa (xE (Ql ⟨ae x7 [5] [5] l6,Gu a1attr (QE Qr x4.Name (⟨0,0⟩:KC) h8_m)++Vf yI yC yK yG yB yS yF yD h7_m h8_m h10_m⟩ Qa (Qg Qd ⟨af [5] [5] l6 (Qi x7 ((QE Qr x4.Name (⟨0,0⟩:KC) h8_m).kind)),Gu a1attr (QE Qr x4.Name (⟨0,0⟩:KC) h8_m)++Vf yI yC yK yG yB yS yF yD h7_m h8_m h10_m⟩ Qa (sC (Qi x7 ((QE Qr x4.Name (⟨0,0⟩:KC) h8_m).kind)) Qa ?_ ?_))))
 ·refine Qg Qd ⟨[(6,I ((QE Qr x4.Name (⟨0,0⟩:KC) h8_m).index))],Vf yI yC yK yG yB yS yF yD h7_m h8_m h10_m⟩ Qa (sT (Zh (Q8 (Yv (Zh (Yv ?_))))))
  exact Y2 (.id) EM [] Qa Qa Qa Qa
 refine sK (Za (Ql (dx l6 a1attr (QE Qr x4.Name (⟨0,0⟩:KC) h8_m) yI yC yK yG yB yS yF yD h7_m h8_m h10_m) Qa (sL Qd Qa ?_)))
 exact KZ (wi (l6+1)) Qa
def QI (yS:Qm) (yF:Bool) (yD:List Zr) (h7_m:List ((List UInt8) × Bool)) (h8_m:List ((List UInt8) × KC)):List (Nat × Blk):=[(1001, .box 74 [.tsl 11 (List.map ZE.cs yS.Conductors) 1002, .tsl 1 (List.map QM.cs yS.Owners) 1003, .tsl 4 (List.map ZO.cs yS.Contracts) 1004, .tsl 8 (List.map ZT.cs yS.Chargers) 1005, .tsl 2 (List.map Q6.cs yS.Bays) 1006, .mv 1007,B yF, .mv 1008, .tsl 2 (List.map Zr.cs yD) 1009]),(1002, .arr 49 11 (List.map ZE.cs yS.Conductors).length),(1003, .arr 52 1 (List.map QM.cs yS.Owners).length),(1004, .arr 54 4 (List.map ZO.cs yS.Contracts).length),(1005, .arr 56 8 (List.map ZT.cs yS.Chargers).length),(1006, .arr 58 2 (List.map Q6.cs yS.Bays).length),(1007, .mp (Jp QQ QR h7_m)),(1008, .mp (Jp VK VL h8_m)),(1009, .arr 65 2 (List.map Zr.cs yD).length)]
def Zg:List (Nat × Blk):=[(1011, .mf (Ur 1012 1013 1014 1015 1016 1017 1018 1019 1020 1021)),(1012, .arr 3 1 (List.map ci [1,2]).length),(1013, .box 103 [I 1,I 1000]),(1014, .arr 3 1 (List.map ci [2]).length),(1015, .box 104 [.tsl 1 (List.map ci [1,2]) 1012]),(1016, .arr 3 1 (List.map ci [4,5]).length),(1017, .arr 3 1 (List.map ci [4]).length),(1018, .arr 3 1 (List.map ci [4]).length),(1019, .arr 3 1 (List.map ci [5]).length),(1020, .box 103 [I 1,I 80]),(1021, .arr 3 1 (List.map ci [6]).length)]
def ZG:List Nat:=[1000,1001,1002,1003,1004,1005,1006,1007,1008,1009,1010,1011,1012,1013,1014,1015,1016,1017,1018,1019,1020,1021]
abbrev ty6:=(Int × ZE × ZO × ZT × Q6 × (List ((List UInt8) × Bool)))
abbrev OG:=(Except ((Int × Int) × ZE × ZO × ZT × Q6 × (List ((List UInt8) × Bool))) (ZE × ZO × ZT × Q6 × (List ((List UInt8) × Bool))))
def QF (l1_1:Int) (recl1:ty6→Option OG) (j2_1:ZE) (j2_2:ZO) (j2_3:ZT) (j2_4:Q6) (j2_5:List ((List UInt8) × Bool)):Option OG :=
 recl1 (wi (l1_1+1),j2_1,j2_2,j2_3,j2_4,j2_5)
def WQ (yS:Qm) (l1_1:Int) (l1_2:ZE) (l1_3:ZO) (l1_4:ZT) (l1_5:Q6) (l1_6:List ((List UInt8) × Bool)) (recl1:ty6→Option OG) (x3:GN) (x51:Int) (recl52:Int→Option OG) (l52:Int):Option OG :=
 cond (QL l52 (Qc (List.map ZO.cs yS.Contracts)))
  ((Q4 yS.Contracts l52).bind fun x53 =>
  cond (Qi x53.Card x51)
   (some (.error ((5,x3.At),l1_2,(⟨l1_3.Name,l1_3.Owner,l1_3.Rank,x51⟩:ZO),l1_4,l1_5,Qk Qb x3.Name true l1_6)))
   (recl52 (wi (l52+1))))
  (QF l1_1 recl1 l1_2 (⟨l1_3.Name,l1_3.Owner,l1_3.Rank,x51⟩:ZO) l1_4 l1_5 (Qk Qb x3.Name true l1_6))
def Jw (n:Nat) (yI:GN) (yS:Qm) (yF:Bool) (yD:List Zr) (h7_m:List ((List UInt8) × Bool)) (h8_m:List ((List UInt8) × KC)) (recl1:ty6→Option OG) (l1_1:Int) (l1_2:ZE) (l1_3:ZO) (l1_4:ZT) (l1_5:Q6) (l1_6:List ((List UInt8) × Bool)):Option OG :=
 cond (QL l1_1 (Qc (List.map KI yI.Kids)))
  ((Option.bind (Q4 yI.Kids l1_1) GN.of).bind fun x3 =>
  cond (!Qi x3.Kind 3)
   (QF l1_1 recl1 l1_2 l1_3 l1_4 l1_5 l1_6)
   (cond (QK x3.Name [108,105,109,105,116]&&true)
    ((QB n [1,2] false yI.N).bind fun r7 =>
    cond (!r7)
     (some (.error ((9,x3.At),l1_2,l1_3,l1_4,l1_5,l1_6)))
     (cond (QE Qb x3.Name false l1_6)
      (some (.error ((5,x3.At),l1_2,l1_3,l1_4,l1_5,l1_6)))
      ((Zv n x3 [(⟨1,1000⟩:ZH)]).bind (Rh (fun r8 =>
       (Q4 r8 0).bind fun x10 =>
       QF l1_1 recl1 (⟨l1_2.Name,l1_2.Up,x10,l1_2.Neutral,l1_2.Fuse,l1_2.Cable⟩:ZE) l1_3 l1_4 l1_5 (Qk Qb x3.Name true l1_6)) fun e9=>some (.error ((e9.1,e9.2),l1_2,l1_3,l1_4,l1_5,Qk Qb x3.Name true l1_6))))))
    (cond (QK x3.Name [110,101,117,116,114,97,108]&&true)
     ((QB n [1,2] false yI.N).bind fun r13 =>
     cond (!r13)
      (some (.error ((9,x3.At),l1_2,l1_3,l1_4,l1_5,l1_6)))
      (cond (QE Qb x3.Name false l1_6)
       (some (.error ((5,x3.At),l1_2,l1_3,l1_4,l1_5,l1_6)))
       ((Zv n x3 [(⟨1,1000⟩:ZH)]).bind (Rh (fun r14 =>
        (Q4 r14 0).bind fun x16 =>
        QF l1_1 recl1 (⟨l1_2.Name,l1_2.Up,l1_2.Limit,x16,l1_2.Fuse,l1_2.Cable⟩:ZE) l1_3 l1_4 l1_5 (Qk Qb x3.Name true l1_6)) fun e15=>some (.error ((e15.1,e15.2),l1_2,l1_3,l1_4,l1_5,Qk Qb x3.Name true l1_6))))))
     (cond (QK x3.Name [102,117,115,101]&&true)
      ((QB n [1,2] true yI.N).bind fun r19 =>
      cond (!r19)
       (some (.error ((9,x3.At),l1_2,l1_3,l1_4,l1_5,l1_6)))
       (cond (QE Qb x3.Name false l1_6)
        (some (.error ((5,x3.At),l1_2,l1_3,l1_4,l1_5,l1_6)))
        ((Zv n x3 [(⟨1,1000⟩:ZH),(⟨0,1000000⟩:ZH)]).bind (Rh (fun r20 =>
         (Q4 r20 0).bind fun x22 =>
         (Q4 r20 1).bind fun x23 =>
         QF l1_1 recl1 (⟨l1_2.Name,l1_2.Up,l1_2.Limit,l1_2.Neutral,(⟨x22,x23⟩:CR),l1_2.Cable⟩:ZE) l1_3 l1_4 l1_5 (Qk Qb x3.Name true l1_6)) fun e21=>some (.error ((e21.1,e21.2),l1_2,l1_3,l1_4,l1_5,Qk Qb x3.Name true l1_6))))))
      (cond (QK x3.Name [116,104,101,114,109,97,108]&&true)
       ((QB n [1,2] true yI.N).bind fun r25 =>
       cond (!r25)
        (some (.error ((9,x3.At),l1_2,l1_3,l1_4,l1_5,l1_6)))
        (cond (QE Qb x3.Name false l1_6)
         (some (.error ((5,x3.At),l1_2,l1_3,l1_4,l1_5,l1_6)))
         ((Zv n x3 [(⟨0,200000⟩:ZH),(⟨0,200000⟩:ZH),(⟨0,1000⟩:ZH),(⟨0,1000⟩:ZH),(⟨1,1000000⟩:ZH)]).bind (Rh (fun r26 =>
          (Q4 r26 0).bind fun x28 =>
          (Q4 r26 1).bind fun x29 =>
          (Q4 r26 2).bind fun x30 =>
          (Q4 r26 3).bind fun x31 =>
          (Q4 r26 4).bind fun x32 =>
          QF l1_1 recl1 (⟨l1_2.Name,l1_2.Up,l1_2.Limit,l1_2.Neutral,l1_2.Fuse,(⟨x28,x29,x30,x31,x32⟩:XF)⟩:ZE) l1_3 l1_4 l1_5 (Qk Qb x3.Name true l1_6)) fun e27=>some (.error ((e27.1,e27.2),l1_2,l1_3,l1_4,l1_5,Qk Qb x3.Name true l1_6))))))
       (cond (QK x3.Name [102,114,111,109]&&true)
        ((QB n [2] false yI.N).bind fun r35 =>
        cond (!r35)
         (some (.error ((9,x3.At),l1_2,l1_3,l1_4,l1_5,l1_6)))
         (cond (QE Qb x3.Name false l1_6)
          (some (.error ((5,x3.At),l1_2,l1_3,l1_4,l1_5,l1_6)))
          ((UF n x3 yI l1_2 l1_3 l1_4 l1_5 yS yF yD h7_m h8_m (Qk Qb x3.Name true l1_6)).bind (Rh (fun r36 =>
           QF l1_1 recl1 (⟨l1_2.Name,r36,l1_2.Limit,l1_2.Neutral,l1_2.Fuse,l1_2.Cable⟩:ZE) l1_3 l1_4 l1_5 (Qk Qb x3.Name true l1_6)) fun e37=>some (.error ((e37.1,e37.2),l1_2,l1_3,l1_4,l1_5,Qk Qb x3.Name true l1_6))))))
        (cond (QK x3.Name [111,119,110,101,114]&&true)
         ((QB n [4,5] false yI.N).bind fun r39 =>
         cond (!r39)
          (some (.error ((9,x3.At),l1_2,l1_3,l1_4,l1_5,l1_6)))
          (cond (QE Qb x3.Name false l1_6)
           (some (.error ((5,x3.At),l1_2,l1_3,l1_4,l1_5,l1_6)))
           ((X9 n x3 yI l1_2 l1_3 l1_4 l1_5 yS yF yD h7_m h8_m (Qk Qb x3.Name true l1_6)).bind (Rh (fun r40 =>
            QF l1_1 recl1 l1_2 (⟨l1_3.Name,r40,l1_3.Rank,l1_3.Card⟩:ZO) (⟨l1_4.Name,l1_4.At,l1_4.Phases,l1_4.Min,l1_4.Max,l1_4.Step,l1_4.Fallback,r40⟩:ZT) l1_5 (Qk Qb x3.Name true l1_6)) fun e41=>some (.error ((e41.1,e41.2),l1_2,l1_3,l1_4,l1_5,Qk Qb x3.Name true l1_6))))))
         (cond (QK x3.Name [114,97,110,107]&&true)
          ((QB n [4] false yI.N).bind fun r43 =>
          cond (!r43)
           (some (.error ((9,x3.At),l1_2,l1_3,l1_4,l1_5,l1_6)))
           (cond (QE Qb x3.Name false l1_6)
            (some (.error ((5,x3.At),l1_2,l1_3,l1_4,l1_5,l1_6)))
            ((Zv n x3 [(⟨1,9⟩:ZH)]).bind (Rh (fun r44 =>
             (Q4 r44 0).bind fun x46 =>
             QF l1_1 recl1 l1_2 (⟨l1_3.Name,l1_3.Owner,x46,l1_3.Card⟩:ZO) l1_4 l1_5 (Qk Qb x3.Name true l1_6)) fun e45=>some (.error ((e45.1,e45.2),l1_2,l1_3,l1_4,l1_5,Qk Qb x3.Name true l1_6))))))
          (cond (QK x3.Name [99,97,114,100]&&true)
           ((QB n [4] false yI.N).bind fun r48 =>
           cond (!r48)
            (some (.error ((9,x3.At),l1_2,l1_3,l1_4,l1_5,l1_6)))
            (cond (QE Qb x3.Name false l1_6)
             (some (.error ((5,x3.At),l1_2,l1_3,l1_4,l1_5,l1_6)))
             ((Zv n x3 [(⟨1,1000000⟩:ZH)]).bind (Rh (fun r49 =>
              (Q4 r49 0).bind fun x51 =>
              QT (fun recl52 l52=>WQ yS l1_1 l1_2 l1_3 l1_4 l1_5 l1_6 recl1 x3 x51 recl52 l52) n 0) fun e50=>some (.error ((e50.1,e50.2),l1_2,l1_3,l1_4,l1_5,Qk Qb x3.Name true l1_6))))))
           (cond (QK x3.Name [97,116]&&true)
            ((QB n [5] false yI.N).bind fun r55 =>
            cond (!r55)
             (some (.error ((9,x3.At),l1_2,l1_3,l1_4,l1_5,l1_6)))
             (cond (QE Qb x3.Name false l1_6)
              (some (.error ((5,x3.At),l1_2,l1_3,l1_4,l1_5,l1_6)))
              ((UF n x3 yI l1_2 l1_3 l1_4 l1_5 yS yF yD h7_m h8_m (Qk Qb x3.Name true l1_6)).bind (Rh (fun r56 =>
               QF l1_1 recl1 l1_2 l1_3 (⟨l1_4.Name,r56,l1_4.Phases,l1_4.Min,l1_4.Max,l1_4.Step,l1_4.Fallback,l1_4.Owner⟩:ZT) l1_5 (Qk Qb x3.Name true l1_6)) fun e57=>some (.error ((e57.1,e57.2),l1_2,l1_3,l1_4,l1_5,Qk Qb x3.Name true l1_6))))))
            (cond (QK x3.Name [112,104,97,115,101,115]&&true)
             ((QB n [5] false yI.N).bind fun r59 =>
             cond (!r59)
              (some (.error ((9,x3.At),l1_2,l1_3,l1_4,l1_5,l1_6)))
              (cond (QE Qb x3.Name false l1_6)
               (some (.error ((5,x3.At),l1_2,l1_3,l1_4,l1_5,l1_6)))
               ((Jv n x3).bind (Rh (fun r60 =>
                QF l1_1 recl1 l1_2 l1_3 (⟨l1_4.Name,l1_4.At,r60,l1_4.Min,l1_4.Max,l1_4.Step,l1_4.Fallback,l1_4.Owner⟩:ZT) l1_5 (Qk Qb x3.Name true l1_6)) fun e61=>some (.error ((e61.1,e61.2),l1_2,l1_3,l1_4,l1_5,Qk Qb x3.Name true l1_6))))))
             (cond (QK x3.Name [97,109,112,115]&&true)
              ((QB n [5] false yI.N).bind fun r64 =>
              cond (!r64)
               (some (.error ((9,x3.At),l1_2,l1_3,l1_4,l1_5,l1_6)))
               (cond (QE Qb x3.Name false l1_6)
                (some (.error ((5,x3.At),l1_2,l1_3,l1_4,l1_5,l1_6)))
                ((Zv n x3 [(⟨1,80⟩:ZH),(⟨1,80⟩:ZH),(⟨1,80⟩:ZH)]).bind (Rh (fun r65 =>
                 (Q4 r65 0).bind fun x67 =>
                 (Q4 r65 1).bind fun x68 =>
                 (Q4 r65 2).bind fun x69 =>
                 QF l1_1 recl1 l1_2 l1_3 (⟨l1_4.Name,l1_4.At,l1_4.Phases,x67,x68,x69,l1_4.Fallback,l1_4.Owner⟩:ZT) l1_5 (Qk Qb x3.Name true l1_6)) fun e66=>some (.error ((e66.1,e66.2),l1_2,l1_3,l1_4,l1_5,Qk Qb x3.Name true l1_6))))))
              (cond (QK x3.Name [102,97,108,108,98,97,99,107]&&true)
               ((QB n [5] false yI.N).bind fun r71 =>
               cond (!r71)
                (some (.error ((9,x3.At),l1_2,l1_3,l1_4,l1_5,l1_6)))
                (cond (QE Qb x3.Name false l1_6)
                 (some (.error ((5,x3.At),l1_2,l1_3,l1_4,l1_5,l1_6)))
                 ((Zv n x3 [(⟨0,80⟩:ZH)]).bind (Rh (fun r72 =>
                  (Q4 r72 0).bind fun x74 =>
                  QF l1_1 recl1 l1_2 l1_3 (⟨l1_4.Name,l1_4.At,l1_4.Phases,l1_4.Min,l1_4.Max,l1_4.Step,x74,l1_4.Owner⟩:ZT) l1_5 (Qk Qb x3.Name true l1_6)) fun e73=>some (.error ((e73.1,e73.2),l1_2,l1_3,l1_4,l1_5,Qk Qb x3.Name true l1_6))))))
               (cond (QK x3.Name [99,104,97,114,103,101,114]&&true)
                ((QB n [6] false yI.N).bind fun r76 =>
                cond (!r76)
                 (some (.error ((9,x3.At),l1_2,l1_3,l1_4,l1_5,l1_6)))
                 (cond (QE Qb x3.Name false l1_6)
                  (some (.error ((5,x3.At),l1_2,l1_3,l1_4,l1_5,l1_6)))
                  ((Ua n x3 yI l1_2 l1_3 l1_4 l1_5 yS yF yD h7_m h8_m (Qk Qb x3.Name true l1_6)).bind (Rh (fun r77 =>
                   QF l1_1 recl1 l1_2 l1_3 l1_4 (⟨l1_5.Name,r77⟩:Q6) (Qk Qb x3.Name true l1_6)) fun e78=>some (.error ((e78.1,e78.2),l1_2,l1_3,l1_4,l1_5,Qk Qb x3.Name true l1_6))))))
                (some (.error ((9,x3.At),l1_2,l1_3,l1_4,l1_5,l1_6)))))))))))))))))
  (some (.ok (l1_2,l1_3,l1_4,l1_5,l1_6)))
def U6 (n:Nat) (yI:GN) (yC:ZE) (yK:ZO) (yG:ZT) (yB:Q6) (yS:Qm) (yF:Bool) (yD:List Zr) (h7_m:List ((List UInt8) × Bool)) (h8_m:List ((List UInt8) × KC)) (h10_m:List ((List UInt8) × Bool)):Option OG :=
 QT (fun recl1 (l1_1,l1_2,l1_3,l1_4,l1_5,l1_6)=>Jw n yI yS yF yD h7_m h8_m recl1 l1_1 l1_2 l1_3 l1_4 l1_5 l1_6) n (0,yC,yK,yG,yB,h10_m)
def MH (yI:GN) (yC:ZE) (yK:ZO) (yG:ZT) (yB:Q6) (yS:Qm) (yF:Bool) (yD:List Zr) (h7_m:List ((List UInt8) × Bool)) (h8_m:List ((List UInt8) × KC)) (h10_m:List ((List UInt8) × Bool)):List (Nat × Blk):=[(1000, .box 108 ([.ptr 1001 0]++KJ (GN.cs yI)++[.mv 1010]++KJ (ZE.cs yC)++KJ (ZO.cs yK)++KJ (ZT.cs yG)++[S yB.Name,I yB.Charger]))]++QI yS yF yD h7_m h8_m++[(1010, .mp (Jp QQ QR h10_m))]++Zg
def Qcf:=fun x0 x1=>([(0, .ptr 1000 0),(1, .mv 1011),(12, .p (.sl 5 (List.map KI (GN.Kids x0)))),(13,I (Qc (List.map KI (GN.Kids x0)))),(14,I x1)]:List (Nat × AV))
def QaS:=fun x0 x1 x2 x3 x4=>(.box 108 ([.ptr 1001 0]++KJ (GN.cs x0)++[.mv 1010]++KJ (ZE.cs x1)++KJ (ZO.cs x2)++KJ (ZT.cs x3)++[S (Q6.Name x4),I (Q6.Charger x4)]):Blk)
def KF:=fun x0 x1 x2 x3 x4=>([(1000,(QaS x0 x1 x2 x3 x4))]:List (Nat × Blk))
def KU:=fun x0=>([(1010, .mp (Jp QQ QR x0))]:List (Nat × Blk))
def dz:=fun x0 x1 x2 x3 x4 x5 x6 x7 x8 x9 x10 x11=>(⟨Qcf x0 x1,KF x0 x2 x3 x4 x5++QI x6 x7 x8 x9 x10++KU x11++Zg⟩:St)
def QaT:=fun x0 x1=>([(0, .ptr 1000 0),(1, .mv 1011),(5, .ptr 5 0),(12, .p (.sl 5 (List.map KI (GN.Kids x0)))),(13,I (Qc (List.map KI (GN.Kids x0)))),(14,I x1)]:List (Nat × AV))
def ah:=fun x0=>([(5, .box 24 (KJ (GN.cs x0)))]:List (Nat × Blk))
def SX:=fun x0 x1 x2=>([(0, .ptr 1000 0),(1, .mv 1011),(5, .ptr 5 0),(6, .ptr 6 0),(7,B x0),(12, .p (.sl 5 (List.map KI (GN.Kids x1)))),(13,I (Qc (List.map KI (GN.Kids x1)))),(14,I x2)]:List (Nat × AV))
def QaU:=fun x0 x1=>(.box 111 [.tsl 1 (List.map ci [1,2]) 1012,B x0, .fn x1 [] [.ptr 1013 0]]:Blk)
def dA:=fun x0 x1 x2=>([(5, .box 24 (KJ (GN.cs x0))),(6,(QaU x1 x2))]:List (Nat × Blk))
def ai:=fun x0 x1 x2 x3 x4 x5 x6 x7 x8 x9 x10 x11 x12 x13 x14=>(⟨SX true x0 x1,dA x2 x3 x4++KF x0 x5 x6 x7 x8++QI x9 x10 x11 x12 x13++KU x14++Zg⟩:St)
def SY:=fun x0 x1 x2=>([(0, .ptr 1000 0),(1, .mv 1011),(5, .ptr 5 0),(6, .ptr 6 0),(12, .p (.sl 5 (List.map KI (GN.Kids x0)))),(13,I (Qc (List.map KI (GN.Kids x0)))),(14,I x1),(39,B x2)]:List (Nat × AV))
def aj:=fun x0 x1 x2 x3 x4 x5 x6 x7 x8 x9 x10 x11 x12 x13 x14 x15=>(⟨SY x0 x1 x2,dA x3 x4 x5++KF x0 x6 x7 x8 x9++QI x10 x11 x12 x13 x14++KU x15++Zg⟩:St)
def Oq:=fun x0 x1=>([(0, .ptr 1000 0),(1, .mv 1011),(5, .ptr 5 0),(6, .ptr 6 0),(12, .p (.sl 5 (List.map KI (GN.Kids x0)))),(13,I (Qc (List.map KI (GN.Kids x0)))),(14,I x1)]:List (Nat × AV))
def Ot:=fun x0 x1 x2 x3 x4 x5 x6 x7 x8 x9 x10 x11 x12 x13 x14=>(⟨Oq x0 x1,dA x2 x3 x4++KF x0 x5 x6 x7 x8++QI x9 x10 x11 x12 x13++KU x14++Zg⟩:St)
def Ou:=fun x0 x1 x2=>([(0, .ptr 1000 0),(1, .mv 1011),(5, .ptr 5 0),(6, .ptr 6 0),(12, .p (.sl 5 (List.map KI (GN.Kids x0)))),(13,I (Qc (List.map KI (GN.Kids x0)))),(14,I x1),(48,B x2)]:List (Nat × AV))
def ak:=fun x0 x1 x2 x3 x4 x5 x6 x7 x8 x9 x10 x11 x12 x13 x14 x15=>(⟨Ou x0 x1 x2,dA x3 x4 x5++KF x0 x6 x7 x8 x9++QI x10 x11 x12 x13 x14++KU x15++Zg⟩:St)
def yo:=fun x0 x1=>([(1010, .mp (Jp QQ QR x0)),(1011, .box 103 [I 1,I x1])]:List (Nat × Blk))
def nq6:List (Nat × Nat):=[(1000,1000),(1001,1001),(1002,1002),(1003,1003),(1004,1004),(1005,1005),(1006,1006),(1007,1007),(1008,1008),(1009,1009),(1010,1010),(1011,1013)]
def Qch:List (Nat × AV):=[(0, .ptr 1000 0),(2, .ptr 1011 0),(4, .ptr 4 0)]
def dB:=fun x0 x1 x2 x3 x4 x5 x6 x7 x8 x9 x10 x11 x12=>(⟨Qch,Hl x0++KF x1 x2 x3 x4 x5++QI x6 x7 x8 x9 x10++yo x11 x12⟩:St)
def QaV:=fun x0=>([(0, .ptr 1000 0),(5, .p (.sl 1 (List.map ci x0)))]:List (Nat × AV))
def QaW:Blk:=.box 111 [.tsl 1 (List.map ci [1,2]) 1012,B true, .p (.val (.func (.func 81) #[] #[]))]
def dC:=fun x0=>([(5, .box 24 (KJ (GN.cs x0))),(6,QaW)]:List (Nat × Blk))
def au:=fun x0 x1 x2 x3 x4 x5 x6 x7 x8 x9 x10 x11 x12=>(⟨Oq x0 x1,dC x2++KF x0 x3 x4 x5 x6++QI x7 x8 x9 x10 x11++KU x12++Zg⟩:St)
def rY:List (Nat × Nat):=[(1000,1000),(1001,1001),(1002,1002),(1003,1003),(1004,1004),(1005,1005),(1006,1006),(1007,1007),(1008,1008),(1009,1009),(1010,1010)]
def zn:=fun x0 x1 x2 x3 x4 x5 x6 x7 x8 x9 x10 x11=>(⟨[(0, .ptr 1000 0),(3, .ptr 3 0)],WA x0++KF x1 x2 x3 x4 x5++QI x6 x7 x8 x9 x10++KU x11⟩:St)
def QaX:Blk:=.box 111 [.tsl 1 (List.map ci [2]) 1014,B false, .fn (.func 82) [] [.ptr 1015 0]]
def dD:=fun x0=>([(5, .box 24 (KJ (GN.cs x0))),(6,QaX)]:List (Nat × Blk))
def av:=fun x0 x1 x2 x3 x4 x5 x6 x7 x8 x9 x10 x11 x12=>(⟨Oq x0 x1,dD x2++KF x0 x3 x4 x5 x6++QI x7 x8 x9 x10 x11++KU x12++Zg⟩:St)
def QaY:Blk:=.box 104 [.tsl 1 (List.map ci [1,2]) 1011]
def QaZ:=fun x0=>([(1010, .mp (Jp QQ QR x0)),(1011, .arr 3 1 (List.map ci [1,2]).length),(1012,QaY)]:List (Nat × Blk))
def Qa0:Blk:=.box 111 [.tsl 1 (List.map ci [4,5]) 1016,B false, .p (.val (.func (.func 44) #[] #[]))]
def dE:=fun x0=>([(5, .box 24 (KJ (GN.cs x0))),(6,Qa0)]:List (Nat × Blk))
def ax:=fun x0 x1 x2 x3 x4 x5 x6 x7 x8 x9 x10 x11 x12=>(⟨Oq x0 x1,dE x2++KF x0 x3 x4 x5 x6++QI x7 x8 x9 x10 x11++KU x12++Zg⟩:St)
def nq8:List (Nat × Nat):=[(1000,1000),(1001,1001),(1002,1002),(1003,1003),(1004,1004),(1005,1005),(1006,1006),(1007,1007),(1008,1008),(1009,1009),(1010,1010),(1011,7)]
def Qa1:Blk:=.box 111 [.tsl 1 (List.map ci [4]) 1017,B false, .p (.val (.func (.func 46) #[] #[]))]
def dF:=fun x0=>([(5, .box 24 (KJ (GN.cs x0))),(6,Qa1)]:List (Nat × Blk))
def ay:=fun x0 x1 x2 x3 x4 x5 x6 x7 x8 x9 x10 x11 x12=>(⟨Oq x0 x1,dF x2++KF x0 x3 x4 x5 x6++QI x7 x8 x9 x10 x11++KU x12++Zg⟩:St)
def Qa2:Blk:=.box 111 [.tsl 1 (List.map ci [4]) 1018,B false, .p (.val (.func (.func 48) #[] #[]))]
def dG:=fun x0=>([(5, .box 24 (KJ (GN.cs x0))),(6,Qa2)]:List (Nat × Blk))
def az:=fun x0 x1 x2 x3 x4 x5 x6 x7 x8 x9 x10 x11 x12=>(⟨Oq x0 x1,dG x2++KF x0 x3 x4 x5 x6++QI x7 x8 x9 x10 x11++KU x12++Zg⟩:St)
def Qcj:=fun x0 x1 x2 x3 x4 x5=>(.box 108 ([.ptr 1001 0]++KJ (GN.cs x0)++[.mv 1010]++KJ (ZE.cs x1)++[S (ZO.Name x2),I (ZO.Owner x2),I (ZO.Rank x2),I x3]++KJ (ZT.cs x4)++[S (Q6.Name x5),I (Q6.Charger x5)]):Blk)
def fV:=fun x0 x1 x2 x3 x4 x5=>([(1000,(Qcj x0 x1 x2 x3 x4 x5))]:List (Nat × Blk))
def Qck:=fun x0 x1=>([(0, .ptr 1000 0),(3, .ptr 3 0),(23, .tsl 4 (List.map ZO.cs (Qm.Contracts x0)) 1004),(24,I (Qc (List.map ZO.cs (Qm.Contracts x0)))),(25,I x1)]:List (Nat × AV))
def dH:=fun x0 x1 x2 x3 x4 x5 x6 x7 x8 x9 x10 x11 x12 x13=>(⟨Qck x0 x1,WA x2++fV x3 x4 x5 x6 x7 x8++QI x0 x9 x10 x11 x12++KU x13⟩:St)
def Qa3:=fun x0=>(.box 111 [.tsl 1 (List.map ci [5]) 1019,B false, .p (.val x0)]:Blk)
def dJ:=fun x0 x1=>([(5, .box 24 (KJ (GN.cs x0))),(6,(Qa3 x1))]:List (Nat × Blk))
def aA:=fun x0 x1 x2 x3 x4 x5 x6 x7 x8 x9 x10 x11 x12 x13=>(⟨SX true x0 x1,dJ x2 x3++KF x0 x4 x5 x6 x7++QI x8 x9 x10 x11 x12++KU x13++Zg⟩:St)
def aB:=fun x0 x1 x2 x3 x4 x5 x6 x7 x8 x9 x10 x11 x12 x13 x14=>(⟨SY x0 x1 x2,dJ x3 x4++KF x0 x5 x6 x7 x8++QI x9 x10 x11 x12 x13++KU x14++Zg⟩:St)
def Ov:=fun x0 x1 x2 x3 x4 x5 x6 x7 x8 x9 x10 x11 x12 x13=>(⟨Oq x0 x1,dJ x2 x3++KF x0 x4 x5 x6 x7++QI x8 x9 x10 x11 x12++KU x13++Zg⟩:St)
def aC:=fun x0 x1 x2 x3 x4 x5 x6 x7 x8 x9 x10 x11 x12 x13 x14=>(⟨Ou x0 x1 x2,dJ x3 x4++KF x0 x5 x6 x7 x8++QI x9 x10 x11 x12 x13++KU x14++Zg⟩:St)
def Qa4:Blk:=.box 111 [.tsl 1 (List.map ci [5]) 1019,B false, .fn (.func 53) [] [.ptr 1020 0]]
def dK:=fun x0=>([(5, .box 24 (KJ (GN.cs x0))),(6,Qa4)]:List (Nat × Blk))
def aD:=fun x0 x1 x2 x3 x4 x5 x6 x7 x8 x9 x10 x11 x12=>(⟨Oq x0 x1,dK x2++KF x0 x3 x4 x5 x6++QI x7 x8 x9 x10 x11++KU x12++Zg⟩:St)
def Qa5:=fun x0=>([(5, .box 24 (KJ (GN.cs x0))),(6, .box 111 [.p (.val (.slice none 0 0)),B false, .p (.val (.nilFunc))])]:List (Nat × Blk))
def Qa6:Blk:=.box 111 [.tsl 1 (List.map ci [6]) 1021,B false, .p (.val (.func (.func 55) #[] #[]))]
def dL:=fun x0=>([(5, .box 24 (KJ (GN.cs x0))),(6,Qa6)]:List (Nat × Blk))
def aF:=fun x0 x1 x2 x3 x4 x5 x6 x7 x8 x9 x10 x11 x12=>(⟨Oq x0 x1,dL x2++KF x0 x3 x4 x5 x6++QI x7 x8 x9 x10 x11++KU x12++Zg⟩:St)
abbrev yt (x:ZO):Go.Abs.Blk:=.box 54 (KJ (ZO.cs x))
theorem S9 (n:Nat) (yI:GN) (yC:ZE) (yK:ZO) (yG:ZT) (yB:Q6) (yS:Qm) (yF:Bool) (yD:List Zr) (h7_m:List ((List UInt8) × Bool)) (h8_m:List ((List UInt8) × KC)) (h10_m:List ((List UInt8) × Bool)):∀ r,U6 n yI yC yK yG yB yS yF yD h7_m h8_m h10_m=some r→Wz Tryz.prog 58 [YY, .mv 1011] (Go.Abs.look (MH yI yC yK yG yB yS yF yD h7_m h8_m h10_m)) (J7 (Cm (fun r:ZE × ZO × ZT × Q6 × (List ((List UInt8) × Bool))=>((.ret (.tup []),MH yI r.1 r.2.1 r.2.2.1 r.2.2.2.1 yS yF yD h7_m h8_m r.2.2.2.2):QV × List (Nat × Blk))) (fun e:(Int × Int) × ZE × ZO × ZT × Q6 × (List ((List UInt8) × Bool))=>((.panic (.ifc 116 (.agg [I e.1.1,I e.1.2])),MH yI e.2.1 e.2.2.1 e.2.2.2.1 e.2.2.2.2.1 yS yF yD h7_m h8_m e.2.2.2.2.2):QV × List (Nat × Blk)))) r):=by
 refine Vd (X:=Cm (fun r:ZE × ZO × ZT × Q6 × (List ((List UInt8) × Bool))=>((.ret (.tup []),MH yI r.1 r.2.1 r.2.2.1 r.2.2.2.1 yS yF yD h7_m h8_m r.2.2.2.2):QV × List (Nat × Blk))) (fun e:(Int × Int) × ZE × ZO × ZT × Q6 × (List ((List UInt8) × Bool))=>((.panic (.ifc 116 (.agg [I e.1.1,I e.1.2])),MH yI e.2.1 e.2.2.1 e.2.2.2.1 e.2.2.2.2.1 yS yF yD h7_m h8_m e.2.2.2.2.2):QV × List (Nat × Blk)))) (MH yI yC yK yG yB yS yF yD h7_m h8_m h10_m) Tryz.func58 rfl Tryz.ntmps58 rfl ?_
 unfold U6
 refine Qg Qd (dz yI 0 yC yK yG yB yS yF yD h7_m h8_m h10_m) Qa (sB (QH (fun (l1_1,l1_2,l1_3,l1_4,l1_5,l1_6)=>(dz yI l1_1 l1_2 l1_3 l1_4 l1_5 yS yF yD h7_m h8_m l1_6):ty6→St) (Xk Qa) ?_))
 rintro recl1 ⟨l1_1,l1_2,l1_3,l1_4,l1_5,l1_6⟩
 show QX (Jw n yI yS yF yD h7_m h8_m recl1 l1_1 l1_2 l1_3 l1_4 l1_5 l1_6) _ _ _ _ _ _
 unfold Jw
 refine Qg Qd ⟨[(0,YY),(1, .mv 1011),(12, .p (.sl 5 (mI yI.Kids))),(13,I (Qc (mI yI.Kids))),(14,I l1_1),(15,B (QL l1_1 (Qc (mI yI.Kids))))],KF yI l1_2 l1_3 l1_4 l1_5++QI yS yF yD h7_m h8_m++KU l1_6++Zg⟩ Qa (sS (sC (QL l1_1 (Qc (mI yI.Kids))) Qa ?_ ?_))
 rotate_left
 ·refine Qz (Kb (KY (QW ?_)))
  exact iZ (.id) ZG [] Qa Qa Qa Qa
 refine sK (Ql (dz yI l1_1 l1_2 l1_3 l1_4 l1_5 yS yF yD h7_m h8_m l1_6) Qa (Kr (fun (j2_1,j2_2,j2_3,j2_4,j2_5)=>(dz yI l1_1 j2_1 j2_2 j2_3 j2_4 yS yF yD h7_m h8_m j2_5):(ZE × ZO × ZT × Q6 × (List ((List UInt8) × Bool)))→St) (fun (j2_1,j2_2,j2_3,j2_4,j2_5)=>QF l1_1 recl1 j2_1 j2_2 j2_3 j2_4 j2_5) ?_ ?_))
 ·rintro ⟨j2_1,j2_2,j2_3,j2_4,j2_5⟩
  show QX (QF l1_1 recl1 j2_1 j2_2 j2_3 j2_4 j2_5) _ _ _ _ _ _
  unfold QF
  refine sL Qd Qa ?_
  exact KZ (wi (l1_1+1),j2_1,j2_2,j2_3,j2_4,j2_5) Qa
 refine sB (sS (sG ?_))
 refine xG Qa Qa (Kg (e:=24) (S:=5) (enc:=GN.cs) (dec:=GN.of) (l:=yI.Kids) (k:=.i64) (n:=l1_1) (sv:=.p (.sl 5 (mI yI.Kids))) GN.of_cs rfl Qa Qa Qa Qa Qa) (fun x3=>?_)
 refine xR 3 Qa (xE (Ql ⟨QaT yI l1_1,ah x3++KF yI l1_2 l1_3 l1_4 l1_5++QI yS yF yD h7_m h8_m++KU l1_6++Zg⟩ Qa (sS (Qg Qd ⟨[(0,YY),(1, .mv 1011),qq 5,(12, .p (.sl 5 (mI yI.Kids))),(13,I (Qc (mI yI.Kids))),(14,I l1_1),(20,B (!Qi x3.Kind 3))],ah x3++KF yI l1_2 l1_3 l1_4 l1_5++QI yS yF yD h7_m h8_m++KU l1_6++Zg⟩ Qa (sC (!Qi x3.Kind 3) Qa ?_ ?_)))))
 ·refine Qz (Kb (QW ?_))
  exact KZ (k:=fun (j2_1,j2_2,j2_3,j2_4,j2_5)=>QF l1_1 recl1 j2_1 j2_2 j2_3 j2_4 j2_5) (l1_2,l1_3,l1_4,l1_5,l1_6) Qa
 refine sK (Ql ⟨QaT yI l1_1,ah x3++KF yI l1_2 l1_3 l1_4 l1_5++QI yS yF yD h7_m h8_m++KU l1_6++Zg⟩ Qa (sS (sG (xR 3 Qa ?_))))
 refine xS (QK x3.Name [108,105,109,105,116]&&true) (fun h5=>?_) (fun h5=>?_)
 ·refine ZM Qa Qa (Jd (kt:=9) (e:=111) (b:=1011) (w:=x3.Name) (ok:=true) (es:=(Ur 1012 1013 1014 1015 1016 1017 1018 1019 1020 1021)) (v:=.agg [.tsl 1 (List.map ci [1,2]) 1012,B false, .fn (.func 78) [] [.ptr 1013 0]]) rfl Qa Qa Qa Qa Qa (Jc h5)) (xR 6 Qa (xE (Ql (ai yI l1_1 x3 false (.func 78) l1_2 l1_3 l1_4 l1_5 yS yF yD h7_m h8_m l1_6) Qa (sS (sS (Vo Qd rfl (xR 9 Qa ?_)))))))
  refine FK rfl Qa Qa (Yk (f:=83) (args:=[.agg [.tsl 1 (List.map ci [1,2]) 1012,B false, .fn (.func 78) [] [.ptr 1013 0]],I yI.N]) Qa Qa Qa ?_)
  refine ED 2 rfl (fun hw6=>?_)
  refine Ce [.agg [.sl 1, .id, .id], .id] (QA n [1,2] false yI.N hw6) Qa Qa QS (fun r7=>?_)
  refine WG (xR 2 Qa (xE (Ql (aj yI l1_1 (!r7) x3 false (.func 78) l1_2 l1_3 l1_4 l1_5 yS yF yD h7_m h8_m l1_6) Qa (sC (!r7) Qa ?_ ?_))))
  ·refine sG (xR 1 Qa (Vp [] [I 9, .agg [I x3.Kind,S x3.Name,I x3.N,I x3.At, .p (.sl 5 (mI x3.Kids))]] [] [] [] Qa Tryz.func49 rfl Tryz.ntmps49 rfl Qa Qa Qa (Qg Qd ⟨[(0,I 9),qq 3],WA x3⟩ Qa (sG (xR 6 Qa (XC 116 (.agg [I 9,I x3.At]) Qa rfl Qa (ZR [] [] Qa ?_)))))))
   refine Kj (Zd (Zk (Zk (Zd ?_))))
   exact Kz ZG [] Qa Qa Qa
  refine sK (Ql (Ot yI l1_1 x3 false (.func 78) l1_2 l1_3 l1_4 l1_5 yS yF yD h7_m h8_m l1_6) Qa (sS (sS (Vo Qd rfl (xR 6 Qa ?_)))))
  refine ZM Qa Qa (Zu (kt:=9) (e:=4) (ke:=QQ) (ve:=QR) (eq:=Qb) (b:=1010) (m:=l1_6) (k:=x3.Name) (z0:=false) rfl Qa Qa Qa Qa Qa QS (fun _ _=>QY rfl _ _) Qa) ?_
  refine Yg Qa (Ql (ak yI l1_1 (QE Qb x3.Name false l1_6) x3 false (.func 78) l1_2 l1_3 l1_4 l1_5 yS yF yD h7_m h8_m l1_6) Qa (sC (QE Qb x3.Name false l1_6) Qa ?_ ?_))
  ·refine sG (xR 1 Qa (Vp [] [I 5, .agg [I x3.Kind,S x3.Name,I x3.N,I x3.At, .p (.sl 5 (mI x3.Kids))]] [] [] [] Qa Tryz.func49 rfl Tryz.ntmps49 rfl Qa Qa Qa (Qg Qd ⟨[(0,I 5),qq 3],WA x3⟩ Qa (sG (xR 6 Qa (XC 116 (.agg [I 5,I x3.At]) Qa rfl Qa (ZR [] [] Qa ?_)))))))
   refine Kj (Zd (Zk (Zk (Zd ?_))))
   exact Kz ZG [] Qa Qa Qa
  refine sK (Ql (Ot yI l1_1 x3 false (.func 78) l1_2 l1_3 l1_4 l1_5 yS yF yD h7_m h8_m l1_6) Qa (sS (Vo Qd rfl (xR 6 Qa ?_))))
  refine ZM Qa Qa (Yl (kt:=9) (e:=4) (ke:=QQ) (ve:=QR) (eq:=Qb) (b:=1010) (m:=l1_6) (k:=x3.Name) (v:=true) rfl Qa Qa Qa Qa Qa Qa QS (fun _ _=>QY rfl _ _)) ?_
  refine Yg Qa (Ql (Ot yI l1_1 x3 false (.func 78) l1_2 l1_3 l1_4 l1_5 yS yF yD h7_m h8_m (Qk Qb x3.Name true l1_6)) Qa (sG (xR 4 Qa (Vp ((KF yI l1_2 l1_3 l1_4 l1_5)++QI yS yF yD h7_m h8_m++(yo (Qk Qb x3.Name true l1_6) 1000)) [YY, .agg [I x3.Kind,S x3.Name,I x3.N,I x3.At, .p (.sl 5 (mI x3.Kids))], .ptr 1011 0] nq6 [] [] Qa Tryz.func78 rfl Tryz.ntmps78 rfl Qa Qa Qa (Qg Qd (dB x3 yI l1_2 l1_3 l1_4 l1_5 yS yF yD h7_m h8_m (Qk Qb x3.Name true l1_6) 1000) Qa (sG (xR 4 Qa ?_)))))))
  refine Gg [.id, .sl 2] Qa (Z7 n x3 [(⟨1,1000⟩:ZH)]) Qa Qa QS QS (fun r8=>?_) (fun e9=>?_)
  ·refine xG Qa Qa (QN (e:=3) (S:=1) (enc:=ci) (l:=r8) (k:=.i64) (n:=0) (sv:=.p (.sl 1 (List.map ci r8))) rfl Qa Qa Qa Qa Qa) (fun x10=>?_)
   refine xR 5 Qa (xE (Hg (.id) [1000,1001,1002,1003,1004,1005,1006,1007,1008,1009,1010,1011] [] (.tup []) Qa Qa (WG (xE (Za ?_)))))
   exact KZ (k:=fun (j2_1,j2_2,j2_3,j2_4,j2_5)=>QF l1_1 recl1 j2_1 j2_2 j2_3 j2_4 j2_5) ((⟨l1_2.Name,l1_2.Up,x10,l1_2.Neutral,l1_2.Fuse,l1_2.Cable⟩:ZE),l1_3,l1_4,l1_5,Qk Qb x3.Name true l1_6) Qa
  refine ZR [1000,1001,1002,1003,1004,1005,1006,1007,1008,1009,1010,1011] [] Qa (Zd (Zk (Zk (Zd ?_))))
  exact Kz ZG [] Qa Qa Qa
 refine xS (QK x3.Name [110,101,117,116,114,97,108]&&true) (fun h11=>?_) (fun h11=>?_)
 ·refine ZM Qa Qa (Jd (kt:=9) (e:=111) (b:=1011) (w:=x3.Name) (ok:=true) (es:=(Ur 1012 1013 1014 1015 1016 1017 1018 1019 1020 1021)) (v:=.agg [.tsl 1 (List.map ci [1,2]) 1012,B false, .fn (.func 79) [] [.ptr 1013 0]]) rfl Qa Qa Qa Qa Qa (Qu h5 (Jc h11))) (xR 6 Qa (xE (Ql (ai yI l1_1 x3 false (.func 79) l1_2 l1_3 l1_4 l1_5 yS yF yD h7_m h8_m l1_6) Qa (sS (sS (Vo Qd rfl (xR 9 Qa ?_)))))))
  refine FK rfl Qa Qa (Yk (f:=83) (args:=[.agg [.tsl 1 (List.map ci [1,2]) 1012,B false, .fn (.func 79) [] [.ptr 1013 0]],I yI.N]) Qa Qa Qa ?_)
  refine ED 2 rfl (fun hw12=>?_)
  refine Ce [.agg [.sl 1, .id, .id], .id] (QA n [1,2] false yI.N hw12) Qa Qa QS (fun r13=>?_)
  refine WG (xR 2 Qa (xE (Ql (aj yI l1_1 (!r13) x3 false (.func 79) l1_2 l1_3 l1_4 l1_5 yS yF yD h7_m h8_m l1_6) Qa (sC (!r13) Qa ?_ ?_))))
  ·refine sG (xR 1 Qa (Vp [] [I 9, .agg [I x3.Kind,S x3.Name,I x3.N,I x3.At, .p (.sl 5 (mI x3.Kids))]] [] [] [] Qa Tryz.func49 rfl Tryz.ntmps49 rfl Qa Qa Qa (Qg Qd ⟨[(0,I 9),qq 3],WA x3⟩ Qa (sG (xR 6 Qa (XC 116 (.agg [I 9,I x3.At]) Qa rfl Qa (ZR [] [] Qa ?_)))))))
   refine Kj (Zd (Zk (Zk (Zd ?_))))
   exact Kz ZG [] Qa Qa Qa
  refine sK (Ql (Ot yI l1_1 x3 false (.func 79) l1_2 l1_3 l1_4 l1_5 yS yF yD h7_m h8_m l1_6) Qa (sS (sS (Vo Qd rfl (xR 6 Qa ?_)))))
  refine ZM Qa Qa (Zu (kt:=9) (e:=4) (ke:=QQ) (ve:=QR) (eq:=Qb) (b:=1010) (m:=l1_6) (k:=x3.Name) (z0:=false) rfl Qa Qa Qa Qa Qa QS (fun _ _=>QY rfl _ _) Qa) ?_
  refine Yg Qa (Ql (ak yI l1_1 (QE Qb x3.Name false l1_6) x3 false (.func 79) l1_2 l1_3 l1_4 l1_5 yS yF yD h7_m h8_m l1_6) Qa (sC (QE Qb x3.Name false l1_6) Qa ?_ ?_))
  ·refine sG (xR 1 Qa (Vp [] [I 5, .agg [I x3.Kind,S x3.Name,I x3.N,I x3.At, .p (.sl 5 (mI x3.Kids))]] [] [] [] Qa Tryz.func49 rfl Tryz.ntmps49 rfl Qa Qa Qa (Qg Qd ⟨[(0,I 5),qq 3],WA x3⟩ Qa (sG (xR 6 Qa (XC 116 (.agg [I 5,I x3.At]) Qa rfl Qa (ZR [] [] Qa ?_)))))))
   refine Kj (Zd (Zk (Zk (Zd ?_))))
   exact Kz ZG [] Qa Qa Qa
  refine sK (Ql (Ot yI l1_1 x3 false (.func 79) l1_2 l1_3 l1_4 l1_5 yS yF yD h7_m h8_m l1_6) Qa (sS (Vo Qd rfl (xR 6 Qa ?_))))
  refine ZM Qa Qa (Yl (kt:=9) (e:=4) (ke:=QQ) (ve:=QR) (eq:=Qb) (b:=1010) (m:=l1_6) (k:=x3.Name) (v:=true) rfl Qa Qa Qa Qa Qa Qa QS (fun _ _=>QY rfl _ _)) ?_
  refine Yg Qa (Ql (Ot yI l1_1 x3 false (.func 79) l1_2 l1_3 l1_4 l1_5 yS yF yD h7_m h8_m (Qk Qb x3.Name true l1_6)) Qa (sG (xR 4 Qa (Vp ((KF yI l1_2 l1_3 l1_4 l1_5)++QI yS yF yD h7_m h8_m++(yo (Qk Qb x3.Name true l1_6) 1000)) [YY, .agg [I x3.Kind,S x3.Name,I x3.N,I x3.At, .p (.sl 5 (mI x3.Kids))], .ptr 1011 0] nq6 [] [] Qa Tryz.func79 rfl Tryz.ntmps79 rfl Qa Qa Qa (Qg Qd (dB x3 yI l1_2 l1_3 l1_4 l1_5 yS yF yD h7_m h8_m (Qk Qb x3.Name true l1_6) 1000) Qa (sG (xR 4 Qa ?_)))))))
  refine Gg [.id, .sl 2] Qa (Z7 n x3 [(⟨1,1000⟩:ZH)]) Qa Qa QS QS (fun r14=>?_) (fun e15=>?_)
  ·refine xG Qa Qa (QN (e:=3) (S:=1) (enc:=ci) (l:=r14) (k:=.i64) (n:=0) (sv:=.p (.sl 1 (List.map ci r14))) rfl Qa Qa Qa Qa Qa) (fun x16=>?_)
   refine xR 5 Qa (xE (Hg (.id) [1000,1001,1002,1003,1004,1005,1006,1007,1008,1009,1010,1011] [] (.tup []) Qa Qa (WG (xE (Za ?_)))))
   exact KZ (k:=fun (j2_1,j2_2,j2_3,j2_4,j2_5)=>QF l1_1 recl1 j2_1 j2_2 j2_3 j2_4 j2_5) ((⟨l1_2.Name,l1_2.Up,l1_2.Limit,x16,l1_2.Fuse,l1_2.Cable⟩:ZE),l1_3,l1_4,l1_5,Qk Qb x3.Name true l1_6) Qa
  refine ZR [1000,1001,1002,1003,1004,1005,1006,1007,1008,1009,1010,1011] [] Qa (Zd (Zk (Zk (Zd ?_))))
  exact Kz ZG [] Qa Qa Qa
 refine xS (QK x3.Name [102,117,115,101]&&true) (fun h17=>?_) (fun h17=>?_)
 ·refine ZM Qa Qa (Jd (kt:=9) (e:=111) (b:=1011) (w:=x3.Name) (ok:=true) (es:=(Ur 1012 1013 1014 1015 1016 1017 1018 1019 1020 1021)) (v:=.agg [.tsl 1 (List.map ci [1,2]) 1012,B true, .fn (.func 80) [] [.ptr 1013 0]]) rfl Qa Qa Qa Qa Qa (Qu h5 (Qu h11 (Jc h17)))) (xR 6 Qa (xE (Ql (ai yI l1_1 x3 true (.func 80) l1_2 l1_3 l1_4 l1_5 yS yF yD h7_m h8_m l1_6) Qa (sS (sS (Vo Qd rfl (xR 9 Qa ?_)))))))
  refine FK rfl Qa Qa (Yk (f:=83) (args:=[.agg [.tsl 1 (List.map ci [1,2]) 1012,B true, .fn (.func 80) [] [.ptr 1013 0]],I yI.N]) Qa Qa Qa ?_)
  refine ED 2 rfl (fun hw18=>?_)
  refine Ce [.agg [.sl 1, .id, .id], .id] (QA n [1,2] true yI.N hw18) Qa Qa QS (fun r19=>?_)
  refine WG (xR 2 Qa (xE (Ql (aj yI l1_1 (!r19) x3 true (.func 80) l1_2 l1_3 l1_4 l1_5 yS yF yD h7_m h8_m l1_6) Qa (sC (!r19) Qa ?_ ?_))))
  ·refine sG (xR 1 Qa (Vp [] [I 9, .agg [I x3.Kind,S x3.Name,I x3.N,I x3.At, .p (.sl 5 (mI x3.Kids))]] [] [] [] Qa Tryz.func49 rfl Tryz.ntmps49 rfl Qa Qa Qa (Qg Qd ⟨[(0,I 9),qq 3],WA x3⟩ Qa (sG (xR 6 Qa (XC 116 (.agg [I 9,I x3.At]) Qa rfl Qa (ZR [] [] Qa ?_)))))))
   refine Kj (Zd (Zk (Zk (Zd ?_))))
   exact Kz ZG [] Qa Qa Qa
  refine sK (Ql (Ot yI l1_1 x3 true (.func 80) l1_2 l1_3 l1_4 l1_5 yS yF yD h7_m h8_m l1_6) Qa (sS (sS (Vo Qd rfl (xR 6 Qa ?_)))))
  refine ZM Qa Qa (Zu (kt:=9) (e:=4) (ke:=QQ) (ve:=QR) (eq:=Qb) (b:=1010) (m:=l1_6) (k:=x3.Name) (z0:=false) rfl Qa Qa Qa Qa Qa QS (fun _ _=>QY rfl _ _) Qa) ?_
  refine Yg Qa (Ql (ak yI l1_1 (QE Qb x3.Name false l1_6) x3 true (.func 80) l1_2 l1_3 l1_4 l1_5 yS yF yD h7_m h8_m l1_6) Qa (sC (QE Qb x3.Name false l1_6) Qa ?_ ?_))
  ·refine sG (xR 1 Qa (Vp [] [I 5, .agg [I x3.Kind,S x3.Name,I x3.N,I x3.At, .p (.sl 5 (mI x3.Kids))]] [] [] [] Qa Tryz.func49 rfl Tryz.ntmps49 rfl Qa Qa Qa (Qg Qd ⟨[(0,I 5),qq 3],WA x3⟩ Qa (sG (xR 6 Qa (XC 116 (.agg [I 5,I x3.At]) Qa rfl Qa (ZR [] [] Qa ?_)))))))
   refine Kj (Zd (Zk (Zk (Zd ?_))))
   exact Kz ZG [] Qa Qa Qa
  refine sK (Ql (Ot yI l1_1 x3 true (.func 80) l1_2 l1_3 l1_4 l1_5 yS yF yD h7_m h8_m l1_6) Qa (sS (Vo Qd rfl (xR 6 Qa ?_))))
  refine ZM Qa Qa (Yl (kt:=9) (e:=4) (ke:=QQ) (ve:=QR) (eq:=Qb) (b:=1010) (m:=l1_6) (k:=x3.Name) (v:=true) rfl Qa Qa Qa Qa Qa Qa QS (fun _ _=>QY rfl _ _)) ?_
  refine Yg Qa (Ql (Ot yI l1_1 x3 true (.func 80) l1_2 l1_3 l1_4 l1_5 yS yF yD h7_m h8_m (Qk Qb x3.Name true l1_6)) Qa (sG (xR 4 Qa (Vp ((KF yI l1_2 l1_3 l1_4 l1_5)++QI yS yF yD h7_m h8_m++(yo (Qk Qb x3.Name true l1_6) 1000)) [YY, .agg [I x3.Kind,S x3.Name,I x3.N,I x3.At, .p (.sl 5 (mI x3.Kids))], .ptr 1011 0] nq6 [] [] Qa Tryz.func80 rfl Tryz.ntmps80 rfl Qa Qa Qa (Qg Qd (dB x3 yI l1_2 l1_3 l1_4 l1_5 yS yF yD h7_m h8_m (Qk Qb x3.Name true l1_6) 1000) Qa (sS (sG ?_)))))))
  refine xR 4 Qa ?_
  refine Gg [.id, .sl 2] Qa (Z7 n x3 [(⟨1,1000⟩:ZH),(⟨0,1000000⟩:ZH)]) Qa Qa QS QS (fun r20=>?_) (fun e21=>?_)
  ·refine xR 1 Qa (xE (Ql ⟨QaV r20,KF yI l1_2 l1_3 l1_4 l1_5++QI yS yF yD h7_m h8_m++yo (Qk Qb x3.Name true l1_6) 1000⟩ Qa (Vo Qd rfl (xR 2 Qa ?_))))
   refine xG Qa Qa (QN (e:=3) (S:=1) (enc:=ci) (l:=r20) (k:=.i64) (n:=0) (sv:=.p (.sl 1 (List.map ci r20))) rfl Qa Qa Qa Qa Qa) (fun x22=>?_)
   refine xR 2 Qa ?_
   refine xG Qa Qa (QN (e:=3) (S:=1) (enc:=ci) (l:=r20) (k:=.i64) (n:=1) (sv:=.p (.sl 1 (List.map ci r20))) rfl Qa Qa Qa Qa Qa) (fun x23=>?_)
   refine xR 6 Qa (Yg Qa (Hg (.id) [1000,1001,1002,1003,1004,1005,1006,1007,1008,1009,1010,1011] [] (.tup []) Qa Qa (WG (xE (Za ?_)))))
   exact KZ (k:=fun (j2_1,j2_2,j2_3,j2_4,j2_5)=>QF l1_1 recl1 j2_1 j2_2 j2_3 j2_4 j2_5) ((⟨l1_2.Name,l1_2.Up,l1_2.Limit,l1_2.Neutral,(⟨x22,x23⟩:CR),l1_2.Cable⟩:ZE),l1_3,l1_4,l1_5,Qk Qb x3.Name true l1_6) Qa
  refine Kj (ZR [1000,1001,1002,1003,1004,1005,1006,1007,1008,1009,1010,1011] [] Qa (Zd (Zk (Zk (Zd ?_)))))
  exact Kz ZG [] Qa Qa Qa
 refine xS (QK x3.Name [116,104,101,114,109,97,108]&&true) (fun h24=>?_) (fun h24=>?_)
 ·refine ZM Qa Qa (Jd (kt:=9) (e:=111) (b:=1011) (w:=x3.Name) (ok:=true) (es:=(Ur 1012 1013 1014 1015 1016 1017 1018 1019 1020 1021)) (v:=.agg [.tsl 1 (List.map ci [1,2]) 1012,B true, .p (.val (.func (.func 81) #[] #[]))]) rfl Qa Qa Qa Qa Qa (Qu h5 (Qu h11 (Qu h17 (Jc h24))))) (xR 6 Qa (xE (Ql ⟨SX true yI l1_1,dC x3++KF yI l1_2 l1_3 l1_4 l1_5++QI yS yF yD h7_m h8_m++KU l1_6++Zg⟩ Qa (sS (sS (Vo Qd rfl (xR 9 Qa ?_)))))))
  refine xC [.agg [.sl 1, .id, .id], .id] Qa (QA n [1,2] true yI.N (.func 81,#[],#[])) Qa Qa QS (fun r25=>?_)
  refine xR 2 Qa (Yg Qa (Ql ⟨SY yI l1_1 (!r25),dC x3++KF yI l1_2 l1_3 l1_4 l1_5++QI yS yF yD h7_m h8_m++KU l1_6++Zg⟩ Qa (sC (!r25) Qa ?_ ?_)))
  ·refine sG (xR 1 Qa (Vp [] [I 9, .agg [I x3.Kind,S x3.Name,I x3.N,I x3.At, .p (.sl 5 (mI x3.Kids))]] [] [] [] Qa Tryz.func49 rfl Tryz.ntmps49 rfl Qa Qa Qa (Qg Qd ⟨[(0,I 9),qq 3],WA x3⟩ Qa (sG (xR 6 Qa (XC 116 (.agg [I 9,I x3.At]) Qa rfl Qa (ZR [] [] Qa ?_)))))))
   refine Kj (Zd (Zk (Zk (Zd ?_))))
   exact Kz ZG [] Qa Qa Qa
  refine sK (Ql (au yI l1_1 x3 l1_2 l1_3 l1_4 l1_5 yS yF yD h7_m h8_m l1_6) Qa (sS (sS (Vo Qd rfl (xR 6 Qa ?_)))))
  refine ZM Qa Qa (Zu (kt:=9) (e:=4) (ke:=QQ) (ve:=QR) (eq:=Qb) (b:=1010) (m:=l1_6) (k:=x3.Name) (z0:=false) rfl Qa Qa Qa Qa Qa QS (fun _ _=>QY rfl _ _) Qa) ?_
  refine Yg Qa (Ql ⟨Ou yI l1_1 (QE Qb x3.Name false l1_6),dC x3++KF yI l1_2 l1_3 l1_4 l1_5++QI yS yF yD h7_m h8_m++KU l1_6++Zg⟩ Qa (sC (QE Qb x3.Name false l1_6) Qa ?_ ?_))
  ·refine sG (xR 1 Qa (Vp [] [I 5, .agg [I x3.Kind,S x3.Name,I x3.N,I x3.At, .p (.sl 5 (mI x3.Kids))]] [] [] [] Qa Tryz.func49 rfl Tryz.ntmps49 rfl Qa Qa Qa (Qg Qd ⟨[(0,I 5),qq 3],WA x3⟩ Qa (sG (xR 6 Qa (XC 116 (.agg [I 5,I x3.At]) Qa rfl Qa (ZR [] [] Qa ?_)))))))
   refine Kj (Zd (Zk (Zk (Zd ?_))))
   exact Kz ZG [] Qa Qa Qa
  refine sK (Ql (au yI l1_1 x3 l1_2 l1_3 l1_4 l1_5 yS yF yD h7_m h8_m l1_6) Qa (sS (Vo Qd rfl (xR 6 Qa ?_))))
  refine ZM Qa Qa (Yl (kt:=9) (e:=4) (ke:=QQ) (ve:=QR) (eq:=Qb) (b:=1010) (m:=l1_6) (k:=x3.Name) (v:=true) rfl Qa Qa Qa Qa Qa Qa QS (fun _ _=>QY rfl _ _)) ?_
  refine Yg Qa (Ql (au yI l1_1 x3 l1_2 l1_3 l1_4 l1_5 yS yF yD h7_m h8_m (Qk Qb x3.Name true l1_6)) Qa (sG (xR 4 Qa (Vp ((KF yI l1_2 l1_3 l1_4 l1_5)++QI yS yF yD h7_m h8_m++(KU (Qk Qb x3.Name true l1_6))) [YY, .agg [I x3.Kind,S x3.Name,I x3.N,I x3.At, .p (.sl 5 (mI x3.Kids))]] rY [] [] Qa Tryz.func81 rfl Tryz.ntmps81 rfl Qa Qa Qa (Qg Qd (zn x3 yI l1_2 l1_3 l1_4 l1_5 yS yF yD h7_m h8_m (Qk Qb x3.Name true l1_6)) Qa (sS (sG ?_)))))))
  refine xR 7 Qa ?_
  refine Gg [.id, .sl 2] Qa (Z7 n x3 [(⟨0,200000⟩:ZH),(⟨0,200000⟩:ZH),(⟨0,1000⟩:ZH),(⟨0,1000⟩:ZH),(⟨1,1000000⟩:ZH)]) Qa Qa QS QS (fun r26=>?_) (fun e27=>?_)
  rotate_left
  ·refine Kj (ZR [1000,1001,1002,1003,1004,1005,1006,1007,1008,1009,1010] [] Qa (Zd (Zk (Zk (Zd ?_)))))
   exact Kz ZG [] Qa Qa Qa
  refine xR 1 Qa (xE (Ql ⟨[(0,YY),(4, .p (.sl 1 (List.map ci r26)))],KF yI l1_2 l1_3 l1_4 l1_5++QI yS yF yD h7_m h8_m++KU (Qk Qb x3.Name true l1_6)⟩ Qa (Vo Qd rfl (xR 2 Qa ?_))))
  refine xG Qa Qa (QN (e:=3) (S:=1) (enc:=ci) (l:=r26) (k:=.i64) (n:=0) (sv:=.p (.sl 1 (List.map ci r26))) rfl Qa Qa Qa Qa Qa) (fun x28=>?_)
  refine xR 2 Qa ?_
  refine xG Qa Qa (QN (e:=3) (S:=1) (enc:=ci) (l:=r26) (k:=.i64) (n:=1) (sv:=.p (.sl 1 (List.map ci r26))) rfl Qa Qa Qa Qa Qa) (fun x29=>?_)
  refine xR 2 Qa ?_
  refine xG Qa Qa (QN (e:=3) (S:=1) (enc:=ci) (l:=r26) (k:=.i64) (n:=2) (sv:=.p (.sl 1 (List.map ci r26))) rfl Qa Qa Qa Qa Qa) (fun x30=>?_)
  refine xR 2 Qa ?_
  refine xG Qa Qa (QN (e:=3) (S:=1) (enc:=ci) (l:=r26) (k:=.i64) (n:=3) (sv:=.p (.sl 1 (List.map ci r26))) rfl Qa Qa Qa Qa Qa) (fun x31=>?_)
  refine xR 2 Qa ?_
  refine xG Qa Qa (QN (e:=3) (S:=1) (enc:=ci) (l:=r26) (k:=.i64) (n:=4) (sv:=.p (.sl 1 (List.map ci r26))) rfl Qa Qa Qa Qa Qa) (fun x32=>?_)
  refine xR 6 Qa (Yg Qa (Hg (.id) [1000,1001,1002,1003,1004,1005,1006,1007,1008,1009,1010] [] (.tup []) Qa Qa (WG (xE (Za ?_)))))
  exact KZ (k:=fun (j2_1,j2_2,j2_3,j2_4,j2_5)=>QF l1_1 recl1 j2_1 j2_2 j2_3 j2_4 j2_5) ((⟨l1_2.Name,l1_2.Up,l1_2.Limit,l1_2.Neutral,l1_2.Fuse,(⟨x28,x29,x30,x31,x32⟩:XF)⟩:ZE),l1_3,l1_4,l1_5,Qk Qb x3.Name true l1_6) Qa
 refine xS (QK x3.Name [102,114,111,109]&&true) (fun h33=>?_) (fun h33=>?_)
 ·refine ZM Qa Qa (Jd (kt:=9) (e:=111) (b:=1011) (w:=x3.Name) (ok:=true) (es:=(Ur 1012 1013 1014 1015 1016 1017 1018 1019 1020 1021)) (v:=.agg [.tsl 1 (List.map ci [2]) 1014,B false, .fn (.func 82) [] [.ptr 1015 0]]) rfl Qa Qa Qa Qa Qa (Qu h5 (Qu h11 (Qu h17 (Qu h24 (Jc h33)))))) (xR 6 Qa (xE (Ql ⟨SX true yI l1_1,dD x3++KF yI l1_2 l1_3 l1_4 l1_5++QI yS yF yD h7_m h8_m++KU l1_6++Zg⟩ Qa (sS (sS (Vo Qd rfl (xR 9 Qa ?_)))))))
  refine FK rfl Qa Qa (Yk (f:=83) (args:=[.agg [.tsl 1 (List.map ci [2]) 1014,B false, .fn (.func 82) [] [.ptr 1015 0]],I yI.N]) Qa Qa Qa ?_)
  refine ED 2 rfl (fun hw34=>?_)
  refine Ce [.agg [.sl 1, .id, .id], .id] (QA n [2] false yI.N hw34) Qa Qa QS (fun r35=>?_)
  refine WG (xR 2 Qa (xE (Ql ⟨SY yI l1_1 (!r35),dD x3++KF yI l1_2 l1_3 l1_4 l1_5++QI yS yF yD h7_m h8_m++KU l1_6++Zg⟩ Qa (sC (!r35) Qa ?_ ?_))))
  ·refine sG (xR 1 Qa (Vp [] [I 9, .agg [I x3.Kind,S x3.Name,I x3.N,I x3.At, .p (.sl 5 (mI x3.Kids))]] [] [] [] Qa Tryz.func49 rfl Tryz.ntmps49 rfl Qa Qa Qa (Qg Qd ⟨[(0,I 9),qq 3],WA x3⟩ Qa (sG (xR 6 Qa (XC 116 (.agg [I 9,I x3.At]) Qa rfl Qa (ZR [] [] Qa ?_)))))))
   refine Kj (Zd (Zk (Zk (Zd ?_))))
   exact Kz ZG [] Qa Qa Qa
  refine sK (Ql (av yI l1_1 x3 l1_2 l1_3 l1_4 l1_5 yS yF yD h7_m h8_m l1_6) Qa (sS (sS (Vo Qd rfl (xR 6 Qa ?_)))))
  refine ZM Qa Qa (Zu (kt:=9) (e:=4) (ke:=QQ) (ve:=QR) (eq:=Qb) (b:=1010) (m:=l1_6) (k:=x3.Name) (z0:=false) rfl Qa Qa Qa Qa Qa QS (fun _ _=>QY rfl _ _) Qa) ?_
  refine Yg Qa (Ql ⟨Ou yI l1_1 (QE Qb x3.Name false l1_6),dD x3++KF yI l1_2 l1_3 l1_4 l1_5++QI yS yF yD h7_m h8_m++KU l1_6++Zg⟩ Qa (sC (QE Qb x3.Name false l1_6) Qa ?_ ?_))
  ·refine sG (xR 1 Qa (Vp [] [I 5, .agg [I x3.Kind,S x3.Name,I x3.N,I x3.At, .p (.sl 5 (mI x3.Kids))]] [] [] [] Qa Tryz.func49 rfl Tryz.ntmps49 rfl Qa Qa Qa (Qg Qd ⟨[(0,I 5),qq 3],WA x3⟩ Qa (sG (xR 6 Qa (XC 116 (.agg [I 5,I x3.At]) Qa rfl Qa (ZR [] [] Qa ?_)))))))
   refine Kj (Zd (Zk (Zk (Zd ?_))))
   exact Kz ZG [] Qa Qa Qa
  refine sK (Ql (av yI l1_1 x3 l1_2 l1_3 l1_4 l1_5 yS yF yD h7_m h8_m l1_6) Qa (sS (Vo Qd rfl (xR 6 Qa ?_))))
  refine ZM Qa Qa (Yl (kt:=9) (e:=4) (ke:=QQ) (ve:=QR) (eq:=Qb) (b:=1010) (m:=l1_6) (k:=x3.Name) (v:=true) rfl Qa Qa Qa Qa Qa Qa QS (fun _ _=>QY rfl _ _)) ?_
  refine Yg Qa (Ql (av yI l1_1 x3 l1_2 l1_3 l1_4 l1_5 yS yF yD h7_m h8_m (Qk Qb x3.Name true l1_6)) Qa (sG (xR 4 Qa (Vp ((KF yI l1_2 l1_3 l1_4 l1_5)++QI yS yF yD h7_m h8_m++(QaZ (Qk Qb x3.Name true l1_6))) [YY, .agg [I x3.Kind,S x3.Name,I x3.N,I x3.At, .p (.sl 5 (mI x3.Kids))], .ptr 1012 0] [(1000,1000),(1001,1001),(1002,1002),(1003,1003),(1004,1004),(1005,1005),(1006,1006),(1007,1007),(1008,1008),(1009,1009),(1010,1010),(1011,1012),(1012,1015)] [] [] Qa Tryz.func82 rfl Tryz.ntmps82 rfl Qa Qa Qa (Qg Qd ⟨[(0,YY),(2, .ptr 1012 0),qq 4],Hl x3++KF yI l1_2 l1_3 l1_4 l1_5++QI yS yF yD h7_m h8_m++QaZ (Qk Qb x3.Name true l1_6)⟩ Qa (sG (xR 4 Qa ?_)))))))
  refine UW [(1000,1000),(1001,1001),(1002,1002),(1003,1003),(1004,1004),(1005,1005),(1006,1006),(1007,1007),(1008,1008),(1009,1009),(1010,1010),(1011,1011)] [] [] Qa (Bg n x3 yI l1_2 l1_3 l1_4 l1_5 yS yF yD h7_m h8_m (Qk Qb x3.Name true l1_6)) Qa Qa Qa QS QS QS QS (fun r36=>?_) (fun e37=>?_)
  ·refine xR 4 Qa (xE (Hg (.id) [1000,1001,1002,1003,1004,1005,1006,1007,1008,1009,1010,1011,1012] [] (.tup []) Qa Qa (WG (xE (Za ?_)))))
   exact KZ (k:=fun (j2_1,j2_2,j2_3,j2_4,j2_5)=>QF l1_1 recl1 j2_1 j2_2 j2_3 j2_4 j2_5) ((⟨l1_2.Name,r36,l1_2.Limit,l1_2.Neutral,l1_2.Fuse,l1_2.Cable⟩:ZE),l1_3,l1_4,l1_5,Qk Qb x3.Name true l1_6) Qa
  refine ZR [1000,1001,1002,1003,1004,1005,1006,1007,1008,1009,1010,1011,1012] [] Qa (Zd (Zk (Zk (Zd ?_))))
  exact Kz ZG [] Qa Qa Qa
 refine xS (QK x3.Name [111,119,110,101,114]&&true) (fun h38=>?_) (fun h38=>?_)
 ·refine ZM Qa Qa (Jd (kt:=9) (e:=111) (b:=1011) (w:=x3.Name) (ok:=true) (es:=(Ur 1012 1013 1014 1015 1016 1017 1018 1019 1020 1021)) (v:=.agg [.tsl 1 (List.map ci [4,5]) 1016,B false, .p (.val (.func (.func 44) #[] #[]))]) rfl Qa Qa Qa Qa Qa (Qu h5 (Qu h11 (Qu h17 (Qu h24 (Qu h33 (Jc h38))))))) (xR 6 Qa (xE (Ql ⟨SX true yI l1_1,dE x3++KF yI l1_2 l1_3 l1_4 l1_5++QI yS yF yD h7_m h8_m++KU l1_6++Zg⟩ Qa (sS (sS (Vo Qd rfl (xR 9 Qa ?_)))))))
  refine xC [.agg [.sl 1, .id, .id], .id] Qa (QA n [4,5] false yI.N (.func 44,#[],#[])) Qa Qa QS (fun r39=>?_)
  refine xR 2 Qa (Yg Qa (Ql ⟨SY yI l1_1 (!r39),dE x3++KF yI l1_2 l1_3 l1_4 l1_5++QI yS yF yD h7_m h8_m++KU l1_6++Zg⟩ Qa (sC (!r39) Qa ?_ ?_)))
  ·refine sG (xR 1 Qa (Vp [] [I 9, .agg [I x3.Kind,S x3.Name,I x3.N,I x3.At, .p (.sl 5 (mI x3.Kids))]] [] [] [] Qa Tryz.func49 rfl Tryz.ntmps49 rfl Qa Qa Qa (Qg Qd ⟨[(0,I 9),qq 3],WA x3⟩ Qa (sG (xR 6 Qa (XC 116 (.agg [I 9,I x3.At]) Qa rfl Qa (ZR [] [] Qa ?_)))))))
   refine Kj (Zd (Zk (Zk (Zd ?_))))
   exact Kz ZG [] Qa Qa Qa
  refine sK (Ql (ax yI l1_1 x3 l1_2 l1_3 l1_4 l1_5 yS yF yD h7_m h8_m l1_6) Qa (sS (sS (Vo Qd rfl (xR 6 Qa ?_)))))
  refine ZM Qa Qa (Zu (kt:=9) (e:=4) (ke:=QQ) (ve:=QR) (eq:=Qb) (b:=1010) (m:=l1_6) (k:=x3.Name) (z0:=false) rfl Qa Qa Qa Qa Qa QS (fun _ _=>QY rfl _ _) Qa) ?_
  refine Yg Qa (Ql ⟨Ou yI l1_1 (QE Qb x3.Name false l1_6),dE x3++KF yI l1_2 l1_3 l1_4 l1_5++QI yS yF yD h7_m h8_m++KU l1_6++Zg⟩ Qa (sC (QE Qb x3.Name false l1_6) Qa ?_ ?_))
  ·refine sG (xR 1 Qa (Vp [] [I 5, .agg [I x3.Kind,S x3.Name,I x3.N,I x3.At, .p (.sl 5 (mI x3.Kids))]] [] [] [] Qa Tryz.func49 rfl Tryz.ntmps49 rfl Qa Qa Qa (Qg Qd ⟨[(0,I 5),qq 3],WA x3⟩ Qa (sG (xR 6 Qa (XC 116 (.agg [I 5,I x3.At]) Qa rfl Qa (ZR [] [] Qa ?_)))))))
   refine Kj (Zd (Zk (Zk (Zd ?_))))
   exact Kz ZG [] Qa Qa Qa
  refine sK (Ql (ax yI l1_1 x3 l1_2 l1_3 l1_4 l1_5 yS yF yD h7_m h8_m l1_6) Qa (sS (Vo Qd rfl (xR 6 Qa ?_))))
  refine ZM Qa Qa (Yl (kt:=9) (e:=4) (ke:=QQ) (ve:=QR) (eq:=Qb) (b:=1010) (m:=l1_6) (k:=x3.Name) (v:=true) rfl Qa Qa Qa Qa Qa Qa QS (fun _ _=>QY rfl _ _)) ?_
  refine Yg Qa (Ql (ax yI l1_1 x3 l1_2 l1_3 l1_4 l1_5 yS yF yD h7_m h8_m (Qk Qb x3.Name true l1_6)) Qa (sG (xR 4 Qa (Vp ((KF yI l1_2 l1_3 l1_4 l1_5)++QI yS yF yD h7_m h8_m++(KU (Qk Qb x3.Name true l1_6))) [YY, .agg [I x3.Kind,S x3.Name,I x3.N,I x3.At, .p (.sl 5 (mI x3.Kids))]] rY [] [] Qa Tryz.func44 rfl Tryz.ntmps44 rfl Qa Qa Qa (Qg Qd (zn x3 yI l1_2 l1_3 l1_4 l1_5 yS yF yD h7_m h8_m (Qk Qb x3.Name true l1_6)) Qa (sS (sG ?_)))))))
  refine xR 3 Qa ?_
  refine UW nq8 [] [] Qa (EL n x3 yI l1_2 l1_3 l1_4 l1_5 yS yF yD h7_m h8_m (Qk Qb x3.Name true l1_6)) Qa Qa Qa QS QS QS QS (fun r40=>?_) (fun e41=>?_)
  ·refine xR 1 Qa (xE (Ql ⟨[(0,YY),(4,I r40)],KF yI l1_2 l1_3 l1_4 l1_5++QI yS yF yD h7_m h8_m++KU (Qk Qb x3.Name true l1_6)⟩ Qa (sL Qd Qa (Hg (.id) [1000,1001,1002,1003,1004,1005,1006,1007,1008,1009,1010] [] (.tup []) Qa Qa (WG (xE (Za ?_)))))))
   exact KZ (k:=fun (j2_1,j2_2,j2_3,j2_4,j2_5)=>QF l1_1 recl1 j2_1 j2_2 j2_3 j2_4 j2_5) (l1_2,(⟨l1_3.Name,r40,l1_3.Rank,l1_3.Card⟩:ZO),(⟨l1_4.Name,l1_4.At,l1_4.Phases,l1_4.Min,l1_4.Max,l1_4.Step,l1_4.Fallback,r40⟩:ZT),l1_5,Qk Qb x3.Name true l1_6) Qa
  refine Kj (ZR [1000,1001,1002,1003,1004,1005,1006,1007,1008,1009,1010] [] Qa (Zd (Zk (Zk (Zd ?_)))))
  exact Kz ZG [] Qa Qa Qa
 refine xS (QK x3.Name [114,97,110,107]&&true) (fun h42=>?_) (fun h42=>?_)
 ·refine ZM Qa Qa (Jd (kt:=9) (e:=111) (b:=1011) (w:=x3.Name) (ok:=true) (es:=(Ur 1012 1013 1014 1015 1016 1017 1018 1019 1020 1021)) (v:=.agg [.tsl 1 (List.map ci [4]) 1017,B false, .p (.val (.func (.func 46) #[] #[]))]) rfl Qa Qa Qa Qa Qa (Qu h5 (Qu h11 (Qu h17 (Qu h24 (Qu h33 (Qu h38 (Jc h42)))))))) (xR 6 Qa (xE (Ql ⟨SX true yI l1_1,dF x3++KF yI l1_2 l1_3 l1_4 l1_5++QI yS yF yD h7_m h8_m++KU l1_6++Zg⟩ Qa (sS (sS (Vo Qd rfl (xR 9 Qa ?_)))))))
  refine xC [.agg [.sl 1, .id, .id], .id] Qa (QA n [4] false yI.N (.func 46,#[],#[])) Qa Qa QS (fun r43=>?_)
  refine xR 2 Qa (Yg Qa (Ql ⟨SY yI l1_1 (!r43),dF x3++KF yI l1_2 l1_3 l1_4 l1_5++QI yS yF yD h7_m h8_m++KU l1_6++Zg⟩ Qa (sC (!r43) Qa ?_ ?_)))
  ·refine sG (xR 1 Qa (Vp [] [I 9, .agg [I x3.Kind,S x3.Name,I x3.N,I x3.At, .p (.sl 5 (mI x3.Kids))]] [] [] [] Qa Tryz.func49 rfl Tryz.ntmps49 rfl Qa Qa Qa (Qg Qd ⟨[(0,I 9),qq 3],WA x3⟩ Qa (sG (xR 6 Qa (XC 116 (.agg [I 9,I x3.At]) Qa rfl Qa (ZR [] [] Qa ?_)))))))
   refine Kj (Zd (Zk (Zk (Zd ?_))))
   exact Kz ZG [] Qa Qa Qa
  refine sK (Ql (ay yI l1_1 x3 l1_2 l1_3 l1_4 l1_5 yS yF yD h7_m h8_m l1_6) Qa (sS (sS (Vo Qd rfl (xR 6 Qa ?_)))))
  refine ZM Qa Qa (Zu (kt:=9) (e:=4) (ke:=QQ) (ve:=QR) (eq:=Qb) (b:=1010) (m:=l1_6) (k:=x3.Name) (z0:=false) rfl Qa Qa Qa Qa Qa QS (fun _ _=>QY rfl _ _) Qa) ?_
  refine Yg Qa (Ql ⟨Ou yI l1_1 (QE Qb x3.Name false l1_6),dF x3++KF yI l1_2 l1_3 l1_4 l1_5++QI yS yF yD h7_m h8_m++KU l1_6++Zg⟩ Qa (sC (QE Qb x3.Name false l1_6) Qa ?_ ?_))
  ·refine sG (xR 1 Qa (Vp [] [I 5, .agg [I x3.Kind,S x3.Name,I x3.N,I x3.At, .p (.sl 5 (mI x3.Kids))]] [] [] [] Qa Tryz.func49 rfl Tryz.ntmps49 rfl Qa Qa Qa (Qg Qd ⟨[(0,I 5),qq 3],WA x3⟩ Qa (sG (xR 6 Qa (XC 116 (.agg [I 5,I x3.At]) Qa rfl Qa (ZR [] [] Qa ?_)))))))
   refine Kj (Zd (Zk (Zk (Zd ?_))))
   exact Kz ZG [] Qa Qa Qa
  refine sK (Ql (ay yI l1_1 x3 l1_2 l1_3 l1_4 l1_5 yS yF yD h7_m h8_m l1_6) Qa (sS (Vo Qd rfl (xR 6 Qa ?_))))
  refine ZM Qa Qa (Yl (kt:=9) (e:=4) (ke:=QQ) (ve:=QR) (eq:=Qb) (b:=1010) (m:=l1_6) (k:=x3.Name) (v:=true) rfl Qa Qa Qa Qa Qa Qa QS (fun _ _=>QY rfl _ _)) ?_
  refine Yg Qa (Ql (ay yI l1_1 x3 l1_2 l1_3 l1_4 l1_5 yS yF yD h7_m h8_m (Qk Qb x3.Name true l1_6)) Qa (sG (xR 4 Qa (Vp ((KF yI l1_2 l1_3 l1_4 l1_5)++QI yS yF yD h7_m h8_m++(KU (Qk Qb x3.Name true l1_6))) [YY, .agg [I x3.Kind,S x3.Name,I x3.N,I x3.At, .p (.sl 5 (mI x3.Kids))]] rY [] [] Qa Tryz.func46 rfl Tryz.ntmps46 rfl Qa Qa Qa (Qg Qd (zn x3 yI l1_2 l1_3 l1_4 l1_5 yS yF yD h7_m h8_m (Qk Qb x3.Name true l1_6)) Qa (sG (xR 4 Qa ?_)))))))
  refine Gg [.id, .sl 2] Qa (Z7 n x3 [(⟨1,9⟩:ZH)]) Qa Qa QS QS (fun r44=>?_) (fun e45=>?_)
  ·refine xG Qa Qa (QN (e:=3) (S:=1) (enc:=ci) (l:=r44) (k:=.i64) (n:=0) (sv:=.p (.sl 1 (List.map ci r44))) rfl Qa Qa Qa Qa Qa) (fun x46=>?_)
   refine xR 5 Qa (xE (Hg (.id) [1000,1001,1002,1003,1004,1005,1006,1007,1008,1009,1010] [] (.tup []) Qa Qa (WG (xE (Za ?_)))))
   exact KZ (k:=fun (j2_1,j2_2,j2_3,j2_4,j2_5)=>QF l1_1 recl1 j2_1 j2_2 j2_3 j2_4 j2_5) (l1_2,(⟨l1_3.Name,l1_3.Owner,x46,l1_3.Card⟩:ZO),l1_4,l1_5,Qk Qb x3.Name true l1_6) Qa
  refine ZR [1000,1001,1002,1003,1004,1005,1006,1007,1008,1009,1010] [] Qa (Zd (Zk (Zk (Zd ?_))))
  exact Kz ZG [] Qa Qa Qa
 refine xS (QK x3.Name [99,97,114,100]&&true) (fun h47=>?_) (fun h47=>?_)
 ·refine ZM Qa Qa (Jd (kt:=9) (e:=111) (b:=1011) (w:=x3.Name) (ok:=true) (es:=(Ur 1012 1013 1014 1015 1016 1017 1018 1019 1020 1021)) (v:=.agg [.tsl 1 (List.map ci [4]) 1018,B false, .p (.val (.func (.func 48) #[] #[]))]) rfl Qa Qa Qa Qa Qa (Qu h5 (Qu h11 (Qu h17 (Qu h24 (Qu h33 (Qu h38 (Qu h42 (Jc h47))))))))) (xR 6 Qa (xE (Ql ⟨SX true yI l1_1,dG x3++KF yI l1_2 l1_3 l1_4 l1_5++QI yS yF yD h7_m h8_m++KU l1_6++Zg⟩ Qa (sS (sS (Vo Qd rfl (xR 9 Qa ?_)))))))
  refine xC [.agg [.sl 1, .id, .id], .id] Qa (QA n [4] false yI.N (.func 48,#[],#[])) Qa Qa QS (fun r48=>?_)
  refine xR 2 Qa (Yg Qa (Ql ⟨SY yI l1_1 (!r48),dG x3++KF yI l1_2 l1_3 l1_4 l1_5++QI yS yF yD h7_m h8_m++KU l1_6++Zg⟩ Qa (sC (!r48) Qa ?_ ?_)))
  ·refine sG (xR 1 Qa (Vp [] [I 9, .agg [I x3.Kind,S x3.Name,I x3.N,I x3.At, .p (.sl 5 (mI x3.Kids))]] [] [] [] Qa Tryz.func49 rfl Tryz.ntmps49 rfl Qa Qa Qa (Qg Qd ⟨[(0,I 9),qq 3],WA x3⟩ Qa (sG (xR 6 Qa (XC 116 (.agg [I 9,I x3.At]) Qa rfl Qa (ZR [] [] Qa ?_)))))))
   refine Kj (Zd (Zk (Zk (Zd ?_))))
   exact Kz ZG [] Qa Qa Qa
  refine sK (Ql (az yI l1_1 x3 l1_2 l1_3 l1_4 l1_5 yS yF yD h7_m h8_m l1_6) Qa (sS (sS (Vo Qd rfl (xR 6 Qa ?_)))))
  refine ZM Qa Qa (Zu (kt:=9) (e:=4) (ke:=QQ) (ve:=QR) (eq:=Qb) (b:=1010) (m:=l1_6) (k:=x3.Name) (z0:=false) rfl Qa Qa Qa Qa Qa QS (fun _ _=>QY rfl _ _) Qa) ?_
  refine Yg Qa (Ql ⟨Ou yI l1_1 (QE Qb x3.Name false l1_6),dG x3++KF yI l1_2 l1_3 l1_4 l1_5++QI yS yF yD h7_m h8_m++KU l1_6++Zg⟩ Qa (sC (QE Qb x3.Name false l1_6) Qa ?_ ?_))
  ·refine sG (xR 1 Qa (Vp [] [I 5, .agg [I x3.Kind,S x3.Name,I x3.N,I x3.At, .p (.sl 5 (mI x3.Kids))]] [] [] [] Qa Tryz.func49 rfl Tryz.ntmps49 rfl Qa Qa Qa (Qg Qd ⟨[(0,I 5),qq 3],WA x3⟩ Qa (sG (xR 6 Qa (XC 116 (.agg [I 5,I x3.At]) Qa rfl Qa (ZR [] [] Qa ?_)))))))
   refine Kj (Zd (Zk (Zk (Zd ?_))))
   exact Kz ZG [] Qa Qa Qa
  refine sK (Ql (az yI l1_1 x3 l1_2 l1_3 l1_4 l1_5 yS yF yD h7_m h8_m l1_6) Qa (sS (Vo Qd rfl (xR 6 Qa ?_))))
  refine ZM Qa Qa (Yl (kt:=9) (e:=4) (ke:=QQ) (ve:=QR) (eq:=Qb) (b:=1010) (m:=l1_6) (k:=x3.Name) (v:=true) rfl Qa Qa Qa Qa Qa Qa QS (fun _ _=>QY rfl _ _)) ?_
  refine Yg Qa (Ql (az yI l1_1 x3 l1_2 l1_3 l1_4 l1_5 yS yF yD h7_m h8_m (Qk Qb x3.Name true l1_6)) Qa (sG (xR 4 Qa (Vp ((KF yI l1_2 l1_3 l1_4 l1_5)++QI yS yF yD h7_m h8_m++(KU (Qk Qb x3.Name true l1_6))) [YY, .agg [I x3.Kind,S x3.Name,I x3.N,I x3.At, .p (.sl 5 (mI x3.Kids))]] rY [] [] Qa Tryz.func48 rfl Tryz.ntmps48 rfl Qa Qa Qa (Qg Qd (zn x3 yI l1_2 l1_3 l1_4 l1_5 yS yF yD h7_m h8_m (Qk Qb x3.Name true l1_6)) Qa (sS (sG ?_)))))))
  refine xR 4 Qa ?_
  refine Gg [.id, .sl 2] Qa (Z7 n x3 [(⟨1,1000000⟩:ZH)]) Qa Qa QS QS (fun r49=>?_) (fun e50=>?_)
  rotate_left
  ·refine Kj (ZR [1000,1001,1002,1003,1004,1005,1006,1007,1008,1009,1010] [] Qa (Zd (Zk (Zk (Zd ?_)))))
   exact Kz ZG [] Qa Qa Qa
  refine xG Qa Qa (QN (e:=3) (S:=1) (enc:=ci) (l:=r49) (k:=.i64) (n:=0) (sv:=.p (.sl 1 (List.map ci r49))) rfl Qa Qa Qa Qa Qa) (fun x51=>?_)
  refine xR 5 Qa (xE (Ql ⟨[(0,YY),qq 3],WA x3++fV yI l1_2 l1_3 x51 l1_4 l1_5++QI yS yF yD h7_m h8_m++KU (Qk Qb x3.Name true l1_6)⟩ Qa (Qg Qd (dH yS 0 x3 yI l1_2 l1_3 x51 l1_4 l1_5 yF yD h7_m h8_m (Qk Qb x3.Name true l1_6)) Qa (sB (QH (fun l52=>(dH yS l52 x3 yI l1_2 l1_3 x51 l1_4 l1_5 yF yD h7_m h8_m (Qk Qb x3.Name true l1_6)):Int→St) (Xk Qa) ?_)))))
  rintro recl52 l52
  show QX (WQ yS l1_1 l1_2 l1_3 l1_4 l1_5 l1_6 recl1 x3 x51 recl52 l52) _ _ _ _ _ _
  unfold WQ
  refine Qg Qd ⟨[(0,YY),qq 3,(23, .tsl 4 (Gh yS.Contracts) 1004),(24,I (Qc (Gh yS.Contracts))),(25,I l52),(26,B (QL l52 (Qc (Gh yS.Contracts))))],WA x3++fV yI l1_2 l1_3 x51 l1_4 l1_5++QI yS yF yD h7_m h8_m++KU (Qk Qb x3.Name true l1_6)⟩ Qa (sS (sC (QL l52 (Qc (Gh yS.Contracts))) Qa ?_ ?_))
  rotate_left
  ·refine Qz (Kb (KY (QW (Hg (.id) [1000,1001,1002,1003,1004,1005,1006,1007,1008,1009,1010] [] (.tup []) Qa Qa (WG (xE (Za ?_)))))))
   exact KZ (k:=fun (j2_1,j2_2,j2_3,j2_4,j2_5)=>QF l1_1 recl1 j2_1 j2_2 j2_3 j2_4 j2_5) (l1_2,(⟨l1_3.Name,l1_3.Owner,l1_3.Rank,x51⟩:ZO),l1_4,l1_5,Qk Qb x3.Name true l1_6) Qa
  refine sK (Ql (dH yS l52 x3 yI l1_2 l1_3 x51 l1_4 l1_5 yF yD h7_m h8_m (Qk Qb x3.Name true l1_6)) Qa (sS (sB (sS (sG ?_)))))
  refine xG Qa Qa (QN (e:=54) (S:=4) (enc:=ZO.cs) (l:=yS.Contracts) (k:=.i64) (n:=l52) (sv:=.tsl 4 (Gh yS.Contracts) 1004) rfl Qa Qa Qa Qa Qa) (fun x53=>?_)
  refine xR 3 Qa (xE (Ql ⟨[(0,YY),qq 3,qq 5,(23, .tsl 4 (Gh yS.Contracts) 1004),(24,I (Qc (Gh yS.Contracts))),(25,I l52)],[(3,F3 x3),(5,yt x53)]++fV yI l1_2 l1_3 x51 l1_4 l1_5++QI yS yF yD h7_m h8_m++KU (Qk Qb x3.Name true l1_6)⟩ Qa (Qg Qd ⟨[(0,YY),qq 3,(23, .tsl 4 (Gh yS.Contracts) 1004),(24,I (Qc (Gh yS.Contracts))),(25,I l52),(36,B (Qi x53.Card x51))],WA x3++fV yI l1_2 l1_3 x51 l1_4 l1_5++QI yS yF yD h7_m h8_m++KU (Qk Qb x3.Name true l1_6)⟩ Qa (sC (Qi x53.Card x51) Qa ?_ ?_))))
  rotate_left
  ·refine sK (Za (Ql (dH yS l52 x3 yI l1_2 l1_3 x51 l1_4 l1_5 yF yD h7_m h8_m (Qk Qb x3.Name true l1_6)) Qa (sL Qd Qa ?_)))
   exact KZ (wi (l52+1)) Qa
  refine sG (xR 1 Qa (Vp [] [I 5, .agg [I x3.Kind,S x3.Name,I x3.N,I x3.At, .p (.sl 5 (mI x3.Kids))]] [] [] [] Qa Tryz.func49 rfl Tryz.ntmps49 rfl Qa Qa Qa (Qg Qd ⟨[(0,I 5),qq 3],WA x3⟩ Qa (sG (xR 6 Qa (XC 116 (.agg [I 5,I x3.At]) Qa rfl Qa (ZR [] [] Qa ?_)))))))
  refine Zd (Kj (Zk (Zd (ZR [1000,1001,1002,1003,1004,1005,1006,1007,1008,1009,1010] [] Qa (Zd (Zk (Zk ?_)))))))
  refine Zd ?_
  exact Kz ZG [] Qa Qa Qa
 refine xS (QK x3.Name [97,116]&&true) (fun h54=>?_) (fun h54=>?_)
 ·refine ZM Qa Qa (Jd (kt:=9) (e:=111) (b:=1011) (w:=x3.Name) (ok:=true) (es:=(Ur 1012 1013 1014 1015 1016 1017 1018 1019 1020 1021)) (v:=.agg [.tsl 1 (List.map ci [5]) 1019,B false, .p (.val (.func (.func 50) #[] #[]))]) rfl Qa Qa Qa Qa Qa (Qu h5 (Qu h11 (Qu h17 (Qu h24 (Qu h33 (Qu h38 (Qu h42 (Qu h47 (Jc h54)))))))))) (xR 6 Qa (xE (Ql (aA yI l1_1 x3 (.func (.func 50) #[] #[]) l1_2 l1_3 l1_4 l1_5 yS yF yD h7_m h8_m l1_6) Qa (sS (sS (Vo Qd rfl (xR 9 Qa ?_)))))))
  refine xC [.agg [.sl 1, .id, .id], .id] Qa (QA n [5] false yI.N (.func 50,#[],#[])) Qa Qa QS (fun r55=>?_)
  refine xR 2 Qa (Yg Qa (Ql (aB yI l1_1 (!r55) x3 (.func (.func 50) #[] #[]) l1_2 l1_3 l1_4 l1_5 yS yF yD h7_m h8_m l1_6) Qa (sC (!r55) Qa ?_ ?_)))
  ·refine sG (xR 1 Qa (Vp [] [I 9, .agg [I x3.Kind,S x3.Name,I x3.N,I x3.At, .p (.sl 5 (mI x3.Kids))]] [] [] [] Qa Tryz.func49 rfl Tryz.ntmps49 rfl Qa Qa Qa (Qg Qd ⟨[(0,I 9),qq 3],WA x3⟩ Qa (sG (xR 6 Qa (XC 116 (.agg [I 9,I x3.At]) Qa rfl Qa (ZR [] [] Qa ?_)))))))
   refine Kj (Zd (Zk (Zk (Zd ?_))))
   exact Kz ZG [] Qa Qa Qa
  refine sK (Ql (Ov yI l1_1 x3 (.func (.func 50) #[] #[]) l1_2 l1_3 l1_4 l1_5 yS yF yD h7_m h8_m l1_6) Qa (sS (sS (Vo Qd rfl (xR 6 Qa ?_)))))
  refine ZM Qa Qa (Zu (kt:=9) (e:=4) (ke:=QQ) (ve:=QR) (eq:=Qb) (b:=1010) (m:=l1_6) (k:=x3.Name) (z0:=false) rfl Qa Qa Qa Qa Qa QS (fun _ _=>QY rfl _ _) Qa) ?_
  refine Yg Qa (Ql (aC yI l1_1 (QE Qb x3.Name false l1_6) x3 (.func (.func 50) #[] #[]) l1_2 l1_3 l1_4 l1_5 yS yF yD h7_m h8_m l1_6) Qa (sC (QE Qb x3.Name false l1_6) Qa ?_ ?_))
  ·refine sG (xR 1 Qa (Vp [] [I 5, .agg [I x3.Kind,S x3.Name,I x3.N,I x3.At, .p (.sl 5 (mI x3.Kids))]] [] [] [] Qa Tryz.func49 rfl Tryz.ntmps49 rfl Qa Qa Qa (Qg Qd ⟨[(0,I 5),qq 3],WA x3⟩ Qa (sG (xR 6 Qa (XC 116 (.agg [I 5,I x3.At]) Qa rfl Qa (ZR [] [] Qa ?_)))))))
   refine Kj (Zd (Zk (Zk (Zd ?_))))
   exact Kz ZG [] Qa Qa Qa
  refine sK (Ql (Ov yI l1_1 x3 (.func (.func 50) #[] #[]) l1_2 l1_3 l1_4 l1_5 yS yF yD h7_m h8_m l1_6) Qa (sS (Vo Qd rfl (xR 6 Qa ?_))))
  refine ZM Qa Qa (Yl (kt:=9) (e:=4) (ke:=QQ) (ve:=QR) (eq:=Qb) (b:=1010) (m:=l1_6) (k:=x3.Name) (v:=true) rfl Qa Qa Qa Qa Qa Qa QS (fun _ _=>QY rfl _ _)) ?_
  refine Yg Qa (Ql (Ov yI l1_1 x3 (.func (.func 50) #[] #[]) l1_2 l1_3 l1_4 l1_5 yS yF yD h7_m h8_m (Qk Qb x3.Name true l1_6)) Qa (sG (xR 4 Qa (Vp ((KF yI l1_2 l1_3 l1_4 l1_5)++QI yS yF yD h7_m h8_m++(KU (Qk Qb x3.Name true l1_6))) [YY, .agg [I x3.Kind,S x3.Name,I x3.N,I x3.At, .p (.sl 5 (mI x3.Kids))]] rY [] [] Qa Tryz.func50 rfl Tryz.ntmps50 rfl Qa Qa Qa (Qg Qd (zn x3 yI l1_2 l1_3 l1_4 l1_5 yS yF yD h7_m h8_m (Qk Qb x3.Name true l1_6)) Qa (sG (xR 4 Qa ?_)))))))
  refine UW nq8 [] [] Qa (Bg n x3 yI l1_2 l1_3 l1_4 l1_5 yS yF yD h7_m h8_m (Qk Qb x3.Name true l1_6)) Qa Qa Qa QS QS QS QS (fun r56=>?_) (fun e57=>?_)
  ·refine xR 4 Qa (xE (Hg (.id) [1000,1001,1002,1003,1004,1005,1006,1007,1008,1009,1010] [] (.tup []) Qa Qa (WG (xE (Za ?_)))))
   exact KZ (k:=fun (j2_1,j2_2,j2_3,j2_4,j2_5)=>QF l1_1 recl1 j2_1 j2_2 j2_3 j2_4 j2_5) (l1_2,l1_3,(⟨l1_4.Name,r56,l1_4.Phases,l1_4.Min,l1_4.Max,l1_4.Step,l1_4.Fallback,l1_4.Owner⟩:ZT),l1_5,Qk Qb x3.Name true l1_6) Qa
  refine ZR [1000,1001,1002,1003,1004,1005,1006,1007,1008,1009,1010] [] Qa (Zd (Zk (Zk (Zd ?_))))
  exact Kz ZG [] Qa Qa Qa
 refine xS (QK x3.Name [112,104,97,115,101,115]&&true) (fun h58=>?_) (fun h58=>?_)
 ·refine ZM Qa Qa (Jd (kt:=9) (e:=111) (b:=1011) (w:=x3.Name) (ok:=true) (es:=(Ur 1012 1013 1014 1015 1016 1017 1018 1019 1020 1021)) (v:=.agg [.tsl 1 (List.map ci [5]) 1019,B false, .p (.val (.func (.func 51) #[] #[]))]) rfl Qa Qa Qa Qa Qa (Qu h5 (Qu h11 (Qu h17 (Qu h24 (Qu h33 (Qu h38 (Qu h42 (Qu h47 (Qu h54 (Jc h58))))))))))) (xR 6 Qa (xE (Ql (aA yI l1_1 x3 (.func (.func 51) #[] #[]) l1_2 l1_3 l1_4 l1_5 yS yF yD h7_m h8_m l1_6) Qa (sS (sS (Vo Qd rfl (xR 9 Qa ?_)))))))
  refine xC [.agg [.sl 1, .id, .id], .id] Qa (QA n [5] false yI.N (.func 51,#[],#[])) Qa Qa QS (fun r59=>?_)
  refine xR 2 Qa (Yg Qa (Ql (aB yI l1_1 (!r59) x3 (.func (.func 51) #[] #[]) l1_2 l1_3 l1_4 l1_5 yS yF yD h7_m h8_m l1_6) Qa (sC (!r59) Qa ?_ ?_)))
  ·refine sG (xR 1 Qa (Vp [] [I 9, .agg [I x3.Kind,S x3.Name,I x3.N,I x3.At, .p (.sl 5 (mI x3.Kids))]] [] [] [] Qa Tryz.func49 rfl Tryz.ntmps49 rfl Qa Qa Qa (Qg Qd ⟨[(0,I 9),qq 3],WA x3⟩ Qa (sG (xR 6 Qa (XC 116 (.agg [I 9,I x3.At]) Qa rfl Qa (ZR [] [] Qa ?_)))))))
   refine Kj (Zd (Zk (Zk (Zd ?_))))
   exact Kz ZG [] Qa Qa Qa
  refine sK (Ql (Ov yI l1_1 x3 (.func (.func 51) #[] #[]) l1_2 l1_3 l1_4 l1_5 yS yF yD h7_m h8_m l1_6) Qa (sS (sS (Vo Qd rfl (xR 6 Qa ?_)))))
  refine ZM Qa Qa (Zu (kt:=9) (e:=4) (ke:=QQ) (ve:=QR) (eq:=Qb) (b:=1010) (m:=l1_6) (k:=x3.Name) (z0:=false) rfl Qa Qa Qa Qa Qa QS (fun _ _=>QY rfl _ _) Qa) ?_
  refine Yg Qa (Ql (aC yI l1_1 (QE Qb x3.Name false l1_6) x3 (.func (.func 51) #[] #[]) l1_2 l1_3 l1_4 l1_5 yS yF yD h7_m h8_m l1_6) Qa (sC (QE Qb x3.Name false l1_6) Qa ?_ ?_))
  ·refine sG (xR 1 Qa (Vp [] [I 5, .agg [I x3.Kind,S x3.Name,I x3.N,I x3.At, .p (.sl 5 (mI x3.Kids))]] [] [] [] Qa Tryz.func49 rfl Tryz.ntmps49 rfl Qa Qa Qa (Qg Qd ⟨[(0,I 5),qq 3],WA x3⟩ Qa (sG (xR 6 Qa (XC 116 (.agg [I 5,I x3.At]) Qa rfl Qa (ZR [] [] Qa ?_)))))))
   refine Kj (Zd (Zk (Zk (Zd ?_))))
   exact Kz ZG [] Qa Qa Qa
  refine sK (Ql (Ov yI l1_1 x3 (.func (.func 51) #[] #[]) l1_2 l1_3 l1_4 l1_5 yS yF yD h7_m h8_m l1_6) Qa (sS (Vo Qd rfl (xR 6 Qa ?_))))
  refine ZM Qa Qa (Yl (kt:=9) (e:=4) (ke:=QQ) (ve:=QR) (eq:=Qb) (b:=1010) (m:=l1_6) (k:=x3.Name) (v:=true) rfl Qa Qa Qa Qa Qa Qa QS (fun _ _=>QY rfl _ _)) ?_
  refine Yg Qa (Ql (Ov yI l1_1 x3 (.func (.func 51) #[] #[]) l1_2 l1_3 l1_4 l1_5 yS yF yD h7_m h8_m (Qk Qb x3.Name true l1_6)) Qa (sG (xR 4 Qa (Vp ((KF yI l1_2 l1_3 l1_4 l1_5)++QI yS yF yD h7_m h8_m++(KU (Qk Qb x3.Name true l1_6))) [YY, .agg [I x3.Kind,S x3.Name,I x3.N,I x3.At, .p (.sl 5 (mI x3.Kids))]] rY [] [] Qa Tryz.func51 rfl Tryz.ntmps51 rfl Qa Qa Qa (Qg Qd (zn x3 yI l1_2 l1_3 l1_4 l1_5 yS yF yD h7_m h8_m (Qk Qb x3.Name true l1_6)) Qa (sG (xR 2 Qa ?_)))))))
  refine Gg [] Qa (MG n x3) Qa Qa QS QS (fun r60=>?_) (fun e61=>?_)
  ·refine xR 4 Qa (xE (Hg (.id) [1000,1001,1002,1003,1004,1005,1006,1007,1008,1009,1010] [] (.tup []) Qa Qa (WG (xE (Za ?_)))))
   exact KZ (k:=fun (j2_1,j2_2,j2_3,j2_4,j2_5)=>QF l1_1 recl1 j2_1 j2_2 j2_3 j2_4 j2_5) (l1_2,l1_3,(⟨l1_4.Name,l1_4.At,r60,l1_4.Min,l1_4.Max,l1_4.Step,l1_4.Fallback,l1_4.Owner⟩:ZT),l1_5,Qk Qb x3.Name true l1_6) Qa
  refine ZR [1000,1001,1002,1003,1004,1005,1006,1007,1008,1009,1010] [] Qa (Zd (Zk (Zk (Zd ?_))))
  exact Kz ZG [] Qa Qa Qa
 refine xS (QK x3.Name [97,109,112,115]&&true) (fun h62=>?_) (fun h62=>?_)
 ·refine ZM Qa Qa (Jd (kt:=9) (e:=111) (b:=1011) (w:=x3.Name) (ok:=true) (es:=(Ur 1012 1013 1014 1015 1016 1017 1018 1019 1020 1021)) (v:=.agg [.tsl 1 (List.map ci [5]) 1019,B false, .fn (.func 53) [] [.ptr 1020 0]]) rfl Qa Qa Qa Qa Qa (Qu h5 (Qu h11 (Qu h17 (Qu h24 (Qu h33 (Qu h38 (Qu h42 (Qu h47 (Qu h54 (Qu h58 (Jc h62)))))))))))) (xR 6 Qa (xE (Ql ⟨SX true yI l1_1,dK x3++KF yI l1_2 l1_3 l1_4 l1_5++QI yS yF yD h7_m h8_m++KU l1_6++Zg⟩ Qa (sS (sS (Vo Qd rfl (xR 9 Qa ?_)))))))
  refine FK rfl Qa Qa (Yk (f:=83) (args:=[.agg [.tsl 1 (List.map ci [5]) 1019,B false, .fn (.func 53) [] [.ptr 1020 0]],I yI.N]) Qa Qa Qa ?_)
  refine ED 2 rfl (fun hw63=>?_)
  refine Ce [.agg [.sl 1, .id, .id], .id] (QA n [5] false yI.N hw63) Qa Qa QS (fun r64=>?_)
  refine WG (xR 2 Qa (xE (Ql ⟨SY yI l1_1 (!r64),dK x3++KF yI l1_2 l1_3 l1_4 l1_5++QI yS yF yD h7_m h8_m++KU l1_6++Zg⟩ Qa (sC (!r64) Qa ?_ ?_))))
  ·refine sG (xR 1 Qa (Vp [] [I 9, .agg [I x3.Kind,S x3.Name,I x3.N,I x3.At, .p (.sl 5 (mI x3.Kids))]] [] [] [] Qa Tryz.func49 rfl Tryz.ntmps49 rfl Qa Qa Qa (Qg Qd ⟨[(0,I 9),qq 3],WA x3⟩ Qa (sG (xR 6 Qa (XC 116 (.agg [I 9,I x3.At]) Qa rfl Qa (ZR [] [] Qa ?_)))))))
   refine Kj (Zd (Zk (Zk (Zd ?_))))
   exact Kz ZG [] Qa Qa Qa
  refine sK (Ql (aD yI l1_1 x3 l1_2 l1_3 l1_4 l1_5 yS yF yD h7_m h8_m l1_6) Qa (sS (sS (Vo Qd rfl (xR 6 Qa ?_)))))
  refine ZM Qa Qa (Zu (kt:=9) (e:=4) (ke:=QQ) (ve:=QR) (eq:=Qb) (b:=1010) (m:=l1_6) (k:=x3.Name) (z0:=false) rfl Qa Qa Qa Qa Qa QS (fun _ _=>QY rfl _ _) Qa) ?_
  refine Yg Qa (Ql ⟨Ou yI l1_1 (QE Qb x3.Name false l1_6),dK x3++KF yI l1_2 l1_3 l1_4 l1_5++QI yS yF yD h7_m h8_m++KU l1_6++Zg⟩ Qa (sC (QE Qb x3.Name false l1_6) Qa ?_ ?_))
  ·refine sG (xR 1 Qa (Vp [] [I 5, .agg [I x3.Kind,S x3.Name,I x3.N,I x3.At, .p (.sl 5 (mI x3.Kids))]] [] [] [] Qa Tryz.func49 rfl Tryz.ntmps49 rfl Qa Qa Qa (Qg Qd ⟨[(0,I 5),qq 3],WA x3⟩ Qa (sG (xR 6 Qa (XC 116 (.agg [I 5,I x3.At]) Qa rfl Qa (ZR [] [] Qa ?_)))))))
   refine Kj (Zd (Zk (Zk (Zd ?_))))
   exact Kz ZG [] Qa Qa Qa
  refine sK (Ql (aD yI l1_1 x3 l1_2 l1_3 l1_4 l1_5 yS yF yD h7_m h8_m l1_6) Qa (sS (Vo Qd rfl (xR 6 Qa ?_))))
  refine ZM Qa Qa (Yl (kt:=9) (e:=4) (ke:=QQ) (ve:=QR) (eq:=Qb) (b:=1010) (m:=l1_6) (k:=x3.Name) (v:=true) rfl Qa Qa Qa Qa Qa Qa QS (fun _ _=>QY rfl _ _)) ?_
  refine Yg Qa (Ql (aD yI l1_1 x3 l1_2 l1_3 l1_4 l1_5 yS yF yD h7_m h8_m (Qk Qb x3.Name true l1_6)) Qa (sG (xR 4 Qa (Vp ((KF yI l1_2 l1_3 l1_4 l1_5)++QI yS yF yD h7_m h8_m++(yo (Qk Qb x3.Name true l1_6) 80)) [YY, .agg [I x3.Kind,S x3.Name,I x3.N,I x3.At, .p (.sl 5 (mI x3.Kids))], .ptr 1011 0] [(1000,1000),(1001,1001),(1002,1002),(1003,1003),(1004,1004),(1005,1005),(1006,1006),(1007,1007),(1008,1008),(1009,1009),(1010,1010),(1011,1020)] [] [] Qa Tryz.func53 rfl Tryz.ntmps53 rfl Qa Qa Qa (Qg Qd (dB x3 yI l1_2 l1_3 l1_4 l1_5 yS yF yD h7_m h8_m (Qk Qb x3.Name true l1_6) 80) Qa (sS (sG ?_)))))))
  refine xR 5 Qa ?_
  refine Gg [.id, .sl 2] Qa (Z7 n x3 [(⟨1,80⟩:ZH),(⟨1,80⟩:ZH),(⟨1,80⟩:ZH)]) Qa Qa QS QS (fun r65=>?_) (fun e66=>?_)
  rotate_left
  ·refine Kj (ZR [1000,1001,1002,1003,1004,1005,1006,1007,1008,1009,1010,1011] [] Qa (Zd (Zk (Zk (Zd ?_)))))
   exact Kz ZG [] Qa Qa Qa
  refine xR 1 Qa (xE (Ql ⟨QaV r65,KF yI l1_2 l1_3 l1_4 l1_5++QI yS yF yD h7_m h8_m++yo (Qk Qb x3.Name true l1_6) 80⟩ Qa (Vo Qd rfl (xR 4 Qa ?_))))
  refine xG Qa Qa (QN (e:=3) (S:=1) (enc:=ci) (l:=r65) (k:=.i64) (n:=0) (sv:=.p (.sl 1 (List.map ci r65))) rfl Qa Qa Qa Qa Qa) (fun x67=>?_)
  refine xR 2 Qa ?_
  refine xG Qa Qa (QN (e:=3) (S:=1) (enc:=ci) (l:=r65) (k:=.i64) (n:=1) (sv:=.p (.sl 1 (List.map ci r65))) rfl Qa Qa Qa Qa Qa) (fun x68=>?_)
  refine xR 2 Qa ?_
  refine xG Qa Qa (QN (e:=3) (S:=1) (enc:=ci) (l:=r65) (k:=.i64) (n:=2) (sv:=.p (.sl 1 (List.map ci r65))) rfl Qa Qa Qa Qa Qa) (fun x69=>?_)
  refine xR 13 Qa (Yg Qa (Hg (.id) [1000,1001,1002,1003,1004,1005,1006,1007,1008,1009,1010,1011] [] (.tup []) Qa Qa (WG (xE (Za ?_)))))
  exact KZ (k:=fun (j2_1,j2_2,j2_3,j2_4,j2_5)=>QF l1_1 recl1 j2_1 j2_2 j2_3 j2_4 j2_5) (l1_2,l1_3,(⟨l1_4.Name,l1_4.At,l1_4.Phases,x67,x68,x69,l1_4.Fallback,l1_4.Owner⟩:ZT),l1_5,Qk Qb x3.Name true l1_6) Qa
 refine xS (QK x3.Name [102,97,108,108,98,97,99,107]&&true) (fun h70=>?_) (fun h70=>?_)
 ·refine ZM Qa Qa (Jd (kt:=9) (e:=111) (b:=1011) (w:=x3.Name) (ok:=true) (es:=(Ur 1012 1013 1014 1015 1016 1017 1018 1019 1020 1021)) (v:=.agg [.tsl 1 (List.map ci [5]) 1019,B false, .p (.val (.func (.func 54) #[] #[]))]) rfl Qa Qa Qa Qa Qa (Qu h5 (Qu h11 (Qu h17 (Qu h24 (Qu h33 (Qu h38 (Qu h42 (Qu h47 (Qu h54 (Qu h58 (Qu h62 (Jc h70))))))))))))) (xR 6 Qa (xE (Ql (aA yI l1_1 x3 (.func (.func 54) #[] #[]) l1_2 l1_3 l1_4 l1_5 yS yF yD h7_m h8_m l1_6) Qa (sS (sS (Vo Qd rfl (xR 9 Qa ?_)))))))
  refine xC [.agg [.sl 1, .id, .id], .id] Qa (QA n [5] false yI.N (.func 54,#[],#[])) Qa Qa QS (fun r71=>?_)
  refine xR 2 Qa (Yg Qa (Ql (aB yI l1_1 (!r71) x3 (.func (.func 54) #[] #[]) l1_2 l1_3 l1_4 l1_5 yS yF yD h7_m h8_m l1_6) Qa (sC (!r71) Qa ?_ ?_)))
  ·refine sG (xR 1 Qa (Vp [] [I 9, .agg [I x3.Kind,S x3.Name,I x3.N,I x3.At, .p (.sl 5 (mI x3.Kids))]] [] [] [] Qa Tryz.func49 rfl Tryz.ntmps49 rfl Qa Qa Qa (Qg Qd ⟨[(0,I 9),qq 3],WA x3⟩ Qa (sG (xR 6 Qa (XC 116 (.agg [I 9,I x3.At]) Qa rfl Qa (ZR [] [] Qa ?_)))))))
   refine Kj (Zd (Zk (Zk (Zd ?_))))
   exact Kz ZG [] Qa Qa Qa
  refine sK (Ql (Ov yI l1_1 x3 (.func (.func 54) #[] #[]) l1_2 l1_3 l1_4 l1_5 yS yF yD h7_m h8_m l1_6) Qa (sS (sS (Vo Qd rfl (xR 6 Qa ?_)))))
  refine ZM Qa Qa (Zu (kt:=9) (e:=4) (ke:=QQ) (ve:=QR) (eq:=Qb) (b:=1010) (m:=l1_6) (k:=x3.Name) (z0:=false) rfl Qa Qa Qa Qa Qa QS (fun _ _=>QY rfl _ _) Qa) ?_
  refine Yg Qa (Ql (aC yI l1_1 (QE Qb x3.Name false l1_6) x3 (.func (.func 54) #[] #[]) l1_2 l1_3 l1_4 l1_5 yS yF yD h7_m h8_m l1_6) Qa (sC (QE Qb x3.Name false l1_6) Qa ?_ ?_))
  ·refine sG (xR 1 Qa (Vp [] [I 5, .agg [I x3.Kind,S x3.Name,I x3.N,I x3.At, .p (.sl 5 (mI x3.Kids))]] [] [] [] Qa Tryz.func49 rfl Tryz.ntmps49 rfl Qa Qa Qa (Qg Qd ⟨[(0,I 5),qq 3],WA x3⟩ Qa (sG (xR 6 Qa (XC 116 (.agg [I 5,I x3.At]) Qa rfl Qa (ZR [] [] Qa ?_)))))))
   refine Kj (Zd (Zk (Zk (Zd ?_))))
   exact Kz ZG [] Qa Qa Qa
  refine sK (Ql (Ov yI l1_1 x3 (.func (.func 54) #[] #[]) l1_2 l1_3 l1_4 l1_5 yS yF yD h7_m h8_m l1_6) Qa (sS (Vo Qd rfl (xR 6 Qa ?_))))
  refine ZM Qa Qa (Yl (kt:=9) (e:=4) (ke:=QQ) (ve:=QR) (eq:=Qb) (b:=1010) (m:=l1_6) (k:=x3.Name) (v:=true) rfl Qa Qa Qa Qa Qa Qa QS (fun _ _=>QY rfl _ _)) ?_
  refine Yg Qa (Ql (Ov yI l1_1 x3 (.func (.func 54) #[] #[]) l1_2 l1_3 l1_4 l1_5 yS yF yD h7_m h8_m (Qk Qb x3.Name true l1_6)) Qa (sG (xR 4 Qa (Vp ((KF yI l1_2 l1_3 l1_4 l1_5)++QI yS yF yD h7_m h8_m++(KU (Qk Qb x3.Name true l1_6))) [YY, .agg [I x3.Kind,S x3.Name,I x3.N,I x3.At, .p (.sl 5 (mI x3.Kids))]] rY [] [] Qa Tryz.func54 rfl Tryz.ntmps54 rfl Qa Qa Qa (Qg Qd (zn x3 yI l1_2 l1_3 l1_4 l1_5 yS yF yD h7_m h8_m (Qk Qb x3.Name true l1_6)) Qa (sG (xR 4 Qa ?_)))))))
  refine Gg [.id, .sl 2] Qa (Z7 n x3 [(⟨0,80⟩:ZH)]) Qa Qa QS QS (fun r72=>?_) (fun e73=>?_)
  ·refine xG Qa Qa (QN (e:=3) (S:=1) (enc:=ci) (l:=r72) (k:=.i64) (n:=0) (sv:=.p (.sl 1 (List.map ci r72))) rfl Qa Qa Qa Qa Qa) (fun x74=>?_)
   refine xR 5 Qa (xE (Hg (.id) [1000,1001,1002,1003,1004,1005,1006,1007,1008,1009,1010] [] (.tup []) Qa Qa (WG (xE (Za ?_)))))
   exact KZ (k:=fun (j2_1,j2_2,j2_3,j2_4,j2_5)=>QF l1_1 recl1 j2_1 j2_2 j2_3 j2_4 j2_5) (l1_2,l1_3,(⟨l1_4.Name,l1_4.At,l1_4.Phases,l1_4.Min,l1_4.Max,l1_4.Step,x74,l1_4.Owner⟩:ZT),l1_5,Qk Qb x3.Name true l1_6) Qa
  refine ZR [1000,1001,1002,1003,1004,1005,1006,1007,1008,1009,1010] [] Qa (Zd (Zk (Zk (Zd ?_))))
  exact Kz ZG [] Qa Qa Qa
 refine xS (QK x3.Name [99,104,97,114,103,101,114]&&true) (fun h75=>?_) (fun h75=>?_)
 rotate_left
 ·refine ZM Qa Qa (bA (kt:=9) (e:=111) (b:=1011) (w:=x3.Name) (ok:=true) (es:=(Ur 1012 1013 1014 1015 1016 1017 1018 1019 1020 1021)) (z:=.agg #[.slice none 0 0, .bool false, .nilFunc]) rfl Qa Qa Qa Qa Qa Qa (Qu h5 (Qu h11 (Qu h17 (Qu h24 (Qu h33 (Qu h38 (Qu h42 (Qu h47 (Qu h54 (Qu h58 (Qu h62 (Qu h70 (Qu h75 (bz))))))))))))))) (xR 6 Qa (xE (Ql ⟨SX false yI l1_1,Qa5 x3++KF yI l1_2 l1_3 l1_4 l1_5++QI yS yF yD h7_m h8_m++KU l1_6++Zg⟩ Qa (sS (Qg Qd ⟨SY yI l1_1 true,Qa5 x3++KF yI l1_2 l1_3 l1_4 l1_5++QI yS yF yD h7_m h8_m++KU l1_6++Zg⟩ Qa (Zl Qa (sG ?_)))))))
  refine xR 1 Qa (Vp [] [I 9, .agg [I x3.Kind,S x3.Name,I x3.N,I x3.At, .p (.sl 5 (mI x3.Kids))]] [] [] [] Qa Tryz.func49 rfl Tryz.ntmps49 rfl Qa Qa Qa (Qg Qd ⟨[(0,I 9),qq 3],WA x3⟩ Qa (sG (xR 6 Qa (XC 116 (.agg [I 9,I x3.At]) Qa rfl Qa (ZR [] [] Qa (Kj ?_)))))))
  refine Zd (Zk (Zk (Zd ?_)))
  exact Kz ZG [] Qa Qa Qa
 refine ZM Qa Qa (Jd (kt:=9) (e:=111) (b:=1011) (w:=x3.Name) (ok:=true) (es:=(Ur 1012 1013 1014 1015 1016 1017 1018 1019 1020 1021)) (v:=.agg [.tsl 1 (List.map ci [6]) 1021,B false, .p (.val (.func (.func 55) #[] #[]))]) rfl Qa Qa Qa Qa Qa (Qu h5 (Qu h11 (Qu h17 (Qu h24 (Qu h33 (Qu h38 (Qu h42 (Qu h47 (Qu h54 (Qu h58 (Qu h62 (Qu h70 (Jc h75)))))))))))))) (xR 6 Qa (xE (Ql ⟨SX true yI l1_1,dL x3++KF yI l1_2 l1_3 l1_4 l1_5++QI yS yF yD h7_m h8_m++KU l1_6++Zg⟩ Qa (sS (sS (Vo Qd rfl (xR 9 Qa ?_)))))))
 refine xC [.agg [.sl 1, .id, .id], .id] Qa (QA n [6] false yI.N (.func 55,#[],#[])) Qa Qa QS (fun r76=>?_)
 refine xR 2 Qa (Yg Qa (Ql ⟨SY yI l1_1 (!r76),dL x3++KF yI l1_2 l1_3 l1_4 l1_5++QI yS yF yD h7_m h8_m++KU l1_6++Zg⟩ Qa (sC (!r76) Qa ?_ ?_)))
 ·refine sG (xR 1 Qa (Vp [] [I 9, .agg [I x3.Kind,S x3.Name,I x3.N,I x3.At, .p (.sl 5 (mI x3.Kids))]] [] [] [] Qa Tryz.func49 rfl Tryz.ntmps49 rfl Qa Qa Qa (Qg Qd ⟨[(0,I 9),qq 3],WA x3⟩ Qa (sG (xR 6 Qa (XC 116 (.agg [I 9,I x3.At]) Qa rfl Qa (ZR [] [] Qa ?_)))))))
  refine Kj (Zd (Zk (Zk (Zd ?_))))
  exact Kz ZG [] Qa Qa Qa
 refine sK (Ql (aF yI l1_1 x3 l1_2 l1_3 l1_4 l1_5 yS yF yD h7_m h8_m l1_6) Qa (sS (sS (Vo Qd rfl (xR 6 Qa ?_)))))
 refine ZM Qa Qa (Zu (kt:=9) (e:=4) (ke:=QQ) (ve:=QR) (eq:=Qb) (b:=1010) (m:=l1_6) (k:=x3.Name) (z0:=false) rfl Qa Qa Qa Qa Qa QS (fun _ _=>QY rfl _ _) Qa) ?_
 refine Yg Qa (Ql ⟨Ou yI l1_1 (QE Qb x3.Name false l1_6),dL x3++KF yI l1_2 l1_3 l1_4 l1_5++QI yS yF yD h7_m h8_m++KU l1_6++Zg⟩ Qa (sC (QE Qb x3.Name false l1_6) Qa ?_ ?_))
 ·refine sG (xR 1 Qa (Vp [] [I 5, .agg [I x3.Kind,S x3.Name,I x3.N,I x3.At, .p (.sl 5 (mI x3.Kids))]] [] [] [] Qa Tryz.func49 rfl Tryz.ntmps49 rfl Qa Qa Qa (Qg Qd ⟨[(0,I 5),qq 3],WA x3⟩ Qa (sG (xR 6 Qa (XC 116 (.agg [I 5,I x3.At]) Qa rfl Qa (ZR [] [] Qa ?_)))))))
  refine Kj (Zd (Zk (Zk (Zd ?_))))
  exact Kz ZG [] Qa Qa Qa
 refine sK (Ql (aF yI l1_1 x3 l1_2 l1_3 l1_4 l1_5 yS yF yD h7_m h8_m l1_6) Qa (sS (Vo Qd rfl (xR 6 Qa ?_))))
 refine ZM Qa Qa (Yl (kt:=9) (e:=4) (ke:=QQ) (ve:=QR) (eq:=Qb) (b:=1010) (m:=l1_6) (k:=x3.Name) (v:=true) rfl Qa Qa Qa Qa Qa Qa QS (fun _ _=>QY rfl _ _)) ?_
 refine Yg Qa (Ql (aF yI l1_1 x3 l1_2 l1_3 l1_4 l1_5 yS yF yD h7_m h8_m (Qk Qb x3.Name true l1_6)) Qa (sG (xR 4 Qa (Vp ((KF yI l1_2 l1_3 l1_4 l1_5)++QI yS yF yD h7_m h8_m++(KU (Qk Qb x3.Name true l1_6))) [YY, .agg [I x3.Kind,S x3.Name,I x3.N,I x3.At, .p (.sl 5 (mI x3.Kids))]] rY [] [] Qa Tryz.func55 rfl Tryz.ntmps55 rfl Qa Qa Qa (Qg Qd (zn x3 yI l1_2 l1_3 l1_4 l1_5 yS yF yD h7_m h8_m (Qk Qb x3.Name true l1_6)) Qa (sG (xR 4 Qa ?_)))))))
 refine UW nq8 [] [] Qa (EN n x3 yI l1_2 l1_3 l1_4 l1_5 yS yF yD h7_m h8_m (Qk Qb x3.Name true l1_6)) Qa Qa Qa QS QS QS QS (fun r77=>?_) (fun e78=>?_)
 ·refine xR 4 Qa (xE (Hg (.id) [1000,1001,1002,1003,1004,1005,1006,1007,1008,1009,1010] [] (.tup []) Qa Qa (WG (xE (Za ?_)))))
  exact KZ (k:=fun (j2_1,j2_2,j2_3,j2_4,j2_5)=>QF l1_1 recl1 j2_1 j2_2 j2_3 j2_4 j2_5) (l1_2,l1_3,l1_4,(⟨l1_5.Name,r77⟩:Q6),Qk Qb x3.Name true l1_6) Qa
 refine ZR [1000,1001,1002,1003,1004,1005,1006,1007,1008,1009,1010] [] Qa (Zd (Zk (Zk (Zd ?_))))
 exact Kz ZG [] Qa Qa Qa
def VO (n:Nat) (a0c:XF):Option Bool :=
 some (QL a0c.Ambient a0c.Most)
abbrev MI (x:XF):Go.Abs.Blk:=.box 47 (KJ (XF.cs x))
theorem Uj (n:Nat) (a0c:XF):∀ r,VO n a0c=some r→Q9 Tryz.prog 84 [ag (XF.cs a0c)] (.ret (B r)):=by
 refine Qt (X:=fun r:Bool=>QV.ret (B r)) Tryz.func84 rfl Tryz.ntmps84 rfl ?_
 unfold VO
 refine Qg Qd ⟨[qq 1],[(1,MI a0c)]⟩ Qa (Qg Qd ⟨[(2,B (QL a0c.Ambient a0c.Most))],[]⟩ Qa (sT ?_))
 exact qR (.id) Qa Qa Qa
def YD (n:Nat) (a0c:ZT):Option Bool :=
 cond (leI a0c.Min a0c.Max)
  (cond (Qi a0c.Fallback 0)
   (some true)
   (cond (leI a0c.Min a0c.Fallback)
    (some (leI a0c.Fallback a0c.Max))
    (some false)))
  (some false)
abbrev MJ (x:ZT):Go.Abs.Blk:=.box 56 (KJ (ZT.cs x))
theorem JO (n:Nat) (a0c:ZT):∀ r,YD n a0c=some r→Q9 Tryz.prog 85 [ag (ZT.cs a0c)] (.ret (B r)):=by
 refine Qt (X:=fun r:Bool=>QV.ret (B r)) Tryz.func85 rfl Tryz.ntmps85 rfl ?_
 unfold YD
 refine Qg Qd ⟨[qq 1],[(1,MJ a0c)]⟩ Qa (sS (sG (xR 6 Qa ?_)))
 refine xS (leI a0c.Min a0c.Max) (fun h1=>?_) (fun h1=>?_)
 rotate_left
 ·refine xN (Qq Qa h1) Qa (xR 18 Qa (xE (Ql ⟨[(2,B false)],[]⟩ Qa (sT ?_))))
  exact qR (.id) Qa Qa Qa
 refine xO (Qp Qa h1) Qa (xR 3 Qa ?_)
 refine xS (Qi a0c.Fallback 0) (fun h2=>?_) (fun h2=>?_)
 ·refine xN (Qy Qa h2) Qa (xR 14 Qa (xE (Ql ⟨[(2,B true)],[]⟩ Qa (sT ?_))))
  exact qR (.id) Qa Qa Qa
 refine xO (Qx Qa h2) Qa (xR 5 Qa ?_)
 refine xS (leI a0c.Min a0c.Fallback) (fun h3=>?_) (fun h3=>?_)
 ·refine xO (Qp Qa h3) Qa (xR 8 Qa (xE (Ql ⟨[(2,B (leI a0c.Fallback a0c.Max))],[]⟩ Qa (sT ?_))))
  exact qR (.id) Qa Qa Qa
 refine xN (Qq Qa h3) Qa (xR 8 Qa (xE (Ql ⟨[(2,B false)],[]⟩ Qa (sT ?_))))
 exact qR (.id) Qa Qa Qa
def NU (yI:GN) (yC:ZE) (yK:ZO) (yG:ZT) (yB:Q6) (yS:Qm) (yF:Bool) (yD:List Zr) (h7_m:List ((List UInt8) × Bool)) (h8_m:List ((List UInt8) × KC)) (h10_m:List ((List UInt8) × Bool)):List (Nat × Blk):=[(1000, .box 108 ([.ptr 1001 0]++KJ (GN.cs yI)++[.mv 1010]++KJ (ZE.cs yC)++KJ (ZO.cs yK)++KJ (ZT.cs yG)++[S yB.Name,I yB.Charger])),(1001, .box 74 [.tsl 11 (List.map ZE.cs yS.Conductors) 1002, .tsl 1 (List.map QM.cs yS.Owners) 1003, .tsl 4 (List.map ZO.cs yS.Contracts) 1004, .tsl 8 (List.map ZT.cs yS.Chargers) 1005, .tsl 2 (List.map Q6.cs yS.Bays) 1006, .mv 1007,B yF, .mv 1008, .tsl 2 (List.map Zr.cs yD) 1009]),(1002, .arr 49 11 (List.map ZE.cs yS.Conductors).length),(1003, .arr 52 1 (List.map QM.cs yS.Owners).length),(1004, .arr 54 4 (List.map ZO.cs yS.Contracts).length),(1005, .arr 56 8 (List.map ZT.cs yS.Chargers).length),(1006, .arr 58 2 (List.map Q6.cs yS.Bays).length),(1007, .mp (Jp QQ QR h7_m)),(1008, .mp (Jp VK VL h8_m)),(1009, .arr 65 2 (List.map Zr.cs yD).length),(1010, .mp (Jp QQ QR h10_m)),(1011, .mf (Ur 1012 1013 1014 1015 1016 1017 1018 1019 1020 1021)),(1012, .arr 3 1 (List.map ci [1,2]).length),(1013, .box 103 [I 1,I 1000]),(1014, .arr 3 1 (List.map ci [2]).length),(1015, .box 104 [.tsl 1 (List.map ci [1,2]) 1012]),(1016, .arr 3 1 (List.map ci [4,5]).length),(1017, .arr 3 1 (List.map ci [4]).length),(1018, .arr 3 1 (List.map ci [4]).length),(1019, .arr 3 1 (List.map ci [5]).length),(1020, .box 103 [I 1,I 80]),(1021, .arr 3 1 (List.map ci [6]).length)]
def Yp:List Nat:=[1000,1001,1002,1003,1004,1005,1006,1007,1008,1009,1010,1011,1012,1013,1014,1015,1016,1017,1018,1019,1020,1021]
def Vr (n:Nat) (yI:GN) (yC:ZE) (yG:ZT) (h10_m:List ((List UInt8) × Bool)):Option (Except (Int × Int) Unit) :=
 (cond (QE Qb [116,104,101,114,109,97,108] false h10_m)
  ((VO n yC.Cable).bind fun r4 =>
  cond (!r4)
   (some true)
   (cond (Qi yI.N 5)
    ((YD n yG).bind fun r7 =>
    some (!r7))
    (some false)))
  (cond (Qi yI.N 5)
   ((YD n yG).bind fun r9 =>
   some (!r9))
   (some false))).bind fun j2 =>
 cond j2
  (some (.error (3,yI.At)))
  (some (.ok ()))
def U7 (n:Nat) (yI:GN) (yC:ZE) (yK:ZO) (yG:ZT) (yB:Q6) (yS:Qm) (yF:Bool) (yD:List Zr) (h7_m:List ((List UInt8) × Bool)) (h8_m:List ((List UInt8) × KC)) (h10_m:List ((List UInt8) × Bool)):Option (Except (Int × Int) Unit) :=
 kW (some (.error (4,yI.At))) (Vr n yI yC yG h10_m) [(fun q16 =>
  ((QB n [1,2] false yI.N).bind fun r20 =>
  cond r20
   (some (!(QE Qb [108,105,109,105,116] false h10_m)))
   (some false)).bind fun j19 =>
  cond j19
   (some (.error (4,yI.At)))
   q16),(fun q23 =>
  ((QB n [1,2] false yI.N).bind fun r27 =>
  cond r27
   (some (!(QE Qb [110,101,117,116,114,97,108] false h10_m)))
   (some false)).bind fun j26 =>
  cond j26
   (some (.error (4,yI.At)))
   q23),(fun q30 =>
  ((QB n [1,2] true yI.N).bind fun r34 =>
  cond r34
   (some ())
   (some ())).bind fun _ =>
  q30),(fun q37 =>
  ((QB n [1,2] true yI.N).bind fun r40 =>
  cond r40
   (some ())
   (some ())).bind fun _ =>
  q37),(fun q43 =>
  ((QB n [2] false yI.N).bind fun r47 =>
  cond r47
   (some (!(QE Qb [102,114,111,109] false h10_m)))
   (some false)).bind fun j46 =>
  cond j46
   (some (.error (4,yI.At)))
   q43),(fun q50 =>
  ((QB n [4,5] false yI.N).bind fun r53 =>
  cond r53
   (some (!(QE Qb [111,119,110,101,114] false h10_m)))
   (some false)).bind fun j52 =>
  cond j52
   (some (.error (4,yI.At)))
   q50),(fun q56 =>
  ((QB n [4] false yI.N).bind fun r59 =>
  cond r59
   (some (!(QE Qb [114,97,110,107] false h10_m)))
   (some false)).bind fun j58 =>
  cond j58
   (some (.error (4,yI.At)))
   q56),(fun q62 =>
  ((QB n [4] false yI.N).bind fun r65 =>
  cond r65
   (some (!(QE Qb [99,97,114,100] false h10_m)))
   (some false)).bind fun j64 =>
  cond j64
   (some (.error (4,yI.At)))
   q62),(fun q68 =>
  ((QB n [5] false yI.N).bind fun r71 =>
  cond r71
   (some (!(QE Qb [97,116] false h10_m)))
   (some false)).bind fun j70 =>
  cond j70
   (some (.error (4,yI.At)))
   q68),(fun q74 =>
  ((QB n [5] false yI.N).bind fun r77 =>
  cond r77
   (some (!(QE Qb [112,104,97,115,101,115] false h10_m)))
   (some false)).bind fun j76 =>
  cond j76
   (some (.error (4,yI.At)))
   q74),(fun q80 =>
  ((QB n [5] false yI.N).bind fun r84 =>
  cond r84
   (some (!(QE Qb [97,109,112,115] false h10_m)))
   (some false)).bind fun j83 =>
  cond j83
   (some (.error (4,yI.At)))
   q80),(fun q87 =>
  ((QB n [5] false yI.N).bind fun r90 =>
  cond r90
   (some (!(QE Qb [102,97,108,108,98,97,99,107] false h10_m)))
   (some false)).bind fun j89 =>
  cond j89
   (some (.error (4,yI.At)))
   q87),(fun q93 =>
  ((QB n [6] false yI.N).bind fun r96 =>
  cond r96
   (some (!(QE Qb [99,104,97,114,103,101,114] false h10_m)))
   (some false)).bind fun j95 =>
  cond j95
   (some (.error (4,yI.At)))
   q93)]
def MK (yI:GN) (yC:ZE) (yK:ZO) (yG:ZT) (yB:Q6) (yS:Qm) (yF:Bool) (yD:List Zr) (h7_m:List ((List UInt8) × Bool)) (h8_m:List ((List UInt8) × KC)) (h10_m:List ((List UInt8) × Bool)):List (Nat × Blk):=NU yI yC yK yG yB yS yF yD h7_m h8_m h10_m
def Qcl:=fun x0 x1 x2=>(.box 74 [.tsl 11 (List.map ZE.cs (Qm.Conductors x0)) 1002, .tsl 1 (List.map QM.cs (Qm.Owners x0)) 1003, .tsl 4 (List.map ZO.cs (Qm.Contracts x0)) 1004, .tsl 8 (List.map ZT.cs (Qm.Chargers x0)) 1005, .tsl 2 (List.map Q6.cs (Qm.Bays x0)) 1006, .mv 1007,B x1, .mv 1008, .tsl 2 (List.map Zr.cs x2) 1009]:Blk)
def Qcm:=fun x0=>(.arr 49 11 (List.map ZE.cs (Qm.Conductors x0)).length:Blk)
def Qcn:=fun x0=>(.arr 52 1 (List.map QM.cs (Qm.Owners x0)).length:Blk)
def Qco:=fun x0=>(.arr 54 4 (List.map ZO.cs (Qm.Contracts x0)).length:Blk)
def Qcp:=fun x0=>(.arr 56 8 (List.map ZT.cs (Qm.Chargers x0)).length:Blk)
def Qcq:=fun x0=>(.arr 58 2 (List.map Q6.cs (Qm.Bays x0)).length:Blk)
def Qcr:Blk:=.box 104 [.tsl 1 (List.map ci [1,2]) 1012]
def Dn:=fun x0 x1 x2 x3 x4 x5 x6 x7 x8 x9 x10 x11 x12=>([(1000,(QaS x0 x1 x2 x3 x4)),(1001,(Qcl x5 x6 x7)),(1002,(Qcm x5)),(1003,(Qcn x5)),(1004,(Qco x5)),(1005,(Qcp x5)),(1006,(Qcq x5)),(1007, .mp (Jp QQ QR x8)),(1008, .mp (Jp VK VL x9)),(1009,(Wv x7)),(1010, .mp (Jp QQ QR x10)),(1011, .mg x11 x12 (Ur 1012 1013 1014 1015 1016 1017 1018 1019 1020 1021)),(1012, .arr 3 1 (List.map ci [1,2]).length),(1013, .box 103 [I 1,I 1000]),(1014, .arr 3 1 (List.map ci [2]).length),(1015,Qcr)]:List (Nat × Blk))
def Dp:List (Nat × Blk):=[(1016, .arr 3 1 (List.map ci [4,5]).length),(1017, .arr 3 1 (List.map ci [4]).length),(1018, .arr 3 1 (List.map ci [4]).length),(1019, .arr 3 1 (List.map ci [5]).length),(1020, .box 103 [I 1,I 80]),(1021, .arr 3 1 (List.map ci [6]).length)]
def Qcs:List (Nat × AV):=[(0, .ptr 1000 0),(7, .iv 700),(9,B true)]
def aG:=fun x0 x1=>([(700, .it 1011 x0 x1)]:List (Nat × Blk))
def ML:=fun x0 x1 x2 x3 x4 x5 x6 x7 x8 x9 x10 x11 x12 x13=>(⟨Qcs,aG x0 x1++Dn x2 x3 x4 x5 x6 x7 x8 x9 x10 x11 x12 x13 x0++Dp⟩:St)
def MN:=fun x0 x1 x2 x3 x4 x5 x6 x7 x8 x9 x10 x11 x12 x13=>(⟨[(0, .ptr 1000 0),(7, .iv 700)],aG x0 x1++Dn x2 x3 x4 x5 x6 x7 x8 x9 x10 x11 x12 x13 x0++Dp⟩:St)
def Ox:=fun x0=>([(0, .ptr 1000 0),(4,S x0),(5, .ptr 5 0),(7, .iv 700)]:List (Nat × AV))
def aH:=fun x0 x1 x2 x3 x4 x5 x6 x7 x8 x9 x10 x11 x12 x13 x14 x15 x16=>(⟨Ox x0,[(5,(QaU x1 x2)),(700, .it 1011 x3 x4)]++Dn x5 x6 x7 x8 x9 x10 x11 x12 x13 x14 x15 x16 x3++Dp⟩:St)
def Qct:=fun x0=>([(0, .ptr 1000 0),(7, .iv 700),(33,B x0)]:List (Nat × AV))
def MO:=fun x0 x1 x2 x3 x4 x5 x6 x7 x8 x9 x10 x11 x12 x13 x14=>(⟨Qct x0,aG x1 x2++Dn x3 x4 x5 x6 x7 x8 x9 x10 x11 x12 x13 x14 x1++Dp⟩:St)
def aI:=fun x0 x1 x2 x3 x4 x5 x6 x7 x8 x9 x10 x11 x12 x13 x14 x15=>(⟨Ox x0,[(5,(Qa3 x1)),(700, .it 1011 x2 x3)]++Dn x4 x5 x6 x7 x8 x9 x10 x11 x12 x13 x14 x15 x2++Dp⟩:St)
end Go.Proofs
