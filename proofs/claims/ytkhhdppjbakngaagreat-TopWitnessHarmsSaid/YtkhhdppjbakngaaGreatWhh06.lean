/-
  A part of the proof of a statement of the seat YtkhhdppjbakngaaGreat.
-/
import Derived.Test.YtkhhdppjbakngaaGreatWhh05
set_option linter.unusedVariables false
namespace Go.Proofs
open Go Go.Abs
set_option maxRecDepth 100000
theorem Rj(n:Nat)(J:Qo)(G:Int):∀r,Vb n J G=some r→QV Tryz.prog 11 [ag (Qo.cs J),I G] (.ret (.tup [I r.1,I r.2])):=by
 refine Qp Tryz.func11 rfl Tryz.ntmps11 rfl ?_;unfold Vb;refine Qi Qf ⟨[(1,I G),qq 2],GV J⟩ (sS (KG (fun U=>⟨[(1,I G),qq 2,(19,B U)],GV J⟩:Bool→St) ?_ ?_));rotate_left
 ·rintro U;refine sC U Qa (Qi Qf ⟨[(4,I 0),(5,I 1)],[]⟩ (sT (QW (qR (.id))))) (sK (Qm ⟨[(1,I G),qq 2],GV J⟩ (sS (sG (xR 3 (xG (QG (e:=54) (S:=11) (enc:=ZU.cs) (l:=J.Conductors) (k:=.i64) (n:=G) (sv:=.p (.sl 11 (UU J.Conductors))) rfl Qa Qa Qa Qa Qa) (fun Z=>xR 1 ?_)))))));refine xC [] (J6 n Z) QL (fun r6=>?_);exact xR 2 (xE (Qm ⟨[(4,I r6),(5,I 0)],[]⟩ (sT (qR (.id)))))
 refine sG (xR 1 ?_);refine xC [] (Fe n J) QL (fun r2=>?_);exact xR 2 (xS (!r2) (fun O=>xN (Qz O) (xR 9 (xE (QO true Qa)))) (fun O=>xO (Qy O) (xR 3 (xS (QD G 0) (fun Y=>xN (Qz Y) (xR 5 (xE (QO true Qa)))) (fun Y=>xO (Qy Y) (xR 5 (xE (QO (leI (Qd (UU J.Conductors)) G) Qa))))))))
def JN(n:Nat)(G:Int):Option Bool :=some (!Qq G G)
theorem LA(n:Nat)(G:Int):∀r,JN n G=some r→QV Tryz.prog 109 [I G] (.ret (B r)):=by
 refine Qp Tryz.func109 rfl Tryz.ntmps109 rfl ?_;unfold JN;exact Qi Qf ⟨[(0,I G)],[]⟩ (Qi Qf ⟨[(2,B (!Qq G G))],[]⟩ (sT (qR (.id))))
def Kq(n:Nat)(J:Int)(G:Int):Option Int :=(JN n J).bind fun r1 =>(JN n G).bind fun O =>cond r1 (cond O (some 0) (some (-1))) (cond O (some 1) (cond (QD J G) (some (-1)) (cond (QD G J) (some 1) (some 0))))
theorem WB(n:Nat)(J:Int)(G:Int):∀r,Kq n J G=some r→QV Tryz.prog 63 [I J,I G] (.ret (I r)):=by
 refine Qp Tryz.func63 rfl Tryz.ntmps63 rfl ?_;unfold Kq;refine Qi Qf ⟨[(0,I J),(1,I G)],[]⟩ (sS (sG (xR 1 ?_)));refine xC [] (LA n J) QL (fun r1=>?_);refine xR 1 (xE (Qm ⟨[(0,I J),(1,I G),(5,B r1)],[]⟩ (sS (sG (xR 1 ?_)))));refine xC [] (LA n G) QL (fun O=>?_);exact xR 1 (xE (Qm ⟨[(0,I J),(1,I G),(5,B r1),(6,B O)],[]⟩ (sS (Qi Qf ⟨[(0,I J),(1,I G),(6,B O),(11,B r1)],[]⟩ (sC r1 Qa (sS (Qi Qf ⟨[(12,B O)],[]⟩ (sC O Qa (Qi Qf ⟨[(4,I 0)],[]⟩ (sT (QW (QW (qR (.id)))))) (sK (Qm ⟨[],[]⟩ (Qi Qf ⟨[(4,I (-1))],[]⟩ (sT (QW (qR (.id)))))))))) (sK (Qm ⟨[(0,I J),(1,I G),(6,B O)],[]⟩ (sS (Qi Qf ⟨[(0,I J),(1,I G),(13,B O)],[]⟩ (sC O Qa (Qi Qf ⟨[(4,I 1)],[]⟩ (sT (QW (qR (.id))))) (sK (Qm ⟨[(0,I J),(1,I G)],[]⟩ (sS (Qi Qf ⟨[(0,I J),(1,I G),(16,B (QD J G))],[]⟩ (sC (QD J G) Qa (Qi Qf ⟨[(4,I (-1))],[]⟩ (sT (QW (qR (.id))))) (sK (Qm ⟨[(0,I J),(1,I G)],[]⟩ (sS (Qi Qf ⟨[(19,B (QD G J))],[]⟩ (sC (QD G J) Qa (Qi Qf ⟨[(4,I 1)],[]⟩ (sT (QW (qR (.id))))) (sK (Qm ⟨[],[]⟩ (Qi Qf ⟨[(4,I 0)],[]⟩ (sT (qR (.id))))))))))))))))))))))))))
def Uw:List Nat:=[1000,1001]
def ZC(n:Nat)(ad:Int)(U:Nat)(O:Nat)(Y:List Int)(ac:Int)(aa:((List Int)×Int)→Option (List Int))(Z:((List Int)×Int)→Option (List Int))(J:List Int)(G:Int):Option (List Int) :=(cond (QD ad G) ((Jw U O J G).bind fun x5 =>(Jw U O J (wi (G-1))).bind fun x6 =>(Za Y x6).bind fun x7 =>(Za Y x5).bind fun x8 =>(Kq n x7 x8).bind fun r9 =>some (QD r9 0)) (some false)).bind fun j3 =>cond j3 ((Jw U O J (wi (G-1))).bind fun ab =>(Jw U O J G).bind fun ae =>(Jw U O J G).bind fun af =>(Jw U O (List.set J (Int.toNat G) ab) (wi (G-1))).bind fun ah =>Z (List.set (List.set J (Int.toNat G) ab) (Int.toNat (wi (G-1))) ae,wi (G-1))) (aa (J,wi (ac+1)))
def ZE(n:Nat)(ae:Int)(ac:Int)(ab:Nat)(ad:Nat)(Y:List Int)(U:((List Int)×Int)→Option (List Int))(J:List Int)(G:Int):Option (List Int) :=cond (QD G ac) (Q0 (fun O (aa,Z)=>ZC n ae ab ad Y G U O aa Z) n (J,G)) (some J)
def Zw(n:Nat)(U:Int)(ab:Int)(aa:Nat)(ac:Nat)(J:List Int)(Z:List Int):Option (List Int) :=Q0 (fun G (O,Y)=>ZE n U ab aa ac Z G O Y) n (J,wi (U+1))
def Yd(J:List Int)(G:List Int):List (Nat×Blk):=[(1000,.vec 3 1 (List.map ci J)),(1001,.box 29 [.p (.sl 1 (List.map ci G))])]
def fH:=fun O G J U=>([(0,O),(1,I G),(2,I J),(3,.fn (.func 62) [] [.ptr 1001 0]),(8,I U)]:List (Nat×AV))
def Zq:=fun J G=>([(1000,.vec 3 1 (List.map ci J)),(1001,.box 29 [.p (.sl 1 (List.map ci G))])]:List (Nat×Blk))
def tO:=fun O G J U Y=>([(0,O),(1,I G),(2,I J),(3,.fn (.func 62) [] [.ptr 1001 0]),(8,I U),(9,I Y)]:List (Nat×AV))
def Dr:=fun G=>([(1000,.box 29 [.p (.sl 1 (List.map ci G))])]:List (Nat×Blk))
def fI:=fun J G=>([(0,I J),(1,I G),(2,.ptr 1000 0)]:List (Nat×AV))
theorem VD(n:Nat)(aa:Int)(ab:Int)(Z:Nat)(Y:Nat)(ae:List Int)(J:List Int):∀r,Zw n aa ab Z Y ae J=some r→V7 Tryz.prog 143 [.vtl 1 1000 Z 0 Y,I aa,I ab,.fn (.func 62) [] [Vs]] (Go.Abs.look (Yd ae J)) (JI (fun r:List Int=>((.ret (.tup []),Yd r J):KN×List (Nat×Blk))) r):=by
 refine KZ (Yd ae J) Tryz.func143 rfl Tryz.ntmps143 rfl ?_;unfold Zw;refine Qi Qf ⟨fH (.vtl 1 1000 Z 0 Y) aa ab (wi (aa+1)),Zq ae J⟩ (sB (QA (fun(ac,U)=>⟨fH (.vtl 1 1000 Z 0 Y) aa ab U,Zq ac J⟩:((List Int)×Int)→St) (JJ) ?_));rintro ah ⟨ac,U⟩;show QU (ZE n aa ab Z Y J ah ac U) _ _ _ _ _ _;unfold ZE;refine sS (Qi Qf ⟨[(0,.vtl 1 1000 Z 0 Y),(1,I aa),(2,I ab),(3,.fn (.func 62) [] [Vs]),(8,I U),(14,B (QD U ab))],Zq ac J⟩ (sC (QD U ab) Qa (sK (Qm ⟨fH (.vtl 1 1000 Z 0 Y) aa ab U,Zq ac J⟩ (sS (sB (Qi Qf ⟨[(0,.vtl 1 1000 Z 0 Y),(1,I aa),(2,I ab),(3,.fn (.func 62) [] [Vs]),(8,I U),(9,I U)],Zq ac J⟩ (sB (QA (fun(O,G)=>⟨tO (.vtl 1 1000 Z 0 Y) aa ab U G,Zq O J⟩:((List Int)×Int)→St) (JJ) ?_))))))) (Qr (ZF (Kg (QI (qJ (.id) Uw [])))))));rintro ai ⟨O,G⟩;show QU (ZC n aa Z Y J U ah ai O G) _ _ _ _ _ _;unfold ZC;refine sS (KG (fun j3=>⟨[(0,.vtl 1 1000 Z 0 Y),(1,I aa),(2,I ab),(3,.fn (.func 62) [] [Vs]),(8,I U),(9,I G),(34,B j3)],Zq O J⟩:Bool→St) ?_ ?_);rotate_left
 ·rintro j3;exact sC j3 Qa (sK (Qm ⟨tO (.vtl 1 1000 Z 0 Y) aa ab U G,Zq O J⟩ (sS (sB (Y3 Qf rfl (xR 8 (Z7 (Kh (e:=3) (S:=1) (tk:=1000) (ty:=3) (enc:=ci) (l:=O) (k:=.i64) (n:=wi (G-1)) (nn:=Z) (m:=Y) rfl Qa Qa Qa Qa Qa) (fun ad aj=>(Q7 (KH (S:=1) (tb:=3) (tk:=1000) (n:=Int.toNat (wi (G-1))) (f:=0) (enc:=ci) (l:=O) (v:=ad) (c:=I ad) rfl (Zr (Vr aj))) (xR 2 (Z7 (Kh (e:=3) (S:=1) (tk:=1000) (ty:=3) (enc:=ci) (l:=O) (k:=.i64) (n:=G) (nn:=Z) (m:=Y) rfl Qa Qa Qa Qa Qa) (fun af an=>(Q7 (KH (S:=1) (tb:=3) (tk:=1000) (n:=Int.toNat G) (f:=0) (enc:=ci) (l:=O) (v:=af) (c:=I af) rfl (Zr (Vr an))) (Z7 (Kh (e:=3) (S:=1) (tk:=1000) (ty:=3) (enc:=ci) (l:=O) (k:=.i64) (n:=G) (nn:=Z) (m:=Y) rfl Qa Qa Qa Qa Qa) (fun ao al=>(Q7 (V4 (S:=1) (tb:=3) (tk:=1000) (n:=Int.toNat G) (f:=0) (enc:=ci) (l:=O) (v:=ao) (v':=ad) (xv:=I ad) rfl (Zr (Vr al))) (Z7 (Kh (e:=3) (S:=1) (tk:=1000) (ty:=3) (enc:=ci) (l:=List.set O (Int.toNat G) ad) (k:=.i64) (n:=wi (G-1)) (nn:=Z) (m:=Y) rfl Qa Qa Qa Qa Qa) (fun aq ak=>(Q7 (V4 (S:=1) (tb:=3) (tk:=1000) (n:=Int.toNat (wi (G-1))) (f:=0) (enc:=ci) (l:=List.set O (Int.toNat G) ad) (v:=aq) (v':=af) (xv:=I af) rfl (Zr (Vr ak))) (YO (QP (Qm ⟨tO (.vtl 1 1000 Z 0 Y) aa ab U G,Zq (List.set (List.set O (Int.toNat G) ad) (Int.toNat (wi (G-1))) af) J⟩ (sL Qf (KF (List.set (List.set O (Int.toNat G) ad) (Int.toNat (wi (G-1))) af,wi (G-1)))))))))))))))))))))))))) (Qr (ZF (Kg (QI (QP (Qm ⟨fH (.vtl 1 1000 Z 0 Y) aa ab U,Zq O J⟩ (sL Qf (KF (O,wi (U+1))))))))))
 refine Y3 Qf rfl (xR 4 (xS (QD aa G) (fun h4=>xO (Qu h4) (xR 2 (Z7 (Kh (e:=3) (S:=1) (tk:=1000) (ty:=3) (enc:=ci) (l:=O) (k:=.i64) (n:=G) (nn:=Z) (m:=Y) rfl Qa Qa Qa Qa Qa) (fun x5 ar=>(Q7 (KH (S:=1) (tb:=3) (tk:=1000) (n:=Int.toNat G) (f:=0) (enc:=ci) (l:=O) (v:=x5) (c:=I x5) rfl (Zr (Vr ar))) (xR 3 (Z7 (Kh (e:=3) (S:=1) (tk:=1000) (ty:=3) (enc:=ci) (l:=O) (k:=.i64) (n:=wi (G-1)) (nn:=Z) (m:=Y) rfl Qa Qa Qa Qa Qa) (fun x6 au=>(Q7 (KH (S:=1) (tb:=3) (tk:=1000) (n:=Int.toNat (wi (G-1))) (f:=0) (enc:=ci) (l:=O) (v:=x6) (c:=I x6) rfl (Zr (Vr au))) (UO rfl (Vi (Dr J) [I x5,I x6,ZT] [(1000,1001)] [] [] Tryz.func62 rfl Tryz.ntmps62 rfl (Qi Qf ⟨fI x5 x6,Dr J⟩ (sS (Y3 Qf rfl (xR 2 (xG (QG (e:=3) (S:=1) (enc:=ci) (l:=J) (k:=.i64) (n:=x6) (sv:=.p (.sl 1 (List.map ci J))) rfl Qa Qa Qa Qa Qa) (fun x7=>xR 3 (xG (QG (e:=3) (S:=1) (enc:=ci) (l:=J) (k:=.i64) (n:=x5) (sv:=.p (.sl 1 (List.map ci J))) rfl Qa Qa Qa Qa Qa) (fun x8=>xR 1 ?_))))))))))))))))))) (fun h4=>xN (Qv h4) (xR 12 (YO (QO false Qa))))));refine xC [] (WB n x7 x8) QL (fun r9=>?_);exact xR 1 (YO (Qm ⟨[(5,I r9)],Dr J⟩ (sT (QN (.id) [1000] [] (I r9) (Vg (xR 2 (xE (QO (QD r9 0) Qa))))))))
def Gf:List Nat:=[1000,1001]
def YB(Y:Int)(Z:Int)(ab:Int)(O:Nat)(U:Nat)(aa:((List Int)×Int)→Option (List Int))(J:List Int)(G:Int):Option (List Int) :=cond (QD G ab) ((Jw O U J (wi (Z+G))).bind fun x2 =>(Jw O U J (wi (Y+G))).bind fun x3 =>(Jw O U J (wi (Y+G))).bind fun x4 =>(Jw O U (List.set J (Int.toNat (wi (Y+G))) x2) (wi (Z+G))).bind fun x5 =>aa (List.set (List.set J (Int.toNat (wi (Y+G))) x2) (Int.toNat (wi (Z+G))) x3,wi (G+1))) (some J)
def Ka(n:Nat)(ac:Int)(Z:Int)(aa:Int)(Y:Nat)(ab:Nat)(J:List Int)(ad:List Int):Option (List Int) :=Q0 (fun G (O,U)=>YB ac Z aa Y ab G O U) n (J,0)
def YV(J:List Int)(G:List Int):List (Nat×Blk):=[(1000,.vec 3 1 (List.map ci J)),(1001,.box 29 [.p (.sl 1 (List.map ci G))])]
def fJ:=fun O G J U Y=>([(0,O),(1,I G),(2,I J),(3,I U),(10,I Y)]:List (Nat×AV))
theorem YC(n:Nat)(O:Int)(U:Int)(ab:Int)(aa:Nat)(Z:Nat)(ac:List Int)(Y:List Int):∀r,Ka n O U ab aa Z ac Y=some r→V7 Tryz.prog 162 [.vtl 1 1000 aa 0 Z,I O,I U,I ab,.fn (.func 62) [] [Vs]] (Go.Abs.look (YV ac Y)) (JI (fun r:List Int=>((.ret (.tup []),YV r Y):KN×List (Nat×Blk))) r):=by
 refine KZ (YV ac Y) Tryz.func162 rfl Tryz.ntmps162 rfl ?_;unfold Ka;refine Qi Qf ⟨fJ (.vtl 1 1000 aa 0 Z) O U ab 0,Zq ac Y⟩ (sB (QA (fun(J,G)=>⟨fJ (.vtl 1 1000 aa 0 Z) O U ab G,Zq J Y⟩:((List Int)×Int)→St) (JJ) ?_));rintro ad ⟨J,G⟩;show QU (YB O U ab aa Z ad J G) _ _ _ _ _ _;unfold YB;exact sS (Qi Qf ⟨[(0,.vtl 1 1000 aa 0 Z),(1,I O),(2,I U),(3,I ab),(10,I G),(13,B (QD G ab))],Zq J Y⟩ (sC (QD G ab) Qa (sK (Qm ⟨fJ (.vtl 1 1000 aa 0 Z) O U ab G,Zq J Y⟩ (sS (sB (Y3 Qf rfl (xR 12 (Z7 (Kh (e:=3) (S:=1) (tk:=1000) (ty:=3) (enc:=ci) (l:=J) (k:=.i64) (n:=wi (U+G)) (nn:=aa) (m:=Z) rfl Qa Qa Qa Qa Qa) (fun x2 ai=>(Q7 (KH (S:=1) (tb:=3) (tk:=1000) (n:=Int.toNat (wi (U+G))) (f:=0) (enc:=ci) (l:=J) (v:=x2) (c:=I x2) rfl (Zr (Vr ai))) (xR 4 (Z7 (Kh (e:=3) (S:=1) (tk:=1000) (ty:=3) (enc:=ci) (l:=J) (k:=.i64) (n:=wi (O+G)) (nn:=aa) (m:=Z) rfl Qa Qa Qa Qa Qa) (fun x3 ae=>(Q7 (KH (S:=1) (tb:=3) (tk:=1000) (n:=Int.toNat (wi (O+G))) (f:=0) (enc:=ci) (l:=J) (v:=x3) (c:=I x3) rfl (Zr (Vr ae))) (Z7 (Kh (e:=3) (S:=1) (tk:=1000) (ty:=3) (enc:=ci) (l:=J) (k:=.i64) (n:=wi (O+G)) (nn:=aa) (m:=Z) rfl Qa Qa Qa Qa Qa) (fun x4 af=>(Q7 (V4 (S:=1) (tb:=3) (tk:=1000) (n:=Int.toNat (wi (O+G))) (f:=0) (enc:=ci) (l:=J) (v:=x4) (v':=x2) (xv:=I x2) rfl (Zr (Vr af))) (Z7 (Kh (e:=3) (S:=1) (tk:=1000) (ty:=3) (enc:=ci) (l:=List.set J (Int.toNat (wi (O+G))) x2) (k:=.i64) (n:=wi (U+G)) (nn:=aa) (m:=Z) rfl Qa Qa Qa Qa Qa) (fun x5 ah=>(Q7 (V4 (S:=1) (tb:=3) (tk:=1000) (n:=Int.toNat (wi (U+G))) (f:=0) (enc:=ci) (l:=List.set J (Int.toNat (wi (O+G))) x2) (v:=x5) (v':=x3) (xv:=I x3) rfl (Zr (Vr ah))) (YO (QP (Qm ⟨fJ (.vtl 1 1000 aa 0 Z) O U ab G,Zq (List.set (List.set J (Int.toNat (wi (O+G))) x2) (Int.toNat (wi (U+G))) x3) Y⟩ (sL Qf (KF (List.set (List.set J (Int.toNat (wi (O+G))) x2) (Int.toNat (wi (U+G))) x3,wi (G+1)))))))))))))))))))))))))) (Qr (ZF (Kg (QI (qJ (.id) Gf [])))))))
def FC:List Nat:=[1000,1001]
def Vd(n:Nat)(Y:Int)(aa:Nat)(ab:Nat)(Z:List Int)(O:((List Int)×Int×Int)→Option ((List Int)×Int))(U:List Int)(G:Int)(J:Int):Option ((List Int)×Int) :=cond (!Qq G J) (cond (QD J G) ((Ka n (wi (Y-G)) Y J aa ab U Z).bind fun r3 =>O (r3,wi (G-J),J)) ((Ka n (wi (Y-G)) (wi ((wi (Y+J))-G)) G aa ab U Z).bind fun r4 =>O (r4,G,wi (J-G)))) (some (U,G))
def VY(n:Nat)(ah:Int)(G:Int)(af:Int)(aa:Nat)(ad:Nat)(ac:List Int)(J:List Int):Option (List Int) :=(Q0 (fun U (ab,ae,Z)=>Vd n G aa ad J U ab ae Z) n (ac,wi (G-ah),wi (af-G))).bind fun(Y,O) =>(Ka n (wi (G-O)) G O aa ad Y J).bind fun r5 =>some r5
def VL(J:List Int)(G:List Int):List (Nat×Blk):=[(1000,.vec 3 1 (List.map ci J)),(1001,.box 29 [.p (.sl 1 (List.map ci G))])]
def jM:=fun O G J U=>([(0,O),(2,I G),(4,.fn (.func 62) [] [.ptr 1001 0]),(10,I J),(11,I U)]:List (Nat×AV))
theorem GX(n:Nat)(af:Int)(U:Int)(ae:Int)(Z:Nat)(Y:Nat)(ab:List Int)(O:List Int):∀r,VY n af U ae Z Y ab O=some r→V7 Tryz.prog 158 [.vtl 1 1000 Z 0 Y,I af,I U,I ae,.fn (.func 62) [] [Vs]] (Go.Abs.look (VL ab O)) (JI (fun r:List Int=>((.ret (.tup []),VL r O):KN×List (Nat×Blk))) r):=by
 refine KZ (VL ab O) Tryz.func158 rfl Tryz.ntmps158 rfl ?_;unfold VY;refine Qi Qf ⟨[(0,.vtl 1 1000 Z 0 Y),(2,I U),(3,I ae),(4,.fn (.func 62) [] [Vs]),(10,I (wi (U-af)))],Zq ab O⟩ (Qi Qf ⟨jM (.vtl 1 1000 Z 0 Y) U (wi (U-af)) (wi (ae-U)),Zq ab O⟩ (KG (fun(ad,ac)=>⟨[(0,.vtl 1 1000 Z 0 Y),(2,I U),(4,.fn (.func 62) [] [Vs]),(10,I ac)],Zq ad O⟩:((List Int)×Int)→St) ?_ ?_));rotate_left
 ·rintro⟨ad,ac⟩;refine sG (xR 7 ?_);refine Jv [(1000,1000),(1001,1001)] [] [] (YC n (wi (U-ac)) U ac Z Y ad O) QL QL (fun r5=>?_);exact xE (qJ (.id) FC [])
 refine sB (QA (fun(aa,G,J)=>⟨jM (.vtl 1 1000 Z 0 Y) U G J,Zq aa O⟩:((List Int)×Int×Int)→St) (JJ) ?_);rintro ah ⟨aa,G,J⟩;show QU (Vd n U Z Y O ah aa G J) _ _ _ _ _ _;unfold Vd;refine sS (Qi Qf ⟨[(0,.vtl 1 1000 Z 0 Y),(2,I U),(4,.fn (.func 62) [] [Vs]),(10,I G),(11,I J),(20,B (!Qq G J))],Zq aa O⟩ (sC (!Qq G J) Qa (sK (Qm ⟨jM (.vtl 1 1000 Z 0 Y) U G J,Zq aa O⟩ (sB (Qi Qf ⟨[(0,.vtl 1 1000 Z 0 Y),(2,I U),(4,.fn (.func 62) [] [Vs]),(10,I G),(11,I J),(23,B (QD J G))],Zq aa O⟩ (sC (QD J G) Qa ?_ ?_))))) (Qr (ZF (Kg (QI (QO (aa,G) Qa)))))))
 ·refine sS (sG (xR 7 ?_));refine Jv [(1000,1000),(1001,1001)] [] [] (YC n (wi (U-G)) U J Z Y aa O) QL QL (fun r3=>?_);exact xE (Qm ⟨jM (.vtl 1 1000 Z 0 Y) U G J,Zq r3 O⟩ (sL Qf (QP (KF (r3,wi (G-J),J)))))
 refine sS (sG (xR 11 ?_));refine Jv [(1000,1000),(1001,1001)] [] [] (YC n (wi (U-G)) (wi ((wi (U+J))-G)) G Z Y aa O) QL QL (fun r4=>?_);exact xE (Qm ⟨jM (.vtl 1 1000 Z 0 Y) U G J,Zq r4 O⟩ (sL Qf (QP (KF (r4,G,wi (J-G))))))
def KW:List Nat:=[1000,1001]
def YP(n:Nat)(ae:Int)(ad:Int)(ab:Int)(Z:Nat)(aa:Nat)(U:List Int)(Y:List Int)(O:(Int×Int)→Option Int)(G:Int)(J:Int):Option Int :=cond (QD G J) ((Jw Z aa U (wi ((wi ((wi ((wi (Zx .u64 (wu (wi (ae+ab))) 1))+ad))-1))-(wi (Zx .u64 (wu (wi (G+J))) 1))))).bind fun x6 =>(Jw Z aa U (wi (Zx .u64 (wu (wi (G+J))) 1))).bind fun x7 =>(Za Y x7).bind fun x8 =>(Za Y x6).bind fun x9 =>(Kq n x8 x9).bind fun ac =>cond (!(QD ac 0)) (O (wi ((wi (Zx .u64 (wu (wi (G+J))) 1))+1),J)) (O (G,wi (Zx .u64 (wu (wi (G+J))) 1)))) (some G)
def ZX(n:Nat)(O:Int)(U:Int)(J:Int)(ab:Nat)(aa:Nat)(Z:List Int)(Y:List Int)(G:Int→Int→Int→Nat→Nat→(List Int)→(List Int)→Option (List Int)):Option (List Int) :=(cond (QD (wi (Zx .u64 (wu (wi (O+J))) 1)) U) (some (wi ((wi ((wi (Zx .u64 (wu (wi (O+J))) 1))+U))-J),wi (Zx .u64 (wu (wi (O+J))) 1))) (some (O,U))).bind fun(ad,ai) =>(Q0 (fun ac (ae,af)=>YP n O U J ab aa Z Y ac ae af) n (ad,ai)).bind fun j4 =>((cond (QD j4 U) (some (QD U (wi ((wi ((wi (Zx .u64 (wu (wi (O+J))) 1))+U))-j4)))) (some false)).bind fun ak =>cond ak ((VY n j4 U (wi ((wi ((wi (Zx .u64 (wu (wi (O+J))) 1))+U))-j4)) ab aa Z Y).bind fun ao =>some ao) (some Z)).bind fun ah =>((cond (QD O j4) (some (QD j4 (wi (Zx .u64 (wu (wi (O+J))) 1)))) (some false)).bind fun aq =>cond aq ((G O j4 (wi (Zx .u64 (wu (wi (O+J))) 1)) ab aa ah Y).bind fun al =>some al) (some ah)).bind fun aj =>(cond (QD (wi (Zx .u64 (wu (wi (O+J))) 1)) (wi ((wi ((wi (Zx .u64 (wu (wi (O+J))) 1))+U))-j4))) (some (QD (wi ((wi ((wi (Zx .u64 (wu (wi (O+J))) 1))+U))-j4)) J)) (some false)).bind fun an =>cond an ((G (wi (Zx .u64 (wu (wi (O+J))) 1)) (wi ((wi ((wi (Zx .u64 (wu (wi (O+J))) 1))+U))-j4)) J ab aa aj Y).bind fun ar =>some ar) (some aj)
def YD(n:Nat)(ah:Int)(Z:Nat)(aa:Nat)(U:List Int)(Y:List Int)(O:(Int×Int)→Option Int)(G:Int)(J:Int):Option Int :=cond (QD G J) ((Jw Z aa U ah).bind fun af =>(Jw Z aa U (wi (Zx .u64 (wu (wi (G+J))) 1))).bind fun ab =>(Za Y ab).bind fun ae =>(Za Y af).bind fun ac =>(Kq n ae ac).bind fun ad =>cond (!(QD ad 0)) (O (wi ((wi (Zx .u64 (wu (wi (G+J))) 1))+1),J)) (O (G,wi (Zx .u64 (wu (wi (G+J))) 1)))) (some G)
def YE(O:Nat)(U:Nat)(ab:Int)(Y:((List Int)×Int)→Option (List Int))(J:List Int)(G:Int):Option (List Int) :=cond (QD ab G) ((Jw O U J (wi (G-1))).bind fun Z =>(Jw O U J G).bind fun aa =>(Jw O U J G).bind fun ad =>(Jw O U (List.set J (Int.toNat G) Z) (wi (G-1))).bind fun ac =>Y (List.set (List.set J (Int.toNat G) Z) (Int.toNat (wi (G-1))) aa,wi (G-1))) (some J)
def ZY(n:Nat)(ai:Int)(O:Int)(ah:Int)(aa:Nat)(ae:Nat)(J:List Int)(Z:List Int)(G:Int→Int→Int→Nat→Nat→(List Int)→(List Int)→Option (List Int)):Option (List Int) :=cond (Qq (wi (ah-O)) 1) ((Q0 (fun Y (ab,af)=>YD n O aa ae J Z Y ab af) n (ai,O)).bind fun aj =>Q0 (fun U (ac,ad)=>YE aa ae aj U ac ad) n (J,O)) (ZX n ai O ah aa ae J Z G)
def YF(n:Nat)(af:Int)(Z:Nat)(aa:Nat)(U:List Int)(Y:List Int)(O:(Int×Int)→Option Int)(G:Int)(J:Int):Option Int :=cond (QD G J) ((Jw Z aa U (wi (Zx .u64 (wu (wi (G+J))) 1))).bind fun ab =>(Jw Z aa U af).bind fun ac =>(Za Y ac).bind fun ah =>(Za Y ab).bind fun ae =>(Kq n ah ae).bind fun ad =>cond (QD ad 0) (O (wi ((wi (Zx .u64 (wu (wi (G+J))) 1))+1),J)) (O (G,wi (Zx .u64 (wu (wi (G+J))) 1)))) (some G)
def YG(O:Nat)(Y:Nat)(aa:Int)(U:((List Int)×Int)→Option (List Int))(J:List Int)(G:Int):Option (List Int) :=cond (QD G (wi (aa-1))) ((Jw O Y J (wi (G+1))).bind fun Z =>(Jw O Y J G).bind fun ab =>(Jw O Y J G).bind fun ac =>(Jw O Y (List.set J (Int.toNat G) Z) (wi (G+1))).bind fun ad =>U (List.set (List.set J (Int.toNat G) Z) (Int.toNat (wi (G+1))) ab,wi (G+1))) (some J)
def Yn(n:Nat)(G:Int→Int→Int→Nat→Nat→(List Int)→(List Int)→Option (List Int))(Y:Int)(ae:Int)(ai:Int)(aa:Nat)(ac:Nat)(J:List Int)(Z:List Int):Option (List Int) :=cond (Qq (wi (ae-Y)) 1) ((Q0 (fun U (ad,af)=>YF n Y aa ac J Z U ad af) n (ae,ai)).bind fun aj =>Q0 (fun O (ah,ab)=>YG aa ac aj O ah ab) n (J,Y)) (ZY n Y ae ai aa ac J Z G)
def ZN:Nat→Int→Int→Int→Nat→Nat→(List Int)→(List Int)→Option (List Int)|0,_,_,_,_,_,_,_=>none|n+1,aa,Z,U,O,Y,G,J=>Yn n (ZN n) aa Z U O Y G J
def Ve(J:List Int)(G:List Int):List (Nat×Blk):=[(1000,.vec 3 1 (List.map ci J)),(1001,.box 29 [.p (.sl 1 (List.map ci G))])]
def tQ:=fun O G J U=>([(0,O),(1,I G),(4,.fn (.func 62) [] [.ptr 1001 0]),(10,I J),(11,I U)]:List (Nat×AV))
def fK:=fun O G J=>([(0,O),(10,I G),(13,I J)]:List (Nat×AV))
def fM:=fun O G J=>([(0,O),(14,I G),(17,I J)]:List (Nat×AV))
def Qbb:=fun O G J Y Z U=>([(0,O),(1,I G),(2,I J),(3,I Y),(4,.fn (.func 62) [] [.ptr 1001 0]),(18,I Z),(19,I U)]:List (Nat×AV))
def Qbc:=fun O G Y Z x4 U J=>([(0,O),(1,I G),(2,I Y),(3,I Z),(4,.fn (.func 62) [] [.ptr 1001 0]),(18,I x4),(19,I U),(20,I J)]:List (Nat×AV))
def tT:=fun J Y Z x3 x4 O G U x8=>([(0,J),(1,I Y),(2,I Z),(3,I x3),(4,.fn (.func 62) [] [.ptr 1001 0]),(18,I x4),(19,I O),(20,I G),(21,I U),(22,I x8)]:List (Nat×AV))
theorem WT(n:Nat)(J:Int)(Z:Int)(O:Int)(aa:Nat)(ab:Nat)(U:List Int)(G:List Int):∀r,ZN n J Z O aa ab U G=some r→V7 Tryz.prog 144 [.vtl 1 1000 aa 0 ab,I J,I Z,I O,.fn (.func 62) [] [Vs]] (Go.Abs.look (Ve U G)) (JI (fun r:List Int=>((.ret (.tup []),Ve r G):KN×List (Nat×Blk))) r):=by
 induction n generalizing J Z O aa ab U G with
|zero=>intro r hr;cases (show(none:Option (List Int))=some r from hr)
|succ n ih =>
 show ∀r,Yn n (ZN n) J Z O aa ab U G=some r→_;generalize ZN n=Y at ih ⊢;refine KZ (Ve U G) Tryz.func144 rfl Tryz.ntmps144 rfl ?_;unfold Yn;refine Kc (fun _=>⟨[(0,.vtl 1 1000 aa 0 ab),(1,I J),(2,I Z),(3,I O),(4,.fn (.func 62) [] [Vs])],Zq U G⟩:Unit→St) (fun _=>ZY n J Z O aa ab U G Y) ?_ ?_;rotate_left
 ·refine Qi Qf ⟨[(0,.vtl 1 1000 aa 0 ab),(1,I J),(2,I Z),(3,I O),(4,.fn (.func 62) [] [Vs]),(28,B (Qq (wi (Z-J)) 1))],Zq U G⟩ (sC (Qq (wi (Z-J)) 1) Qa (Qi Qf ⟨[(0,.vtl 1 1000 aa 0 ab),(1,I J),(3,I O),(4,.fn (.func 62) [] [Vs]),(10,I Z)],Zq U G⟩ (Qi Qf ⟨tQ (.vtl 1 1000 aa 0 ab) J Z O,Zq U G⟩ (KG (fun ao=>⟨[(0,.vtl 1 1000 aa 0 ab),(1,I J),(10,I ao)],Zq U G⟩:Int→St) ?_ ?_))) (sK (KF (k:=fun _=>ZY n J Z O aa ab U G Y) ())));rotate_left
  ·rintro ao;refine sS (Qi Qf ⟨fK (.vtl 1 1000 aa 0 ab) ao J,Zq U G⟩ (sB (QA (fun(ak,ad)=>⟨fK (.vtl 1 1000 aa 0 ab) ao ad,Zq ak G⟩:((List Int)×Int)→St) (JJ) ?_)));rintro bd ⟨ak,ad⟩;show QU (YG aa ab ao bd ak ad) _ _ _ _ _ _;unfold YG;exact sS (Qi Qf ⟨[(0,.vtl 1 1000 aa 0 ab),(10,I ao),(13,I ad),(58,B (QD ad (wi (ao-1))))],Zq ak G⟩ (sC (QD ad (wi (ao-1))) Qa (sK (Qm ⟨fK (.vtl 1 1000 aa 0 ab) ao ad,Zq ak G⟩ (sS (sB (Y3 Qf rfl (xR 8 (Z7 (Kh (e:=3) (S:=1) (tk:=1000) (ty:=3) (enc:=ci) (l:=ak) (k:=.i64) (n:=wi (ad+1)) (nn:=aa) (m:=ab) rfl Qa Qa Qa Qa Qa) (fun au b6=>(Q7 (KH (S:=1) (tb:=3) (tk:=1000) (n:=Int.toNat (wi (ad+1))) (f:=0) (enc:=ci) (l:=ak) (v:=au) (c:=I au) rfl (Zr (Vr b6))) (xR 2 (Z7 (Kh (e:=3) (S:=1) (tk:=1000) (ty:=3) (enc:=ci) (l:=ak) (k:=.i64) (n:=ad) (nn:=aa) (m:=ab) rfl Qa Qa Qa Qa Qa) (fun aw bu=>(Q7 (KH (S:=1) (tb:=3) (tk:=1000) (n:=Int.toNat ad) (f:=0) (enc:=ci) (l:=ak) (v:=aw) (c:=I aw) rfl (Zr (Vr bu))) (Z7 (Kh (e:=3) (S:=1) (tk:=1000) (ty:=3) (enc:=ci) (l:=ak) (k:=.i64) (n:=ad) (nn:=aa) (m:=ab) rfl Qa Qa Qa Qa Qa) (fun cc bt=>(Q7 (V4 (S:=1) (tb:=3) (tk:=1000) (n:=Int.toNat ad) (f:=0) (enc:=ci) (l:=ak) (v:=cc) (v':=au) (xv:=I au) rfl (Zr (Vr bt))) (Z7 (Kh (e:=3) (S:=1) (tk:=1000) (ty:=3) (enc:=ci) (l:=List.set ak (Int.toNat ad) au) (k:=.i64) (n:=wi (ad+1)) (nn:=aa) (m:=ab) rfl Qa Qa Qa Qa Qa) (fun cf bz=>(Q7 (V4 (S:=1) (tb:=3) (tk:=1000) (n:=Int.toNat (wi (ad+1))) (f:=0) (enc:=ci) (l:=List.set ak (Int.toNat ad) au) (v:=cf) (v':=aw) (xv:=I aw) rfl (Zr (Vr bz))) (YO (QP (Qm ⟨fK (.vtl 1 1000 aa 0 ab) ao ad,Zq (List.set (List.set ak (Int.toNat ad) au) (Int.toNat (wi (ad+1))) aw) G⟩ (sL Qf (KF (List.set (List.set ak (Int.toNat ad) au) (Int.toNat (wi (ad+1))) aw,wi (ad+1)))))))))))))))))))))))))) (Qr (ZF (Kg (QI (Qm ⟨[],Zq ak G⟩ (sT (K8 (Y5 (.id) KW []))))))))))
  refine sB (QA (fun(af,ah)=>⟨tQ (.vtl 1 1000 aa 0 ab) J af ah,Zq U G⟩:(Int×Int)→St) (JJ) ?_);rintro be ⟨af,ah⟩;show QU (YF n J aa ab U G be af ah) _ _ _ _ _ _;unfold YF;refine sS (Qi Qf ⟨[(0,.vtl 1 1000 aa 0 ab),(1,I J),(4,.fn (.func 62) [] [Vs]),(10,I af),(11,I ah),(33,B (QD af ah))],Zq U G⟩ (sC (QD af ah) Qa (sK (Qm ⟨tQ (.vtl 1 1000 aa 0 ab) J af ah,Zq U G⟩ (sB (Qi Qf ⟨[(0,.vtl 1 1000 aa 0 ab),(1,I J),(4,.fn (.func 62) [] [Vs]),(10,I af),(11,I ah),(12,I (wi (Zx .u64 (wu (wi (af+ah))) 1)))],Zq U G⟩ (sS (Y3 Qf rfl (xR 3 (Z7 (Kh (e:=3) (S:=1) (tk:=1000) (ty:=3) (enc:=ci) (l:=U) (k:=.i64) (n:=wi (Zx .u64 (wu (wi (af+ah))) 1)) (nn:=aa) (m:=ab) rfl Qa Qa Qa Qa Qa) (fun az bq=>(Q7 (KH (S:=1) (tb:=3) (tk:=1000) (n:=Int.toNat (wi (Zx .u64 (wu (wi (af+ah))) 1))) (f:=0) (enc:=ci) (l:=U) (v:=az) (c:=I az) rfl (Zr (Vr bq))) (xR 2 (Z7 (Kh (e:=3) (S:=1) (tk:=1000) (ty:=3) (enc:=ci) (l:=U) (k:=.i64) (n:=J) (nn:=aa) (m:=ab) rfl Qa Qa Qa Qa Qa) (fun ax bw=>(Q7 (KH (S:=1) (tb:=3) (tk:=1000) (n:=Int.toNat J) (f:=0) (enc:=ci) (l:=U) (v:=ax) (c:=I ax) rfl (Zr (Vr bw))) (UO rfl (Vi (Dr G) [I az,I ax,ZT] [(1000,1001)] [] [] Tryz.func62 rfl Tryz.ntmps62 rfl (Qi Qf ⟨fI az ax,Dr G⟩ (sS (Y3 Qf rfl (xR 2 (xG (QG (e:=3) (S:=1) (enc:=ci) (l:=G) (k:=.i64) (n:=ax) (sv:=.p (.sl 1 (List.map ci G))) rfl Qa Qa Qa Qa Qa) (fun ca=>xR 3 (xG (QG (e:=3) (S:=1) (enc:=ci) (l:=G) (k:=.i64) (n:=az) (sv:=.p (.sl 1 (List.map ci G))) rfl Qa Qa Qa Qa Qa) (fun cl=>xR 1 ?_)))))))))))))))))))))))) (Qr (ZF (Kg (QI (QO af Qa)))))));refine xC [] (WB n ca cl) QL (fun bb=>?_);exact xR 1 (YO (Qm ⟨[(5,I bb)],Dr G⟩ (sT (QN (.id) [1000] [] (I bb) (Vg (xR 1 (xE (Qm ⟨[(0,.vtl 1 1000 aa 0 ab),(1,I J),(4,.fn (.func 62) [] [Vs]),(10,I af),(11,I ah),(12,I (wi (Zx .u64 (wu (wi (af+ah))) 1))),(50,B (QD bb 0))],Zq U G⟩ (sC (QD bb 0) Qa (sL Qf (QP (KF (wi ((wi (Zx .u64 (wu (wi (af+ah))) 1))+1),ah)))) (sL Qf (QP (KF (af,wi (Zx .u64 (wu (wi (af+ah))) 1))))))))))))))
 rintro _;show QU (ZY n J Z O aa ab U G Y) _ _ _ _ _ _;unfold ZY;refine Kc (fun _=>⟨[(0,.vtl 1 1000 aa 0 ab),(1,I J),(2,I Z),(3,I O),(4,.fn (.func 62) [] [Vs])],Zq U G⟩:Unit→St) (fun _=>ZX n J Z O aa ab U G Y) ?_ ?_;rotate_left
 ·refine Qi Qf ⟨[(0,.vtl 1 1000 aa 0 ab),(1,I J),(2,I Z),(3,I O),(4,.fn (.func 62) [] [Vs]),(80,B (Qq (wi (O-Z)) 1))],Zq U G⟩ (sC (Qq (wi (O-Z)) 1) Qa (Qi Qf ⟨[(0,.vtl 1 1000 aa 0 ab),(2,I Z),(4,.fn (.func 62) [] [Vs]),(14,I J)],Zq U G⟩ (Qi Qf ⟨[(0,.vtl 1 1000 aa 0 ab),(2,I Z),(4,.fn (.func 62) [] [Vs]),(14,I J),(15,I Z)],Zq U G⟩ (KG (fun aq=>⟨[(0,.vtl 1 1000 aa 0 ab),(2,I Z),(14,I aq)],Zq U G⟩:Int→St) ?_ ?_))) (sK (KF (k:=fun _=>ZX n J Z O aa ab U G Y) ())));rotate_left
  ·rintro aq;refine sS (Qi Qf ⟨fM (.vtl 1 1000 aa 0 ab) aq Z,Zq U G⟩ (sB (QA (fun(ai,ac)=>⟨fM (.vtl 1 1000 aa 0 ab) aq ac,Zq ai G⟩:((List Int)×Int)→St) (JJ) ?_)));rintro bh ⟨ai,ac⟩;show QU (YE aa ab aq bh ai ac) _ _ _ _ _ _;unfold YE;exact sS (Qi Qf ⟨[(0,.vtl 1 1000 aa 0 ab),(14,I aq),(17,I ac),(110,B (QD aq ac))],Zq ai G⟩ (sC (QD aq ac) Qa (sK (Qm ⟨fM (.vtl 1 1000 aa 0 ab) aq ac,Zq ai G⟩ (sS (sB (Y3 Qf rfl (xR 8 (Z7 (Kh (e:=3) (S:=1) (tk:=1000) (ty:=3) (enc:=ci) (l:=ai) (k:=.i64) (n:=wi (ac-1)) (nn:=aa) (m:=ab) rfl Qa Qa Qa Qa Qa) (fun ar b4=>(Q7 (KH (S:=1) (tb:=3) (tk:=1000) (n:=Int.toNat (wi (ac-1))) (f:=0) (enc:=ci) (l:=ai) (v:=ar) (c:=I ar) rfl (Zr (Vr b4))) (xR 2 (Z7 (Kh (e:=3) (S:=1) (tk:=1000) (ty:=3) (enc:=ci) (l:=ai) (k:=.i64) (n:=ac) (nn:=aa) (m:=ab) rfl Qa Qa Qa Qa Qa) (fun av bx=>(Q7 (KH (S:=1) (tb:=3) (tk:=1000) (n:=Int.toNat ac) (f:=0) (enc:=ci) (l:=ai) (v:=av) (c:=I av) rfl (Zr (Vr bx))) (Z7 (Kh (e:=3) (S:=1) (tk:=1000) (ty:=3) (enc:=ci) (l:=ai) (k:=.i64) (n:=ac) (nn:=aa) (m:=ab) rfl Qa Qa Qa Qa Qa) (fun ce bv=>(Q7 (V4 (S:=1) (tb:=3) (tk:=1000) (n:=Int.toNat ac) (f:=0) (enc:=ci) (l:=ai) (v:=ce) (v':=ar) (xv:=I ar) rfl (Zr (Vr bv))) (Z7 (Kh (e:=3) (S:=1) (tk:=1000) (ty:=3) (enc:=ci) (l:=List.set ai (Int.toNat ac) ar) (k:=.i64) (n:=wi (ac-1)) (nn:=aa) (m:=ab) rfl Qa Qa Qa Qa Qa) (fun ch b5=>(Q7 (V4 (S:=1) (tb:=3) (tk:=1000) (n:=Int.toNat (wi (ac-1))) (f:=0) (enc:=ci) (l:=List.set ai (Int.toNat ac) ar) (v:=ch) (v':=av) (xv:=I av) rfl (Zr (Vr b5))) (YO (QP (Qm ⟨fM (.vtl 1 1000 aa 0 ab) aq ac,Zq (List.set (List.set ai (Int.toNat ac) ar) (Int.toNat (wi (ac-1))) av) G⟩ (sL Qf (KF (List.set (List.set ai (Int.toNat ac) ar) (Int.toNat (wi (ac-1))) av,wi (ac-1)))))))))))))))))))))))))) (Qr (ZF (Kg (QI (Qm ⟨[],Zq ai G⟩ (sT (K8 (Y5 (.id) KW []))))))))))
  refine sB (QA (fun(ae,aj)=>⟨[(0,.vtl 1 1000 aa 0 ab),(2,I Z),(4,.fn (.func 62) [] [Vs]),(14,I ae),(15,I aj)],Zq U G⟩:(Int×Int)→St) (JJ) ?_);rintro bf ⟨ae,aj⟩;show QU (YD n Z aa ab U G bf ae aj) _ _ _ _ _ _;unfold YD;refine sS (Qi Qf ⟨[(0,.vtl 1 1000 aa 0 ab),(2,I Z),(4,.fn (.func 62) [] [Vs]),(14,I ae),(15,I aj),(85,B (QD ae aj))],Zq U G⟩ (sC (QD ae aj) Qa (sK (Qm ⟨[(0,.vtl 1 1000 aa 0 ab),(2,I Z),(4,.fn (.func 62) [] [Vs]),(14,I ae),(15,I aj)],Zq U G⟩ (sB (Qi Qf ⟨[(0,.vtl 1 1000 aa 0 ab),(2,I Z),(4,.fn (.func 62) [] [Vs]),(14,I ae),(15,I aj),(16,I (wi (Zx .u64 (wu (wi (ae+aj))) 1)))],Zq U G⟩ (sS (Y3 Qf rfl (xR 3 (Z7 (Kh (e:=3) (S:=1) (tk:=1000) (ty:=3) (enc:=ci) (l:=U) (k:=.i64) (n:=Z) (nn:=aa) (m:=ab) rfl Qa Qa Qa Qa Qa) (fun a6 br=>(Q7 (KH (S:=1) (tb:=3) (tk:=1000) (n:=Int.toNat Z) (f:=0) (enc:=ci) (l:=U) (v:=a6) (c:=I a6) rfl (Zr (Vr br))) (xR 2 (Z7 (Kh (e:=3) (S:=1) (tk:=1000) (ty:=3) (enc:=ci) (l:=U) (k:=.i64) (n:=wi (Zx .u64 (wu (wi (ae+aj))) 1)) (nn:=aa) (m:=ab) rfl Qa Qa Qa Qa Qa) (fun ba b3=>(Q7 (KH (S:=1) (tb:=3) (tk:=1000) (n:=Int.toNat (wi (Zx .u64 (wu (wi (ae+aj))) 1))) (f:=0) (enc:=ci) (l:=U) (v:=ba) (c:=I ba) rfl (Zr (Vr b3))) (UO rfl (Vi (Dr G) [I a6,I ba,ZT] [(1000,1001)] [] [] Tryz.func62 rfl Tryz.ntmps62 rfl (Qi Qf ⟨fI a6 ba,Dr G⟩ (sS (Y3 Qf rfl (xR 2 (xG (QG (e:=3) (S:=1) (enc:=ci) (l:=G) (k:=.i64) (n:=ba) (sv:=.p (.sl 1 (List.map ci G))) rfl Qa Qa Qa Qa Qa) (fun b9=>xR 3 (xG (QG (e:=3) (S:=1) (enc:=ci) (l:=G) (k:=.i64) (n:=a6) (sv:=.p (.sl 1 (List.map ci G))) rfl Qa Qa Qa Qa Qa) (fun cg=>xR 1 ?_)))))))))))))))))))))))) (Qr (ZF (Kg (QI (QO ae Qa)))))));refine xC [] (WB n b9 cg) QL (fun bc=>?_);exact xR 1 (YO (Qm ⟨[(5,I bc)],Dr G⟩ (sT (QN (.id) [1000] [] (I bc) (Vg (xR 2 (xE (Qm ⟨[(0,.vtl 1 1000 aa 0 ab),(2,I Z),(4,.fn (.func 62) [] [Vs]),(14,I ae),(15,I aj),(16,I (wi (Zx .u64 (wu (wi (ae+aj))) 1))),(103,B (!(QD bc 0)))],Zq U G⟩ (sC (!(QD bc 0)) Qa (sL Qf (QP (KF (wi ((wi (Zx .u64 (wu (wi (ae+aj))) 1))+1),aj)))) (sL Qf (QP (KF (ae,wi (Zx .u64 (wu (wi (ae+aj))) 1))))))))))))))
 rintro _;show QU (ZX n J Z O aa ab U G Y) _ _ _ _ _ _;unfold ZX;refine Qi Qf ⟨[(0,.vtl 1 1000 aa 0 ab),(1,I J),(2,I Z),(3,I O),(4,.fn (.func 62) [] [Vs]),(18,I (wi (Zx .u64 (wu (wi (J+O))) 1)))],Zq U G⟩ (Qi Qf ⟨Qbb (.vtl 1 1000 aa 0 ab) J Z O (wi (Zx .u64 (wu (wi (J+O))) 1)) (wi ((wi (Zx .u64 (wu (wi (J+O))) 1))+Z)),Zq U G⟩ (Qi Qf ⟨Qbb (.vtl 1 1000 aa 0 ab) J Z O (wi (Zx .u64 (wu (wi (J+O))) 1)) (wi ((wi (Zx .u64 (wu (wi (J+O))) 1))+Z)),Zq U G⟩ (KG (fun(a8,a7)=>⟨[(0,.vtl 1 1000 aa 0 ab),(1,I J),(2,I Z),(3,I O),(4,.fn (.func 62) [] [Vs]),(18,I (wi (Zx .u64 (wu (wi (J+O))) 1))),(19,I (wi ((wi (Zx .u64 (wu (wi (J+O))) 1))+Z))),(20,I a8),(21,I a7)],Zq U G⟩:(Int×Int)→St) (Qi Qf ⟨[(0,.vtl 1 1000 aa 0 ab),(1,I J),(2,I Z),(3,I O),(4,.fn (.func 62) [] [Vs]),(18,I (wi (Zx .u64 (wu (wi (J+O))) 1))),(19,I (wi ((wi (Zx .u64 (wu (wi (J+O))) 1))+Z))),(140,B (QD (wi (Zx .u64 (wu (wi (J+O))) 1)) Z))],Zq U G⟩ (sC (QD (wi (Zx .u64 (wu (wi (J+O))) 1)) Z) Qa (Qi Qf ⟨Qbc (.vtl 1 1000 aa 0 ab) J Z O (wi (Zx .u64 (wu (wi (J+O))) 1)) (wi ((wi (Zx .u64 (wu (wi (J+O))) 1))+Z)) (wi ((wi ((wi (Zx .u64 (wu (wi (J+O))) 1))+Z))-O)),Zq U G⟩ (sL Qf (QO (wi ((wi ((wi (Zx .u64 (wu (wi (J+O))) 1))+Z))-O),wi (Zx .u64 (wu (wi (J+O))) 1)) Qa))) (Qi Qf ⟨[(0,.vtl 1 1000 aa 0 ab),(1,I J),(2,I Z),(3,I O),(4,.fn (.func 62) [] [Vs]),(18,I (wi (Zx .u64 (wu (wi (J+O))) 1))),(19,I (wi ((wi (Zx .u64 (wu (wi (J+O))) 1))+Z))),(20,I J)],Zq U G⟩ (sL Qf (QO (J,Z) Qa))))) ?_)));rintro⟨a8,a7⟩;refine Qi Qf ⟨tT (.vtl 1 1000 aa 0 ab) J Z O (wi (Zx .u64 (wu (wi (J+O))) 1)) (wi ((wi (Zx .u64 (wu (wi (J+O))) 1))+Z)) a8 a7 (wi ((wi ((wi (Zx .u64 (wu (wi (J+O))) 1))+Z))-1)),Zq U G⟩ (KG (fun j4=>⟨Qbc (.vtl 1 1000 aa 0 ab) J Z O (wi (Zx .u64 (wu (wi (J+O))) 1)) (wi ((wi (Zx .u64 (wu (wi (J+O))) 1))+Z)) j4,Zq U G⟩:Int→St) ?_ ?_)
 ·refine sB (QA (fun(al,an)=>⟨tT (.vtl 1 1000 aa 0 ab) J Z O (wi (Zx .u64 (wu (wi (J+O))) 1)) (wi ((wi (Zx .u64 (wu (wi (J+O))) 1))+Z)) al an (wi ((wi ((wi (Zx .u64 (wu (wi (J+O))) 1))+Z))-1)),Zq U G⟩:(Int×Int)→St) (JJ) ?_);rintro bl ⟨al,an⟩;show QU (YP n J Z O aa ab U G bl al an) _ _ _ _ _ _;unfold YP;refine sS (Qi Qf ⟨[(0,.vtl 1 1000 aa 0 ab),(1,I J),(2,I Z),(3,I O),(4,.fn (.func 62) [] [Vs]),(18,I (wi (Zx .u64 (wu (wi (J+O))) 1))),(19,I (wi ((wi (Zx .u64 (wu (wi (J+O))) 1))+Z))),(20,I al),(21,I an),(22,I (wi ((wi ((wi (Zx .u64 (wu (wi (J+O))) 1))+Z))-1))),(151,B (QD al an))],Zq U G⟩ (sC (QD al an) Qa ?_ (Qr (ZF (Kg (QI (QO al Qa)))))));refine sK (Qm ⟨tT (.vtl 1 1000 aa 0 ab) J Z O (wi (Zx .u64 (wu (wi (J+O))) 1)) (wi ((wi (Zx .u64 (wu (wi (J+O))) 1))+Z)) al an (wi ((wi ((wi (Zx .u64 (wu (wi (J+O))) 1))+Z))-1)),Zq U G⟩ (sB (Qi Qf ⟨[(0,.vtl 1 1000 aa 0 ab),(1,I J),(2,I Z),(3,I O),(4,.fn (.func 62) [] [Vs]),(18,I (wi (Zx .u64 (wu (wi (J+O))) 1))),(19,I (wi ((wi (Zx .u64 (wu (wi (J+O))) 1))+Z))),(20,I al),(21,I an),(22,I (wi ((wi ((wi (Zx .u64 (wu (wi (J+O))) 1))+Z))-1))),(23,I (wi (Zx .u64 (wu (wi (al+an))) 1)))],Zq U G⟩ (sS (Y3 Qf rfl (xR 5 (Z7 (Kh (e:=3) (S:=1) (tk:=1000) (ty:=3) (enc:=ci) (l:=U) (k:=.i64) (n:=wi ((wi ((wi ((wi (Zx .u64 (wu (wi (J+O))) 1))+Z))-1))-(wi (Zx .u64 (wu (wi (al+an))) 1)))) (nn:=aa) (m:=ab) rfl Qa Qa Qa Qa Qa) (fun x6 b8=>(Q7 (KH (S:=1) (tb:=3) (tk:=1000) (n:=Int.toNat (wi ((wi ((wi ((wi (Zx .u64 (wu (wi (J+O))) 1))+Z))-1))-(wi (Zx .u64 (wu (wi (al+an))) 1))))) (f:=0) (enc:=ci) (l:=U) (v:=x6) (c:=I x6) rfl (Zr (Vr b8))) (xR 2 (Z7 (Kh (e:=3) (S:=1) (tk:=1000) (ty:=3) (enc:=ci) (l:=U) (k:=.i64) (n:=wi (Zx .u64 (wu (wi (al+an))) 1)) (nn:=aa) (m:=ab) rfl Qa Qa Qa Qa Qa) (fun x7 b7=>(Q7 (KH (S:=1) (tb:=3) (tk:=1000) (n:=Int.toNat (wi (Zx .u64 (wu (wi (al+an))) 1))) (f:=0) (enc:=ci) (l:=U) (v:=x7) (c:=I x7) rfl (Zr (Vr b7))) (UO rfl (Vi (Dr G) [I x6,I x7,ZT] [(1000,1001)] [] [] Tryz.func62 rfl Tryz.ntmps62 rfl (Qi Qf ⟨fI x6 x7,Dr G⟩ (sS (Y3 Qf rfl (xR 2 (xG (QG (e:=3) (S:=1) (enc:=ci) (l:=G) (k:=.i64) (n:=x7) (sv:=.p (.sl 1 (List.map ci G))) rfl Qa Qa Qa Qa Qa) (fun x8=>xR 3 (xG (QG (e:=3) (S:=1) (enc:=ci) (l:=G) (k:=.i64) (n:=x6) (sv:=.p (.sl 1 (List.map ci G))) rfl Qa Qa Qa Qa Qa) (fun x9=>xR 1 ?_)))))))))))))))))))))));refine xC [] (WB n x8 x9) QL (fun bg=>?_);exact xR 1 (YO (Qm ⟨[(5,I bg)],Dr G⟩ (sT (QN (.id) [1000] [] (I bg) (Vg (xR 2 (xE (Qm ⟨[(0,.vtl 1 1000 aa 0 ab),(1,I J),(2,I Z),(3,I O),(4,.fn (.func 62) [] [Vs]),(18,I (wi (Zx .u64 (wu (wi (J+O))) 1))),(19,I (wi ((wi (Zx .u64 (wu (wi (J+O))) 1))+Z))),(20,I al),(21,I an),(22,I (wi ((wi ((wi (Zx .u64 (wu (wi (J+O))) 1))+Z))-1))),(23,I (wi (Zx .u64 (wu (wi (al+an))) 1))),(171,B (!(QD bg 0)))],Zq U G⟩ (sC (!(QD bg 0)) Qa (sL Qf (QP (KF (wi ((wi (Zx .u64 (wu (wi (al+an))) 1))+1),an)))) (sL Qf (QP (KF (al,wi (Zx .u64 (wu (wi (al+an))) 1))))))))))))))
 rintro j4;refine Qi Qf ⟨[(0,.vtl 1 1000 aa 0 ab),(1,I J),(2,I Z),(3,I O),(4,.fn (.func 62) [] [Vs]),(18,I (wi (Zx .u64 (wu (wi (J+O))) 1))),(20,I j4),(24,I (wi ((wi ((wi (Zx .u64 (wu (wi (J+O))) 1))+Z))-j4)))],Zq U G⟩ (KG (fun ay=>⟨[(0,.vtl 1 1000 aa 0 ab),(1,I J),(3,I O),(4,.fn (.func 62) [] [Vs]),(18,I (wi (Zx .u64 (wu (wi (J+O))) 1))),(20,I j4),(24,I (wi ((wi ((wi (Zx .u64 (wu (wi (J+O))) 1))+Z))-j4)))],Zq ay G⟩:(List Int)→St) ?_ ?_)
 ·refine KG (fun bp=>⟨[(0,.vtl 1 1000 aa 0 ab),(1,I J),(2,I Z),(3,I O),(4,.fn (.func 62) [] [Vs]),(18,I (wi (Zx .u64 (wu (wi (J+O))) 1))),(20,I j4),(24,I (wi ((wi ((wi (Zx .u64 (wu (wi (J+O))) 1))+Z))-j4))),(185,B bp)],Zq U G⟩:Bool→St) (sG (xR 4 (xS (QD j4 Z) (fun bk=>xO (Qu bk) (xR 3 (xE (QO (QD Z (wi ((wi ((wi (Zx .u64 (wu (wi (J+O))) 1))+Z))-j4))) Qa)))) (fun bk=>xN (Qv bk) (xR 3 (xE (QO false Qa))))))) ?_;rintro bp;refine sC bp Qa ?_ ?_
  ·refine sG (xR 5 ?_);refine Jv [(1000,1000),(1001,1001)] [] [] (GX n j4 Z (wi ((wi ((wi (Zx .u64 (wu (wi (J+O))) 1))+Z))-j4)) aa ab U G) QL QL (fun cj=>?_);exact xE (QO cj Qa)
  exact sK (QO U Qa)
 rintro ay;refine KG (fun bi=>⟨[(0,.vtl 1 1000 aa 0 ab),(3,I O),(4,.fn (.func 62) [] [Vs]),(18,I (wi (Zx .u64 (wu (wi (J+O))) 1))),(24,I (wi ((wi ((wi (Zx .u64 (wu (wi (J+O))) 1))+Z))-j4)))],Zq bi G⟩:(List Int)→St) ?_ ?_
 ·refine KG (fun bn=>⟨[(0,.vtl 1 1000 aa 0 ab),(1,I J),(3,I O),(4,.fn (.func 62) [] [Vs]),(18,I (wi (Zx .u64 (wu (wi (J+O))) 1))),(20,I j4),(24,I (wi ((wi ((wi (Zx .u64 (wu (wi (J+O))) 1))+Z))-j4))),(199,B bn)],Zq ay G⟩:Bool→St) (sG (xR 4 (xS (QD J j4) (fun bj=>xO (Qu bj) (xR 3 (xE (QO (QD j4 (wi (Zx .u64 (wu (wi (J+O))) 1))) Qa)))) (fun bj=>xN (Qv bj) (xR 3 (xE (QO false Qa))))))) ?_;rintro bn;refine sC bn Qa ?_ ?_
  ·refine sG (xR 5 ?_);refine Jv [(1000,1000),(1001,1001)] [] [] (ih J j4 (wi (Zx .u64 (wu (wi (J+O))) 1)) aa ab ay G) QL QL (fun cd=>?_);exact xE (QO cd Qa)
  exact sK (QO ay Qa)
 rintro bi;refine KG (fun bm=>⟨[(0,.vtl 1 1000 aa 0 ab),(3,I O),(4,.fn (.func 62) [] [Vs]),(18,I (wi (Zx .u64 (wu (wi (J+O))) 1))),(24,I (wi ((wi ((wi (Zx .u64 (wu (wi (J+O))) 1))+Z))-j4))),(213,B bm)],Zq bi G⟩:Bool→St) (sG (xR 4 (xS (QD (wi (Zx .u64 (wu (wi (J+O))) 1)) (wi ((wi ((wi (Zx .u64 (wu (wi (J+O))) 1))+Z))-j4))) (fun bo=>xO (Qu bo) (xR 3 (xE (QO (QD (wi ((wi ((wi (Zx .u64 (wu (wi (J+O))) 1))+Z))-j4)) O) Qa)))) (fun bo=>xN (Qv bo) (xR 3 (xE (QO false Qa))))))) ?_;rintro bm;refine sC bm Qa ?_ ?_
 ·refine sG (xR 5 ?_);refine Jv [(1000,1000),(1001,1001)] [] [] (ih (wi (Zx .u64 (wu (wi (J+O))) 1)) (wi ((wi ((wi (Zx .u64 (wu (wi (J+O))) 1))+Z))-j4)) O aa ab bi G) QL QL (fun cm=>?_);exact xE (qJ (.id) KW [])
 exact sK (qJ (.id) KW [])
def YW :Option Int :=some (-1)
def VZ(U:Qo)(G:Zg)(r1:(List Int)×Int)(J:Int→Option Int)(O:Int):Option Int :=cond (QD O (Qd (List.map ci ([]++r1.1)))) ((Za ([]++r1.1) O).bind fun Z =>(Za U.Chargers Z).bind fun Y =>cond (!QD G.Phase 0) (cond (Qq (JY .i64 Y.Phases (WZ .i64 1 G.Phase)) 0) (some O) (J (wi (O+1)))) none) YW
def YJ(aa:Qo)(Y:Zg)(U:((List Int)×Int×Int)→Option ((List Int)×Int))(G:List Int)(J:Int)(O:Int):Option ((List Int)×Int) :=cond (QD O (Qd (List.map ci G))) ((Za G O).bind fun Z =>(Za aa.Chargers Z).bind fun ab =>cond (!QD Y.Phase 0) (cond (!(Qq (JY .i64 ab.Phases (WZ .i64 1 Y.Phase)) 0)) ((Za G J).bind fun ac =>U (List.set G (Int.toNat J) Z,wi (J+1),wi (O+1))) (U (G,J,wi (O+1)))) none) (some (G,J))
def YK(n:Nat)(Y:List Int)(aa:Nat)(Z:Nat)(U:((List Int)×Int×Int)→Option ((List Int)×Int))(O:List Int)(J:Int)(G:Int):Option ((List Int)×Int) :=cond (leI G (ZP Z)) ((Zw n J G aa Z O Y).bind fun ab =>U (ab,G,wi (G+20))) (some (O,J))
def XQ(n:Nat)(Y:List Int)(ab:Nat)(aa:Nat)(O:Int)(Z:((List Int)×Int×Int)→Option ((List Int)×Int))(U:List Int)(J:Int)(G:Int):Option ((List Int)×Int) :=cond (leI G (ZP aa)) ((ZN n J (wi (J+O)) G ab aa U Y).bind fun ac =>Z (ac,G,wi (G+(wi (2*O))))) (some (U,J))
def YL(Z:List Int)(ae:Nat)(aa:Nat)(ab:List Int)(Y:((List Int)×Int×Int)→Option (List Int))(G:List Int)(J:Int)(O:Int):Option (List Int) :=cond (QD O (ZP aa)) ((Jw ae aa ab O).bind fun U =>(Za Z U).bind fun ac =>(Za G U).bind fun af =>(Za (List.set G (Int.toNat U) (K9 ac J)) U).bind fun ad =>cond (Qq (wi (J-ad)) 0) (some (List.set G (Int.toNat U) (K9 ac J))) (Y (List.set G (Int.toNat U) (K9 ac J),wi (J-ad),wi (O+1)))) (some G)
def VE(n:Nat)(G:List Int)(r2:Int×Int)(aa:Nat)(O:Nat)(Z:((List Int)×Int)→Option (List Int))(Y:List Int)(J:Int):Option (List Int) :=cond (QD J (ZP O)) ((Q0 (fun ac (ak,ah,ai)=>XQ n G aa O J ac ak ah ai) n (Y,0,wi (2*J))).bind fun(ab,U) =>cond (QD (wi (U+J)) (ZP O)) ((ZN n U (wi (U+J)) (ZP O) aa O ab G).bind fun al =>Z (al,wi (J*2))) (Z (ab,wi (J*2)))) (cond (Pi (Qd (List.map ci G)) (Qd (List.map ci G)) 8) (cond (Nat.beq aa (List.length Y)) (Q0 (fun ad (ae,aj,af)=>YL G aa O Y ad ae aj af) n (List.replicate (Int.toNat (Qd (List.map ci G))) 0,wi (r2.1+1),0)) none) none)
def JO(n:Nat)(aa:Qo)(O:List Int)(U:Zg):Option (List Int) :=(XD n aa U.Conductor).bind fun r1 =>(Vb n aa U.Conductor).bind fun r2 =>(cond (!List.isEmpty r1.1) (cond (ZW (List.length ([]++r1.1)) 8) ((Q0 (fun ak l7=>VZ aa U r1 ak l7) n 0).bind fun j5 =>cond (Qq j5 (-1)) (some ([]++r1.1,(List.map ci ([]++r1.1)).length,(List.map ci ([]++r1.1)).length)) ((Q0 (fun ab (an,aj,aq)=>YJ aa U ab an aj aq) n ([]++r1.1,j5,wi (j5+1))).bind fun(G,J) =>cond (L8 (List.map ci G).length J (ZP (List.map ci G).length) (List.length G)) (cond (sJ ((List.map ci G).length) (Int.toNat J) ((Int.toNat (ZP (List.map ci G).length))-(Int.toNat J)) (List.length G)) (cond (L8 (List.map ci G).length 0 J (List.length (List.take (Int.toNat J) G++List.replicate ((Int.toNat (ZP (List.map ci G).length))-(Int.toNat J)) 0++List.drop ((Int.toNat J)+((Int.toNat (ZP (List.map ci G).length))-(Int.toNat J))) G))) (some (List.take (Int.toNat J) G++List.replicate ((Int.toNat (ZP (List.map ci G).length))-(Int.toNat J)) 0++List.drop ((Int.toNat J)+((Int.toNat (ZP (List.map ci G).length))-(Int.toNat J))) G,(List.map ci G).length,(Int.toNat J))) none) none) none)) none) none).bind fun(ae,Z,Y) =>cond (Nat.beq Z (List.length ae)) ((Q0 (fun ad (ah,ao,ar)=>YK n O Z Y ad ah ao ar) n (ae,0,20)).bind fun(au,al) =>(Zw n al (ZP Y) Z Y au O).bind fun av =>Q0 (fun ac (af,ai)=>VE n O r2 Z Y ac af ai) n (av,20)) none
def tV:=fun O G J=>([(3,.box 28 (KS (Qo.cs O))),(4,(WM G)),(5,.box 46 (KS (Zg.cs J)))]:List (Nat×Blk))
def QeK:=fun O G J U=>(⟨[(4,.ptr 4 0),(9,I O),(11,G)],[(4,(WM J)),(405,.vec 3 1 (List.map ci U))]⟩:St)
def JP:=fun J G=>([(1000,(WM J)),(1001,.vec 3 1 (List.map ci G))]:List (Nat×Blk))
def zM:=fun O G J=>([(0,O),(1,I G),(2,.fn (.func 62) [] [.ptr 1000 0]),(6,I J)]:List (Nat×AV))
def zN:=fun O G J U Y=>([(0,O),(1,I G),(2,.fn (.func 62) [] [.ptr 1000 0]),(6,I J),(7,I U),(8,I Y)]:List (Nat×AV))
def Qbd:=fun U J O G=>([(0,U),(1,I J),(2,.fn (.func 62) [] [.ptr 1000 0]),(6,I O),(7,I G),(8,I G)]:List (Nat×AV))
def fO:=fun O G J=>([(1000,.box 28 (KS (Qo.cs O))),(1001,.box 46 (KS (Zg.cs G))),(1002,.vec 3 1 (List.map ci J))]:List (Nat×Blk))
def zO:=fun J G=>([(1000,.box 28 (KS (Qo.cs J))),(1001,.box 46 (KS (Zg.cs G)))]:List (Nat×Blk))
def Qbe:=fun G=>([(0,I G),(1,.ptr 1000 0),(2,.ptr 1001 0)]:List (Nat×AV))
abbrev Q3(x:Zg):Go.Abs.Blk:=.box 46 (KS (Zg.cs x))
theorem Nq(n:Nat)(ae:Qo)(G:List Int)(O:Zg):∀r,JO n ae G O=some r→QV Tryz.prog 28 [ag (Qo.cs ae),.p (.sl 1 (List.map ci G)),ag (Zg.cs O)] (.ret (.p (.sl 1 (List.map ci r)))):=by
 refine Qp Tryz.func28 rfl Tryz.ntmps28 rfl ?_;unfold JO;refine Qi Qf ⟨[qq 3,qq 4,qq 5],tV ae G O⟩ (sS (sG (xR 3 ?_)));refine xC [] (Az n ae O.Conductor) QL (fun r1=>?_);refine xR 5 (xE (Qm ⟨[qq 3,qq 4,qq 5,(7,.p (.sl 1 (List.map ci r1.1)))],tV ae G O⟩ (sS (sG (xR 3 ?_)))));refine xC [] (Rj n ae O.Conductor) QL (fun r2=>?_);refine xR 5 (xE (Qm ⟨[qq 3,qq 4,qq 5,(7,.p (.sl 1 (List.map ci r1.1))),(9,I r2.1)],tV ae G O⟩ (KG (fun(az,U,J)=>(QeK r2.1 (.vtl 1 405 U 0 J) G az):((List Int)×Nat×Nat)→St) ?_ ?_)));rotate_left
 ·rintro⟨az,U,J⟩;refine sS (sG (xR 2 (Vi (JP G az) [.vtl 1 1001 U 0 J,.fn (.func 62) [] [ZT]] [(1000,4),(1001,405)] [] [] Tryz.func61 rfl Tryz.ntmps61 rfl (sG (xR 2 (xF (jq (tk:=1001) (enc:=ci) (l:=az) (S:=1) (n:=U) (k:=0) (m:=J) (e:=3) (ty:=3) rfl Qa Qa Qa Qa) (xR 1 (Vi (JP G az) [.vtl 1 1001 U 0 J,I (ZP J),.fn (.func 62) [] [ZT]] [(1000,1000),(1001,1001)] [] [] Tryz.func108 rfl Tryz.ntmps108 rfl (Qi Qf ⟨zM (.vtl 1 1001 U 0 J) (ZP J) 20,JP G az⟩ (Qi Qf ⟨zN (.vtl 1 1001 U 0 J) (ZP J) 20 0 20,JP G az⟩ (KG (fun(a8,a7)=>⟨[(0,.vtl 1 1001 U 0 J),(1,I (ZP J)),(2,.fn (.func 62) [] [ZT]),(6,I 20),(7,I a7)],JP G a8⟩:((List Int)×Int)→St) ?_ ?_)))))))))))
  ·refine sB (QA (fun(ar,av,al)=>⟨zN (.vtl 1 1001 U 0 J) (ZP J) 20 av al,JP G ar⟩:((List Int)×Int×Int)→St) (JJ) ?_);rintro bc ⟨ar,av,al⟩;show QU (YK n G U J bc ar av al) _ _ _ _ _ _;unfold YK;refine sS (Qi Qf ⟨[(0,.vtl 1 1001 U 0 J),(1,I (ZP J)),(2,.fn (.func 62) [] [ZT]),(6,I 20),(7,I av),(8,I al),(13,B (leI al (ZP J)))],JP G ar⟩ (sC (leI al (ZP J)) Qa ?_ ?_))
   ·refine sK (Qm ⟨zN (.vtl 1 1001 U 0 J) (ZP J) 20 av al,JP G ar⟩ (sB (sS (sG (xR 4 ?_)))));refine Jv [(1000,1001),(1001,1000)] [] [] (VD n av al U J ar G) QL QL (fun bh=>?_);exact xE (Qm ⟨[(0,.vtl 1 1001 U 0 J),(1,I (ZP J)),(2,.fn (.func 62) [] [ZT]),(6,I 20),(8,I al)],JP G bh⟩ (Qi Qf ⟨Qbd (.vtl 1 1001 U 0 J) (ZP J) 20 al,JP G bh⟩ (sL Qf (QP (KF (bh,al,wi (al+20)))))))
   exact Qr (ZF (Kg (QI (QO (ar,av) Qa))))
  rintro⟨a8,a7⟩;refine sS (sG (xR 4 ?_));refine Jv [(1000,1001),(1001,1000)] [] [] (VD n a7 (ZP J) U J a8 G) QL QL (fun bp=>?_);refine xE (Qm ⟨zM (.vtl 1 1001 U 0 J) (ZP J) 20,JP G bp⟩ (sB (QA (fun(af,ab)=>⟨zM (.vtl 1 1001 U 0 J) (ZP J) ab,JP G af⟩:((List Int)×Int)→St) (JJ) ?_)));rintro bf ⟨af,ab⟩;show QU (VE n G r2 U J bf af ab) _ _ _ _ _ _;unfold VE;refine sS (Qi Qf ⟨[(0,.vtl 1 1001 U 0 J),(1,I (ZP J)),(2,.fn (.func 62) [] [ZT]),(6,I ab),(30,B (QD ab (ZP J)))],JP G af⟩ (sC (QD ab (ZP J)) Qa ?_ ?_))
  ·refine sK (Qm ⟨zM (.vtl 1 1001 U 0 J) (ZP J) ab,JP G af⟩ (sB (Qi Qf ⟨zN (.vtl 1 1001 U 0 J) (ZP J) ab 0 (wi (2*ab)),JP G af⟩ (KG (fun(aw,an)=>⟨[(0,.vtl 1 1001 U 0 J),(1,I (ZP J)),(2,.fn (.func 62) [] [ZT]),(6,I ab),(7,I an)],JP G aw⟩:((List Int)×Int)→St) ?_ ?_))));rotate_left
   ·rintro⟨aw,an⟩;refine sS (Qi Qf ⟨[(0,.vtl 1 1001 U 0 J),(1,I (ZP J)),(2,.fn (.func 62) [] [ZT]),(6,I ab),(7,I an),(9,I (wi (an+ab)))],JP G aw⟩ (Qi Qf ⟨[(0,.vtl 1 1001 U 0 J),(1,I (ZP J)),(2,.fn (.func 62) [] [ZT]),(6,I ab),(7,I an),(9,I (wi (an+ab))),(54,B (QD (wi (an+ab)) (ZP J)))],JP G aw⟩ (sC (QD (wi (an+ab)) (ZP J)) Qa ?_ ?_)))
    ·refine sG (xR 5 ?_);refine Jv [(1000,1001),(1001,1000)] [] [] (WT n an (wi (an+ab)) (ZP J) U J aw G) QL QL (fun bj=>?_);exact xE (Qm ⟨zM (.vtl 1 1001 U 0 J) (ZP J) ab,JP G bj⟩ (sL Qf (QP (KF (bj,wi (ab*2))))))
    exact sK (Qm ⟨zM (.vtl 1 1001 U 0 J) (ZP J) ab,JP G aw⟩ (sL Qf (QP (KF (aw,wi (ab*2))))))
   refine sB (QA (fun(au,aq,ak)=>⟨zN (.vtl 1 1001 U 0 J) (ZP J) ab aq ak,JP G au⟩:((List Int)×Int×Int)→St) (JJ) ?_);rintro bb ⟨au,aq,ak⟩;show QU (XQ n G U J ab bb au aq ak) _ _ _ _ _ _;unfold XQ;refine sS (Qi Qf ⟨[(0,.vtl 1 1001 U 0 J),(1,I (ZP J)),(2,.fn (.func 62) [] [ZT]),(6,I ab),(7,I aq),(8,I ak),(35,B (leI ak (ZP J)))],JP G au⟩ (sC (leI ak (ZP J)) Qa ?_ ?_))
   ·refine sK (Qm ⟨zN (.vtl 1 1001 U 0 J) (ZP J) ab aq ak,JP G au⟩ (sB (sS (sG (xR 7 ?_)))));refine Jv [(1000,1001),(1001,1000)] [] [] (WT n aq (wi (aq+ab)) ak U J au G) QL QL (fun bg=>?_);exact xE (Qm ⟨[(0,.vtl 1 1001 U 0 J),(1,I (ZP J)),(2,.fn (.func 62) [] [ZT]),(6,I ab),(8,I ak)],JP G bg⟩ (Qi Qf ⟨Qbd (.vtl 1 1001 U 0 J) (ZP J) ab ak,JP G bg⟩ (sL Qf (QP (KF (bg,ak,wi (ak+(wi (2*ab)))))))))
   exact Qr (ZF (Kg (QI (QO (au,aq) Qa))))
  refine Qr (ZF (Kg (QI (Xj (.id) [1000,1001] [] (.tup []) (Vg (xE (Xj (.id) [1000,1001] [] (.tup []) (Vg (xE (Qm (QeK r2.1 (.vtl 1 405 U 0 J) G af) (sS (sG (xR 2 (xF (Oh (e:=3) (S:=1) (by_:=8) (d:=39) (enc:=ci) (z0:=0) (k:=.i64) (k':=.i64) (l:=Qd (List.map ci G)) (c:=Qd (List.map ci G)) rfl rfl Qa Qa rfl Qa Qa Qa Qa) (xR 1 (xE (Qm ⟨[qq 4,(9,I r2.1),(11,.vtl 1 405 U 0 J),(12,.vsl 1 39 (List.map ci (List.replicate (Int.toNat (Qd (List.map ci G))) 0)).length)],[(4,(WM G)),(39,.vec 3 1 (List.map ci (List.replicate (Int.toNat (Qd (List.map ci G))) 0))),(405,.vec 3 1 (List.map ci af))]⟩ (Qi Qf ⟨[qq 4,(11,.vtl 1 405 U 0 J),(12,.vsl 1 39 (List.map ci (List.replicate (Int.toNat (Qd (List.map ci G))) 0)).length),(13,I (wi (r2.1+1)))],[(4,(WM G)),(39,.vec 3 1 (List.map ci (List.replicate (Int.toNat (Qd (List.map ci G))) 0))),(405,.vec 3 1 (List.map ci af))]⟩ (sS (sS (sG (xR 1 (xF (jq (tk:=405) (enc:=ci) (l:=af) (S:=1) (n:=U) (k:=0) (m:=J) (e:=3) (ty:=3) rfl Qa Qa Qa Qa) (xR 1 (xE (Qm ⟨[qq 4,(12,.vsl 1 39 (List.map ci (List.replicate (Int.toNat (Qd (List.map ci G))) 0)).length),(13,I (wi (r2.1+1))),(42,.vtl 1 405 U 0 J),(43,I (ZP J)),(44,I 0)],[(4,(WM G)),(39,.vec 3 1 (List.map ci (List.replicate (Int.toNat (Qd (List.map ci G))) 0))),(405,.vec 3 1 (List.map ci af))]⟩ (sB (QA (fun(Y,ac,aj)=>⟨[qq 4,(12,.vsl 1 39 (List.map ci Y).length),(13,I ac),(42,.vtl 1 405 U 0 J),(43,I (ZP J)),(44,I aj)],[(4,(WM G)),(39,.vec 3 1 (List.map ci Y)),(405,.vec 3 1 (List.map ci af))]⟩:((List Int)×Int×Int)→St) (JJ) ?_))))))))))))))))))))))))))));rintro be ⟨Y,ac,aj⟩;show QU (YL G U J af be Y ac aj) _ _ _ _ _ _;unfold YL;refine Qi Qf ⟨[qq 4,(12,.vsl 1 39 (List.map ci Y).length),(13,I ac),(42,.vtl 1 405 U 0 J),(43,I (ZP J)),(44,I aj),(45,B (QD aj (ZP J)))],[(4,(WM G)),(39,.vec 3 1 (List.map ci Y)),(405,.vec 3 1 (List.map ci af))]⟩ (sS (sC (QD aj (ZP J)) Qa ?_ (Qr (ZF (Kg (QI (Qm ⟨[(12,.vsl 1 39 (List.map ci Y).length)],[(39,.vec 3 1 (List.map ci Y))]⟩ (ZB (Pe 39 3 1 (List.map ci Y) [(List.map ci Y).length] Qa Qa zq Qa Qa) (Qi Qf ⟨[(6,.p (.sl 1 (List.map ci Y)))],[]⟩ (sT (qR (.id))))))))))));refine sK (Qm ⟨[qq 4,(12,.vsl 1 39 (List.map ci Y).length),(13,I ac),(42,.vtl 1 405 U 0 J),(43,I (ZP J)),(44,I aj)],[(4,(WM G)),(39,.vec 3 1 (List.map ci Y)),(405,.vec 3 1 (List.map ci af))]⟩ (sS (sB (sS (sG (Z7 (Kh (e:=3) (S:=1) (tk:=405) (ty:=3) (enc:=ci) (l:=af) (k:=.i64) (n:=aj) (nn:=U) (m:=J) rfl Qa Qa Qa Qa Qa) (fun ao bl=>(Q7 (KH (S:=1) (tb:=3) (tk:=405) (n:=Int.toNat aj) (f:=0) (enc:=ci) (l:=af) (v:=ao) (c:=I ao) rfl (Zr (Vr bl))) (xR 1 (xE (Qm ⟨[qq 4,(12,.vsl 1 39 (List.map ci Y).length),(13,I ac),(15,I ao),(42,.vtl 1 405 U 0 J),(43,I (ZP J)),(44,I aj)],[(4,(WM G)),(39,.vec 3 1 (List.map ci Y)),(405,.vec 3 1 (List.map ci af))]⟩ (sS (sG (xR 4 (xG (QG (e:=3) (S:=1) (enc:=ci) (l:=G) (k:=.i64) (n:=ao) (sv:=.p (.sl 1 (List.map ci G))) rfl Qa Qa Qa Qa Qa) (fun ax=>xR 3 (Z7 (F7 (e:=3) (S:=1) (tk:=39) (ty:=3) (enc:=ci) (l:=Y) (k:=.i64) (n:=ao) (nn:=(List.map ci Y).length) rfl Qa Qa Qa Qa Qa zq) (fun bt bm=>(Q7 (V4 (S:=1) (tb:=3) (tk:=39) (n:=Int.toNat ao) (f:=0) (enc:=ci) (l:=Y) (v:=bt) (v':=(K9 ax ac)) (xv:=I (K9 ax ac)) rfl (Zr bm)) (xE (Qm ⟨[qq 4,(12,.vsl 1 39 (List.map ci Y).length),(13,I ac),(15,I ao),(42,.vtl 1 405 U 0 J),(43,I (ZP J)),(44,I aj)],[(4,(WM G)),(39,.vec 3 1 (List.map ci (List.set Y (Int.toNat ao) (K9 ax ac)))),(405,.vec 3 1 (List.map ci af))]⟩ (sS (sG (xR 3 (Z7 (F7 (e:=3) (S:=1) (tk:=39) (ty:=3) (enc:=ci) (l:=List.set Y (Int.toNat ao) (K9 ax ac)) (k:=.i64) (n:=ao) (nn:=(List.map ci Y).length) rfl Qa Qa Qa Qa Qa zq) (fun a6 bn=>?_))))))))))))))))))))))))));exact Q7 (KH (S:=1) (tb:=3) (tk:=39) (n:=Int.toNat ao) (f:=0) (enc:=ci) (l:=List.set Y (Int.toNat ao) (K9 ax ac)) (v:=a6) (c:=I a6) rfl (Zr bn)) (xR 2 (xE (Qm ⟨[qq 4,(12,.vsl 1 39 (List.map ci Y).length),(13,I (wi (ac-a6))),(42,.vtl 1 405 U 0 J),(43,I (ZP J)),(44,I aj)],[(4,(WM G)),(39,.vec 3 1 (List.map ci (List.set Y (Int.toNat ao) (K9 ax ac)))),(405,.vec 3 1 (List.map ci af))]⟩ (Qi Qf ⟨[qq 4,(12,.vsl 1 39 (List.map ci Y).length),(13,I (wi (ac-a6))),(42,.vtl 1 405 U 0 J),(43,I (ZP J)),(44,I aj),(64,B (Qq (wi (ac-a6)) 0))],[(4,(WM G)),(39,.vec 3 1 (List.map ci (List.set Y (Int.toNat ao) (K9 ax ac)))),(405,.vec 3 1 (List.map ci af))]⟩ (sC (Qq (wi (ac-a6)) 0) Qa (Qr (A9 rfl (ZF (Kg (QI (Qm ⟨[(12,.vsl 1 39 (List.map ci Y).length)],[(39,.vec 3 1 (List.map ci (List.set Y (Int.toNat ao) (K9 ax ac))))]⟩ (ZB (Pe 39 3 1 (List.map ci (List.set Y (Int.toNat ao) (K9 ax ac))) [(List.map ci Y).length] Qa Qa zq Qa Qa) (Qi Qf ⟨[(6,.p (.sl 1 (List.map ci (List.set Y (Int.toNat ao) (K9 ax ac)))))],[]⟩ (sT (qR (.id))))))))))) (sK (QP (Qm ⟨[qq 4,(12,.vsl 1 39 (List.map ci Y).length),(13,I (wi (ac-a6))),(42,.vtl 1 405 U 0 J),(43,I (ZP J)),(44,I aj)],[(4,(WM G)),(39,.vec 3 1 (List.map ci (List.set Y (Int.toNat ao) (K9 ax ac)))),(405,.vec 3 1 (List.map ci af))]⟩ (sL Qf (aJ  (List.set Y (Int.toNat ao) (K9 ax ac),wi (ac-a6),wi (aj+1)) ⟨[4,12,13,42,43,44],[4,39,405],[],[]⟩ ⟨[qq 4,(12,.vsl 1 39 (List.map ci Y).length),(13,I (wi (ac-a6))),(42,.vtl 1 405 U 0 J),(43,I (ZP J)),(44,I (wi (aj+1)))],[(4,(WM G)),(39,.vec 3 1 (List.map ci (List.set Y (Int.toNat ao) (K9 ax ac)))),(405,.vec 3 1 (List.map ci af))]⟩ Qa zq))))))))))
 refine sG (xR 1 (Vi [] [.p (.sl 1 (List.map ci r1.1))] [(5,405)] [] [] Tryz.func59 rfl Tryz.ntmps59 rfl (Qi Qf ⟨[(0,.p (.sl 1 (List.map ci r1.1)))],[]⟩ (sS (sS (sG (xR 1 (xS (!List.isEmpty r1.1) (fun h4=>il (e:=3) (S:=1) (enc:=ci) (l:=r1.1) Qa rfl Qa Qa Qa Qa h4 (xE (Qm ⟨[(0,.p (.sl 1 (List.map ci r1.1))),(4,B false)],[]⟩ (Q4 (sK (Qm ⟨[(0,.p (.sl 1 (List.map ci r1.1)))],[]⟩ (sS (sG (xR 2 (xF (rf (e:=3) (S:=1) (by_:=8) (enc:=ci) (tk:=5) (l:=[]) (l2:=r1.1) (xv:=.p (.sl 1 (List.map ci r1.1))) (n:=(List.map ci []).length) rfl Qa Qa rfl Qa Qa Qa Qa zq) (xR 1 (xE (Qm ⟨[(2,.vsl 1 5 (List.map ci ([]++r1.1)).length)],[(5,.vec 3 1 (List.map ci ([]++r1.1)))]⟩ (sT (QN (.id) [5] [] (.vsl 1 5 (List.map ci ([]++r1.1)).length) (Vg (xR 1 (Vi ([(1000,Qx ae),(1001,Q3 O),(1002,.vec 3 1 (List.map ci ([]++r1.1)))]) [.vsl 1 1002 (List.map ci ([]++r1.1)).length,.fn (.func 60) [] [ZT,Vs]] [(1000,3),(1001,5),(1002,405)] [] [] Tryz.func58 rfl Tryz.ntmps58 rfl (Qi Qf ⟨[(0,.vsl 1 1002 (List.map ci ([]++r1.1)).length),(1,.fn (.func 60) [] [ZT,Vs])],[(1000,Qx ae),(1001,Q3 O),(1002,.vec 3 1 (List.map ci ([]++r1.1)))]⟩ (KG (fun j5=>⟨[(0,.vsl 1 1002 (List.map ci ([]++r1.1)).length),(1,.fn (.func 60) [] [ZT,Vs]),(5,I j5)],[(1000,Qx ae),(1001,Q3 O),(1002,.vec 3 1 (List.map ci ([]++r1.1)))]⟩:Int→St) ?_ ?_)))))))))))))))))))) (fun _=>ig)))))))))
 ·refine sG (xR 2 (Vi ([(1000,Qx ae),(1001,Q3 O),(1002,.vec 3 1 (List.map ci ([]++r1.1)))]) [.vsl 1 1002 (List.map ci ([]++r1.1)).length,.fn (.func 60) [] [ZT,Vs]] [(1000,1000),(1001,1001),(1002,1002)] [] [] Tryz.func107 rfl Tryz.ntmps107 rfl (Qi Qf ⟨[(0,.vsl 1 1002 (List.map ci ([]++r1.1)).length),(1,.fn (.func 60) [] [ZT,Vs])],[(1000,Qx ae),(1001,Q3 O),(1002,.vec 3 1 (List.map ci ([]++r1.1)))]⟩ (Kc (fun _=>⟨[],fO ae O ([]++r1.1)⟩:Unit→St) (fun _=>YW) ?_ ?_))))
  ·rintro _;show QU (YW) _ _ _ _ _ _;unfold YW;exact Qi Qf ⟨[(4,I (-1))],fO ae O ([]++r1.1)⟩ (sT (QN (.id) [1000,1001,1002] [] (I (-1)) (Vg (xR 1 (xE (QO (-1) Qa))))))
  refine sS (sG (xR 1 (Q7 (wU (tk:=1002) (es:=List.map ci ([]++r1.1)) (S:=1) (n:=(List.map ci ([]++r1.1)).length) (e:=3) (ty:=3) rfl Qa Qa Qa zq) (xR 1 (xE (Qm ⟨[(0,.vsl 1 1002 (List.map ci ([]++r1.1)).length),(1,.fn (.func 60) [] [ZT,Vs]),(7,I (Qd (List.map ci ([]++r1.1)))),(8,I 0)],[(1000,Qx ae),(1001,Q3 O),(1002,.vec 3 1 (List.map ci ([]++r1.1)))]⟩ (sB (QA (fun l7=>⟨[(0,.vsl 1 1002 (List.map ci ([]++r1.1)).length),(1,.fn (.func 60) [] [ZT,Vs]),(7,I (Qd (List.map ci ([]++r1.1)))),(8,I l7)],[(1000,Qx ae),(1001,Q3 O),(1002,.vec 3 1 (List.map ci ([]++r1.1)))]⟩:Int→St) (JJ) ?_))))))));rintro bi l7;show QU (VZ ae O r1 bi l7) _ _ _ _ _ _;unfold VZ;refine Qi Qf ⟨[(0,.vsl 1 1002 (List.map ci ([]++r1.1)).length),(1,.fn (.func 60) [] [ZT,Vs]),(7,I (Qd (List.map ci ([]++r1.1)))),(8,I l7),(9,B (QD l7 (Qd (List.map ci ([]++r1.1)))))],[(1000,Qx ae),(1001,Q3 O),(1002,.vec 3 1 (List.map ci ([]++r1.1)))]⟩ (sS (sC (QD l7 (Qd (List.map ci ([]++r1.1)))) Qa ?_ (Qr (ZF (Kg (QI (KF (k:=fun _=>YW) ())))))));refine sK (Qm ⟨[(0,.vsl 1 1002 (List.map ci ([]++r1.1)).length),(1,.fn (.func 60) [] [ZT,Vs]),(7,I (Qd (List.map ci ([]++r1.1)))),(8,I l7)],[(1000,Qx ae),(1001,Q3 O),(1002,.vec 3 1 (List.map ci ([]++r1.1)))]⟩ (sS (sB (Qi Qf ⟨[(0,.vsl 1 1002 (List.map ci ([]++r1.1)).length),(1,.fn (.func 60) [] [ZT,Vs]),(5,I l7),(7,I (Qd (List.map ci ([]++r1.1)))),(8,I l7)],[(1000,Qx ae),(1001,Q3 O),(1002,.vec 3 1 (List.map ci ([]++r1.1)))]⟩ (sS (sG (xR 3 (Z7 (F7 (e:=3) (S:=1) (tk:=1002) (ty:=3) (enc:=ci) (l:=[]++r1.1) (k:=.i64) (n:=l7) (nn:=(List.map ci ([]++r1.1)).length) rfl Qa Qa Qa Qa Qa zq) (fun x8 br=>(Q7 (KH (S:=1) (tb:=3) (tk:=1002) (n:=Int.toNat l7) (f:=0) (enc:=ci) (l:=[]++r1.1) (v:=x8) (c:=I x8) rfl (Zr br)) (Vi (zO ae O) [I x8,ZT,Vs] [(1000,1000),(1001,1001)] [] [] Tryz.func60 rfl Tryz.ntmps60 rfl (Qi Qf ⟨Qbe x8,zO ae O⟩ (sS (Y3 Qf rfl (xR 3 (xG (QG (e:=32) (S:=8) (enc:=Kj.cs) (l:=ae.Chargers) (k:=.i64) (n:=x8) (sv:=.p (.sl 8 (Y1 ae.Chargers))) rfl Qa Qa Qa Qa Qa) (fun x9=>xR 4 (xF (yf (k:=.i64) (k':=.i64) (a:=1) (b:=O.Phase) rfl Qa Qa) (xR 3 (YO (Qm ⟨[(4,B (Qq (JY .i64 x9.Phases (WZ .i64 1 O.Phase)) 0))],zO ae O⟩ (sT (QN (.id) [1000,1001] [] (B (Qq (JY .i64 x9.Phases (WZ .i64 1 O.Phase)) 0)) (Vg (xE (Qm ⟨[(0,.vsl 1 1002 (List.map ci ([]++r1.1)).length),(1,.fn (.func 60) [] [ZT,Vs]),(5,I l7),(7,I (Qd (List.map ci ([]++r1.1)))),(8,I l7),(16,B (Qq (JY .i64 x9.Phases (WZ .i64 1 O.Phase)) 0))],[(1000,Qx ae),(1001,Q3 O),(1002,.vec 3 1 (List.map ci ([]++r1.1)))]⟩ (sC (Qq (JY .i64 x9.Phases (WZ .i64 1 O.Phase)) 0) Qa (Qi Qf ⟨[(4,I l7)],fO ae O ([]++r1.1)⟩ (sT (Ze (QW (K8 (Ze (K8 (QN (.id) [1000,1001,1002] [] (I l7) (Vg (xR 1 (xE (QO l7 Qa)))))))))))) ?_)))))))))))))))))))))))))));exact sK (QP (Qm ⟨[(0,.vsl 1 1002 (List.map ci ([]++r1.1)).length),(1,.fn (.func 60) [] [ZT,Vs]),(7,I (Qd (List.map ci ([]++r1.1)))),(8,I l7)],[(1000,Qx ae),(1001,Q3 O),(1002,.vec 3 1 (List.map ci ([]++r1.1)))]⟩ (sL Qf (KF (wi (l7+1))))))
 rintro j5;refine sS (Qi Qf ⟨[(0,.vsl 1 1002 (List.map ci ([]++r1.1)).length),(1,.fn (.func 60) [] [ZT,Vs]),(5,I j5),(12,B (Qq j5 (-1)))],[(1000,Qx ae),(1001,Q3 O),(1002,.vec 3 1 (List.map ci ([]++r1.1)))]⟩ (sC (Qq j5 (-1)) Qa (Qi Qf ⟨[(4,.vsl 1 1002 (List.map ci ([]++r1.1)).length)],[(1000,Qx ae),(1001,Q3 O),(1002,.vec 3 1 (List.map ci ([]++r1.1)))]⟩ (sT (QW (QN (.id) [1000,1001,1002] [] (.vsl 1 1002 (List.map ci ([]++r1.1)).length) (Vg (xR 1 (xE (dY ([]++r1.1,(List.map ci ([]++r1.1)).length,(List.map ci ([]++r1.1)).length) ⟨[4,9,11],[4,405],[(11,.vt)],[]⟩ Qa)))))))) (sK (Qm ⟨[(0,.vsl 1 1002 (List.map ci ([]++r1.1)).length),(1,.fn (.func 60) [] [ZT,Vs]),(5,I j5)],[(1000,Qx ae),(1001,Q3 O),(1002,.vec 3 1 (List.map ci ([]++r1.1)))]⟩ (KG (fun(aa,ad)=>⟨[(0,.vsl 1 1002 (List.map ci aa).length),(5,I ad)],[(1000,Qx ae),(1001,Q3 O),(1002,.vec 3 1 (List.map ci aa))]⟩:((List Int)×Int)→St) ?_ ?_)))));rotate_left
 ·rintro⟨aa,ad⟩;exact sS (sG (xR 2 (xF (OT (e:=3) (S:=1) (tk:=1002) (nn:=(List.map ci aa).length) (ty:=3) (enc:=ci) (l:=aa) (a:=ad) (b:=ZP (List.map ci aa).length) rfl Qa Qa Qa Qa Qa Qa Qa) (xF (uq (e:=3) (tk:=1002) (nn:=(List.map ci aa).length) (k:=(Int.toNat ad)) (m:=((Int.toNat (ZP (List.map ci aa).length))-(Int.toNat ad))) (ty:=3) (l:=aa) (enc:=ci) (kk:=.i64) rfl Qa Qa Qa Qa rfl) (xE (Qm ⟨[(0,.vsl 1 1002 (List.map ci aa).length),(5,I ad)],[(1000,Qx ae),(1001,Q3 O),(1002,.vec 3 1 (List.map ci (List.take (Int.toNat ad) aa++List.replicate ((Int.toNat (ZP (List.map ci aa).length))-(Int.toNat ad)) 0++List.drop ((Int.toNat ad)+((Int.toNat (ZP (List.map ci aa).length))-(Int.toNat ad))) aa)))]⟩ (sS (sG (xR 2 (xF (OT (e:=3) (S:=1) (tk:=1002) (nn:=(List.map ci aa).length) (ty:=3) (enc:=ci) (l:=List.take (Int.toNat ad) aa++List.replicate ((Int.toNat (ZP (List.map ci aa).length))-(Int.toNat ad)) 0++List.drop ((Int.toNat ad)+((Int.toNat (ZP (List.map ci aa).length))-(Int.toNat ad))) aa) (a:=0) (b:=ad) rfl Qa Qa Qa Qa Qa Qa Qa) (xR 1 (xE (Qm ⟨[(4,.vtl 1 1002 (List.map ci aa).length 0 (Int.toNat ad))],fO ae O (List.take (Int.toNat ad) aa++List.replicate ((Int.toNat (ZP (List.map ci aa).length))-(Int.toNat ad)) 0++List.drop ((Int.toNat ad)+((Int.toNat (ZP (List.map ci aa).length))-(Int.toNat ad))) aa)⟩ (sT (QN (.id) [1000,1001,1002] [] (.vtl 1 1002 (List.map ci aa).length 0 (Int.toNat ad)) (Vg (xR 1 (xE (QO (List.take (Int.toNat ad) aa++List.replicate ((Int.toNat (ZP (List.map ci aa).length))-(Int.toNat ad)) 0++List.drop ((Int.toNat ad)+((Int.toNat (ZP (List.map ci aa).length))-(Int.toNat ad))) aa,(List.map ci aa).length,(Int.toNat ad)) Qa)))))))))))))))))))
 refine Qi Qf ⟨[(0,.vsl 1 1002 (List.map ci ([]++r1.1)).length),(1,.fn (.func 60) [] [ZT,Vs]),(5,I j5),(6,I (wi (j5+1)))],[(1000,Qx ae),(1001,Q3 O),(1002,.vec 3 1 (List.map ci ([]++r1.1)))]⟩ (sB (QA (fun(Z,ah,ai)=>⟨[(0,.vsl 1 1002 (List.map ci Z).length),(1,.fn (.func 60) [] [ZT,Vs]),(5,I ah),(6,I ai)],[(1000,Qx ae),(1001,Q3 O),(1002,.vec 3 1 (List.map ci Z))]⟩:((List Int)×Int×Int)→St) (JJ) ?_));rintro ba ⟨Z,ah,ai⟩;show QU (YJ ae O ba Z ah ai) _ _ _ _ _ _;unfold YJ;refine sS (sS (sG (xR 2 (Q7 (wU (tk:=1002) (es:=List.map ci Z) (S:=1) (n:=(List.map ci Z).length) (e:=3) (ty:=3) rfl Qa Qa Qa zq) (xR 1 (xE (Qm ⟨[(0,.vsl 1 1002 (List.map ci Z).length),(1,.fn (.func 60) [] [ZT,Vs]),(5,I ah),(6,I ai),(19,B (QD ai (Qd (List.map ci Z))))],[(1000,Qx ae),(1001,Q3 O),(1002,.vec 3 1 (List.map ci Z))]⟩ (sC (QD ai (Qd (List.map ci Z))) Qa ?_ (Qr (ZF (Kg (QI (QO (Z,ah) Qa)))))))))))));refine sK (Qm ⟨[(0,.vsl 1 1002 (List.map ci Z).length),(1,.fn (.func 60) [] [ZT,Vs]),(5,I ah),(6,I ai)],[(1000,Qx ae),(1001,Q3 O),(1002,.vec 3 1 (List.map ci Z))]⟩ (sS (sB (sS (sG (xR 2 (Z7 (F7 (e:=3) (S:=1) (tk:=1002) (ty:=3) (enc:=ci) (l:=Z) (k:=.i64) (n:=ai) (nn:=(List.map ci Z).length) rfl Qa Qa Qa Qa Qa zq) (fun ay bk=>(Q7 (KH (S:=1) (tb:=3) (tk:=1002) (n:=Int.toNat ai) (f:=0) (enc:=ci) (l:=Z) (v:=ay) (c:=I ay) rfl (Zr bk)) (xR 1 (xE (Qm ⟨[(0,.vsl 1 1002 (List.map ci Z).length),(1,.fn (.func 60) [] [ZT,Vs]),(5,I ah),(6,I ai),(7,I ay)],[(1000,Qx ae),(1001,Q3 O),(1002,.vec 3 1 (List.map ci Z))]⟩ (sS (sG (xR 2 (Vi (zO ae O) [I ay,ZT,Vs] [(1000,1000),(1001,1001)] [] [] Tryz.func60 rfl Tryz.ntmps60 rfl (Qi Qf ⟨Qbe ay,zO ae O⟩ (sS (Y3 Qf rfl (xR 3 (xG (QG (e:=32) (S:=8) (enc:=Kj.cs) (l:=ae.Chargers) (k:=.i64) (n:=ay) (sv:=.p (.sl 8 (Y1 ae.Chargers))) rfl Qa Qa Qa Qa Qa) (fun bd=>xR 4 (xF (yf (k:=.i64) (k':=.i64) (a:=1) (b:=O.Phase) rfl Qa Qa) (xR 3 (YO (Qm ⟨[(4,B (Qq (JY .i64 bd.Phases (WZ .i64 1 O.Phase)) 0))],zO ae O⟩ (sT (QN (.id) [1000,1001] [] (B (Qq (JY .i64 bd.Phases (WZ .i64 1 O.Phase)) 0)) (Vg (xR 1 (xE (Qm ⟨[(0,.vsl 1 1002 (List.map ci Z).length),(1,.fn (.func 60) [] [ZT,Vs]),(5,I ah),(6,I ai),(7,I ay),(29,B (!(Qq (JY .i64 bd.Phases (WZ .i64 1 O.Phase)) 0)))],[(1000,Qx ae),(1001,Q3 O),(1002,.vec 3 1 (List.map ci Z))]⟩ (sC (!(Qq (JY .i64 bd.Phases (WZ .i64 1 O.Phase)) 0)) Qa ?_ ?_)))))))))))))))))))))))))))))))))
 ·exact sS (sG (xR 3 (Z7 (F7 (e:=3) (S:=1) (tk:=1002) (ty:=3) (enc:=ci) (l:=Z) (k:=.i64) (n:=ah) (nn:=(List.map ci Z).length) rfl Qa Qa Qa Qa Qa zq) (fun bq bo=>(Q7 (V4 (S:=1) (tb:=3) (tk:=1002) (n:=Int.toNat ah) (f:=0) (enc:=ci) (l:=Z) (v:=bq) (v':=ay) (xv:=I ay) rfl (Zr bo)) (xE (Qm ⟨[(0,.vsl 1 1002 (List.map ci Z).length),(1,.fn (.func 60) [] [ZT,Vs]),(5,I ah),(6,I ai)],[(1000,Qx ae),(1001,Q3 O),(1002,.vec 3 1 (List.map ci (List.set Z (Int.toNat ah) ay)))]⟩ (sL Qf (QP (Qm ⟨[(0,.vsl 1 1002 (List.map ci Z).length),(1,.fn (.func 60) [] [ZT,Vs]),(5,I (wi (ah+1))),(6,I ai)],[(1000,Qx ae),(1001,Q3 O),(1002,.vec 3 1 (List.map ci (List.set Z (Int.toNat ah) ay)))]⟩ (sL Qf (aJ  (List.set Z (Int.toNat ah) ay,wi (ah+1),wi (ai+1)) ⟨[0,1,5,6],[1000,1001,1002],[],[]⟩ ⟨[(0,.vsl 1 1002 (List.map ci Z).length),(1,.fn (.func 60) [] [ZT,Vs]),(5,I (wi (ah+1))),(6,I (wi (ai+1)))],[(1000,Qx ae),(1001,Q3 O),(1002,.vec 3 1 (List.map ci (List.set Z (Int.toNat ah) ay)))]⟩ Qa zq))))))))))))
 exact sK (QP (Qm ⟨[(0,.vsl 1 1002 (List.map ci Z).length),(1,.fn (.func 60) [] [ZT,Vs]),(5,I ah),(6,I ai)],[(1000,Qx ae),(1001,Q3 O),(1002,.vec 3 1 (List.map ci Z))]⟩ (sL Qf (KF (Z,ah,wi (ai+1))))))
def JW(n:Nat)(J:Qo)(G:List Int):Option (M5×(List Int)×Int) :=(Jk n J G).bind fun r1 =>cond (!Qq r1.2.2 0) (some ((⟨[]⟩:M5),[],1)) (cond r1.2.1 ((JO n J G r1.1).bind fun U =>some ((⟨[]⟩:M5),U,13)) ((XC n J G).bind fun O =>cond (!Qq O.2 0) (some ((⟨[]⟩:M5),[],1)) (some ((⟨O.1⟩:M5),[],0))))
def Qbf:=fun G=>([(1,.p (.sl 1 (List.map ci G))),(2,.ptr 2 0),(4,.ptr 4 0)]:List (Nat×AV))
def Qbg:=fun G=>([(2,.box 28 (KS (Qo.cs G))),(4,.box 42 [.p (.val (.slice none 0 0))])]:List (Nat×Blk))
def fP:=fun J G=>([(2,.box 28 (KS (Qo.cs J))),(4,.box 42 [.p (.val (.slice none 0 0))]),(7,.box 46 (KS (Zg.cs G)))]:List (Nat×Blk))
def tX:=fun G=>([(4,.ptr 4 0),(5,.p (.val (.slice none 0 0))),(6,I G)]:List (Nat×AV))
def zP:List (Nat×Blk):=[(4,.box 42 [.p (.val (.slice none 0 0))])]
theorem Gg(n:Nat)(J:Qo)(G:List Int):∀r,JW n J G=some r→QV Tryz.prog 9 [ag (Qo.cs J),.p (.sl 1 (List.map ci G))] (.ret (.tup [.agg [.p (.sl 3 (List.map Qb r.1.Sums))],.p (.sl 1 (List.map ci r.2.1)),I r.2.2])):=by
 refine Qp Tryz.func9 rfl Tryz.ntmps9 rfl ?_;unfold JW;refine Qi Qf ⟨Qbf G,Qbg J⟩ (sS (sG (xR 2 ?_)));refine xC [] (Ri n J G) QL (fun r1=>?_);refine xR 8 (xE (Qm ⟨[(1,.p (.sl 1 (List.map ci G))),qq 2,qq 4,qq 7,(8,B r1.2.1),(9,I r1.2.2)],fP J r1.1⟩ (sS (Qi Qf ⟨[(1,.p (.sl 1 (List.map ci G))),qq 2,qq 4,qq 7,(8,B r1.2.1),(19,B (!Qq r1.2.2 0))],fP J r1.1⟩ (sC (!Qq r1.2.2 0) Qa (Qi Qf ⟨tX 1,zP⟩ (sT (QW (qR (.agg [.agg [.sl 3],.sl 1,.id]))))) (sK (Qm ⟨[(1,.p (.sl 1 (List.map ci G))),qq 2,qq 4,qq 7,(8,B r1.2.1)],fP J r1.1⟩ (sS (Qi Qf ⟨[(1,.p (.sl 1 (List.map ci G))),qq 2,qq 4,qq 7,(21,B r1.2.1)],fP J r1.1⟩ (sC r1.2.1 Qa ?_ ?_))))))))))
 ·refine sS (sG (xR 4 ?_));refine xC [] (Nq n J G r1.1) QL (fun U=>?_);exact xR 3 (xE (Qm ⟨[qq 4,(5,.p (.sl 1 (List.map ci U))),(6,I 13)],zP⟩ (sT (QW (qR (.agg [.agg [.sl 3],.id,.id]))))))
 refine sK (Qm ⟨Qbf G,Qbg J⟩ (sS (sG (xR 2 ?_))));refine xC [] (Dn n J G) QL (fun O=>?_);exact xR 5 (xE (Qm ⟨[qq 4,(9,I O.2),(10,.p (.sl 3 (List.map Qb O.1)))],zP⟩ (sS (Qi Qf ⟨[qq 4,(10,.p (.sl 3 (List.map Qb O.1))),(34,B (!Qq O.2 0))],zP⟩ (sC (!Qq O.2 0) Qa (Qi Qf ⟨tX 1,zP⟩ (sT (QW (qR (.agg [.agg [.sl 3],.sl 1,.id]))))) (sK (Qm ⟨[qq 4,(10,.p (.sl 3 (List.map Qb O.1)))],zP⟩ (Qi Qf ⟨tX 0,[(4,.box 42 [.p (.sl 3 (List.map Qb O.1))])]⟩ (sT (qR (.agg [.id,.sl 1,.id])))))))))))
def Ff(J:List Int)(U:List Int)(G:Int→Option Bool)(O:Int):Option Bool :=cond (QD O (Qd (List.map ci J))) ((Za J O).bind fun Y =>(Za U O).bind fun Z =>cond (!Qq Y Z) (some false) (G (wi (O+1)))) (some true)
def Da(n:Nat)(O:List Int)(J:List Int):Option Bool :=cond (!Qq (Qd (List.map ci O)) (Qd (List.map ci J))) (some false) (Q0 (fun G U=>Ff O J G U) n 0)
def Qbh:=fun J G=>([(0,.p (.sl 1 (List.map ci J))),(1,.p (.sl 1 (List.map ci G)))]:List (Nat×AV))
def fQ:=fun O G J=>([(0,.p (.sl 1 (List.map ci O))),(1,.p (.sl 1 (List.map ci G))),(5,I J)]:List (Nat×AV))
theorem AA(n:Nat)(G:List Int)(J:List Int):∀r,Da n G J=some r→QV Tryz.prog 17 [.p (.sl 1 (List.map ci G)),.p (.sl 1 (List.map ci J))] (.ret (B r)):=by
 refine Qp Tryz.func17 rfl Tryz.ntmps17 rfl ?_;unfold Da;refine Qi Qf ⟨Qbh G J,[]⟩ (sS (Qi Qf ⟨[(0,.p (.sl 1 (List.map ci G))),(1,.p (.sl 1 (List.map ci J))),(10,B (!Qq (Qd (List.map ci G)) (Qd (List.map ci J))))],[]⟩ (sC (!Qq (Qd (List.map ci G)) (Qd (List.map ci J))) Qa (Qi Qf ⟨[(4,B false)],[]⟩ (sT (QW (qR (.id))))) (sK (Qm ⟨Qbh G J,[]⟩ (sS (Qi Qf ⟨fQ G J 0,[]⟩ (sB (QA (fun O=>⟨fQ G J O,[]⟩:Int→St) (JJ) ?_)))))))));rintro U O;show QU (Ff G J U O) _ _ _ _ _ _;unfold Ff;exact sS (Qi Qf ⟨[(0,.p (.sl 1 (List.map ci G))),(1,.p (.sl 1 (List.map ci J))),(5,I O),(14,B (QD O (Qd (List.map ci G))))],[]⟩ (sC (QD O (Qd (List.map ci G))) Qa (sK (Qm ⟨fQ G J O,[]⟩ (sS (sB (sS (Y3 Qf rfl (xR 2 (xG (QG (e:=3) (S:=1) (enc:=ci) (l:=G) (k:=.i64) (n:=O) (sv:=.p (.sl 1 (List.map ci G))) rfl Qa Qa Qa Qa Qa) (fun Y=>xR 3 (xG (QG (e:=3) (S:=1) (enc:=ci) (l:=J) (k:=.i64) (n:=O) (sv:=.p (.sl 1 (List.map ci J))) rfl Qa Qa Qa Qa Qa) (fun Z=>xR 2 (YO (Qm ⟨[(0,.p (.sl 1 (List.map ci G))),(1,.p (.sl 1 (List.map ci J))),(5,I O),(25,B (!Qq Y Z))],[]⟩ (sC (!Qq Y Z) Qa (Qi Qf ⟨[(4,B false)],[]⟩ (sT (Ze (QW (K8 (Ze (QW (qR (.id))))))))) (sK (QP (Qm ⟨fQ G J O,[]⟩ (sL Qf (KF (wi (O+1))))))))))))))))))))) (Qr (ZF (Kg (QI (Qm ⟨[],[]⟩ (Qi Qf ⟨[(4,B true)],[]⟩ (sT (qR (.id)))))))))))
def Kr(n:Nat):Option Bool :=(EY n [102,101,101,100,101,114,32,102,32,108,105,109,105,116,32,49,48,48,32,110,101,117,116,114,97,108,32,54,48,32,102,117,115,101,32,53,48,32,51,48,48,48,59,32,111,119,110,101,114,32,111,59,32,99,104,97,114,103,101,114,32,120,32,97,116,32,102,32,112,104,97,115,101,115,32,49,32,97,109,112,115,32,54,32,51,50,32,49,32,102,97,108,108,98,97,99,107,32,48,32,111,119,110,101,114,32,111,59,32,99,104,97,114,103,101,114,32,121,32,97,116,32,102,32,112,104,97,115,101,115,32,49,32,97,109,112,115,32,54,32,51,50,32,49,32,102,97,108,108,98,97,99,107,32,54,32,111,119,110,101,114,32,111,59]).bind fun r1 =>(TZ n r1.1).bind fun J =>(JW n J.1 [32,32]).bind fun O =>(JW n J.1 [32,18]).bind fun U =>(cond (Qq (Qd (List.map Yh.cs r1.2)) 0) (cond (Qq (Qd (List.map Yh.cs J.2)) 0) (cond (Qq O.2.2 13) (cond (Qq U.2.2 0) ((Da n O.2.1 [32,19]).bind fun G =>some G) (some false)) (some false)) (some false)) (some false)).bind fun Y =>some Y
theorem Gh(n:Nat):∀r,Kr n=some r→QV Tryz.prog 5 [] (.ret (B r)):=by
 refine Qp Tryz.func5 rfl Tryz.ntmps5 rfl ?_;unfold Kr;refine Qi Qf ⟨[],[]⟩ (sS (sG ?_));refine xC [] (yQ n [102,101,101,100,101,114,32,102,32,108,105,109,105,116,32,49,48,48,32,110,101,117,116,114,97,108,32,54,48,32,102,117,115,101,32,53,48,32,51,48,48,48,59,32,111,119,110,101,114,32,111,59,32,99,104,97,114,103,101,114,32,120,32,97,116,32,102,32,112,104,97,115,101,115,32,49,32,97,109,112,115,32,54,32,51,50,32,49,32,102,97,108,108,98,97,99,107,32,48,32,111,119,110,101,114,32,111,59,32,99,104,97,114,103,101,114,32,121,32,97,116,32,102,32,112,104,97,115,101,115,32,49,32,97,109,112,115,32,54,32,51,50,32,49,32,102,97,108,108,98,97,99,107,32,54,32,111,119,110,101,114,32,111,59]) QL (fun r1=>?_);refine xR 6 (xE (Qm ⟨[qq 1,(2,.p (.sl 2 (L9 r1.2)))],PS r1.1⟩ (sS (sG (xR 1 ?_)))));refine xC [] (Aw n r1.1) QL (fun G=>?_);refine xR 6 (xE (Qm ⟨[(2,.p (.sl 2 (L9 r1.2))),qq 3,(4,.p (.sl 2 (L9 G.2)))],[(3,Qx G.1)]⟩ (sS (sG (xR 2 ?_)))));refine xC [.id,.sl 1] (Gg n G.1 [32,32]) QL (fun J=>?_);refine xR 8 (xE (Qm ⟨[(2,.p (.sl 2 (L9 r1.2))),qq 3,(4,.p (.sl 2 (L9 G.2))),(6,.p (.sl 1 (List.map ci J.2.1))),(7,I J.2.2)],[(3,Qx G.1)]⟩ (sS (sG (xR 2 ?_)))));refine xC [.id,.sl 1] (Gg n G.1 [32,18]) QL (fun r4=>?_);refine xR 8 (xE (Qm ⟨[(2,.p (.sl 2 (L9 r1.2))),(4,.p (.sl 2 (L9 G.2))),(6,.p (.sl 1 (List.map ci J.2.1))),(7,I J.2.2),(10,I r4.2.2)],[]⟩ (KG (fun j5=>⟨[(0,B j5)],[]⟩:Bool→St) ?_ ?_)));rotate_left
 ·rintro j5;exact sT (qR (.id))
 refine sG (xR 4 (xS (Qq (Qd (L9 r1.2)) 0) (fun Z=>xO (Qu Z) (xR 4 (xS (Qq (Qd (L9 G.2)) 0) (fun h7=>xO (Qu h7) (xR 3 (xS (Qq J.2.2 13) (fun U=>?_) (fun U=>?_)))) (fun h7=>xN (Qv h7) (xR 12 (xE (QO false Qa))))))) (fun Z=>xN (Qv Z) (xR 17 (xE (QO false Qa))))))
 ·refine xO (Qu U) (xR 3 (xS (Qq r4.2.2 0) (fun O=>?_) (fun O=>?_)))
  ·refine xO (Qu O) (xR 1 ?_);refine xC [.id,.sl 1] (AA n J.2.1 [32,19]) QL (fun Y=>?_);exact xR 2 (xE (QO Y Qa))
  exact xN (Qv O) (xR 4 (xE (QO false Qa)))
 exact xN (Qv U) (xR 8 (xE (QO false Qa)))
def GY(n:Nat)(G:Qo):Option Bool :=(cond (leI (Qd (List.map ZU.cs G.Conductors)) 40) (cond (leI (Qd (List.map Zk.cs G.Owners)) 40) (cond (leI (Qd (List.map K3.cs G.Contracts)) 40) (cond (leI (Qd (List.map Kj.cs G.Chargers)) 40) (some (leI (Qd (List.map ZA.cs G.Bays)) 40)) (some false)) (some false)) (some false)) (some false)).bind fun J =>some J
theorem qa(n:Nat)(G:Qo):∀r,GY n G=some r→QV Tryz.prog 18 [ag (Qo.cs G)] (.ret (B r)):=by
 refine Qp Tryz.func18 rfl Tryz.ntmps18 rfl ?_;unfold GY;refine Qi Qf ⟨[qq 1],ZR G⟩ (KG (fun Z=>⟨[(2,B Z)],[]⟩:Bool→St) ?_ ?_);rotate_left
 ·rintro Z;exact sT (qR (.id))
 exact sG (xR 5 (xS (leI (Qd (UU G.Conductors)) 40) (fun U=>xO (Qu U) (xR 5 (xS (leI (Qd (Yw G.Owners)) 40) (fun J=>xO (Qu J) (xR 5 (xS (leI (Qd (Rw G.Contracts)) 40) (fun Y=>xO (Qu Y) (xR 5 (xS (leI (Qd (Y1 G.Chargers)) 40) (fun O=>xO (Qu O) (xR 5 (xE (QO (leI (Qd (JZ G.Bays)) 40) Qa)))) (fun O=>xN (Qv O) (xR 5 (xE (QO false Qa))))))) (fun Y=>xN (Qv Y) (xR 11 (xE (QO false Qa))))))) (fun J=>xN (Qv J) (xR 17 (xE (QO false Qa))))))) (fun U=>xN (Qv U) (xR 23 (xE (QO false Qa))))))
def QC(n:Nat)(O:Int)(J:Int)(G:Int):Option Bool :=cond (leI J O) (some (leI O G)) (some false)
theorem QQ(n:Nat)(O:Int)(J:Int)(G:Int):∀r,QC n O J G=some r→QV Tryz.prog 49 [I O,I J,I G] (.ret (B r)):=by
 refine Qp Tryz.func49 rfl Tryz.ntmps49 rfl ?_;unfold QC;exact Qi Qf ⟨fA O J G,[]⟩ (sS (sG (xR 4 (xS (leI J O) (fun U=>xO (Qu U) (xR 4 (xE (Qm ⟨[(6,B (leI O G))],[]⟩ (sT (qR (.id))))))) (fun U=>xN (Qv U) (xR 4 (xE (Qm ⟨[(6,B false)],[]⟩ (sT (qR (.id)))))))))))
def WN(n:Nat):Option (List (List UInt8)) :=some [[102,101,101,100,101,114],[99,97,98,108,101],[111,119,110,101,114],[99,111,110,116,114,97,99,116],[99,104,97,114,103,101,114],[98,97,121],[116,97,114,105,102,102]]
theorem Sj(n:Nat):∀r,WN n=some r→QV Tryz.prog 139 [] (.ret (.p (.sl 1 (List.map Zv r)))):=by
 refine Qp Tryz.func139 rfl Tryz.ntmps139 rfl ?_;unfold WN;exact Qi Qf ⟨[],[]⟩ (Qi Qf ⟨[(0,.tsl 1 (List.map Zv [[102,101,101,100,101,114],[99,97,98,108,101],[111,119,110,101,114],[99,111,110,116,114,97,99,116],[99,104,97,114,103,101,114],[98,97,121],[116,97,114,105,102,102]]) 1)],[(1,.arr 9 1 (List.map Zv [[102,101,101,100,101,114],[99,97,98,108,101],[111,119,110,101,114],[99,111,110,116,114,97,99,116],[99,104,97,114,103,101,114],[98,97,121],[116,97,114,105,102,102]]).length)]⟩ (sT (qR (.sl 1))))
def JX(J:List (List UInt8))(U:List UInt8)(G:Int→Option Int)(O:Int):Option Int :=cond (QD O (Qd (List.map Zv J))) ((Za J O).bind fun Y =>cond (Zb Y U) (some O) (G (wi (O+1)))) (some (-1))
def Xp(n:Nat)(J:List (List UInt8))(O:List UInt8):Option Int :=Q0 (fun G U=>JX J O G U) n 0
def QeL:=fun J G=>(⟨[(0,.p (.sl 1 (List.map Zv J))),(1,S G)],[]⟩:St)
def Ag:=fun O G J=>([(0,.p (.sl 1 (List.map Zv O))),(1,S G),(5,I J)]:List (Nat×AV))
def Qbi:=fun O G J U=>([(0,.p (.sl 1 (List.map Zv O))),(1,S G),(5,I J),(9,B U)]:List (Nat×AV))
def Qbj:=fun O G J U=>([(0,.p (.sl 1 (List.map Zv O))),(1,S G),(5,I J),(17,B U)]:List (Nat×AV))
theorem Gn(n:Nat)(G:List (List UInt8))(J:List UInt8):∀r,Xp n G J=some r→QV Tryz.prog 138 [.p (.sl 1 (List.map Zv G)),S J] (.ret (I r)):=by
 refine Qp Tryz.func138 rfl Tryz.ntmps138 rfl ?_;unfold Xp;refine Qi Qf (QeL G J) (sS (Qi Qf ⟨Ag G J 0,[]⟩ (sB (QA (fun O=>⟨Ag G J O,[]⟩:Int→St) (JJ) ?_))));rintro U O;show QU (JX G J U O) _ _ _ _ _ _;unfold JX;exact sS (Qi Qf ⟨Qbi G J O (QD O (Qd (List.map Zv G))),[]⟩ (sC (QD O (Qd (List.map Zv G))) Qa (sK (Qm ⟨Ag G J O,[]⟩ (sS (sB (sS (sG (xR 2 (xG (QG (e:=9) (S:=1) (enc:=Zv) (l:=G) (k:=.i64) (n:=O) (sv:=.p (.sl 1 (List.map Zv G))) rfl Qa Qa Qa Qa Qa) (fun Y=>xR 3 (xE (Qm ⟨Qbj G J O (Zb Y J),[]⟩ (sC (Zb Y J) Qa (Qi Qf ⟨[(4,I O)],[]⟩ (sT (Ze (QW (K8 (Ze (QW (qR (.id))))))))) (sK (QP (Qm ⟨Ag G J O,[]⟩ (sL Qf (KF (wi (O+1))))))))))))))))))) (Qr (ZF (Kg (QI (Qm ⟨[],[]⟩ (Qi Qf ⟨[(4,I (-1))],[]⟩ (sT (qR (.id)))))))))))
def WO(n:Nat):Option (List (List UInt8)) :=some [[108,105,109,105,116],[110,101,117,116,114,97,108],[102,117,115,101],[116,104,101,114,109,97,108],[102,114,111,109],[97,116],[112,104,97,115,101,115],[97,109,112,115],[102,97,108,108,98,97,99,107],[111,119,110,101,114],[99,97,114,100],[114,97,110,107],[99,104,97,114,103,101,114]]
theorem Sl(n:Nat):∀r,WO n=some r→QV Tryz.prog 140 [] (.ret (.p (.sl 1 (List.map Zv r)))):=by
 refine Qp Tryz.func140 rfl Tryz.ntmps140 rfl ?_;unfold WO;exact Qi Qf ⟨[],[]⟩ (Qi Qf ⟨[(0,.tsl 1 (List.map Zv [[108,105,109,105,116],[110,101,117,116,114,97,108],[102,117,115,101],[116,104,101,114,109,97,108],[102,114,111,109],[97,116],[112,104,97,115,101,115],[97,109,112,115],[102,97,108,108,98,97,99,107],[111,119,110,101,114],[99,97,114,100],[114,97,110,107],[99,104,97,114,103,101,114]]) 1)],[(1,.arr 9 1 (List.map Zv [[108,105,109,105,116],[110,101,117,116,114,97,108],[102,117,115,101],[116,104,101,114,109,97,108],[102,114,111,109],[97,116],[112,104,97,115,101,115],[97,109,112,115],[102,97,108,108,98,97,99,107],[111,119,110,101,114],[99,97,114,100],[114,97,110,107],[99,104,97,114,103,101,114]]).length)]⟩ (sT (qR (.sl 1))))
def YX(n:Nat):Option (List (List UInt8)) :=some [[115,116,97,114,116],[101,110,101,114,103,121],[116,105,109,101],[105,100,108,101],[99,97,112],[116,97,120]]
theorem BP(n:Nat):∀r,YX n=some r→QV Tryz.prog 141 [] (.ret (.p (.sl 1 (List.map Zv r)))):=by
 refine Qp Tryz.func141 rfl Tryz.ntmps141 rfl ?_;unfold YX;exact Qi Qf ⟨[],[]⟩ (Qi Qf ⟨[(0,.tsl 1 (List.map Zv [[115,116,97,114,116],[101,110,101,114,103,121],[116,105,109,101],[105,100,108,101],[99,97,112],[116,97,120]]) 1)],[(1,.arr 9 1 (List.map Zv [[115,116,97,114,116],[101,110,101,114,103,121],[116,105,109,101],[105,100,108,101],[99,97,112],[116,97,120]]).length)]⟩ (sT (qR (.sl 1))))
def WP(n:Nat):Option (List (List UInt8)) :=some [[111,110],[119,111,114,107],[115,97,116,117,114,100,97,121],[115,117,110,100,97,121],[98,101,116,119,101,101,110],[112,101,114],[102,114,101,101]]
theorem Sm(n:Nat):∀r,WP n=some r→QV Tryz.prog 142 [] (.ret (.p (.sl 1 (List.map Zv r)))):=by
 refine Qp Tryz.func142 rfl Tryz.ntmps142 rfl ?_;unfold WP;exact Qi Qf ⟨[],[]⟩ (Qi Qf ⟨[(0,.tsl 1 (List.map Zv [[111,110],[119,111,114,107],[115,97,116,117,114,100,97,121],[115,117,110,100,97,121],[98,101,116,119,101,101,110],[112,101,114],[102,114,101,101]]) 1)],[(1,.arr 9 1 (List.map Zv [[111,110],[119,111,114,107],[115,97,116,117,114,100,97,121],[115,117,110,100,97,121],[98,101,116,119,101,101,110],[112,101,114],[102,114,101,101]]).length)]⟩ (sT (qR (.sl 1))))
def Vw(n:Nat)(G:List UInt8):Option Bool :=((WN n).bind fun r3 =>(Xp n r3 G).bind fun Z =>cond (leI 0 Z) (some true) ((WO n).bind fun r6 =>(Xp n r6 G).bind fun r7 =>cond (leI 0 r7) (some true) ((YX n).bind fun Y =>(Xp n Y G).bind fun O =>cond (leI 0 O) (some true) ((WP n).bind fun J =>(Xp n J G).bind fun U =>some (leI 0 U))))).bind fun j2 =>cond (leI 1 (Qd G)) (cond (leI (Qd G) 12) (some (!j2)) (some false)) (some false)
def ZO(n:Nat)(U:List UInt8)(O:Int→Option Bool)(J:Int):Option Bool :=cond (QD J (Qd U)) ((Za U J).bind fun G =>(cond (QD (V8 G) 97) (cond (Qq J 0) (some true) (cond (QD (V8 G) 48) (some (!Qq (V8 G) 95)) (cond (QD 57 (V8 G)) (some (!Qq (V8 G) 95)) (some false)))) (cond (QD 122 (V8 G)) (cond (Qq J 0) (some true) (cond (QD (V8 G) 48) (some (!Qq (V8 G) 95)) (cond (QD 57 (V8 G)) (some (!Qq (V8 G) 95)) (some false)))) (some false))).bind fun Y =>cond Y (some false) (O (wi (J+1)))) (Vw n U)
def WC(n:Nat)(J:List UInt8):Option Bool :=Q0 (fun G O=>ZO n J G O) n 0
theorem AB(n:Nat)(G:List UInt8):∀r,WC n G=some r→QV Tryz.prog 100 [S G] (.ret (B r)):=by
 refine Qp Tryz.func100 rfl Tryz.ntmps100 rfl ?_;unfold WC;refine Qi Qf ⟨[(0,S G)],[]⟩ (Kc (fun _=>⟨[(0,S G)],[]⟩:Unit→St) (fun _=>Vw n G) ?_ ?_)
 ·rintro _;show QU (Vw n G) _ _ _ _ _ _;unfold Vw;refine KG (fun j2=>⟨[(0,S G),(5,B j2)],[]⟩:Bool→St) ?_ ?_;rotate_left
  ·rintro j2;exact sS (sG (xR 4 (xS (leI 1 (Qd G)) (fun ae=>xO (Qu ae) (xR 4 (xS (leI (Qd G) 12) (fun ab=>xO (Qu ab) (xR 3 (xE (Qm ⟨[(2,B (!j2))],[]⟩ (sT (qR (.id))))))) (fun ab=>xN (Qv ab) (xR 3 (xE (Qm ⟨[(2,B false)],[]⟩ (sT (qR (.id)))))))))) (fun ae=>xN (Qv ae) (xR 8 (xE (Qm ⟨[(2,B false)],[]⟩ (sT (qR (.id))))))))))
  refine sG ?_;refine xC [] (Sj n) QL (fun r3=>?_);refine xR 1 ?_;refine xC [] (Gn n r3 G) QL (fun r4=>?_);refine xR 2 (xS (leI 0 r4) (fun h5=>xN (Qz h5) (xR 17 (xE (QO true Qa)))) (fun h5=>?_));refine xC [] (hw:=(Qy h5)) (Sl n) QL (fun r6=>?_);refine xR 1 ?_;refine xC [] (Gn n r6 G) QL (fun r7=>?_);refine xR 3 (xS (leI 0 r7) (fun h8=>xN (Qz h8) (xR 11 (xE (QO true Qa)))) (fun h8=>?_));refine xC [] (hw:=(Qy h8)) (BP n) QL (fun r9=>?_);refine xR 1 ?_;refine xC [] (Gn n r9 G) QL (fun an=>?_);refine xR 3 (xS (leI 0 an) (fun ak=>xN (Qz ak) (xR 5 (xE (QO true Qa)))) (fun ak=>?_));refine xC [] (hw:=(Qy ak)) (Sm n) QL (fun al=>?_);refine xR 1 ?_;refine xC [] (Gn n al G) QL (fun ao=>?_);exact xR 3 (xE (QO (leI 0 ao) Qa))
 refine Qi Qf ⟨[(0,S G),(3,I 0)],[]⟩ (sB (QA (fun J=>⟨[(0,S G),(3,I J)],[]⟩:Int→St) (JJ) ?_));rintro U J;show QU (ZO n G U J) _ _ _ _ _ _;unfold ZO;refine sS (Qi Qf ⟨[(0,S G),(3,I J),(9,B (QD J (Qd G)))],[]⟩ (sC (QD J (Qd G)) Qa (sK (Qm ⟨[(0,S G),(3,I J)],[]⟩ (sS (sB (sS (sG (xR 2 (xG (Xh (l:=G) (k:=.i64) (n:=J) rfl Qa Qa Qa) (fun O=>xR 1 (xE (Qm ⟨[(0,S G),(3,I J),(4,B8 (V8 O))],[]⟩ (KG (fun Z=>⟨[(0,S G),(3,I J),(36,B Z)],[]⟩:Bool→St) ?_ ?_)))))))))))) (Qr (ZF (Kg (QI (KF (k:=fun _=>Vw n G) ())))))));rotate_left
 ·rintro Z;exact sC Z Qa (Qi Qf ⟨[(2,B false)],[]⟩ (sT (Ze (QW (K8 (Ze (K8 (qR (.id))))))))) (sK (QP (Qm ⟨[(0,S G),(3,I J)],[]⟩ (sL Qf (KF (wi (J+1)))))))
 exact sG (xR 3 (xS (QD (V8 O) 97) (fun ah=>xN (Qz ah) (xR 6 (xS (Qq J 0) (fun aj=>xN (Qz aj) (xR 11 (xE (QO true Qa)))) (fun aj=>xO (Qy aj) (xR 2 (xS (QD (V8 O) 48) (fun ai=>xN (Qz ai) (xR 8 (xE (QO (!Qq (V8 O) 95) Qa)))) (fun ai=>xO (Qy ai) (xR 3 (xS (QD 57 (V8 O)) (fun aa=>xO (Qu aa) (xR 4 (xE (QO (!Qq (V8 O) 95) Qa)))) (fun aa=>xN (Qv aa) (xR 4 (xE (QO false Qa))))))))))))) (fun ah=>xO (Qy ah) (xR 3 (xS (QD 122 (V8 O)) (fun Y=>xO (Qu Y) (xR 2 (xS (Qq J 0) (fun ac=>xN (Qz ac) (xR 11 (xE (QO true Qa)))) (fun ac=>xO (Qy ac) (xR 2 (xS (QD (V8 O) 48) (fun af=>xN (Qz af) (xR 8 (xE (QO (!Qq (V8 O) 95) Qa)))) (fun af=>xO (Qy af) (xR 3 (xS (QD 57 (V8 O)) (fun ad=>xO (Qu ad) (xR 4 (xE (QO (!Qq (V8 O) 95) Qa)))) (fun ad=>xN (Qv ad) (xR 4 (xE (QO false Qa))))))))))))) (fun Y=>xN (Qv Y) (xR 14 (xE (QO false Qa)))))))))
def V3(J:List (List UInt8))(U:List UInt8)(G:Int→Option Bool)(O:Int):Option Bool :=cond (QD O (Qd (List.map Zv J))) ((Za J O).bind fun Y =>cond (Zb Y U) (some true) (G (wi (O+1)))) (some false)
def Xq(n:Nat)(J:List (List UInt8))(O:List UInt8):Option Bool :=Q0 (fun G U=>V3 J O G U) n 0
theorem qb(n:Nat)(G:List (List UInt8))(J:List UInt8):∀r,Xq n G J=some r→QV Tryz.prog 101 [.p (.sl 1 (List.map Zv G)),S J] (.ret (B r)):=by
 refine Qp Tryz.func101 rfl Tryz.ntmps101 rfl ?_;unfold Xq;refine Qi Qf (QeL G J) (sS (Qi Qf ⟨Ag G J 0,[]⟩ (sB (QA (fun O=>⟨Ag G J O,[]⟩:Int→St) (JJ) ?_))));rintro U O;show QU (V3 G J U O) _ _ _ _ _ _;unfold V3;exact sS (Qi Qf ⟨Qbi G J O (QD O (Qd (List.map Zv G))),[]⟩ (sC (QD O (Qd (List.map Zv G))) Qa (sK (Qm ⟨Ag G J O,[]⟩ (sS (sB (sS (sG (xR 2 (xG (QG (e:=9) (S:=1) (enc:=Zv) (l:=G) (k:=.i64) (n:=O) (sv:=.p (.sl 1 (List.map Zv G))) rfl Qa Qa Qa Qa Qa) (fun Y=>xR 3 (xE (Qm ⟨Qbj G J O (Zb Y J),[]⟩ (sC (Zb Y J) Qa (Qi Qf ⟨[(4,B true)],[]⟩ (sT (Ze (QW (K8 (Ze (QW (qR (.id))))))))) (sK (QP (Qm ⟨Ag G J O,[]⟩ (sL Qf (KF (wi (O+1))))))))))))))))))) (Qr (ZF (Kg (QI (Qm ⟨[],[]⟩ (Qi Qf ⟨[(4,B false)],[]⟩ (sT (qR (.id)))))))))))
def XE(U:Qo)(O:((List (List UInt8))×Int)→Option (List (List UInt8)))(J:List (List UInt8))(G:Int):Option (List (List UInt8)) :=cond (QD G (Qd (List.map ZU.cs U.Conductors))) ((Za U.Conductors G).bind fun Y =>cond (ZW (List.length (J++[Y.Name])) 16) (O (J++[Y.Name],wi (G+1))) none) (some J)
def XF(U:Qo)(O:((List (List UInt8))×Int)→Option (List (List UInt8)))(G:List (List UInt8))(J:Int):Option (List (List UInt8)) :=cond (QD J (Qd (List.map Zk.cs U.Owners))) ((Za U.Owners J).bind fun Y =>cond (ZW (List.length (G++[Y.Name])) 16) (O (G++[Y.Name],wi (J+1))) none) (some G)
def XG(U:Qo)(O:((List (List UInt8))×Int)→Option (List (List UInt8)))(G:List (List UInt8))(J:Int):Option (List (List UInt8)) :=cond (QD J (Qd (List.map K3.cs U.Contracts))) ((Za U.Contracts J).bind fun Y =>cond (ZW (List.length (G++[Y.Name])) 16) (O (G++[Y.Name],wi (J+1))) none) (some G)
def J7(U:Qo)(O:((List (List UInt8))×Int)→Option (List (List UInt8)))(J:List (List UInt8))(G:Int):Option (List (List UInt8)) :=cond (QD G (Qd (List.map Kj.cs U.Chargers))) ((Za U.Chargers G).bind fun Y =>cond (ZW (List.length (J++[Y.Name])) 16) (O (J++[Y.Name],wi (G+1))) none) (some J)
def J8(U:Qo)(O:((List (List UInt8))×Int)→Option (List (List UInt8)))(G:List (List UInt8))(J:Int):Option (List (List UInt8)) :=cond (QD J (Qd (List.map ZA.cs U.Bays))) ((Za U.Bays J).bind fun Y =>cond (ZW (List.length (G++[Y.Name])) 16) (O (G++[Y.Name],wi (J+1))) none) (some G)
def Vm(n:Nat)(J:List (List UInt8))(O:Int→Option Bool)(G:Int):Option Bool :=cond (QD G (Qd (List.map Zv J))) (((Za J G).bind fun aa =>(WC n aa).bind fun ab =>cond (!ab) (some true) (cond (sliceB 0 G (List.length J)) ((Za J G).bind fun U =>(Xq n (List.drop (Int.toNat 0) (List.take (Int.toNat G) J)) U).bind fun Y =>some Y) none)).bind fun Z =>cond Z (some false) (O (wi (G+1)))) (some true)
def X8(n:Nat)(G:Qo):Option Bool :=(Q0 (fun Y (al,aj)=>XE G Y al aj) n ([],0)).bind fun j1 =>(Q0 (fun Z (af,ah)=>XF G Z af ah) n (j1,0)).bind fun j4 =>(Q0 (fun ab (ak,ai)=>XG G ab ak ai) n (j4,0)).bind fun j7 =>(Q0 (fun J (ae,ad)=>J7 G J ae ad) n (j7,0)).bind fun ao =>(Q0 (fun O (aa,ac)=>J8 G O aa ac) n (ao,0)).bind fun an =>Q0 (fun U aq=>Vm n an U aq) n 0
def tY:=fun J G=>([(1,.ptr 1 0),(3,.tsl 1 (List.map Zv J) 25),(4,I G)]:List (Nat×AV))
def fT:=fun J G=>([(1,.ptr 1 0),(3,.tsl 1 (List.map Zv J) 25),(5,I G)]:List (Nat×AV))
def fU:=fun J G=>([(1,.ptr 1 0),(3,.tsl 1 (List.map Zv J) 25),(6,I G)]:List (Nat×AV))
def fV:=fun J G=>([(1,.ptr 1 0),(3,.tsl 1 (List.map Zv J) 25),(7,I G)]:List (Nat×AV))
def fZ:=fun J G=>([(1,.ptr 1 0),(3,.tsl 1 (List.map Zv J) 25),(8,I G)]:List (Nat×AV))
def mh:=fun J G=>([(3,.tsl 1 (List.map Zv J) 25),(9,I G)]:List (Nat×AV))
theorem Sn(n:Nat)(G:Qo):∀r,X8 n G=some r→QV Tryz.prog 50 [ag (Qo.cs G)] (.ret (B r)):=by
 refine Qp Tryz.func50 rfl Tryz.ntmps50 rfl ?_;unfold X8;refine Qi Qf ⟨[qq 1],ZR G⟩ (Qi Qf ⟨jw,ZR G⟩ (KG (fun j1=>⟨jK j1,Ya G j1⟩:(List (List UInt8))→St) ?_ ?_))
 ·refine Qi Qf ⟨[qq 1,(3,zS),(4,I 0)],ZR G⟩ (sB (En ⟨[qq 1,(3,zS),(4,I 0)],ZR G⟩ (ZB (Yv 9 1 25 [3] []) (QA (fun(ac,ae)=>⟨tY ac ae,Ya G ac⟩:((List (List UInt8))×Int)→St) (JJ) ?_))));rintro aq ⟨ac,ae⟩;show QU (XE G aq ac ae) _ _ _ _ _ _;unfold XE;exact sS (Qi Qf ⟨[qq 1,(3,.tsl 1 (List.map Zv ac) 25),(4,I ae),(14,B (QD ae (Qd (UU G.Conductors))))],Ya G ac⟩ (sC (QD ae (Qd (UU G.Conductors))) Qa (sK (Qm ⟨tY ac ae,Ya G ac⟩ (sS (sB (sG (xR 4 (xG (QG (e:=54) (S:=11) (enc:=ZU.cs) (l:=G.Conductors) (k:=.i64) (n:=ae) (sv:=.p (.sl 11 (UU G.Conductors))) rfl Qa Qa Qa Qa Qa) (fun x3=>xR 3 (xF (Z6 (e:=9) (S:=1) (by_:=16) (enc:=Zv) (tk:=25) (l:=ac) (l2:=[x3.Name]) (xv:=.tsl 1 (List.map Zv [x3.Name]) 24) rfl Qa Qa rfl Qa Qa Qa rfl Qa) (xR 1 (xE (QP (Qm ⟨tY (ac++[x3.Name]) ae,PZ G (ac++[x3.Name])⟩ (sL Qf (KF (ac++[x3.Name],wi (ae+1))))))))))))))))) (Qr (ZF (Kg (QI (QO ac Qa)))))))
 rintro j1;refine KG (fun j4=>⟨jK j4,Ya G j4⟩:(List (List UInt8))→St) ?_ ?_
 ·refine Qi Qf ⟨fT j1 0,Ya G j1⟩ (sB (QA (fun(aa,af)=>⟨fT aa af,Ya G aa⟩:((List (List UInt8))×Int)→St) (JJ) ?_));rintro ar ⟨aa,af⟩;show QU (XF G ar aa af) _ _ _ _ _ _;unfold XF;exact sS (Qi Qf ⟨[qq 1,(3,.tsl 1 (List.map Zv aa) 25),(5,I af),(30,B (QD af (Qd (Yw G.Owners))))],Ya G aa⟩ (sC (QD af (Qd (Yw G.Owners))) Qa (sK (Qm ⟨fT aa af,Ya G aa⟩ (sS (sB (sG (xR 4 (xG (QG (e:=166) (S:=1) (enc:=Zk.cs) (l:=G.Owners) (k:=.i64) (n:=af) (sv:=.p (.sl 1 (Yw G.Owners))) rfl Qa Qa Qa Qa Qa) (fun x6=>xR 3 (xF (Z6 (e:=9) (S:=1) (by_:=16) (enc:=Zv) (tk:=25) (l:=aa) (l2:=[x6.Name]) (xv:=.tsl 1 (List.map Zv [x6.Name]) 40) rfl Qa Qa rfl Qa Qa Qa rfl Qa) (xR 1 (xE (QP (Qm ⟨fT (aa++[x6.Name]) af,PZ G (aa++[x6.Name])⟩ (sL Qf (KF (aa++[x6.Name],wi (af+1))))))))))))))))) (Qr (ZF (Kg (QI (QO aa Qa)))))))
 rintro j4;refine KG (fun j7=>⟨jK j7,Ya G j7⟩:(List (List UInt8))→St) ?_ ?_
 ·refine Qi Qf ⟨fU j4 0,Ya G j4⟩ (sB (QA (fun(ab,ad)=>⟨fU ab ad,Ya G ab⟩:((List (List UInt8))×Int)→St) (JJ) ?_));rintro au ⟨ab,ad⟩;show QU (XG G au ab ad) _ _ _ _ _ _;unfold XG;exact sS (Qi Qf ⟨[qq 1,(3,.tsl 1 (List.map Zv ab) 25),(6,I ad),(46,B (QD ad (Qd (Rw G.Contracts))))],Ya G ab⟩ (sC (QD ad (Qd (Rw G.Contracts))) Qa (sK (Qm ⟨fU ab ad,Ya G ab⟩ (sS (sB (sG (xR 4 (xG (QG (e:=120) (S:=4) (enc:=K3.cs) (l:=G.Contracts) (k:=.i64) (n:=ad) (sv:=.p (.sl 4 (Rw G.Contracts))) rfl Qa Qa Qa Qa Qa) (fun x9=>xR 3 (xF (Z6 (e:=9) (S:=1) (by_:=16) (enc:=Zv) (tk:=25) (l:=ab) (l2:=[x9.Name]) (xv:=.tsl 1 (List.map Zv [x9.Name]) 56) rfl Qa Qa rfl Qa Qa Qa rfl Qa) (xR 1 (xE (QP (Qm ⟨fU (ab++[x9.Name]) ad,PZ G (ab++[x9.Name])⟩ (sL Qf (KF (ab++[x9.Name],wi (ad+1))))))))))))))))) (Qr (ZF (Kg (QI (QO ab Qa)))))))
 rintro j7;refine KG (fun aj=>⟨jK aj,Ya G aj⟩:(List (List UInt8))→St) ?_ ?_
 ·refine Qi Qf ⟨fV j7 0,Ya G j7⟩ (sB (QA (fun(O,Z)=>⟨fV O Z,Ya G O⟩:((List (List UInt8))×Int)→St) (JJ) ?_));rintro al ⟨O,Z⟩;show QU (J7 G al O Z) _ _ _ _ _ _;unfold J7;exact sS (Qi Qf ⟨[qq 1,(3,.tsl 1 (List.map Zv O) 25),(7,I Z),(62,B (QD Z (Qd (Y1 G.Chargers))))],Ya G O⟩ (sC (QD Z (Qd (Y1 G.Chargers))) Qa (sK (Qm ⟨fV O Z,Ya G O⟩ (sS (sB (sG (xR 4 (xG (QG (e:=32) (S:=8) (enc:=Kj.cs) (l:=G.Chargers) (k:=.i64) (n:=Z) (sv:=.p (.sl 8 (Y1 G.Chargers))) rfl Qa Qa Qa Qa Qa) (fun ai=>xR 3 (xF (Z6 (e:=9) (S:=1) (by_:=16) (enc:=Zv) (tk:=25) (l:=O) (l2:=[ai.Name]) (xv:=.tsl 1 (List.map Zv [ai.Name]) 72) rfl Qa Qa rfl Qa Qa Qa rfl Qa) (xR 1 (xE (QP (Qm ⟨fV (O++[ai.Name]) Z,PZ G (O++[ai.Name])⟩ (sL Qf (KF (O++[ai.Name],wi (Z+1))))))))))))))))) (Qr (ZF (Kg (QI (QO O Qa)))))))
 rintro aj;refine KG (fun U=>(QeE U):(List (List UInt8))→St) ?_ ?_
 ·refine Qi Qf ⟨fZ aj 0,Ya G aj⟩ (sB (QA (fun(J,Y)=>⟨fZ J Y,Ya G J⟩:((List (List UInt8))×Int)→St) (JJ) ?_));rintro an ⟨J,Y⟩;show QU (J8 G an J Y) _ _ _ _ _ _;unfold J8;exact sS (Qi Qf ⟨[qq 1,(3,.tsl 1 (List.map Zv J) 25),(8,I Y),(78,B (QD Y (Qd (JZ G.Bays))))],Ya G J⟩ (sC (QD Y (Qd (JZ G.Bays))) Qa (sK (Qm ⟨fZ J Y,Ya G J⟩ (sS (sB (sG (xR 4 (xG (QG (e:=123) (S:=2) (enc:=ZA.cs) (l:=G.Bays) (k:=.i64) (n:=Y) (sv:=.p (.sl 2 (JZ G.Bays))) rfl Qa Qa Qa Qa Qa) (fun ak=>xR 3 (xF (Z6 (e:=9) (S:=1) (by_:=16) (enc:=Zv) (tk:=25) (l:=J) (l2:=[ak.Name]) (xv:=.tsl 1 (List.map Zv [ak.Name]) 88) rfl Qa Qa rfl Qa Qa Qa rfl Qa) (xR 1 (xE (QP (Qm ⟨fZ (J++[ak.Name]) Y,PZ G (J++[ak.Name])⟩ (sL Qf (KF (J++[ak.Name],wi (Y+1))))))))))))))))) (Qr (ZF (Kg (QI (QO J Qa)))))))
 rintro U;refine sS (Qi Qf ⟨mh U 0,Dm U⟩ (sB (QA (fun ah=>⟨mh U ah,Dm U⟩:Int→St) (JJ) ?_)));rintro ao ah;show QU (Vm n U ao ah) _ _ _ _ _ _;unfold Vm;refine sS (Qi Qf ⟨[(3,.tsl 1 (List.map Zv U) 25),(9,I ah),(93,B (QD ah (Qd (List.map Zv U))))],Dm U⟩ (sC (QD ah (Qd (List.map Zv U))) Qa (sK (Qm ⟨mh U ah,Dm U⟩ (sS (sB (KG (fun av=>⟨[(3,.tsl 1 (List.map Zv U) 25),(9,I ah),(111,B av)],Dm U⟩:Bool→St) ?_ ?_))))) (Qr (ZF (Kg (QI (Qm ⟨[],[]⟩ (Qi Qf ⟨[(2,B true)],[]⟩ (sT (qR (.id)))))))))));rotate_left
 ·rintro av;exact sC av Qa (Qi Qf ⟨[(2,B false)],[]⟩ (sT (Ze (QW (K8 (Ze (QW (qR (.id))))))))) (sK (QP (Qm ⟨mh U ah,Dm U⟩ (sL Qf (KF (wi (ah+1)))))))
 refine Y3 Qf rfl (xR 2 (xG (QG (e:=9) (S:=1) (enc:=Zv) (l:=U) (k:=.i64) (n:=ah) (sv:=.tsl 1 (List.map Zv U) 25) rfl Qa Qa Qa Qa Qa) (fun ay=>xR 1 ?_)));refine xC [] (AB n ay) QL (fun a6=>?_);refine xR 2 (xS (!a6) (fun aw=>xN (Qz aw) (xR 8 (YO (QO true Qa)))) (fun aw=>xO (Qy aw) (xR 1 (xF (zx (e:=9) (S:=1) (enc:=Zv) (l:=U) (sv:=.tsl 1 (List.map Zv U) 25) (a:=0) (b:=ah) rfl Qa Qa Qa Qa Qa Qa) (xR 2 (xG (QG (e:=9) (S:=1) (enc:=Zv) (l:=U) (k:=.i64) (n:=ah) (sv:=.tsl 1 (List.map Zv U) 25) rfl Qa Qa Qa Qa Qa) (fun az=>xR 1 ?_)))))));refine xC [] (qb n (List.drop (Int.toNat 0) (List.take (Int.toNat ah) U)) az) QL (fun ax=>?_);exact xR 1 (YO (QO ax Qa))
def WE(n:Nat)(G:ZU)(J:Int):Option Bool :=((QC n G.Limit 1 1000).bind fun r2 =>cond (!r2) (some true) ((QC n G.Neutral 1 1000).bind fun r4 =>cond (!r4) (some true) (cond (Qq J 0) (cond (!Qq G.Up (-1)) (some true) (cond (QD 0 J) ((QC n G.Up 0 (wi (J-1))).bind fun r9 =>some (!r9)) (some false))) (cond (QD 0 J) ((QC n G.Up 0 (wi (J-1))).bind fun O =>some (!O)) (some false))))).bind fun j1 =>cond j1 (some false) ((cond (!TA ((Qq G.Fuse.Rated 0)&&((Qq G.Fuse.Heat 0)&&true))) ((QC n G.Fuse.Rated 1 1000).bind fun ad =>cond (!ad) (some true) ((QC n G.Fuse.Heat 0 1000000).bind fun aa =>some (!aa))) (some false)).bind fun ae =>cond ae (some false) ((cond (TA ((Qq G.Cable.Ambient 0)&&((Qq G.Cable.Most 0)&&((Qq G.Cable.Gain 0)&&((Qq G.Cable.Loss 0)&&((Qq G.Cable.Den 0)&&true)))))) (some true) ((QC n G.Cable.Ambient 0 200000).bind fun ab =>cond ab ((QC n G.Cable.Most (wi (G.Cable.Ambient+1)) 200000).bind fun af =>cond af ((QC n G.Cable.Gain 0 1000).bind fun Y =>cond Y ((QC n G.Cable.Loss 0 1000).bind fun U =>cond U ((QC n G.Cable.Den 1 1000000).bind fun ac =>some ac) (some false)) (some false)) (some false)) (some false))).bind fun Z =>some Z))
theorem CY(n:Nat)(G:ZU)(J:Int):∀r,WE n G J=some r→QV Tryz.prog 51 [ag (ZU.cs G),I J] (.ret (B r)):=by
 refine Qp Tryz.func51 rfl Tryz.ntmps51 rfl ?_;unfold WE;refine Qi Qf ⟨[(1,I J),qq 2],zI G⟩ (sS (KG (fun j1=>⟨[qq 2,(37,B j1)],zI G⟩:Bool→St) ?_ ?_))
 ·refine sG (xR 2 ?_);refine xC [] (QQ n G.Limit 1 1000) QL (fun r2=>?_);refine xR 2 (xS (!r2) (fun h3=>xN (Qz h3) (xR 25 (xE (QO true Qa)))) (fun h3=>xO (Qy h3) (xR 1 ?_)));refine xC [] (QQ n G.Neutral 1 1000) QL (fun r4=>?_);refine xR 3 (xS (!r4) (fun h5=>xN (Qz h5) (xR 19 (xE (QO true Qa)))) (fun h5=>xO (Qy h5) (xR 2 (xS (Qq J 0) (fun h6=>?_) (fun h6=>?_)))));rotate_left
  ·refine xN (Qv h6) (xR 8 (xS (QD 0 J) (fun Y=>?_) (fun Y=>?_)))
   ·refine xO (Qu Y) (xR 3 ?_);refine xC [] (QQ n G.Up 0 (wi (J-1))) QL (fun ah=>?_);exact xR 3 (xE (QO (!ah) Qa))
   exact xN (Qv Y) (xR 7 (xE (QO false Qa)))
  refine xO (Qu h6) (xR 5 (xS (!Qq G.Up (-1)) (fun h7=>xN (Qz h7) (xR 10 (xE (QO true Qa)))) (fun h7=>xO (Qy h7) (xR 2 (xS (QD 0 J) (fun h8=>?_) (fun h8=>?_))))))
  ·refine xO (Qu h8) (xR 3 ?_);refine xC [] (QQ n G.Up 0 (wi (J-1))) QL (fun r9=>?_);exact xR 3 (xE (QO (!r9) Qa))
  exact xN (Qv h8) (xR 7 (xE (QO false Qa)))
 rintro j1;refine sC j1 Qa (Qi Qf ⟨[(4,B false)],[]⟩ (sT (QW (qR (.id))))) (sK (Qm ⟨[qq 2],zI G⟩ (Qi Qf ⟨[qq 2,qq 5],[(2,O6 G),(5,P6 G.Fuse)]⟩ (Qi Qf ⟨[qq 5,qq 6],[(5,P6 G.Fuse),(6,Tj G.Cable)]⟩ (sS (KG (fun ad=>⟨[qq 6,(56,B ad)],[(6,Tj G.Cable)]⟩:Bool→St) ?_ ?_))))))
 ·refine sG (xR 2 (Q7 (yj (xs:=[I G.Fuse.Rated,I G.Fuse.Heat]) (ys:=[I 0,I 0]) (vx:=[.int .i64 G.Fuse.Rated,.int .i64 G.Fuse.Heat]) (vy:=[.int .i64 0,.int .i64 0]) (b:=(Qq G.Fuse.Rated 0)&&((Qq G.Fuse.Heat 0)&&true)) rfl Qa Qa Qa Qa Qa Qa) (xR 1 (xS (!TA ((Qq G.Fuse.Rated 0)&&((Qq G.Fuse.Heat 0)&&true))) (fun aa=>?_) (fun aa=>?_)))))
  ·refine xO (Qu aa) (xR 1 ?_);refine xC [] (QQ n G.Fuse.Rated 1 1000) QL (fun al=>?_);refine xR 2 (xS (!al) (fun U=>xN (Qz U) (xR 5 (xE (QO true Qa)))) (fun U=>xO (Qy U) (xR 1 ?_)));refine xC [] (QQ n G.Fuse.Heat 0 1000000) QL (fun an=>?_);exact xR 3 (xE (QO (!an) Qa))
  exact xN (Qv aa) (xR 10 (xE (QO false Qa)))
 rintro ad;refine sC ad Qa (Qi Qf ⟨[(4,B false)],[]⟩ (sT (QW (qR (.id))))) (sK (Qm ⟨[qq 6],[(6,Tj G.Cable)]⟩ (KG (fun af=>⟨[(4,B af)],[]⟩:Bool→St) ?_ ?_)));rotate_left
 ·rintro af;exact sT (qR (.id))
 refine sG (xR 2 (Q7 (Pg (xs:=[I G.Cable.Ambient,I G.Cable.Most,I G.Cable.Gain,I G.Cable.Loss,I G.Cable.Den]) (ys:=[I 0,I 0,I 0,I 0,I 0]) (vx:=[.int .i64 G.Cable.Ambient,.int .i64 G.Cable.Most,.int .i64 G.Cable.Gain,.int .i64 G.Cable.Loss,.int .i64 G.Cable.Den]) (vy:=[.int .i64 0,.int .i64 0,.int .i64 0,.int .i64 0,.int .i64 0]) (b:=(Qq G.Cable.Ambient 0)&&((Qq G.Cable.Most 0)&&((Qq G.Cable.Gain 0)&&((Qq G.Cable.Loss 0)&&((Qq G.Cable.Den 0)&&true))))) rfl Qa Qa Qa Qa Qa Qa) (xR 1 (xS (TA ((Qq G.Cable.Ambient 0)&&((Qq G.Cable.Most 0)&&((Qq G.Cable.Gain 0)&&((Qq G.Cable.Loss 0)&&((Qq G.Cable.Den 0)&&true)))))) (fun ae=>xN (Qz ae) (xR 27 (xE (QO true Qa)))) (fun ae=>xO (Qy ae) (xR 1 ?_))))));refine xC [] (QQ n G.Cable.Ambient 0 200000) QL (fun aq=>?_);refine xR 1 (xS aq (fun ac=>xO (Qu ac) (xR 4 ?_)) (fun ac=>xN (Qv ac) (xR 23 (xE (QO false Qa)))));refine xC [] (QQ n G.Cable.Most (wi (G.Cable.Ambient+1)) 200000) QL (fun ao=>?_);refine xR 2 (xS ao (fun O=>xO (Qu O) (xR 1 ?_)) (fun O=>xN (Qv O) (xR 15 (xE (QO false Qa)))));refine xC [] (QQ n G.Cable.Gain 0 1000) QL (fun aj=>?_);refine xR 2 (xS aj (fun Z=>?_) (fun Z=>?_))
 ·refine xO (Qu Z) (xR 1 ?_);refine xC [] (QQ n G.Cable.Loss 0 1000) QL (fun ai=>?_);refine xR 2 (xS ai (fun ab=>?_) (fun ab=>?_))
  ·refine xO (Qu ab) (xR 1 ?_);refine xC [] (QQ n G.Cable.Den 1 1000000) QL (fun ak=>?_);exact xR 3 (xE (QO ak Qa))
  exact xN (Qv ab) (xR 5 (xE (QO false Qa)))
 exact xN (Qv Z) (xR 10 (xE (QO false Qa)))
def JQ(n:Nat)(G:Kj):Option Bool :=((QC n G.Phases 1 7).bind fun r2 =>cond r2 ((QC n G.Min 1 80).bind fun O =>cond O ((QC n G.Max G.Min 80).bind fun Z =>cond Z ((QC n G.Step 1 80).bind fun Y =>cond Y (cond (Qq G.Fallback 0) (some true) ((QC n G.Fallback G.Min G.Max).bind fun J =>some J)) (some false)) (some false)) (some false)) (some false)).bind fun U =>some U
theorem Nr(n:Nat)(G:Kj):∀r,JQ n G=some r→QV Tryz.prog 52 [ag (Kj.cs G)] (.ret (B r)):=by
 refine Qp Tryz.func52 rfl Tryz.ntmps52 rfl ?_;unfold JQ;refine Qi Qf (Qeo G) (KG (fun j1=>⟨[(2,B j1)],[]⟩:Bool→St) ?_ ?_);rotate_left
 ·rintro j1;exact sT (qR (.id))
 refine sG (xR 2 ?_);refine xC [] (QQ n G.Phases 1 7) QL (fun r2=>?_);refine xR 1 (xS r2 (fun Y=>xO (Qu Y) (xR 1 ?_)) (fun Y=>xN (Qv Y) (xR 30 (xE (QO false Qa)))));refine xC [] (QQ n G.Min 1 80) QL (fun r4=>?_);refine xR 2 (xS r4 (fun Z=>xO (Qu Z) (xR 3 ?_)) (fun Z=>xN (Qv Z) (xR 25 (xE (QO false Qa)))));refine xC [] (QQ n G.Max G.Min 80) QL (fun r6=>?_);refine xR 2 (xS r6 (fun h7=>xO (Qu h7) (xR 1 ?_)) (fun h7=>xN (Qv h7) (xR 18 (xE (QO false Qa)))));refine xC [] (QQ n G.Step 1 80) QL (fun r8=>?_);refine xR 2 (xS r8 (fun U=>?_) (fun U=>?_))
 ·refine xO (Qu U) (xR 3 (xS (Qq G.Fallback 0) (fun J=>xN (Qz J) (xR 9 (xE (QO true Qa)))) (fun J=>xO (Qy J) (xR 5 ?_))));refine xC [] (QQ n G.Fallback G.Min G.Max) QL (fun O=>?_);exact xR 3 (xE (QO O Qa))
 exact xN (Qv U) (xR 13 (xE (QO false Qa)))
def WF(n:Nat)(J:Qo)(G:Int→Option Bool)(O:Int):Option Bool :=cond (QD O (Qd (List.map ZA.cs J.Bays))) ((Za J.Bays O).bind fun U =>(QC n U.Charger 0 (wi ((Qd (List.map Kj.cs J.Chargers))-1))).bind fun Y =>cond (!Y) (some false) (G (wi (O+1)))) (some true)
def YH(n:Nat)(J:Qo):Option Bool :=Q0 (fun G O=>WF n J G O) n 0
def WG(n:Nat)(G:Qo)(J:Int→Option Bool)(U:Int):Option Bool :=cond (QD U (Qd (List.map Kj.cs G.Chargers))) ((Za G.Chargers U).bind fun O =>((JQ n O).bind fun Z =>cond (!Z) (some true) ((QC n O.At 0 (wi ((Qd (List.map ZU.cs G.Conductors))-1))).bind fun Y =>cond (!Y) (some true) ((QC n O.Owner 0 (wi ((Qd (List.map Zk.cs G.Owners))-1))).bind fun aa =>some (!aa)))).bind fun ab =>cond ab (some false) (J (wi (U+1)))) (YH n G)
def YI(n:Nat)(J:Qo):Option Bool :=Q0 (fun G O=>WG n J G O) n 0
def WH(Y:Qo)(U:Int)(G:Int→Option Bool)(aa:K3)(J:Int→Option Bool)(O:Int):Option Bool :=cond (QD O U) ((Za Y.Contracts O).bind fun Z =>cond (Qq Z.Card aa.Card) (some false) (J (wi (O+1)))) (G (wi (U+1)))
def WI(n:Nat)(G:Qo)(U:Int→Option Bool)(Y:Int):Option Bool :=cond (QD Y (Qd (List.map K3.cs G.Contracts))) ((Za G.Contracts Y).bind fun O =>((QC n O.Owner 0 (wi ((Qd (List.map Zk.cs G.Owners))-1))).bind fun ad =>cond (!ad) (some true) ((QC n O.Rank 1 9).bind fun ab =>cond (!ab) (some true) ((QC n O.Card 1 1000000).bind fun ac =>some (!ac)))).bind fun aa =>cond aa (some false) (Q0 (fun J Z=>WH G Y U O J Z) n 0)) (YI n G)
def YY(n:Nat)(J:Qo):Option Bool :=Q0 (fun G O=>WI n J G O) n 0
def WJ(n:Nat)(O:Qo)(G:Int→Option Bool)(J:Int):Option Bool :=cond (QD J (Qd (List.map ZU.cs O.Conductors))) ((Za O.Conductors J).bind fun U =>(WE n U J).bind fun Y =>cond (!Y) (some false) (G (wi (J+1)))) (YY n O)
def X9(n:Nat)(G:Qo):Option Bool :=((QC n (Qd (List.map ZU.cs G.Conductors)) 1 16).bind fun Z =>cond (!Z) (some true) (cond (QD 8 (Qd (List.map Zk.cs G.Owners))) (some true) (cond (QD 32 (Qd (List.map K3.cs G.Contracts))) (some true) (cond (QD 16 (Qd (List.map Kj.cs G.Chargers))) (some true) (cond (QD 24 (Qd (List.map ZA.cs G.Bays))) (some true) ((X8 n G).bind fun Y =>some (!Y))))))).bind fun U =>cond U (some false) (Q0 (fun J O=>WJ n G J O) n 0)
def QcP:=fun J G=>(⟨[(1,.ptr 1 0),(3,I J)],ZR G⟩:St)
def QcQ:=fun J G=>(⟨[(1,.ptr 1 0),(4,I J)],ZR G⟩:St)
def Eb:=fun J G=>([(1,.box 28 (KS (Qo.cs J))),(5,.box 120 (KS (K3.cs G)))]:List (Nat×Blk))
def mi:=fun J G=>([(1,.ptr 1 0),(4,I J),(5,.ptr 5 0),(6,I G)]:List (Nat×AV))
def QcR:=fun J G=>(⟨[(1,.ptr 1 0),(9,I J)],ZR G⟩:St)
def QcS:=fun J G=>(⟨[(1,.ptr 1 0),(7,I J)],ZR G⟩:St)
theorem Sq(n:Nat)(G:Qo):∀r,X9 n G=some r→QV Tryz.prog 19 [ag (Qo.cs G)] (.ret (B r)):=by
 refine Qp Tryz.func19 rfl Tryz.ntmps19 rfl ?_;unfold X9;refine Qi Qf ⟨[qq 1],ZR G⟩ (sS (KG (fun j1=>⟨[qq 1,(43,B j1)],ZR G⟩:Bool→St) ?_ ?_))
 ·refine sG (xR 3 ?_);refine xC [] (QQ n (Qd (UU G.Conductors)) 1 16) QL (fun r2=>?_);refine xR 2 (xS (!r2) (fun h3=>xN (Qz h3) (xR 27 (xE (QO true Qa)))) (fun h3=>xO (Qy h3) (xR 5 (xS (QD 8 (Qd (Yw G.Owners))) (fun h4=>xN (Qz h4) (xR 21 (xE (QO true Qa)))) (fun h4=>xO (Qy h4) (xR 5 (xS (QD 32 (Qd (Rw G.Contracts))) (fun h5=>xN (Qz h5) (xR 15 (xE (QO true Qa)))) (fun h5=>xO (Qy h5) (xR 5 (xS (QD 16 (Qd (Y1 G.Chargers))) (fun h6=>xN (Qz h6) (xR 9 (xE (QO true Qa)))) (fun h6=>xO (Qy h6) (xR 5 (xS (QD 24 (Qd (JZ G.Bays))) (fun h7=>xN (Qz h7) (xR 3 (xE (QO true Qa)))) (fun h7=>xO (Qy h7) ?_))))))))))))));refine xC [] (Sn n G) QL (fun r8=>?_);exact xR 2 (xE (QO (!r8) Qa))
 rintro j1;refine sC j1 Qa (Qi Qf ⟨[(2,B false)],[]⟩ (sT (QW (qR (.id))))) (sK (Qm ⟨[qq 1],ZR G⟩ (Kc (fun _=>⟨[qq 1],ZR G⟩:Unit→St) (fun _=>YY n G) ?_ ?_)));rotate_left
 ·refine Qi Qf ⟨[qq 1,(3,I 0)],ZR G⟩ (sB (QA (fun Y=>(QcP Y G):Int→St) (JJ) ?_));rintro ad Y;show QU (WJ n G ad Y) _ _ _ _ _ _;unfold WJ;refine sS (Qi Qf ⟨[qq 1,(3,I Y),(48,B (QD Y (Qd (UU G.Conductors))))],ZR G⟩ (sC (QD Y (Qd (UU G.Conductors))) Qa (sK (Qm (QcP Y G) (sS (sB (sS (sG (xR 3 (xG (QG (e:=54) (S:=11) (enc:=ZU.cs) (l:=G.Conductors) (k:=.i64) (n:=Y) (sv:=.p (.sl 11 (UU G.Conductors))) rfl Qa Qa Qa Qa Qa) (fun ax=>xR 2 ?_))))))))) (Qr (ZF (Kg (QI (KF (k:=fun _=>YY n G) ())))))));refine xC [] (CY n ax Y) QL (fun au=>?_);exact xR 1 (xE (Qm ⟨[qq 1,(3,I Y),(58,B (!au))],ZR G⟩ (sC (!au) Qa (Qi Qf ⟨[(2,B false)],[]⟩ (sT (Ze (QW (K8 (Ze (K8 (qR (.id))))))))) (sK (QP (Qm (QcP Y G) (sL Qf (KF (wi (Y+1))))))))))
 rintro _;show QU (YY n G) _ _ _ _ _ _;unfold YY;refine Kc (fun _=>⟨[qq 1],ZR G⟩:Unit→St) (fun _=>YI n G) ?_ ?_;rotate_left
 ·refine Qi Qf ⟨[qq 1,(4,I 0)],ZR G⟩ (sB (QA (fun J=>(QcQ J G):Int→St) (JJ) ?_));rintro ab J;show QU (WI n G ab J) _ _ _ _ _ _;unfold WI;refine sS (Qi Qf ⟨[qq 1,(4,I J),(63,B (QD J (Qd (Rw G.Contracts))))],ZR G⟩ (sC (QD J (Qd (Rw G.Contracts))) Qa (sK (Qm (QcQ J G) (sS (sB (sS (sG (xR 3 (xG (QG (e:=120) (S:=4) (enc:=K3.cs) (l:=G.Contracts) (k:=.i64) (n:=J) (sv:=.p (.sl 4 (Rw G.Contracts))) rfl Qa Qa Qa Qa Qa) (fun O=>xR 3 (xE (Qm ⟨[qq 1,(4,I J),qq 5],Eb G O⟩ (sS (KG (fun al=>⟨[qq 1,(4,I J),qq 5,(90,B al)],Eb G O⟩:Bool→St) ?_ ?_))))))))))))) (Qr (ZF (Kg (QI (KF (k:=fun _=>YI n G) ())))))))
  ·refine sG (xR 6 ?_);refine xC [] (QQ n O.Owner 0 (wi ((Qd (Yw G.Owners))-1))) QL (fun a8=>?_);refine xR 2 (xS (!a8) (fun ao=>xN (Qz ao) (xR 10 (xE (QO true Qa)))) (fun ao=>xO (Qy ao) (xR 1 ?_)));refine xC [] (QQ n O.Rank 1 9) QL (fun a7=>?_);refine xR 3 (xS (!a7) (fun aj=>xN (Qz aj) (xR 4 (xE (QO true Qa)))) (fun aj=>xO (Qy aj) (xR 1 ?_)));refine xC [] (QQ n O.Card 1 1000000) QL (fun aw=>?_);exact xR 2 (xE (QO (!aw) Qa))
  rintro al;refine sC al Qa (Qi Qf ⟨[(2,B false)],[]⟩ (sT (QW (Ze (QW (K8 (Ze (K8 (qR (.id)))))))))) (sK (Qm ⟨[qq 1,(4,I J),qq 5],Eb G O⟩ (Qi Qf ⟨mi J 0,Eb G O⟩ (sB (QA (fun aa=>⟨mi J aa,Eb G O⟩:Int→St) (JJ) ?_)))));rintro ae aa;show QU (WH G J ab O ae aa) _ _ _ _ _ _;unfold WH;exact sS (Qi Qf ⟨[qq 1,(4,I J),qq 5,(6,I aa),(93,B (QD aa J))],Eb G O⟩ (sC (QD aa J) Qa (sK (Qm ⟨mi J aa,Eb G O⟩ (sS (sB (sS (Y3 Qf rfl (xR 3 (xG (QG (e:=120) (S:=4) (enc:=K3.cs) (l:=G.Contracts) (k:=.i64) (n:=aa) (sv:=.p (.sl 4 (Rw G.Contracts))) rfl Qa Qa Qa Qa Qa) (fun aq=>xR 5 (YO (Qm ⟨[qq 1,(4,I J),qq 5,(6,I aa),(104,B (Qq aq.Card O.Card))],Eb G O⟩ (sC (Qq aq.Card O.Card) Qa (Qi Qf ⟨[(2,B false)],[]⟩ (sT (Ze (QW (K8 (Ze (Ze (QW (K8 (Ze (K8 (qR (.id))))))))))))) (sK (QP (Qm ⟨mi J aa,Eb G O⟩ (sL Qf (KF (wi (aa+1))))))))))))))))))) (Qr (ZF (Kg (QI (QP (Qm (QcQ J G) (sL Qf (KF (wi (J+1))))))))))))
 rintro _;show QU (YI n G) _ _ _ _ _ _;unfold YI;refine Kc (fun _=>⟨[qq 1],ZR G⟩:Unit→St) (fun _=>YH n G) ?_ ?_
 ·rintro _;show QU (YH n G) _ _ _ _ _ _;unfold YH;refine sS (Qi Qf ⟨[qq 1,(9,I 0)],ZR G⟩ (sB (QA (fun Z=>(QcR Z G):Int→St) (JJ) ?_)));rintro ac Z;show QU (WF n G ac Z) _ _ _ _ _ _;unfold WF;refine sS (Qi Qf ⟨[qq 1,(9,I Z),(144,B (QD Z (Qd (JZ G.Bays))))],ZR G⟩ (sC (QD Z (Qd (JZ G.Bays))) Qa (sK (Qm (QcR Z G) (sS (sB (sS (Y3 Qf rfl (xR 3 (xG (QG (e:=123) (S:=2) (enc:=ZA.cs) (l:=G.Bays) (k:=.i64) (n:=Z) (sv:=.p (.sl 2 (JZ G.Bays))) rfl Qa Qa Qa Qa Qa) (fun a6=>xR 6 ?_))))))))) (Qr (ZF (Kg (QI (Qm ⟨[],[]⟩ (Qi Qf ⟨[(2,B true)],[]⟩ (sT (qR (.id)))))))))));refine xC [] (QQ n a6.Charger 0 (wi ((Qd (Y1 G.Chargers))-1))) QL (fun ar=>?_);exact xR 1 (YO (Qm ⟨[qq 1,(9,I Z),(158,B (!ar))],ZR G⟩ (sC (!ar) Qa (Qi Qf ⟨[(2,B false)],[]⟩ (sT (Ze (QW (K8 (Ze (QW (qR (.id))))))))) (sK (QP (Qm (QcR Z G) (sL Qf (KF (wi (Z+1))))))))))
 refine Qi Qf ⟨[qq 1,(7,I 0)],ZR G⟩ (sB (QA (fun U=>(QcS U G):Int→St) (JJ) ?_));rintro af U;show QU (WG n G af U) _ _ _ _ _ _;unfold WG;refine sS (Qi Qf ⟨[qq 1,(7,I U),(109,B (QD U (Qd (Y1 G.Chargers))))],ZR G⟩ (sC (QD U (Qd (Y1 G.Chargers))) Qa (sK (Qm (QcS U G) (sS (sB (sS (sG (xR 3 (xG (QG (e:=32) (S:=8) (enc:=Kj.cs) (l:=G.Chargers) (k:=.i64) (n:=U) (sv:=.p (.sl 8 (Y1 G.Chargers))) rfl Qa Qa Qa Qa Qa) (fun ah=>xR 3 (xE (Qm ⟨[qq 1,(7,I U),qq 8],[(1,Qx G),(8,Y8 ah)]⟩ (KG (fun an=>⟨[qq 1,(7,I U),(139,B an)],ZR G⟩:Bool→St) ?_ ?_)))))))))))) (Qr (ZF (Kg (QI (KF (k:=fun _=>YH n G) ())))))));rotate_left
 ·rintro an;exact sC an Qa (Qi Qf ⟨[(2,B false)],[]⟩ (sT (Ze (QW (K8 (Ze (K8 (qR (.id))))))))) (sK (QP (Qm (QcS U G) (sL Qf (KF (wi (U+1)))))))
 refine sG (xR 1 ?_);refine xC [] (Nr n ah) QL (fun av=>?_);refine xR 2 (xS (!av) (fun ai=>xN (Qz ai) (xR 18 (xE (QO true Qa)))) (fun ai=>xO (Qy ai) (xR 5 ?_)));refine xC [] (QQ n ah.At 0 (wi ((Qd (UU G.Conductors))-1))) QL (fun ay=>?_);refine xR 3 (xS (!ay) (fun ak=>xN (Qz ak) (xR 8 (xE (QO true Qa)))) (fun ak=>xO (Qy ak) (xR 5 ?_)));refine xC [] (QQ n ah.Owner 0 (wi ((Qd (Yw G.Owners))-1))) QL (fun az=>?_);exact xR 2 (xE (QO (!az) Qa))
def VF(U:Qo)(G:List Int)(J:Int→Option Bool)(O:Int):Option Bool :=cond (QD O (Qd (List.map ci G))) (((Za G O).bind fun x3 =>cond (QD x3 0) (some true) ((Za G O).bind fun Z =>some (QD 80 Z))).bind fun Y =>cond Y (some false) (J (wi (O+1)))) (some (Qq (Qd (List.map ci G)) (Qd (List.map Kj.cs U.Chargers))))
def Jm(n:Nat)(O:Qo)(G:List Int):Option Bool :=Q0 (fun J U=>VF O G J U) n 0
def mo:=fun G=>([(1,.p (.sl 1 (List.map ci G))),(2,.ptr 2 0)]:List (Nat×AV))
def mq:=fun J G=>([(1,.p (.sl 1 (List.map ci J))),(2,.ptr 2 0),(5,I G)]:List (Nat×AV))
theorem BQ(n:Nat)(J:Qo)(G:List Int):∀r,Jm n J G=some r→QV Tryz.prog 20 [ag (Qo.cs J),.p (.sl 1 (List.map ci G))] (.ret (B r)):=by
 refine Qp Tryz.func20 rfl Tryz.ntmps20 rfl ?_;unfold Jm;refine Qi Qf ⟨mo G,GV J⟩ (sS (Qi Qf ⟨mq G 0,GV J⟩ (sB (QA (fun O=>⟨mq G O,GV J⟩:Int→St) (JJ) ?_))));rintro U O;show QU (VF J G U O) _ _ _ _ _ _;unfold VF;refine sS (Qi Qf ⟨[(1,.p (.sl 1 (List.map ci G))),qq 2,(5,I O),(9,B (QD O (Qd (List.map ci G))))],GV J⟩ (sC (QD O (Qd (List.map ci G))) Qa (sK (Qm ⟨mq G O,GV J⟩ (sS (sB (KG (fun Y=>⟨[(1,.p (.sl 1 (List.map ci G))),qq 2,(5,I O),(23,B Y)],GV J⟩:Bool→St) (sG (xR 2 (xG (QG (e:=3) (S:=1) (enc:=ci) (l:=G) (k:=.i64) (n:=O) (sv:=.p (.sl 1 (List.map ci G))) rfl Qa Qa Qa Qa Qa) (fun x3=>xR 3 (xS (QD x3 0) (fun Z=>xN (Qz Z) (xR 5 (xE (QO true Qa)))) (fun Z=>xO (Qy Z) (xR 1 (xG (QG (e:=3) (S:=1) (enc:=ci) (l:=G) (k:=.i64) (n:=O) (sv:=.p (.sl 1 (List.map ci G))) rfl Qa Qa Qa Qa Qa) (fun x5=>xR 3 (xE (QO (QD 80 x5) Qa))))))))))) ?_))))) (Qr (ZF (Kg (QI (Qm ⟨mo G,GV J⟩ (Qi Qf ⟨[(4,B (Qq (Qd (List.map ci G)) (Qd (Y1 J.Chargers))))],[]⟩ (sT (qR (.id)))))))))));rintro Y;exact sC Y Qa (Qi Qf ⟨[(4,B false)],[]⟩ (sT (Ze (QW (K8 (Ze (QW (qR (.id))))))))) (sK (QP (Qm ⟨mq G O,GV J⟩ (sL Qf (KF (wi (O+1)))))))
def KQ(n:Nat)(J:Qo)(G:List Int):Option Bool :=(GY n J).bind fun r1 =>cond r1 ((X9 n J).bind fun U =>cond U ((Jm n J G).bind fun O =>some O) (some false)) (some false)
theorem Fg(n:Nat)(J:Qo)(G:List Int):∀r,KQ n J G=some r→QV Tryz.prog 6 [ag (Qo.cs J),.p (.sl 1 (List.map ci G))] (.ret (B r)):=by
 refine Qp Tryz.func6 rfl Tryz.ntmps6 rfl ?_;unfold KQ;refine Qi Qf ⟨mo G,GV J⟩ (sS (sG (xR 1 ?_)));refine xC [] (qa n J) QL (fun r1=>?_);refine xR 1 (xS r1 (fun O=>xO (Qu O) ?_) (fun O=>xN (Qv O) (xR 8 (xE (Qm ⟨[(4,B false)],[]⟩ (sT (qR (.id))))))));refine xC [] (Sq n J) QL (fun Z=>?_);refine xR 2 (xS Z (fun U=>?_) (fun U=>?_))
 ·refine xO (Qu U) (xR 1 ?_);refine xC [] (BQ n J G) QL (fun Y=>?_);exact xR 2 (xE (Qm ⟨[(4,B Y)],[]⟩ (sT (qR (.id)))))
 exact xN (Qv U) (xR 4 (xE (Qm ⟨[(4,B false)],[]⟩ (sT (qR (.id))))))
def JG(n:Nat)(O:Int)(J:Int)(G:Int):Option Int :=some (d9 J (K9 O G))
theorem Dy(n:Nat)(O:Int)(J:Int)(G:Int):∀r,JG n O J G=some r→QV Tryz.prog 110 [I O,I J,I G] (.ret (I r)):=by
 refine Qp Tryz.func110 rfl Tryz.ntmps110 rfl ?_;unfold JG;exact Qi Qf ⟨fA O J G,[]⟩ (Qi Qf ⟨[(6,I (d9 J (K9 O G)))],[]⟩ (sT (qR (.id))))
def KX(n:Nat)(O:Int)(J:Int)(G:Int):Option Bool :=(JG n O J G).bind fun r1 =>some (Qq r1 O)
theorem WK(n:Nat)(O:Int)(J:Int)(G:Int):∀r,KX n O J G=some r→QV Tryz.prog 67 [I O,I J,I G] (.ret (B r)):=by
 refine Qp Tryz.func67 rfl Tryz.ntmps67 rfl ?_;unfold KX;refine Qi Qf ⟨fA O J G,[]⟩ (sS (sG (xR 3 ?_)));refine xC [] (Dy n O J G) QL (fun r1=>?_);exact xR 3 (xE (Qm ⟨[(6,B (Qq r1 O))],[]⟩ (sT (qR (.id)))))
def U2(n:Nat)(G:V9):Option Bool :=cond (TA ((Qq G.Rated 0)&&((Qq G.Heat 0)&&true))) (some true) ((KX n G.Rated 1 1000).bind fun O =>cond O ((KX n G.Heat 0 1000000000).bind fun J =>some J) (some false))
theorem AC(n:Nat)(G:V9):∀r,U2 n G=some r→QV Tryz.prog 66 [ag (V9.cs G)] (.ret (B r)):=by
 refine Qp Tryz.func66 rfl Tryz.ntmps66 rfl ?_;unfold U2;refine Qi Qf ⟨[qq 1],[(1,P6 G)]⟩ (sS (sG (xR 2 (Q7 (Pg (xs:=[I G.Rated,I G.Heat]) (ys:=[I 0,I 0]) (vx:=[.int .i64 G.Rated,.int .i64 G.Heat]) (vy:=[.int .i64 0,.int .i64 0]) (b:=(Qq G.Rated 0)&&((Qq G.Heat 0)&&true)) rfl Qa Qa Qa Qa Qa Qa) (xR 1 (xS (TA ((Qq G.Rated 0)&&((Qq G.Heat 0)&&true))) (fun O=>xN (Qz O) (xR 9 (xE (Qm ⟨[(2,B true)],[]⟩ (sT (qR (.id))))))) (fun O=>xO (Qy O) (xR 1 ?_))))))));refine xC [] (WK n G.Rated 1 1000) QL (fun Y=>?_);refine xR 1 (xS Y (fun J=>?_) (fun J=>?_))
 ·refine xO (Qu J) (xR 1 ?_);refine xC [] (WK n G.Heat 0 1000000000) QL (fun U=>?_);exact xR 3 (xE (Qm ⟨[(2,B U)],[]⟩ (sT (qR (.id)))))
 exact xN (Qv J) (xR 5 (xE (Qm ⟨[(2,B false)],[]⟩ (sT (qR (.id))))))
def XH(n:Nat)(G:Int):Option Bool :=(KX n G 0 1000).bind fun r1 =>some r1
theorem BR(n:Nat)(G:Int):∀r,XH n G=some r→QV Tryz.prog 68 [I G] (.ret (B r)):=by
 refine Qp Tryz.func68 rfl Tryz.ntmps68 rfl ?_;unfold XH;refine Qi Qf ⟨[(0,I G)],[]⟩ (sS (sG (xR 1 ?_)));refine xC [] (WK n G 0 1000) QL (fun r1=>?_);exact xR 1 (xE (Qm ⟨[(2,B r1)],[]⟩ (sT (qR (.id)))))
def VP(n:Nat)(G:ZJ):Option Bool :=some (Qq G.Fuse.Rated 0)
theorem Fp(n:Nat)(G:ZJ):∀r,VP n G=some r→QV Tryz.prog 32 [.eptr (ZJ.cs G)] (.ret (B r)):=by
 refine Qp Tryz.func32 rfl Tryz.ntmps32 rfl ?_;unfold VP;exact Qi Qf ⟨[(0,.eptr (ZJ.cs G))],[]⟩ (Qi Qf ⟨[(2,B (Qq G.Fuse.Rated 0))],[]⟩ (sT (qR (.id))))
def YZ(n:Nat)(J:ZJ)(G:Int):Option Int :=some (wi ((wi (G*G))-(wi (J.Fuse.Rated*J.Fuse.Rated))))
theorem XT(n:Nat)(J:ZJ)(G:Int):∀r,YZ n J G=some r→QV Tryz.prog 33 [.eptr (ZJ.cs J),I G] (.ret (I r)):=by
 refine Qp Tryz.func33 rfl Tryz.ntmps33 rfl ?_;unfold YZ;exact Qi Qf ⟨[(0,.eptr (ZJ.cs J)),(1,I G)],[]⟩ (Qi Qf ⟨[(4,I (wi ((wi (G*G))-(wi (J.Fuse.Rated*J.Fuse.Rated)))))],[]⟩ (sT (qR (.id))))
def XI(n:Nat)(G:ZJ)(J:Int):Option ZJ :=(VP n G).bind fun r1 =>cond (!r1) ((YZ n G J).bind fun O =>some (⟨G.Fuse,d9 0 (wi (G.now+O))⟩:ZJ)) (some G)
def Qbk:=fun G=>([(1000,.box 87 (KS (ZJ.cs G)))]:List (Nat×Blk))
abbrev Db(x:ZJ):Go.Abs.Blk:=.box 87 (KS (ZJ.cs x))
theorem BU(n:Nat)(J:ZJ)(G:Int):∀r,XI n J G=some r→V7 Tryz.prog 69 [ZT,I G] (Go.Abs.look [(1000,Db J)]) (JI (fun r:ZJ=>((.ret (.tup []),[(1000,Db r)]):KN×List (Nat×Blk))) r):=by
 refine KZ (Qbk J) Tryz.func69 rfl Tryz.ntmps69 rfl ?_;unfold XI;refine sS (sG (xR 1 ?_));refine UR [.ro []] (Fp n J) QL (fun r1=>?_);refine xR 1 (xE (Qm ⟨[(0,ZT),(1,I G),(6,B (!r1))],Qbk J⟩ (sC (!r1) Qa ?_ ?_)))
 ·refine VH [0,1,2,3,4,5,6] [0,1,2,3,4] [(7,[]),(8,[]),(9,[]),(10,[]),(11,[]),(12,[])] Qf rfl (KI (f:=33) (args:=[ZT,I G]) (dst:=some 14) ?_);refine wZ [.ro [],.cv (.id)] (XT n J G) Qa Qa QL (fun O=>?_);exact kh [0,1,2,3,4] (Qe (Kk) (Qe (Kk) (Qe (Qj ZT rfl) (Qe (Qj (.ptr 1000 2) rfl) (Qe (Qj (I J.now) rfl) (Qk)))))) (VJ [0] (Qe (Kk) (Qk)) (VJ [0] (Qe (Kk) (Qk)) (VJ [] (Qk) (VJ [] (Qk) (VJ [] (Qk) (Jq (qJ (.id) [1000] [])))))))
 exact sK (qJ (.id) [1000] [])
def GZ(n:Nat)(O:V9)(J:Int)(G:Int):Option (Int×Int) :=((U2 n O).bind fun Z =>cond (!Z) (some true) ((KX n J 0 O.Heat).bind fun U =>cond (!U) (some true) ((XH n G).bind fun r6 =>some (!r6)))).bind fun Y =>cond Y (some (0,1)) ((XI n (⟨O,J⟩:ZJ) G).bind fun r7 =>some (r7.now,0))
def zQ:=fun J G=>([(1,I J),(2,I G),(3,.ptr 3 0)]:List (Nat×AV))
def qc:=fun G=>([(3,.box 50 (KS (V9.cs G)))]:List (Nat×Blk))
def QaC:=fun G=>(.box 87 (KS (ZJ.cs G)):Blk)
theorem qf(n:Nat)(O:V9)(J:Int)(G:Int):∀r,GZ n O J G=some r→QV Tryz.prog 31 [ag (V9.cs O),I J,I G] (.ret (.tup [I r.1,I r.2])):=by
 refine Qp Tryz.func31 rfl Tryz.ntmps31 rfl ?_;unfold GZ;refine Qi Qf ⟨zQ J G,qc O⟩ (sS (KG (fun Y=>⟨[(1,I J),(2,I G),qq 3,(23,B Y)],qc O⟩:Bool→St) ?_ ?_));rotate_left
 ·rintro Y;refine sC Y Qa (Qi Qf ⟨[(6,I 0),(7,I 1)],[]⟩ (sT (QW (qR (.id))))) (sK (Qm ⟨zQ J G,qc O⟩ (Qi Qf ⟨[(2,I G),(8,.ptr 27 0)],[(27,(QaC ⟨O,J⟩))]⟩ (sS (sG (xR 2 ?_))))));refine Jv [(1000,27)] [] [] (BU n (⟨O,J⟩:ZJ) G) QL QL (fun r7=>?_);exact xE (Qm ⟨[(8,.ptr 27 0)],[(27,Db r7)]⟩ (Qi Qf ⟨[(6,I r7.now),(7,I 0)],[]⟩ (sT (qR (.id)))))
 refine sG (xR 1 ?_);refine xC [] (AC n O) QL (fun r2=>?_);refine xR 2 (xS (!r2) (fun U=>xN (Qz U) (xR 10 (xE (QO true Qa)))) (fun U=>xO (Qy U) (xR 2 ?_)));refine xC [] (WK n J 0 O.Heat) QL (fun r4=>?_);refine xR 3 (xS (!r4) (fun Z=>xN (Qz Z) (xR 3 (xE (QO true Qa)))) (fun Z=>xO (Qy Z) ?_));refine xC [] (BR n G) QL (fun r6=>?_);exact xR 2 (xE (QO (!r6) Qa))
def U3(n:Nat)(O:V9)(G:Int)(J:Int):Option (Int×Int) :=(GZ n O G J).bind fun r1 =>cond (!Qq r1.2 0) (some (0,r1.2)) (((VP n (⟨O,G⟩:ZJ)).bind fun Z =>cond Z (some true) ((YZ n (⟨O,G⟩:ZJ) J).bind fun Y =>some (leI Y 0))).bind fun j2 =>cond j2 (some ((-1),0)) ((YZ n (⟨O,G⟩:ZJ) J).bind fun U =>cond (!Qq U 0) (some (wi (Int.tdiv (wi (O.Heat-G)) U),0)) none))
theorem AJ(n:Nat)(O:V9)(G:Int)(J:Int):∀r,U3 n O G J=some r→QV Tryz.prog 12 [ag (V9.cs O),I G,I J] (.ret (.tup [I r.1,I r.2])):=by
 refine Qp Tryz.func12 rfl Tryz.ntmps12 rfl ?_;unfold U3;refine Qi Qf ⟨zQ G J,qc O⟩ (sS (sS (sG (xR 3 ?_))));refine xC [] (qf n O G J) QL (fun r1=>?_);refine xR 5 (xE (Qm ⟨[(1,I G),(2,I J),qq 3,(9,I r1.2)],qc O⟩ (Qi Qf ⟨[(1,I G),(2,I J),qq 3,(9,I r1.2),(19,B (!Qq r1.2 0))],qc O⟩ (sC (!Qq r1.2 0) Qa (Qi Qf ⟨[(6,I 0),(7,I r1.2)],[]⟩ (sT (QW (qR (.id))))) (sK (Qm ⟨zQ G J,qc O⟩ (Qi Qf ⟨[(2,I J),(10,.ptr 24 0)],[(24,(QaC ⟨O,G⟩))]⟩ (sS (KG (fun U=>⟨[(2,I J),(10,.ptr 24 0),(32,B U)],[(24,(QaC ⟨O,G⟩))]⟩:Bool→St) ?_ ?_)))))))))
 ·refine sG (xR 1 ?_);refine UR [.ro []] (Fp n (⟨O,G⟩:ZJ)) QL (fun r3=>?_);refine xR 1 (xS r3 (fun Y=>xN (Qz Y) (xR 4 (xE (QO true Qa)))) (fun Y=>xO (Qy Y) (xR 1 ?_)));refine UR [.ro [],.cv (.id)] (XT n (⟨O,G⟩:ZJ) J) QL (fun r5=>?_);exact xR 2 (xE (QO (leI r5 0) Qa))
 rintro U;refine sC U Qa (Qi Qf ⟨[(6,I (-1)),(7,I 0)],[]⟩ (sT (QW (qR (.id))))) (sK (Qm ⟨[(2,I J),(10,.ptr 24 0)],[(24,(QaC ⟨O,G⟩))]⟩ (sS (VH [0,1,2,3,4,5,6,7,8,9,10,11] [0,1,2,3,4,5,6,7,8,9] [(12,[]),(13,[]),(14,[]),(15,[])] Qf rfl (KI (f:=33) (args:=[.ptr 24 0,I J]) (dst:=some 45) ?_)))));refine wZ [.ro [],.cv (.id)] (XT n (⟨O,G⟩:ZJ) J) Qa Qa QL (fun Z=>?_);exact kh [0,1,2,3,4,5,6,7,8,9] (Qe (Kk) (Qe (Qj (.ptr 24 0) rfl) (Qe (Qj (.ptr 24 0) rfl) (Qe (Qj (.ptr 24 1) rfl) (Qe (Qj (I O.Heat) rfl) (Qe (Kk) (Qe (Qj (.ptr 24 0) rfl) (Qe (Qj (.ptr 24 2) rfl) (Qe (Qj (I G) rfl) (Qe (Qj (I (wi (O.Heat-G))) rfl) (Qk))))))))))) (Ap [] rfl (gF (k:=.i64) (a:=wi (O.Heat-G)) (b:=Z) rfl Qa Qa) (fun _=>Qk) (VJ [] (Qk) (VJ [] (Qk) (Jq (Qm ⟨[(6,I (wi (Int.tdiv (wi (O.Heat-G)) Z))),(7,I 0)],[]⟩ (sT (qR (.id))))))))
def Xr(n:Nat)(G:Int):Option Bool :=(Ki n G 0 1000000000).bind fun r1 =>some r1
theorem Rk(n:Nat)(G:Int):∀r,Xr n G=some r→QV Tryz.prog 39 [I G] (.ret (B r)):=by
 refine Qp Tryz.func39 rfl Tryz.ntmps39 rfl ?_;unfold Xr;refine Qi Qf ⟨[(0,I G)],[]⟩ (sS (sG (xR 1 ?_)));refine xC [] (Vk n G 0 1000000000) QL (fun r1=>?_);exact xR 1 (xE (Qm ⟨[(2,B r1)],[]⟩ (sT (qR (.id)))))
def J9(n:Nat)(G:Int):Option Bool :=(Ki n G 0 1000).bind fun r1 =>some r1
theorem CZ(n:Nat)(G:Int):∀r,J9 n G=some r→QV Tryz.prog 40 [I G] (.ret (B r)):=by
 refine Qp Tryz.func40 rfl Tryz.ntmps40 rfl ?_;unfold J9;refine Qi Qf ⟨[(0,I G)],[]⟩ (sS (sG (xR 1 ?_)));refine xC [] (Vk n G 0 1000) QL (fun r1=>?_);exact xR 1 (xE (Qm ⟨[(2,B r1)],[]⟩ (sT (qR (.id)))))
def Dc(n:Nat)(J:Int)(G:Int):Option Int :=cond (!Qq G 0) (cond (!Qq G 0) (cond (QD 0 (Int.tmod J G)) (some (wi ((wi (Int.tdiv J G))+1))) (some (wi (Int.tdiv J G)))) none) none
theorem qZ(n:Nat)(G:Int)(J:Int):∀r,Dc n G J=some r→QV Tryz.prog 71 [I G,I J] (.ret (I r)):=by
 refine Qp Tryz.func71 rfl Tryz.ntmps71 rfl ?_;unfold Dc;exact Qi Qf ⟨[(0,I G),(1,I J)],[]⟩ (sS (sG (xR 2 (xF (gF (k:=.i64) (a:=G) (b:=J) rfl Qa Qa) (xR 1 (xE (Qm ⟨[(0,I G),(1,I J),(5,I (wi (Int.tdiv G J)))],[]⟩ (sS (sS (sG (xR 2 (xF (aI (k:=.i64) (a:=G) (b:=J) rfl Qa Qa) (xR 1 (xE (Qm ⟨[(5,I (wi (Int.tdiv G J))),(12,B (QD 0 (Int.tmod G J)))],[]⟩ (sC (QD 0 (Int.tmod G J)) Qa (sL Qf (Qm ⟨[(5,I (wi ((wi (Int.tdiv G J))+1)))],[]⟩ (Qi Qf ⟨[(4,I (wi ((wi (Int.tdiv G J))+1)))],[]⟩ (sT (qR (.id)))))) (sK (Qm ⟨[(5,I (wi (Int.tdiv G J)))],[]⟩ (Qi Qf ⟨[(4,I (wi (Int.tdiv G J)))],[]⟩ (sT (qR (.id))))))))))))))))))))))
def WL(n:Nat)(G:Zp)(J:Int):Option Zp :=(Z8 n G).bind fun r1 =>cond r1 (some G) ((Yz n G).bind fun O =>(Dc n (wi ((wi ((wi (G.Cable.Gain*J))*J))-(wi (O*(wi (G.now-G.Cable.Ambient)))))) G.Cable.Den).bind fun U =>some (⟨G.Cable,wi (G.now+U)⟩:Zp))
def tZ:=fun G=>([(1000,.box 92 (KS (Zp.cs G)))]:List (Nat×Blk))
abbrev MF(x:Zp):Go.Abs.Blk:=.box 92 (KS (Zp.cs x))
theorem C8(n:Nat)(J:Zp)(G:Int):∀r,WL n J G=some r→V7 Tryz.prog 41 [ZT,I G] (Go.Abs.look [(1000,MF J)]) (JI (fun r:Zp=>((.ret (.tup []),[(1000,MF r)]):KN×List (Nat×Blk))) r):=by
 refine KZ (tZ J) Tryz.func41 rfl Tryz.ntmps41 rfl ?_;unfold WL;refine sS (sS (sG (xR 1 ?_)));refine UR [.ro []] (GQ n J) QL (fun r1=>?_);refine xE (Qm ⟨[(0,ZT),(1,I G),(5,B r1)],tZ J⟩ (sC r1 Qa (sT (QW (Y5 (.id) [1000] []))) (sK (Qm ⟨[(0,ZT),(1,I G)],tZ J⟩ (VH [0,1,2,3,4,5,6,7,8,9,10,11,12,13,15,16,17,18,19,20,21,22,23,24,27,28,29,30,31] [0,1,2,3,4,5,6,7,8,9,10,11,12,15,16,17,18,19,20,21,22,23,24,27,28,29,30,31] [(14,[]),(25,[]),(26,[]),(32,[]),(33,[]),(34,[]),(35,[]),(36,[])] Qf rfl (KI (f:=36) (args:=[ZT]) (dst:=some 20) ?_))))));refine wZ [.ro []] (GR n J) Qa Qa QL (fun O=>?_);refine kh [0,1,2,3,4,5,6,7,8,9,10,11,12,15,16,17,18,19,20,21,22,23,24,27,28,29,30,31] (Qe (Kk) (Qe (Qj ZT rfl) (Qe (Qj (.ptr 1000 5) rfl) (Qe (Qj (I J.now) rfl) (Qe (Kk) (Qe (Qj ZT rfl) (Qe (Qj ZT rfl) (Qe (Qj (.ptr 1000 2) rfl) (Qe (Qj (I J.Cable.Gain) rfl) (Qe (Kk) (Qe (Qj (I (wi (J.Cable.Gain*G))) rfl) (Qe (Kk) (Qe (Qj (I (wi ((wi (J.Cable.Gain*G))*G))) rfl) (Qe (Kk) (Qe (Qj ZT rfl) (Qe (Qj (.ptr 1000 5) rfl) (Qe (Qj (I J.now) rfl) (Qe (Kk) (Qe (Qj ZT rfl) (Qe (Qj ZT rfl) (Qe (Qj ZT rfl) (Qe (Qj (I J.Cable.Ambient) rfl) (Qe (Qj (I (wi (J.now-J.Cable.Ambient))) rfl) (Qe (Kk) (Qe (Qj ZT rfl) (Qe (Qj ZT rfl) (Qe (Qj (.ptr 1000 4) rfl) (Qe (Qj (I J.Cable.Den) rfl) (Qk))))))))))))))))))))))))))))) (VJ [0,1,2,3,4,5,6,7,8,9,10,11,12,27,28,29,30,31] (Qe (Kk) (Qe (Qj ZT rfl) (Qe (Qj (.ptr 1000 5) rfl) (Qe (Qj (I J.now) rfl) (Qe (Kk) (Qe (Qj ZT rfl) (Qe (Qj ZT rfl) (Qe (Qj (.ptr 1000 2) rfl) (Qe (Qj (I J.Cable.Gain) rfl) (Qe (Kk) (Qe (Qj (I (wi (J.Cable.Gain*G))) rfl) (Qe (Kk) (Qe (Qj (I (wi ((wi (J.Cable.Gain*G))*G))) rfl) (Qe (Kk) (Qe (Qj ZT rfl) (Qe (Qj ZT rfl) (Qe (Qj (.ptr 1000 4) rfl) (Qe (Qj (I J.Cable.Den) rfl) (Qk))))))))))))))))))) (VJ [0,1,2,3,27,28,29,30,31] (Qe (Kk) (Qe (Qj ZT rfl) (Qe (Qj (.ptr 1000 5) rfl) (Qe (Qj (I J.now) rfl) (Qe (Kk) (Qe (Qj ZT rfl) (Qe (Qj ZT rfl) (Qe (Qj (.ptr 1000 4) rfl) (Qe (Qj (I J.Cable.Den) rfl) (Qk)))))))))) (KI (f:=71) (args:=[I (wi ((wi ((wi (J.Cable.Gain*G))*G))-(wi (O*(wi (J.now-J.Cable.Ambient)))))),I J.Cable.Den]) (dst:=some 38) ?_)));refine BA [] (qZ n (wi ((wi ((wi (J.Cable.Gain*G))*G))-(wi (O*(wi (J.now-J.Cable.Ambient)))))) J.Cable.Den) QL (fun U=>?_);exact kh [0,1,2,3] (Qe (Kk) (Qe (Qj ZT rfl) (Qe (Qj (.ptr 1000 5) rfl) (Qe (Qj (I J.now) rfl) (Qk))))) (VJ [] (Qk) (VJ [] (Qk) (VJ [] (Qk) (VJ [] (Qk) (Jq (qJ (.id) [1000] []))))))
def U4(n:Nat)(O:Z0)(J:Int)(G:Int):Option (Int×Int) :=((JV n O).bind fun r2 =>cond (!r2) (some true) ((Xr n J).bind fun Y =>cond (!Y) (some true) ((J9 n G).bind fun r6 =>some (!r6)))).bind fun Z =>cond Z (some (0,1)) ((WL n (⟨O,J⟩:Zp) G).bind fun U =>(Xr n U.now).bind fun r8 =>cond (!r8) (some (0,3)) (some (U.now,0)))
def lc:=fun G=>([(3,.box 52 (KS (Z0.cs G)))]:List (Nat×Blk))
def mr:=fun G=>([(25,.box 92 (KS (Zp.cs G)))]:List (Nat×Blk))
theorem AL(n:Nat)(O:Z0)(J:Int)(G:Int):∀r,U4 n O J G=some r→QV Tryz.prog 14 [ag (Z0.cs O),I J,I G] (.ret (.tup [I r.1,I r.2])):=by
 refine Qp Tryz.func14 rfl Tryz.ntmps14 rfl ?_;unfold U4;refine Qi Qf ⟨zQ J G,lc O⟩ (sS (KG (fun Z=>⟨[(1,I J),(2,I G),qq 3,(21,B Z)],lc O⟩:Bool→St) ?_ ?_))
 ·refine sG (xR 1 ?_);refine xC [] (Tm n O) QL (fun r2=>?_);refine xR 2 (xS (!r2) (fun Y=>xN (Qz Y) (xR 8 (xE (QO true Qa)))) (fun Y=>xO (Qy Y) ?_));refine xC [] (Rk n J) QL (fun r4=>?_);refine xR 3 (xS (!r4) (fun h5=>xN (Qz h5) (xR 3 (xE (QO true Qa)))) (fun h5=>xO (Qy h5) ?_));refine xC [] (CZ n G) QL (fun r6=>?_);exact xR 2 (xE (QO (!r6) Qa))
 rintro Z;refine sC Z Qa (Qi Qf ⟨[(6,I 0),(7,I 1)],[]⟩ (sT (QW (qR (.id))))) (sK (Qm ⟨zQ J G,lc O⟩ (Qi Qf ⟨[(2,I G),(8,.ptr 25 0)],mr ⟨O,J⟩⟩ (sS (sG (xR 2 ?_))))));refine Jv [(1000,25)] [] [] (C8 n (⟨O,J⟩:Zp) G) QL QL (fun U=>?_);refine xE (Qm ⟨[(8,.ptr 25 0)],mr U⟩ (sS (sS (sG (xR 4 ?_)))));refine xC [] (Rk n U.now) QL (fun r8=>?_);exact xR 1 (xE (Qm ⟨[(8,.ptr 25 0),(34,B (!r8))],mr U⟩ (sC (!r8) Qa (Qi Qf ⟨[(6,I 0),(7,I 3)],[]⟩ (sT (QW (qR (.id))))) (sK (Qm ⟨[(8,.ptr 25 0)],mr U⟩ (Qi Qf ⟨[(6,I U.now),(7,I 0)],[]⟩ (sT (qR (.id)))))))))
def QX(n:Nat)(r1:Bool)(r4:Zg×Bool×Int)(G:ZU)(U:Int×Int):Option Bool :=(Vl n G.Cable).bind fun J =>cond (!Qq J.2 0) (some false) ((cond (!TA ((Qq G.Cable.Ambient 0)&&((Qq G.Cable.Most 0)&&((Qq G.Cable.Gain 0)&&((Qq G.Cable.Loss 0)&&((Qq G.Cable.Den 0)&&true)))))) (some (Qq J.1 U.1)) (some false)).bind fun Y =>cond Y ((U4 n G.Cable G.Cable.Most r4.1.Amps).bind fun O =>(cond (Qq O.2 0) (some (leI O.1 G.Cable.Most)) (some false)).bind fun Z =>cond Z (some false) (some r1)) (some r1))
def ZZ(n:Nat)(O:Qo)(J:List Int):Option Bool :=(Kr n).bind fun r1 =>(KQ n O J).bind fun r2 =>cond (!r2) (some r1) ((JW n O J).bind fun r3 =>(Jk n O r3.2.1).bind fun U =>cond (!Qq r3.2.2 13) ((cond r1 (some (Qq (Qd (List.map ci r3.2.1)) 0)) (some false)).bind fun j5 =>some j5) ((cond (!Qq U.2.2 0) (some true) (cond (!U.2.1) (some true) (cond (QD U.1.Conductor 0) (some true) (some (leI (Qd (List.map ZU.cs O.Conductors)) U.1.Conductor))))).bind fun j7 =>cond j7 (some false) ((Za O.Conductors U.1.Conductor).bind fun Y =>(Vb n O U.1.Conductor).bind fun G =>(cond (!Qq G.2 0) (some true) (cond (leI U.1.Amps G.1) (some true) (some (QD 1000 U.1.Amps)))).bind fun ad =>cond ad ((cond r1 (cond (Qq G.2 0) (some (QD G.1 U.1.Amps)) (some false)) (some false)).bind fun ab =>some ab) ((cond (QD 0 Y.Fuse.Rated) (some (Qq Y.Fuse.Rated G.1)) (some false)).bind fun aa =>cond aa ((U3 n Y.Fuse 0 U.1.Amps).bind fun Z =>(cond (!Qq Z.2 0) (some true) (some (QD Z.1 0))).bind fun ac =>cond ac (some false) (QX n r1 U Y G)) (QX n r1 U Y G)))))
def Qbl:=fun J G=>([(1,.p (.sl 1 (List.map ci J))),(2,.ptr 2 0),(5,B G)]:List (Nat×AV))
def jN:=fun J G=>([(2,.box 28 (KS (Qo.cs J))),(9,.box 46 (KS (Zg.cs G)))]:List (Nat×Blk))
def C9:=fun J G=>([(9,.box 46 (KS (Zg.cs J))),(12,.box 54 (KS (ZU.cs G)))]:List (Nat×Blk))
def Qbm:=fun J G=>([(5,B J),(9,.ptr 9 0),(12,.ptr 12 0),(13,I G)]:List (Nat×AV))
theorem Ux(n:Nat)(U:Qo)(O:List Int):∀r,ZZ n U O=some r→QV Tryz.prog 4 [ag (Qo.cs U),.p (.sl 1 (List.map ci O))] (.ret (B r)):=by
 refine Qp Tryz.func4 rfl Tryz.ntmps4 rfl ?_;unfold ZZ;refine Qi Qf ⟨mo O,GV U⟩ (sS (sG ?_));refine xC [] (Gh n) QL (fun r1=>?_);refine xR 1 (xE (Qm ⟨Qbl O r1,GV U⟩ (sS (sS (sG (xR 2 ?_))))));refine xC [] (Fg n U O) QL (fun r2=>?_);refine xR 1 (xE (Qm ⟨[(1,.p (.sl 1 (List.map ci O))),qq 2,(5,B r1),(25,B (!r2))],GV U⟩ (sC (!r2) Qa (Qi Qf ⟨[(4,B r1)],[]⟩ (sT (QW (qR (.id))))) (sK (Qm ⟨Qbl O r1,GV U⟩ (sS (sG (xR 2 ?_))))))));refine xC [] (Gg n U O) QL (fun r3=>?_);refine xR 8 (xE (Qm ⟨[qq 2,(5,B r1),(7,.p (.sl 1 (List.map ci r3.2.1))),(8,I r3.2.2)],GV U⟩ (sS (sG (xR 2 ?_)))));refine xC [] (Ri n U r3.2.1) QL (fun Y=>?_);refine xR 8 (xE (Qm ⟨[qq 2,(5,B r1),(7,.p (.sl 1 (List.map ci r3.2.1))),(8,I r3.2.2),qq 9,(10,B Y.2.1),(11,I Y.2.2)],jN U Y.1⟩ (sS (Qi Qf ⟨[qq 2,(5,B r1),(7,.p (.sl 1 (List.map ci r3.2.1))),qq 9,(10,B Y.2.1),(11,I Y.2.2),(42,B (!Qq r3.2.2 13))],jN U Y.1⟩ (sC (!Qq r3.2.2 13) Qa ?_ ?_)))))
 ·refine KG (fun j5=>⟨[(4,B j5)],[]⟩:Bool→St) (sG (xR 2 (xS r1 (fun h6=>xO (Qu h6) (xR 4 (xE (QO (Qq (Qd (List.map ci r3.2.1)) 0) Qa)))) (fun h6=>xN (Qv h6) (xR 4 (xE (QO false Qa))))))) ?_;rintro j5;exact sT (QW (qR (.id)))
 refine sK (Qm ⟨[qq 2,(5,B r1),qq 9,(10,B Y.2.1),(11,I Y.2.2)],jN U Y.1⟩ (sS (KG (fun j7=>⟨[qq 2,(5,B r1),qq 9,(67,B j7)],jN U Y.1⟩:Bool→St) (sG (xR 3 (xS (!Qq Y.2.2 0) (fun h8=>xN (Qz h8) (xR 15 (xE (QO true Qa)))) (fun h8=>xO (Qy h8) (xR 3 (xS (!Y.2.1) (fun h9=>xN (Qz h9) (xR 11 (xE (QO true Qa)))) (fun h9=>xO (Qy h9) (xR 4 (xS (QD Y.1.Conductor 0) (fun ai=>xN (Qz ai) (xR 6 (xE (QO true Qa)))) (fun ai=>xO (Qy ai) (xR 6 (xE (QO (leI (Qd (UU U.Conductors)) Y.1.Conductor) Qa))))))))))))) ?_)));rintro j7;refine sC j7 Qa (Qi Qf ⟨[(4,B false)],[]⟩ (sT (QW (qR (.id))))) (sK (Qm ⟨[qq 2,(5,B r1),qq 9],jN U Y.1⟩ (sS (sG (xR 4 (xG (QG (e:=54) (S:=11) (enc:=ZU.cs) (l:=U.Conductors) (k:=.i64) (n:=Y.1.Conductor) (sv:=.p (.sl 11 (UU U.Conductors))) rfl Qa Qa Qa Qa Qa) (fun G=>xR 3 (xE (Qm ⟨[qq 2,(5,B r1),qq 9,qq 12],[(2,Qx U),(9,Q3 Y.1),(12,O6 G)]⟩ (sS (sG (xR 3 ?_))))))))))));refine xC [] (Rj n U Y.1.Conductor) QL (fun J=>?_);refine xR 5 (xE (Qm ⟨[(5,B r1),qq 9,qq 12,(13,I J.1),(14,I J.2)],C9 Y.1 G⟩ (sS (KG (fun ak=>⟨[(5,B r1),qq 9,qq 12,(13,I J.1),(14,I J.2),(93,B ak)],C9 Y.1 G⟩:Bool→St) (sG (xR 3 (xS (!Qq J.2 0) (fun an=>xN (Qz an) (xR 9 (xE (QO true Qa)))) (fun an=>xO (Qy an) (xR 5 (xS (leI Y.1.Amps J.1) (fun ah=>xN (Qz ah) (xR 3 (xE (QO true Qa)))) (fun ah=>xO (Qy ah) (xR 3 (xE (QO (QD 1000 Y.1.Amps) Qa)))))))))) ?_))));rintro ak;refine sC ak Qa ?_ ?_
 ·refine KG (fun av=>⟨[(4,B av)],[]⟩:Bool→St) ?_ ?_;rotate_left
  ·rintro av;exact sT (QW (qR (.id)))
  exact sG (xR 2 (xS r1 (fun ac=>xO (Qu ac) (xR 3 (xS (Qq J.2 0) (fun au=>xO (Qu au) (xR 5 (xE (QO (QD J.1 Y.1.Amps) Qa)))) (fun au=>xN (Qv au) (xR 5 (xE (QO false Qa))))))) (fun ac=>xN (Qv ac) (xR 9 (xE (QO false Qa))))))
 refine sK (Qm ⟨Qbm r1 J.1,C9 Y.1 G⟩ (Kc (fun _=>⟨Qbm r1 J.1,C9 Y.1 G⟩:Unit→St) (fun _=>QX n r1 Y G J) ?_ ?_));rotate_left
 ·refine KG (fun aq=>⟨[(5,B r1),qq 9,qq 12,(13,I J.1),(115,B aq)],C9 Y.1 G⟩:Bool→St) (sG (xR 5 (xS (QD 0 G.Fuse.Rated) (fun aj=>xO (Qu aj) (xR 5 (xE (QO (Qq G.Fuse.Rated J.1) Qa)))) (fun aj=>xN (Qv aj) (xR 5 (xE (QO false Qa))))))) ?_;rintro aq;refine sC aq Qa (sS (sG (xR 4 ?_))) (sK (KF (k:=fun _=>QX n r1 Y G J) ()));refine xC [] (AJ n G.Fuse 0 Y.1.Amps) QL (fun ab=>?_);refine xR 5 (xE (Qm ⟨[(5,B r1),qq 9,qq 12,(13,I J.1),(15,I ab.1),(16,I ab.2)],C9 Y.1 G⟩ (KG (fun al=>⟨[(5,B r1),qq 9,qq 12,(13,I J.1),(129,B al)],C9 Y.1 G⟩:Bool→St) (sG (xR 3 (xS (!Qq ab.2 0) (fun ad=>xN (Qz ad) (xR 2 (xE (QO true Qa)))) (fun ad=>xO (Qy ad) (xR 2 (xE (QO (QD ab.1 0) Qa))))))) ?_)));rintro al;exact sC al Qa (Qi Qf ⟨[(4,B false)],[]⟩ (sT (K8 (qR (.id))))) (sK (KF (k:=fun _=>QX n r1 Y G J) ()))
 rintro _;show QU (QX n r1 Y G J) _ _ _ _ _ _;unfold QX;refine sS (sG (xR 2 ?_));refine xC [] (GU n G.Cable) QL (fun Z=>?_);refine xR 5 (xE (Qm ⟨[(5,B r1),qq 9,qq 12,(13,I J.1),(17,I Z.1),(18,I Z.2)],C9 Y.1 G⟩ (sS (Qi Qf ⟨[(5,B r1),qq 9,qq 12,(13,I J.1),(17,I Z.1),(137,B (!Qq Z.2 0))],C9 Y.1 G⟩ (sC (!Qq Z.2 0) Qa (Qi Qf ⟨[(4,B false)],[]⟩ (sT (QW (qR (.id))))) (sK (Qm ⟨[(5,B r1),qq 9,qq 12,(13,I J.1),(17,I Z.1)],C9 Y.1 G⟩ (sS (KG (fun ae=>⟨[(5,B r1),qq 9,qq 12,(146,B ae)],C9 Y.1 G⟩:Bool→St) (sG (xR 3 (Q7 (yj (xs:=[I G.Cable.Ambient,I G.Cable.Most,I G.Cable.Gain,I G.Cable.Loss,I G.Cable.Den]) (ys:=[I 0,I 0,I 0,I 0,I 0]) (vx:=[.int .i64 G.Cable.Ambient,.int .i64 G.Cable.Most,.int .i64 G.Cable.Gain,.int .i64 G.Cable.Loss,.int .i64 G.Cable.Den]) (vy:=[.int .i64 0,.int .i64 0,.int .i64 0,.int .i64 0,.int .i64 0]) (b:=(Qq G.Cable.Ambient 0)&&((Qq G.Cable.Most 0)&&((Qq G.Cable.Gain 0)&&((Qq G.Cable.Loss 0)&&((Qq G.Cable.Den 0)&&true))))) rfl Qa Qa Qa Qa Qa Qa) (xR 1 (xS (!TA ((Qq G.Cable.Ambient 0)&&((Qq G.Cable.Most 0)&&((Qq G.Cable.Gain 0)&&((Qq G.Cable.Loss 0)&&((Qq G.Cable.Den 0)&&true)))))) (fun af=>xO (Qu af) (xR 3 (xE (QO (Qq Z.1 J.1) Qa)))) (fun af=>xN (Qv af) (xR 3 (xE (QO false Qa))))))))) ?_)))))))));rintro ae;refine sC ae Qa (sS (sG (xR 7 ?_))) (sK (Qm ⟨[(5,B r1)],[]⟩ (Qi Qf ⟨[(4,B r1)],[]⟩ (sT (qR (.id))))));refine xC [] (AL n G.Cable G.Cable.Most Y.1.Amps) QL (fun aa=>?_);refine xR 5 (xE (Qm ⟨[(5,B r1),qq 12,(19,I aa.1),(20,I aa.2)],[(12,O6 G)]⟩ (KG (fun ar=>⟨[(5,B r1),(166,B ar)],[]⟩:Bool→St) (sG (xR 3 (xS (Qq aa.2 0) (fun ao=>xO (Qu ao) (xR 5 (xE (QO (leI aa.1 G.Cable.Most) Qa)))) (fun ao=>xN (Qv ao) (xR 5 (xE (QO false Qa))))))) ?_)));rintro ar;exact sC ar Qa (Qi Qf ⟨[(4,B false)],[]⟩ (sT (QW (qR (.id))))) (sK (Qm ⟨[(5,B r1)],[]⟩ (Qi Qf ⟨[(4,B r1)],[]⟩ (sT (qR (.id))))))
structure GAr where
 Kind:Int
 Days:Int
 From:Int
 To:Int
 Price:Int
 Unit:Int
 Free:Int
deriving DecidableEq
def GAr.cs(x:GAr):List PV:=[VI x.Kind,VI x.Days,VI x.From,VI x.To,VI x.Price,VI x.Unit,VI x.Free]
structure GTr where
 article:GAr
 values:List (List PV)
 good:Bool
def GTr.cs(x:GTr):List PV:=[VI x.article.Kind,VI x.article.Days,VI x.article.From,VI x.article.To,VI x.article.Price,VI x.article.Unit,VI x.article.Free,.sl 5 (List.map Vx x.values),VB x.good]
structure GTf where
 Name:List UInt8
 Articles:List GAr
deriving DecidableEq
def GTf.cs(x:GTf):List PV:=[VS x.Name,.sl 7 (List.map GAr.cs x.Articles)]
structure GCh where
 At:Int
 Offset:Int
deriving DecidableEq
def GCh.cs(x:GCh):List PV:=[VI x.At,VI x.Offset]
structure GCl where
 Offset:Int
 Changes:List GCh
 Holidays:List Int
deriving DecidableEq
def GCl.cs(x:GCl):List PV:=[VI x.Offset,.sl 2 (List.map GCh.cs x.Changes),.sl 1 (List.map ci x.Holidays)]
structure GSl where
 Minute:Int
 Energy:Int
deriving DecidableEq
def GSl.cs(x:GSl):List PV:=[VI x.Minute,VI x.Energy]
structure GSs where
 From:Int
 To:Int
 End:Int
 Slices:List GSl
deriving DecidableEq
def GSs.cs(x:GSs):List PV:=[VI x.From,VI x.To,VI x.End,.sl 2 (List.map GSl.cs x.Slices)]
structure qg where
 Article:Int
 Amount:Int
deriving DecidableEq
def qg.cs(x:qg):List PV:=[VI x.Article,VI x.Amount]
structure mD where
 Lines:List qg
 Net:Int
 Tax:Int
 Total:Int
deriving DecidableEq
def mD.cs(x:mD):List PV:=[.sl 2 (List.map qg.cs x.Lines),VI x.Net,VI x.Tax,VI x.Total]
structure GBB where
 article:GAr
 calendar:GCl
 session:GSs
deriving DecidableEq
def GBB.cs(x:GBB):List PV:=[VI x.article.Kind,VI x.article.Days,VI x.article.From,VI x.article.To,VI x.article.Price,VI x.article.Unit,VI x.article.Free,VI x.calendar.Offset,.sl 2 (List.map GCh.cs x.calendar.Changes),.sl 1 (List.map ci x.calendar.Holidays),VI x.session.From,VI x.session.To,VI x.session.End,.sl 2 (List.map GSl.cs x.session.Slices)]
structure Ec where
 Tariff:GTf
 calendar:GCl
 from_:Int
 to_:Int
deriving DecidableEq
def Ec.cs(x:Ec):List PV:=[VS x.Tariff.Name,.sl 7 (List.map GAr.cs x.Tariff.Articles),VI x.calendar.Offset,.sl 2 (List.map GCh.cs x.calendar.Changes),.sl 1 (List.map ci x.calendar.Holidays),VI x.from_,VI x.to_]
structure Ua where
 Serial:Int
 Number:Int
 Minute:Int
 Register:Int
 Link:Int
deriving DecidableEq
def Ua.cs(x:Ua):List PV:=[VI x.Serial,VI x.Number,VI x.Minute,VI x.Register,VU x.Link]
structure uF where
 Tariff:GTf
 Calendar:GCl
 Readings:List Ua
 Seed:Int
 Session:GSs
 Bill:mD
deriving DecidableEq
def uF.cs(x:uF):List PV:=[VS x.Tariff.Name,.sl 7 (List.map GAr.cs x.Tariff.Articles),VI x.Calendar.Offset,.sl 2 (List.map GCh.cs x.Calendar.Changes),.sl 1 (List.map ci x.Calendar.Holidays),.sl 5 (List.map Ua.cs x.Readings),VU x.Seed,VI x.Session.From,VI x.Session.To,VI x.Session.End,.sl 2 (List.map GSl.cs x.Session.Slices),.sl 2 (List.map qg.cs x.Bill.Lines),VI x.Bill.Net,VI x.Bill.Tax,VI x.Bill.Total]
structure GAE where
 Claim:uF
 follows:GSs
 bill:mD
 rate:Int
deriving DecidableEq
def GAE.cs(x:GAE):List PV:=[VS x.Claim.Tariff.Name,.sl 7 (List.map GAr.cs x.Claim.Tariff.Articles),VI x.Claim.Calendar.Offset,.sl 2 (List.map GCh.cs x.Claim.Calendar.Changes),.sl 1 (List.map ci x.Claim.Calendar.Holidays),.sl 5 (List.map Ua.cs x.Claim.Readings),VU x.Claim.Seed,VI x.Claim.Session.From,VI x.Claim.Session.To,VI x.Claim.Session.End,.sl 2 (List.map GSl.cs x.Claim.Session.Slices),.sl 2 (List.map qg.cs x.Claim.Bill.Lines),VI x.Claim.Bill.Net,VI x.Claim.Bill.Tax,VI x.Claim.Bill.Total,VI x.follows.From,VI x.follows.To,VI x.follows.End,.sl 2 (List.map GSl.cs x.follows.Slices),.sl 2 (List.map qg.cs x.bill.Lines),VI x.bill.Net,VI x.bill.Tax,VI x.bill.Total,VI x.rate]
def zR(n:Nat)(G:List UInt8):Option Bool :=(cond (Zb G [102,101,101,100,101,114]) (some (Zb G [102,101,101,100,101,114])) (cond (Zb G [99,97,98,108,101]) (some (Zb G [99,97,98,108,101])) (cond (Zb G [111,119,110,101,114]) (some (Zb G [111,119,110,101,114])) (cond (Zb G [99,111,110,116,114,97,99,116]) (some (Zb G [99,111,110,116,114,97,99,116])) (cond (Zb G [99,104,97,114,103,101,114]) (some (Zb G [99,104,97,114,103,101,114])) (cond (Zb G [98,97,121]) (some (Zb G [98,97,121])) (some (Zb G [116,97,114,105,102,102])))))))).bind fun U =>cond U (some true) ((cond (Zb G [108,105,109,105,116]) (some (Zb G [108,105,109,105,116])) (cond (Zb G [110,101,117,116,114,97,108]) (some (Zb G [110,101,117,116,114,97,108])) (cond (Zb G [102,117,115,101]) (some (Zb G [102,117,115,101])) (cond (Zb G [116,104,101,114,109,97,108]) (some (Zb G [116,104,101,114,109,97,108])) (cond (Zb G [102,114,111,109]) (some (Zb G [102,114,111,109])) (cond (Zb G [97,116]) (some (Zb G [97,116])) (cond (Zb G [112,104,97,115,101,115]) (some (Zb G [112,104,97,115,101,115])) (cond (Zb G [97,109,112,115]) (some (Zb G [97,109,112,115])) (cond (Zb G [102,97,108,108,98,97,99,107]) (some (Zb G [102,97,108,108,98,97,99,107])) (cond (Zb G [99,97,114,100]) (some (Zb G [99,97,114,100])) (some (Zb G [114,97,110,107])))))))))))).bind fun J =>cond J (some true) ((cond (Zb G [115,116,97,114,116]) (some (Zb G [115,116,97,114,116])) (cond (Zb G [101,110,101,114,103,121]) (some (Zb G [101,110,101,114,103,121])) (cond (Zb G [116,105,109,101]) (some (Zb G [116,105,109,101])) (cond (Zb G [105,100,108,101]) (some (Zb G [105,100,108,101])) (cond (Zb G [99,97,112]) (some (Zb G [99,97,112])) (some (Zb G [116,97,120]))))))).bind fun O =>cond O (some true) ((cond (Zb G [111,110]) (some (Zb G [111,110])) (cond (Zb G [119,111,114,107]) (some (Zb G [119,111,114,107])) (cond (Zb G [115,97,116,117,114,100,97,121]) (some (Zb G [115,97,116,117,114,100,97,121])) (cond (Zb G [115,117,110,100,97,121]) (some (Zb G [115,117,110,100,97,121])) (cond (Zb G [98,101,116,119,101,101,110]) (some (Zb G [98,101,116,119,101,101,110])) (cond (Zb G [112,101,114]) (some (Zb G [112,101,114])) (some (Zb G [102,114,101,101])))))))).bind fun Y =>cond Y (some true) (some false))))
structure GLs where
 from_:Int
 to_:Int
deriving DecidableEq
def GLs.cs(x:GLs):List PV:=[VI x.from_,VI x.to_]
end Go.Proofs
namespace Go.Proofs
open Go Go.Abs Go.ChangeShapes Go.WideShapes Go.ChangeAt Go.RowKit Go.Proofs.YtkhhdppjbakngaaGreat
set_option maxRecDepth 100000
variable {d:Nat}
structure V9.wf(x:V9):Prop where
 Rated:G8 x.Rated
 Heat:G8 x.Heat
theorem lg{cs:List PV}(h:Sh Tryz.prog (d+2) 50 cs):∃r:V9,cs=V9.cs r∧V9.wf r:=by
 have h:=UE Tryz.underlying50 h;obtain⟨_,_,rfl,h0,_,_,rfl,U,rfl⟩:=h;obtain⟨G,rfl,w0⟩:=Wh Tryz.underlying3 h0;obtain⟨J,rfl,O⟩:=Wh Tryz.underlying3 U;exact⟨⟨G,J⟩,rfl,⟨w0,O⟩⟩
structure Z0.wf(x:Z0):Prop where
 Ambient:G8 x.Ambient
 Most:G8 x.Most
 Gain:G8 x.Gain
 Loss:G8 x.Loss
 Den:G8 x.Den
theorem bD{cs:List PV}(h:Sh Tryz.prog (d+2) 52 cs):∃r:Z0,cs=Z0.cs r∧Z0.wf r:=by
 have h:=UE Tryz.underlying52 h;obtain⟨_,_,rfl,h0,_,_,rfl,h1,_,_,rfl,h2,_,_,rfl,h3,_,_,rfl,h4,rfl⟩:=h;obtain⟨G,rfl,w0⟩:=Wh Tryz.underlying3 h0;obtain⟨J,rfl,O⟩:=Wh Tryz.underlying3 h1;obtain⟨U,rfl,Z⟩:=Wh Tryz.underlying3 h2;obtain⟨x3,rfl,Y⟩:=Wh Tryz.underlying3 h3;obtain⟨x4,rfl,w4⟩:=Wh Tryz.underlying3 h4;exact⟨⟨G,J,U,x3,x4⟩,rfl,⟨w0,O,Z,Y,w4⟩⟩
structure ZU.wf(x:ZU):Prop where
 Name:pu x.Name
 Up:G8 x.Up
 Limit:G8 x.Limit
 Neutral:G8 x.Neutral
 Fuse:V9.wf x.Fuse
 Cable:Z0.wf x.Cable
theorem QcT{cs:List PV}(h:Sh Tryz.prog (d+3) 54 cs):∃r:ZU,cs=ZU.cs r∧ZU.wf r:=by
 have h:=UE Tryz.underlying54 h;obtain⟨_,_,rfl,h0,_,_,rfl,h1,_,_,rfl,h2,_,_,rfl,h3,_,_,rfl,h4,_,_,rfl,h5,rfl⟩:=h;obtain⟨G,rfl,w0⟩:=OI Tryz.underlying9 h0;obtain⟨J,rfl,O⟩:=Wh Tryz.underlying3 h1;obtain⟨U,rfl,Z⟩:=Wh Tryz.underlying3 h2;obtain⟨x3,rfl,w3⟩:=Wh Tryz.underlying3 h3;obtain⟨x4,rfl,w4⟩:=lg h4;obtain⟨x5,rfl,Y⟩:=bD h5;exact⟨⟨G,J,U,x3,x4,x5⟩,rfl,⟨w0,O,Z,w3,w4,Y⟩⟩
structure Zk.wf(x:Zk):Prop where
 Name:pu x.Name
theorem bE{cs:List PV}(h:Sh Tryz.prog (d+2) 166 cs):∃r:Zk,cs=Zk.cs r∧Zk.wf r:=by
 have h:=UE Tryz.underlying166 h;obtain⟨_,_,rfl,h0,rfl⟩:=h;obtain⟨G,rfl,w0⟩:=OI Tryz.underlying9 h0;exact⟨⟨G⟩,rfl,⟨w0⟩⟩
structure K3.wf(x:K3):Prop where
 Name:pu x.Name
 Owner:G8 x.Owner
 Rank:G8 x.Rank
 Card:G8 x.Card
theorem QcU{cs:List PV}(h:Sh Tryz.prog (d+2) 120 cs):∃r:K3,cs=K3.cs r∧K3.wf r:=by
 have h:=UE Tryz.underlying120 h;obtain⟨_,_,rfl,h0,_,_,rfl,h1,_,_,rfl,U,_,_,rfl,J,rfl⟩:=h;obtain⟨O,rfl,w0⟩:=OI Tryz.underlying9 h0;obtain⟨Y,rfl,Z⟩:=Wh Tryz.underlying3 h1;obtain⟨x2,rfl,w2⟩:=Wh Tryz.underlying3 U;obtain⟨x3,rfl,G⟩:=Wh Tryz.underlying3 J;exact⟨⟨O,Y,x2,x3⟩,rfl,⟨w0,Z,w2,G⟩⟩
structure Kj.wf(x:Kj):Prop where
 Name:pu x.Name
 At:G8 x.At
 Phases:G8 x.Phases
 Min:G8 x.Min
 Max:G8 x.Max
 Step:G8 x.Step
 Fallback:G8 x.Fallback
 Owner:G8 x.Owner
theorem QcV{cs:List PV}(h:Sh Tryz.prog (d+2) 32 cs):∃r:Kj,cs=Kj.cs r∧Kj.wf r:=by
 have h:=UE Tryz.underlying32 h;obtain⟨_,_,rfl,h0,_,_,rfl,h1,_,_,rfl,h2,_,_,rfl,h3,_,_,rfl,h4,_,_,rfl,h5,_,_,rfl,h6,_,_,rfl,h7,rfl⟩:=h;obtain⟨G,rfl,w0⟩:=OI Tryz.underlying9 h0;obtain⟨J,rfl,O⟩:=Wh Tryz.underlying3 h1;obtain⟨U,rfl,Z⟩:=Wh Tryz.underlying3 h2;obtain⟨x3,rfl,w3⟩:=Wh Tryz.underlying3 h3;obtain⟨x4,rfl,w4⟩:=Wh Tryz.underlying3 h4;obtain⟨x5,rfl,Y⟩:=Wh Tryz.underlying3 h5;obtain⟨x6,rfl,w6⟩:=Wh Tryz.underlying3 h6;obtain⟨x7,rfl,w7⟩:=Wh Tryz.underlying3 h7;exact⟨⟨G,J,U,x3,x4,x5,x6,x7⟩,rfl,⟨w0,O,Z,w3,w4,Y,w6,w7⟩⟩
structure ZA.wf(x:ZA):Prop where
 Name:pu x.Name
 Charger:G8 x.Charger
theorem QaE{cs:List PV}(h:Sh Tryz.prog (d+2) 123 cs):∃r:ZA,cs=ZA.cs r∧ZA.wf r:=by
 have h:=UE Tryz.underlying123 h;obtain⟨_,_,rfl,h0,_,_,rfl,U,rfl⟩:=h;obtain⟨G,rfl,w0⟩:=OI Tryz.underlying9 h0;obtain⟨J,rfl,O⟩:=Wh Tryz.underlying3 U;exact⟨⟨G,J⟩,rfl,⟨w0,O⟩⟩
structure Qo.wf(x:Qo):Prop where
 Conductors:(OH ZU.wf) x.Conductors
 Owners:(OH Zk.wf) x.Owners
 Contracts:(OH K3.wf) x.Contracts
 Chargers:(OH Kj.wf) x.Chargers
 Bays:(OH ZA.wf) x.Bays
theorem lh{cs:List PV}(h:Sh Tryz.prog (d+5) 28 cs):∃r:Qo,cs=Qo.cs r∧Qo.wf r:=by
 have h:=UE Tryz.underlying28 h;obtain⟨_,_,rfl,h0,_,_,rfl,h1,_,_,rfl,h2,_,_,rfl,h3,_,_,rfl,h4,rfl⟩:=h;obtain⟨G,rfl,w0⟩:=BG (S:=11) (f:=ZU.cs) (W:=ZU.wf) Tryz.underlying22 (fun c h=>QcT h) h0;obtain⟨J,rfl,O⟩:=BG (S:=1) (f:=Zk.cs) (W:=Zk.wf) Tryz.underlying23 (fun c h=>bE h) h1;obtain⟨U,rfl,Y⟩:=BG (S:=4) (f:=K3.cs) (W:=K3.wf) Tryz.underlying24 (fun c h=>QcU h) h2;obtain⟨x3,rfl,Z⟩:=BG (S:=8) (f:=Kj.cs) (W:=Kj.wf) Tryz.underlying25 (fun c h=>QcV h) h3;obtain⟨x4,rfl,w4⟩:=BG (S:=2) (f:=ZA.cs) (W:=ZA.wf) Tryz.underlying26 (fun c h=>QaE h) h4;exact⟨⟨G,J,U,x3,x4⟩,rfl,⟨w0,O,Y,Z,w4⟩⟩
def Xt:Prop:=∀(G:Qo) (a1:List Int),Qo.wf G→(OH G8) a1→∃n,ZZ n G a1=some true
theorem Ba(h:Xt):∀xs,OG Tryz.prog 9 Tryz.f4.params.toList xs→QV Tryz.prog 4 xs (.ret (.p (.val (.bool true)))):=by
 intro xs G;rw[Tryz.params4] at G;obtain⟨_,_,rfl,h0,_,_,rfl,Y,rfl⟩:=G;obtain⟨J,rfl,w0⟩:=lh h0;obtain⟨a1,rfl,U⟩:=BG (S:=1) (f:=ci) (W:=G8) Tryz.underlying29 (fun c h=>Wh Tryz.underlying3 h) Y;obtain⟨n,O⟩:=h J a1 w0 U;simp only[jl Tryz.underlying28,ul Tryz.underlying29];exact Ux n J a1 true O
set_option maxRecDepth 100000 in
theorem Df(h:Xt)(os:Os)(started:os.Started)(H:Type)(enc:TypeId×Value→H) :
  ReturnsInHanded {} Tryz.checked os 4 .any (Rows.topWitnessHarmsSpec.pre6 enc Tryz.prog Tryz.f4 Rows.topWitnessHarmsRow.domain false) (Rows.topWitnessHarmsSpec.post enc Tryz.prog Tryz.f4 false true false false):=by
 refine returnsInHanded_of_change (C:=Tryz.checked) Qa started Qa Tryz.func4
  (ChangeSpec.witness6 (enc:=enc) (C:=Tryz.checked) false ⟨#[],#[.agg #[.slice none 0 0,.slice none 0 0,.slice none 0 0,.slice none 0 0,.slice none 0 0],.slice none 0 0],[]⟩ 8 Qa Qa Qa Qa) ?_
 intro W base args J gs before G U _ _
 exact yu (P:=Tryz.prog) (f:=4) (fn:=Tryz.f4) (s:=Rows.topWitnessHarmsSpec) (tb:=4) (d:=9) Qa Qa Qa Qa Tryz.underlying4 rfl
  (fun J O=>by
   have O:J.length=2:=by rw[O,show Tryz.f4.params.size=2 from by kernel_rfl]
   match J,O with
  |[d0,d1],_=>rfl)
  (Ba h) G U
theorem Bc(h:Xt):Rows.TopWitnessHarmsSaid :=
 OpenClaim.holds_of_wide 4 Tryz.f4 rfl rfl rfl rfl rfl rfl rfl ⟨rfl,rfl,rfl,rfl,rfl⟩ rfl rfl rfl rfl rfl Qa Tryz.func4 Qa
  (of_decide_eq_true Qa) (by unfold Func.isWrapper;first|(rw[if_pos (by decide +kernel)];kernel_rfl)|(rw[if_neg (by decide +kernel)];exact⟨rfl,rfl⟩))
  (fun os started H enc _=>Df h os started H enc)
end Go.Proofs
namespace Go.Proofs
open Go Go.Abs
set_option maxRecDepth 100000
variable {A:List Int}{N:Nat}{R:Type}{T:List Int}{c:Nat}{c0 hi:Int}{i k:Nat}{l:List (List UInt8)}{lo:Int}{m n p:Nat}{s:Qo}{x:Int}{α:Type}
def Does{α:Type}(m:Option α)(Q:α→Prop):Prop:=∃r,m=some r∧Q r
section
variable {α β V R E:Type}
theorem Qs{x:α}{Q:α→Prop}(h:Q x):Does (some x) Q:=⟨x,rfl,h⟩
theorem Kw{m:Option α}{Q Q':α→Prop}(h:Does m Q)(G:∀x,Q x→Q' x):Does m Q':=by obtain⟨x,e,h⟩:=h;exact⟨x,e,G x h⟩
theorem Vn{m:Option α}{k:α→Option β}{Q:α→Prop}{Q':β→Prop}(h:Does m Q)(G:∀x,Q x→Does (k x) Q'):Does (m.bind k) Q':=by
 obtain⟨x,rfl,h⟩:=h;exact G x h
theorem Kb{b:Bool}{x y:Option α}{Q:α→Prop}(J:b=true→Does x Q)(G:b=false→Does y Q):Does (cond b x y) Q:=by
 cases b
 ·exact G rfl
 ·exact J rfl
theorem Vo{B:(V→Option R)→V→Option R}{Q:V→R→Prop}(μ:V→Nat)(Inv:V→Prop)(G:∀rec v,Inv v→(∀v',Inv v'→μ v'<μ v→Does (rec v') (Q v'))→Does (B rec v) (Q v)):∀{n:Nat} {v:V},Inv v→μ v<n→Does (Q0 B n v) (Q v)
|0,_,_,h=>absurd h (Nat.not_lt_zero _)
|n+1,v,J,h=>G _ v J (fun v' O U=>Vo μ Inv G O zo)
end
theorem Zj{l:List α}:Za l (i:Int)=l[i]?:=by
 unfold Za;rw[if_neg zo];simp
theorem ZM(J:-9223372036854775808≤x)(G:x≤9223372036854775807):wi x=x:=by
 simp[wi,IntKind.wrap,IntKind.signed,IntKind.bits];omega
def Qga(a r:Ua):Bool:=if r.Serial=a.Serial then decide (a.Minute≤r.Minute∧a.Register≤r.Register) else decide (r.Minute=a.Minute)
def Qgb(s x k:Int):Int:=wu ((lY .u64 s (JY .u64 (Zx .u64 (wu x) k) 255))*1099511628211)
def Qgc(s x:Int):Int:=[56,48,40,32,24,16,8,0].foldl (fun s k=>Qgb s x k) s
def QeO(s:Int)(r:Ua):Int:=[r.Serial,r.Number,r.Minute,r.Register].foldl Qgc s
def lm(G:Int)(l:List Ua)(i:Nat):Int:=if i=0 then G else((l[i-1]?).map (·.Link)).getD 0
def QaF(G:Int)(l:List Ua)(i:Nat):Prop:=∀r∈l[i]?,(1≤r.Serial∧r.Serial≤1000000)∧r.Number=i+1∧(0≤r.Minute∧r.Minute≤52560000)∧(0≤r.Register∧r.Register≤1000000000) ∧ (i≠0→∀a∈l[i-1]?,Qga a r=true)∧r.Link=QeO (lm G l i) r
def chainOk(G:Int)(l:List Ua):Prop:=(1≤l.length∧l.length≤64)∧∀i,i<l.length→QaF G l i
theorem Qbp(x y:Int):Qq x y=decide (x=y):=by unfold Qq;by_cases h:x=y<;>simp[h]
theorem XJ{b:Bool}{x y:α}:cond b (some x) (some y)=some (cond b x y):=by cases b<;>rfl
def Sr(w:List UInt8):Bool:=(zR 0 w).getD false
def Dz(x:UInt8):Bool:=decide ((97≤V8 x∧V8 x≤122)∨(48≤V8 x∧V8 x≤57)∨V8 x=95)
def Fq(s:List UInt8):Bool:=decide (1≤s.length∧s.length≤12)&&decide (∀x∈s.head?,97≤V8 x∧V8 x≤122)&&!Sr s&&s.all Dz
theorem zT{α R:Type}{l:List α}{B:(Int→Option R)→Int→Option R}{F:List α→R}(O:l.length≤4611686018427387904)(J:∀rec,B rec (l.length:Int)=some (F []))(G:∀(rec:Int→Option R) (i:Nat) (x:α) (r:List α),l.drop i=x::r→l[i]?=some x→i<l.length→wi ((i:Int)+1)=((i+1:Nat):Int)→(rec ((i+1:Nat):Int)=some (F r))→B rec (i:Int)=some (F (x::r))) :
  ∀{n:Nat} (i:Nat),i≤l.length→l.length-i<n→Q0 B n (i:Int)=some (F (l.drop i))
|0,_,_,h=>absurd h (Nat.not_lt_zero _)
|n+1,i,hi,h=>by
  unfold Q0;by_cases Y:i=l.length
  ·subst Y;rw[J];simp
  ·have hlt:i<l.length:=by omega
   have U:l.drop i=l[i]::l.drop (i+1):=by rw[List.drop_eq_getElem_cons hlt]
   rw[U];exact G _ i _ _ U (by simp[hlt]) hlt (by rw[ZM]<;>omega) (zT O J G (i+1) zo zo)
theorem QaG(c:Int):(bif decide (97≤c) then bif decide (c≤122) then false else bif decide (48≤c) then bif decide (c≤57) then false else !(c==95) else !(c==95)
  else bif decide (48≤c) then bif decide (c≤57) then false else !(c==95) else !(c==95))=!decide ((97≤c∧c≤122)∨(48≤c∧c≤57)∨c=95):=by
 by_cases J:97≤c<;>by_cases U:c≤122<;>by_cases G:48≤c<;>by_cases Y:c≤57<;>by_cases O:c=95<;>simp[J,U,G,Y,O]<;>omega
theorem qi{α R A V:Type}{l:List α}(S:A→Int→V){B:(V→Option R)→V→Option R}{F:A→List α→R}(Inv:Nat→A→Prop)(O:l.length≤4611686018427387904)(J:∀rec a,Inv l.length a→B rec (S a (l.length:Int))=some (F a []))(G:∀(rec:V→Option R) (a:A) (i:Nat) (x:α) (r:List α),Inv i a→l.drop i=x::r→l[i]?=some x→i<l.length→wi ((i:Int)+1)=((i+1:Nat):Int)→(∀a,Inv (i+1) a→rec (S a ((i+1:Nat):Int))=some (F a r))→B rec (S a (i:Int))=some (F a (x::r))) :
  ∀{n:Nat} (i:Nat) (a:A),Inv i a→i≤l.length→l.length-i<n→Q0 B n (S a (i:Int))=some (F a (l.drop i))
|0,_,_,_,_,h=>absurd h (Nat.not_lt_zero _)
|n+1,i,a,U,hi,h=>by
  unfold Q0;by_cases Z:i=l.length
  ·subst Z;rw[J _ _ U];simp
  ·have hlt:i<l.length:=by omega
   have Y:l.drop i=l[i]::l.drop (i+1):=by rw[List.drop_eq_getElem_cons hlt]
   rw[Y];exact G _ a i _ _ U Y (by simp[hlt]) hlt (by rw[ZM]<;>omega) (fun a U=>qi S Inv O J G (i+1) a U zo zo)
theorem zU{α R A V:Type}{l:List α}(S:A→Int→V){B:(V→Option R)→V→Option R}{Q:A→List α→R→Prop}(Inv:Nat→A→Prop)(O:l.length≤4611686018427387904)(J:∀rec a,Inv l.length a→Does (B rec (S a (l.length:Int))) (Q a []))(G:∀(rec:V→Option R) (a:A) (i:Nat) (x:α) (r:List α),Inv i a→l.drop i=x::r→l[i]?=some x→i<l.length→wi ((i:Int)+1)=((i+1:Nat):Int)→(∀a,Inv (i+1) a→Does (rec (S a ((i+1:Nat):Int))) (Q a r))→Does (B rec (S a (i:Int))) (Q a (x::r))) :
  ∀{n:Nat} (i:Nat) (a:A),Inv i a→i≤l.length→l.length-i<n→Does (Q0 B n (S a (i:Int))) (Q a (l.drop i))
|0,_,_,_,_,h=>absurd h (Nat.not_lt_zero _)
|n+1,i,a,U,hi,h=>by
  unfold Q0;by_cases Z:i=l.length
  ·subst Z;simpa using J _ _ U
  ·have hlt:i<l.length:=by omega
   have Y:l.drop i=l[i]::l.drop (i+1):=by rw[List.drop_eq_getElem_cons hlt]
   rw[Y];exact G _ a i _ _ U Y (by simp[hlt]) hlt (by rw[ZM]<;>omega) (fun a U=>zU S Inv O J G (i+1) a U zo zo)
def ks:List Nat:=[56,48,40,32,24,16,8,0]
theorem Qgd(n:Nat)(l:List (List UInt8))(s:List UInt8)(hn:1000≤n)(hl:l.length≤900):Does (Xp n l s) (fun r=>leI 0 r=l.contains s):=by
 unfold Xp;have:=zU (l:=l) (fun(_:Unit) i=>i) (B:=fun G U=>JX l s G U) (Q:=fun _ r x=>leI 0 x=r.contains s) (fun _ _=>True) zo ?_ ?_ (n:=n) 0 () trivial zo zo
 ·exact this
 ·intro rec a _;simp only[JX,Qd,RS,QD];rw[vg zo,Ye];exact Qs rfl
 ·intro rec a i x r _ Z Y hi hw J;simp only[JX,Qd,RS,QD,Zj,Y,Zy,Zb];rw[vB zo,V5];by_cases h:x=s
  ·subst h;rw[beq_self_eq_true,V5];refine Qs ?_;simp[leI]
  ·rw[show(x==s)=false from by simpa using h,Ye,hw];refine Kw (J () trivial) (fun y O=>?_);rw[O,List.contains_cons,show(s==x)=false from by simpa using fun e=>h e.symm,Bool.false_or]
def keyL:List (List UInt8):=((WN 0).getD [])++(((WO 0).getD [])++(((YX 0).getD [])++((WP 0).getD [])))
theorem cse(b c:Bool):(bif b then b else c)=(b||c):=by cases b<;>rfl
theorem cst(b c:Bool):(bif b then true else c)=(b||c):=by cases b<;>rfl
def keyA:List (List UInt8):=[[102,101,101,100,101,114],[99,97,98,108,101],[111,119,110,101,114],[99,111,110,116,114,97,99,116],[99,104,97,114,103,101,114],[98,97,121],[116,97,114,105,102,102],[108,105,109,105,116],[110,101,117,116,114,97,108],[102,117,115,101],[116,104,101,114,109,97,108],[102,114,111,109],[97,116],[112,104,97,115,101,115],[97,109,112,115],[102,97,108,108,98,97,99,107],[99,97,114,100],[114,97,110,107],[115,116,97,114,116],[101,110,101,114,103,121],[116,105,109,101],[105,100,108,101],[99,97,112],[116,97,120],[111,110],[119,111,114,107],[115,97,116,117,114,100,97,121],[115,117,110,100,97,121],[98,101,116,119,101,101,110],[112,101,114],[102,114,101,101]]
theorem lq(s:List UInt8):Sr s=keyA.contains s:=by
 unfold Sr zR keyA;simp only[XJ,Zy,Option.getD_some,cse,cst,Zb,List.contains_cons,List.contains_nil,Bool.or_assoc,Bool.or_false]
theorem jO(s:List UInt8):Sr s=keyL.contains s:=by
 rw[lq,Bool.eq_iff_iff,List.contains_iff_mem,List.contains_iff_mem];have J:∀x∈keyA,x∈keyL:=by decide
 have G:∀x∈keyL,x∈keyA:=by decide
 exact⟨J s,G s⟩
theorem mE(n:Nat)(s:List UInt8)(Z:1000≤n):Vw n s=some (decide (1≤s.length∧s.length≤12)&&!Sr s):=by
 unfold Vw WN WO YX WP;simp only[Zy];rw[jO];unfold keyL WN WO YX WP;simp only[Option.getD_some];have e:=fun(l:List (List UInt8)) (Y:l.length≤900)=>Qgd n l s Z Y
 obtain⟨r1,e1,h1⟩:=e [[102,101,101,100,101,114],[99,97,98,108,101],[111,119,110,101,114],[99,111,110,116,114,97,99,116],[99,104,97,114,103,101,114],[98,97,121],[116,97,114,105,102,102]] (by decide);obtain⟨r2,U,h2⟩:=e [[108,105,109,105,116],[110,101,117,116,114,97,108],[102,117,115,101],[116,104,101,114,109,97,108],[102,114,111,109],[97,116],[112,104,97,115,101,115],[97,109,112,115],[102,97,108,108,98,97,99,107],[111,119,110,101,114],[99,97,114,100],[114,97,110,107],[99,104,97,114,103,101,114]] (by decide);obtain⟨r3,e3,h3⟩:=e [[115,116,97,114,116],[101,110,101,114,103,121],[116,105,109,101],[105,100,108,101],[99,97,112],[116,97,120]] (by decide);obtain⟨r4,e4,h4⟩:=e [[111,110],[119,111,114,107],[115,97,116,117,114,100,97,121],[115,117,110,100,97,121],[98,101,116,119,101,101,110],[112,101,114],[102,114,101,101]] (by decide);rw[e1,Zy,U,Zy,e3,Zy,e4,Zy,h1,h2,h3,h4];have G:∀(a b:List (List UInt8)),(a++b).contains s=(a.contains s||b.contains s):=by intro a b;simp
 rw[G,G,G];simp only[XJ,Zy,leI,Qd,cst];generalize ((_:Bool)||_)=k;by_cases O:1≤s.length
 ·by_cases J:s.length≤12
  ·rw[vB (show(1:Int)≤s.length by omega),vB (show(s.length:Int)≤12 by omega),vB (show 1≤s.length∧s.length≤12 from⟨O,J⟩)];rfl
  ·rw[vB (show(1:Int)≤s.length by omega),vg (show ¬(s.length:Int)≤12 by omega),vg (show ¬(1≤s.length∧s.length≤12) from fun h=>J h.2)];rfl
 ·rw[vg (show ¬(1:Int)≤s.length by omega),vg (show ¬(1≤s.length∧s.length≤12) from fun h=>O h.1)];rfl
theorem mF(c:Int)(z:Bool):(bif decide (c<97) then bif z then true else bif decide (c<48) then !decide (c=95) else bif decide (57<c) then !decide (c=95) else false
  else bif decide (122<c) then bif z then true else bif decide (c<48) then !decide (c=95) else bif decide (57<c) then !decide (c=95) else false else false)=!(bif z then decide (97≤c∧c≤122) else decide ((97≤c∧c≤122)∨(48≤c∧c≤57)∨c=95)):=by
 cases z<;>by_cases J:c<97<;>by_cases U:122<c<;>by_cases G:c<48<;>by_cases Y:57<c<;>by_cases O:c=95<;>simp[J,U,G,Y,O]<;>omega
theorem QcW(n:Nat)(s:List UInt8)(Z:1000≤n)(hl:s.length≤900):WC n s=some (Fq s):=by
 unfold WC
 have J:∀(rec:Int→Option Bool) (a:Unit),(1≤s.length∨s.length=0)→ZO n s rec (s.length:Int)=some (([]:List UInt8).all Dz&&(decide (1≤s.length∧s.length≤12)&&!Sr s)):=by
  intro rec a Y;simp only[ZO,Qd,QD];rw[vg zo,Ye,mE n s Z];rfl
 have O:∀(rec:Int→Option Bool) (a:Unit) (i:Nat) (x:UInt8) (r:List UInt8),(1≤i∨s.length=0)→s.drop i=x::r→s[i]?=some x→i<s.length→wi ((i:Int)+1)=((i+1:Nat):Int) →
   (∀a:Unit,(1≤i+1∨s.length=0)→rec ((i+1:Nat):Int)=some (r.all Dz&&(decide (1≤s.length∧s.length≤12)&&!Sr s)))→ZO n s rec (i:Int)=some ((x::r).all Dz&&(decide (1≤s.length∧s.length≤12)&&!Sr s)):=by
  intro rec a i x r Y hd G hi hw U;simp only[ZO,Qd,QD,Zj,G,Zy,hw,XJ,Qbp,mF];rw[vB zo,V5,vg (show ¬(i:Int)=0 by omega),Ye,U () (Or.inl zo),List.all_cons];show(bif !Dz x then some false else _)=_;cases Dz x<;>rfl
 cases s with
|nil =>
  have:=qi (l:=[]) (fun(_:Unit) i=>i) (F:=fun _ r=>r.all Dz&&(decide (1≤([]:List UInt8).length∧([]:List UInt8).length≤12)&&!Sr [])) (fun i _=>1≤i∨([]:List UInt8).length=0) zq J O (n:=n) 0 () (Or.inr rfl) zq (by simp;omega);rw[show((0:Nat):Int)=0 from rfl] at this;rw[this];rfl
|cons x r =>
  obtain⟨m,rfl⟩:∃m,n=m+1:=⟨n-1,by omega⟩;have hs:=qi (l:=x::r) (fun(_:Unit) i=>i) (F:=fun _ q=>q.all Dz&&(decide (1≤(x::r).length∧(x::r).length≤12)&&!Sr (x::r))) (fun i _=>1≤i∨(x::r).length=0) zo J O (n:=m) 1 () (Or.inl (Yf _)) zq (by simp at hl ⊢;omega);rw[show((1:Nat):Int)=1 from rfl] at hs;unfold Q0;show ZO (m+1) (x::r) (Q0 (ZO (m+1) (x::r)) m) 0=_;generalize Q0 (ZO (m+1) (x::r)) m=L at hs ⊢;unfold ZO;rw[show Za (x::r) 0=some x from rfl];simp only[Qd,QD,Zy,XJ,Qbp,mF,show wi (0+1)=1 from rfl];rw[hs,vB (show(0:Int)<((x::r).length:Nat) by simp),V5,decide_true,V5];unfold Fq;simp only[List.head?_cons,Option.mem_def,Zf,forall_eq',List.drop_succ_cons,List.drop_zero,List.all_cons];by_cases G:97≤V8 x∧V8 x≤122
  ·rw[vB G];have:Dz x=true:=by unfold Dz;rw[vB];exact Or.inl G
   rw[this];cases decide (1≤(x::r).length∧(x::r).length≤12)<;>cases Sr (x::r)<;>cases r.all Dz<;>rfl
  ·rw[vg G];cases decide (1≤(x::r).length∧(x::r).length≤12)<;>rfl
theorem uG(n:Nat)(s:List UInt8)(hn:1000≤n):UX n s=some (decide (1≤s.length∧s.length≤12)&&decide (∀x∈s.head?,97≤V8 x∧V8 x≤122)&&s.all Dz):=by
 unfold UX;simp only[Qd,QD];cases s with
|nil=>simp
|cons x r =>
  rw[vg (show ¬(((x::r).length:Nat):Int)<1 by simp only[lU];omega),Ye];by_cases hl:(x::r).length≤12;rotate_left
  ·rw[vB (show(12:Int)<(((x::r).length:Nat):Int) by omega),vg (show ¬(1≤(x::r).length∧(x::r).length≤12) by omega)];rfl
  rw[vg (show ¬(12:Int)<(((x::r).length:Nat):Int) by omega),Ye,vB (show 1≤(x::r).length∧(x::r).length≤12 by simp only[lU] at hl ⊢;omega)];rw[show Za (x::r) 0=some x from rfl]
  have J:Q0 (fun G O=>Vu (x::r) G O) n 1=some (r.all Dz):=by
   have:=zT (l:=x::r) (B:=fun G O=>Vu (x::r) G O) (F:=fun r=>r.all Dz) zo ?_ ?_ (n:=n) 1 zq zo
   ·simpa using this
   ·intro rec;simp[Vu,QD,Qd]
   ·intro rec i y q hd hx hi hw hr;unfold Vu;simp only[Qd,Zj,hx,Zy,hw,hr,QD,leI,Qq,XJ];rw[vB zo,V5,List.all_cons];rw[QaG,Dz];cases decide ((97≤V8 y∧V8 y≤122)∨(48≤V8 y∧V8 y≤57)∨V8 y=95)<;>simp
  rw[J];simp only[Zy,XJ,List.head?_cons,Option.mem_def,Zf,forall_eq',Bool.true_and,List.all_cons];by_cases U:V8 x<97
  ·rw[vB U,vg (show ¬(97≤V8 x∧V8 x≤122) by omega)];rfl
  ·rw[vg U,Ye];by_cases Z:122<V8 x
   ·rw[vB Z,vg (show ¬(97≤V8 x∧V8 x≤122) by omega)];rfl
   ·have Y:97≤V8 x∧V8 x≤122:=by omega
    have h4:Dz x=true:=by unfold Dz;rw[vB];exact Or.inl Y
    rw[vg Z,vB Y,h4];rfl
theorem cnz(b:Bool)(k r:Int)(G:k≠0):(!Qq (bif b then k else r) 0)=(b||!Qq r 0):=by
 cases b
 ·rfl
 ·simp[Qq,G]
theorem QaH(n:Nat)(s:List UInt8):FN n s=some (Sr s):=by
 unfold FN HZ Ut JU H6;rw[jO];simp only[XJ,Zy,cse,cst,keyL,WN,WO,YX,WP,Option.getD_some,List.cons_append,List.nil_append,List.contains_cons,List.contains_nil,Bool.or_false,Zb];rw[cnz _ 1 _ (by decide),cnz _ 2 _ (by decide),cnz _ 3 _ (by decide),cnz _ 4 _ (by decide),cnz _ 5 _ (by decide),cnz _ 6 _ (by decide),cnz _ 7 _ (by decide),show(!Qq 0 0)=false from rfl];simp only[Bool.or_assoc,Bool.or_false]
theorem uH(n:Nat)(s:List UInt8)(G:1000≤n):XB n s=some (Fq s):=by
 unfold XB Fq;rw[uG n s G,Zy,QaH,Zy,XJ];generalize decide (1≤s.length∧s.length≤12)=a;generalize decide (∀x∈s.head?,97≤V8 x∧V8 x≤122)=b;generalize s.all Dz=c;generalize Sr s=d;cases a<;>cases b<;>cases c<;>cases d<;>rfl
theorem QcY(k:Int)(s:List UInt8)(m t:Int)(l:List (List PV)):GN.of (GN.cs ⟨k,s,m,t,l⟩)=some ⟨k,s,m,t,l⟩:=by
 unfold GN.cs GN.of;simp only[gG,Bi,if_true]
theorem lu(n:Nat)(s:List UInt8)(U:1000≤n):FO n (⟨1,[],0,0,[GN.cs (⟨2,s,3,0,[]⟩:GN)]⟩:GN)=some (Fq s):=by
 obtain⟨m,rfl⟩:∃m,n=m+2:=⟨n-2,by omega⟩
 have G:X6 (m+2) (⟨2,s,3,0,[]⟩:GN) 1498=some (Fq s,1498):=by
  unfold X6;rw[uH (m+2) s U];simp only[show(!Qq 2 2)=false from rfl,show QD 3 1=false from rfl,show QD 7 3=false from rfl,Ye,Zy];cases Fq s
  ·rfl
  ·unfold Q0;rfl
 unfold FO;have O:((bif !Qq 1 1 then some true else bif !Zb [] [] then some true else bif !Qq 0 0 then some true else some (QD (wi (1499-Qd (List.map Vx [GN.cs (⟨2,s,3,0,[]⟩:GN)]))) 0)))=some false:=rfl;have J:wi (1499-Qd (List.map Vx [GN.cs (⟨2,s,3,0,[]⟩:GN)]))=1498:=rfl;simp only;rw[O,Zy,Ye,J];unfold Q0;simp only[FB];rw[show QD 0 (Qd (List.map Vx [GN.cs (⟨2,s,3,0,[]⟩:GN)]))=true from rfl,V5,show Za [GN.cs (⟨2,s,3,0,[]⟩:GN)] 0=some (GN.cs (⟨2,s,3,0,[]⟩:GN)) from rfl,Zy,QcY,Zy,G,Zy];cases Fq s
 ·rfl
 ·unfold Q0;rfl
theorem Ub{R:Type}{B:(Int→Option R)→Int→Option R}{L:Nat}(Q:Nat→R→Prop)(J:L≤9223372036854775807)(G:∀(rec:Int→Option R) (i:Nat),i≤L→(i<L→wi ((i:Int)+1)=((i+1:Nat):Int)∧Does (rec ((i+1:Nat):Int)) (Q (i+1)))→Does (B rec (i:Int)) (Q i)) :
  ∀{n:Nat} (i:Nat),i≤L→L-i<n→Does (Q0 B n (i:Int)) (Q i)
|0,_,_,h=>absurd h (Nat.not_lt_zero _)
|n+1,i,hi,h=>G _ i hi fun O=>⟨by rw[ZM zo zo];omega,Ub Q J G (i+1) zo zo⟩
def zV(l:List (List PV)):List GN:=l.filterMap GN.of
theorem QaI{s:List UInt8}(Z:9223372036854776000≤n)(U:s.length≤9223372036854775807):WC n s=some (Fq s):=by
 by_cases h:s.length≤900
 ·exact QcW n s zo h
 have hb:Fq s=false:=by
  unfold Fq;rw[show decide (1≤s.length∧s.length≤12)=false from vg zo];rfl
 rw[hb]
 have:Does (WC n s) (fun r=>r=false):=by
  unfold WC;refine Ub (L:=s.length) (fun _ r=>r=false) U (fun rec i hi J=>?_) 0 zo zo;unfold ZO;simp only[Qd,QD];by_cases G:i<s.length;rotate_left
  ·rw[vg zo,Ye,mE n s zo,vg zo];exact Qs rfl
  obtain⟨O,Y⟩:=J G;rw[vB zo,V5,Zj,List.getElem?_eq_getElem G,Zy,O];simp only[XJ,Zy];exact Kb (fun _=>Qs rfl) fun _=>Y
 obtain⟨r,e,rfl⟩:=this;exact e
def sz:Nat→GN→Int|0,_=>1|k+1,x=>1+((zV x.Kids).map (sz k)).sum
def Qgf(p:GN×KJ):Bool:=decide (p.2.from_≤p.1.N)&&decide (p.1.N≤p.2.to_)
def snR(a:GN)(G:List KJ):Except (Int×Int) (List Int) :=if((zV a.Kids).zip G).all Qgf then .ok ((zV a.Kids).map (·.N)) else .error (3,a.At)
def snF(a:GN)(G:List KJ):Except (Int×Int) (List Int) :=if a.Kids.length=G.length then if(zV a.Kids).all (fun y=>decide (y.Kind=6)) then snR a G else .error (9,a.At) else .error (9,a.At)
def nmF(ks:List Int)(th:List (List UInt8×Yp))(a:GN):Except (Int×Int) Int :=
  match zV a.Kids with
 |[y]=>if y.Kind=5 then
      (match Ru QF y.Name th with
      |some t=>if ks.contains t.kind then .ok t.index else .error (8,a.At)
      |none=>.error (8,a.At))
    else .error (9,a.At)
 |_=>.error (9,a.At)
def phL(a:GN):List Int→Int→Int→Except (Int×Int) Int|[],bits,_=>.ok bits|x::l,bits,before=>if x≤before then .error (3,a.At) else phL a l (bOr .i64 bits (WZ .i64 1 (wi (x-1)))) x
def Qgh(a:GN):List KJ:=List.take a.Kids.length [(⟨1,3⟩:KJ),(⟨1,3⟩:KJ),(⟨1,3⟩:KJ)]
def eb{A B:Type}(x:Except (Int×Int) A)(k:A→Except (Int×Int) B):Except (Int×Int) B:=match x with
|.ok a=>k a
|.error e=>.error e
def phF(a:GN):Except (Int×Int) Int:=if 1≤a.Kids.length∧a.Kids.length≤3 then eb (snF a (Qgh a)) fun l=>phL a l 0 0 else .error (9,a.At)
abbrev SQ:=ZU×K3×Kj×ZA
abbrev Bd:=List (List UInt8×Bool)
abbrev ThM:=List (List UInt8×Yp)
def uI(h:Bd)(s:List UInt8):Bool:=QK Qc s false h
def uJ(a:GN)(G:List KJ)(f:List Int→SQ):Except (Int×Int) SQ:=eb (snF a G) fun l=>.ok (f l)
def nmQ(ks:List Int)(th:ThM)(a:GN)(f:Int→SQ):Except (Int×Int) SQ:=eb (nmF ks th a) fun x=>.ok (f x)
def QeP(cs:List K3)(a:GN)(f:List Int→SQ):Except (Int×Int) SQ:=eb (snF a [(⟨1,1000000⟩:KJ)]) fun l=>if cs.all (fun c=>!decide (c.Card=l.getD 0 0)) then .ok (f l) else .error (5,a.At)
def Su(ks:List Int)(k:Int)(a:GN)(h:Bd)(v:Except (Int×Int) SQ):Except (Int×Int) (SQ×Bd) :=if ks.contains k then if uI h a.Name then .error (5,a.At) else eb v fun q=>.ok (q,Qw Qc a.Name true h) else .error (9,a.At)
def Qgi(k:Int)(cs:List K3)(th:ThM)(a:GN)(q:SQ)(h:Bd):Except (Int×Int) (SQ×Bd) :=if a.Name=[108,105,109,105,116] then Su [1,2] k a h (uJ a [(⟨1,1000⟩:KJ)] fun l=>(⟨q.1.Name,q.1.Up,l.getD 0 0,q.1.Neutral,q.1.Fuse,q.1.Cable⟩,q.2)) else if a.Name=[110,101,117,116,114,97,108] then Su [1,2] k a h (uJ a [(⟨1,1000⟩:KJ)] fun l=>(⟨q.1.Name,q.1.Up,q.1.Limit,l.getD 0 0,q.1.Fuse,q.1.Cable⟩,q.2)) else if a.Name=[102,117,115,101] then Su [1,2] k a h (uJ a [(⟨1,1000⟩:KJ),(⟨0,1000000⟩:KJ)] fun l=>(⟨q.1.Name,q.1.Up,q.1.Limit,q.1.Neutral,⟨l.getD 0 0,l.getD 1 0⟩,q.1.Cable⟩,q.2)) else if a.Name=[116,104,101,114,109,97,108] then Su [1,2] k a h (uJ a [(⟨0,200000⟩:KJ),(⟨0,200000⟩:KJ),(⟨0,1000⟩:KJ),(⟨0,1000⟩:KJ),(⟨1,1000000⟩:KJ)] fun l=>(⟨q.1.Name,q.1.Up,q.1.Limit,q.1.Neutral,q.1.Fuse,⟨l.getD 0 0,l.getD 1 0,l.getD 2 0,l.getD 3 0,l.getD 4 0⟩⟩,q.2)) else if a.Name=[102,114,111,109] then Su [2] k a h (nmQ [1,2] th a fun x=>(⟨q.1.Name,x,q.1.Limit,q.1.Neutral,q.1.Fuse,q.1.Cable⟩,q.2)) else if a.Name=[111,119,110,101,114] then Su [4,5] k a h (nmQ [3] th a fun x=>(q.1,⟨q.2.1.Name,x,q.2.1.Rank,q.2.1.Card⟩,⟨q.2.2.1.Name,q.2.2.1.At,q.2.2.1.Phases,q.2.2.1.Min,q.2.2.1.Max,q.2.2.1.Step,q.2.2.1.Fallback,x⟩,q.2.2.2)) else if a.Name=[114,97,110,107] then Su [4] k a h (uJ a [(⟨1,9⟩:KJ)] fun l=>(q.1,⟨q.2.1.Name,q.2.1.Owner,l.getD 0 0,q.2.1.Card⟩,q.2.2)) else if a.Name=[99,97,114,100] then Su [4] k a h (QeP cs a fun l=>(q.1,⟨q.2.1.Name,q.2.1.Owner,q.2.1.Rank,l.getD 0 0⟩,q.2.2)) else if a.Name=[97,116] then Su [5] k a h (nmQ [1,2] th a fun x=>(q.1,q.2.1,⟨q.2.2.1.Name,x,q.2.2.1.Phases,q.2.2.1.Min,q.2.2.1.Max,q.2.2.1.Step,q.2.2.1.Fallback,q.2.2.1.Owner⟩,q.2.2.2)) else if a.Name=[112,104,97,115,101,115] then Su [5] k a h (eb (phF a) fun x=>.ok (q.1,q.2.1,⟨q.2.2.1.Name,q.2.2.1.At,x,q.2.2.1.Min,q.2.2.1.Max,q.2.2.1.Step,q.2.2.1.Fallback,q.2.2.1.Owner⟩,q.2.2.2)) else if a.Name=[97,109,112,115] then Su [5] k a h (uJ a [(⟨1,80⟩:KJ),(⟨1,80⟩:KJ),(⟨1,80⟩:KJ)] fun l=>(q.1,q.2.1,⟨q.2.2.1.Name,q.2.2.1.At,q.2.2.1.Phases,l.getD 0 0,l.getD 1 0,l.getD 2 0,q.2.2.1.Fallback,q.2.2.1.Owner⟩,q.2.2.2)) else if a.Name=[102,97,108,108,98,97,99,107] then Su [5] k a h (uJ a [(⟨0,80⟩:KJ)] fun l=>(q.1,q.2.1,⟨q.2.2.1.Name,q.2.2.1.At,q.2.2.1.Phases,q.2.2.1.Min,q.2.2.1.Max,q.2.2.1.Step,l.getD 0 0,q.2.2.1.Owner⟩,q.2.2.2)) else if a.Name=[99,104,97,114,103,101,114] then Su [6] k a h (nmQ [5] th a fun x=>(q.1,q.2.1,q.2.2.1,⟨q.2.2.2.Name,x⟩)) else .error (9,a.At)
def QcZ(k:Int)(cs:List K3)(th:ThM):List GN→SQ→Bd→Except (Int×Int) (SQ×Bd)|[],q,h=>.ok (q,h)|a::l,q,h=>if a.Kind=3 then eb (Qgi k cs th a q h) fun v=>QcZ k cs th l v.1 v.2 else QcZ k cs th l q h
abbrev AQ:=ZU×K3×Kj×ZA×Bd
abbrev AE:=(Int×Int)×AQ
def needT:List (List Int×List UInt8):=[([1,2],[108,105,109,105,116]),([1,2],[110,101,117,116,114,97,108]),([2],[102,114,111,109]),([4,5],[111,119,110,101,114]),([4],[114,97,110,107]),([4],[99,97,114,100]),([5],[97,116]),([5],[112,104,97,115,101,115]),([5],[97,109,112,115]),([5],[102,97,108,108,98,97,99,107]),([6],[99,104,97,114,103,101,114])]
def QeQ(k:Int)(h:Bd):Bool:=needT.any fun p=>p.1.contains k&&!uI h p.2
def QeR(g:Kj):Bool:=leI g.Min g.Max&&(Qq g.Fallback 0||(leI g.Min g.Fallback&&leI g.Fallback g.Max))
def QeS(k:Int)(c:ZU)(g:Kj)(h:Bd):Bool:=(uI h [116,104,101,114,109,97,108]&&!QD c.Cable.Ambient c.Cable.Most)||(Qq k 5&&!QeR g)
def whF(y:GN)(c:ZU)(g:Kj)(h:Bd):Except (Int×Int) Unit:=if QeQ y.N h then .error (4,y.At) else if QeS y.N c g h then .error (3,y.At) else .ok ()
structure BS where
 cs:List ZU
 os:List Zk
 ks:List K3
 gs:List Kj
 bs:List ZA
 fd:Bool
 dg:List Yh
 nm:Bd
 th:ThM
def BS.t(s:BS):List ZU×List Zk×List K3×List Kj×List ZA×Bool×List Yh×Bd×ThM:=(s.cs,s.os,s.ks,s.gs,s.bs,s.fd,s.dg,s.nm,s.th)
def BS.u(s:BS):List ZU×List Zk×List K3×List Kj×List ZA×Bool×List Yh×ThM:=(s.cs,s.os,s.ks,s.gs,s.bs,s.fd,s.dg,s.th)
def BS.err(s:BS)(e:Int×Int):BS:={ s with dg:=s.dg++[⟨e.1,e.2⟩] }
def QeT:SQ:=(⟨[],0,0,0,⟨0,0⟩,⟨0,0,0,0,0⟩⟩,⟨[],0,0,0⟩,⟨[],0,0,0,0,0,0,0⟩,⟨[],0⟩)
def twB(y:GN)(s:BS):Bool:=uI s.nm y.Name||(Qq y.N 1&&s.fd)
def Qbq(k:Int)(s:BS):Int:=cond (Qq k 1||Qq k 2) (s.cs.length:Int) (cond (Qq k 3) (s.os.length:Int) (cond (Qq k 4) (s.ks.length:Int) (cond (Qq k 5) (s.gs.length:Int) (s.bs.length:Int))))
def QeU(k:Int):Int:=cond (Qq k 1||Qq k 2) 16 (cond (Qq k 3) 8 (cond (Qq k 4) 32 (cond (Qq k 5) 16 24)))
def QeV(y:GN)(s:BS):Except (Int×Int) SQ:=eb (QcZ y.N s.ks s.th (zV y.Kids) QeT []) fun v=>eb (whF y v.1.1 v.1.2.2.1 v.2) fun _=>.ok v.1
def QeW(y:GN)(q:SQ)(s:BS):BS :=
 let t:=Qw QF y.Name (⟨y.N,Qbq y.N s⟩:Yp) s.th
 if y.N=1 then{ s with cs:=s.cs++[⟨y.Name,-1,q.1.Limit,q.1.Neutral,q.1.Fuse,q.1.Cable⟩],th:=t }
 else if y.N=2 then{ s with cs:=s.cs++[⟨y.Name,q.1.Up,q.1.Limit,q.1.Neutral,q.1.Fuse,q.1.Cable⟩],th:=t }
 else if y.N=3 then{ s with os:=s.os++[⟨y.Name⟩],th:=t }
 else if y.N=4 then{ s with ks:=s.ks++[⟨y.Name,q.2.1.Owner,q.2.1.Rank,q.2.1.Card⟩],th:=t }
 else if y.N=5 then{ s with gs:=s.gs++[⟨y.Name,q.2.2.1.At,q.2.2.1.Phases,q.2.2.1.Min,q.2.2.1.Max,q.2.2.1.Step,q.2.2.1.Fallback,q.2.2.1.Owner⟩],th:=t }
 else if y.N=6 then{ s with bs:=s.bs++[⟨y.Name,q.2.2.2.Charger⟩],th:=t }
 else{ s with th:=t }
def jP(y:GN)(s:BS):BS:={ s with fd:=s.fd||Qq y.N 1,nm:=Qw Qc y.Name true s.nm }
def lv(y:GN)(s:BS):BS :=
 if twB y s then(jP y s).err (5,y.At)
 else if y.N=7 then jP y s
 else if QeU y.N≤Qbq y.N s then(jP y s).err (2,y.At)
 else match QeV y s with
 |.error e=>(jP y s).err e
 |.ok q=>QeW y q (jP y s)
def runF:List GN→BS→BS|[],s=>s|y::l,s=>if(lv y s).dg.length=20 then lv y s else runF l (lv y s)
theorem lw(s k:List UInt8):∀m:List (List UInt8×Bool),QK Qc s false (Qw Qc k true m)=(QK Qc s false m||(s==k))
|[]=>by
  unfold Qw QK Ru Ru Qc Zb;by_cases h:s=k
  ·subst h;simp
  ·rw[show(s==k)=false from by simpa using h];rfl
|(q,w)::m=>by
  have J:=lw s k m;unfold QK at J ⊢;unfold Qw;unfold Qc Zb at J ⊢;by_cases h:k=q
  ·subst h;rw[beq_self_eq_true,V5];unfold Ru;by_cases G:s=k
   ·subst G;simp
   ·rw[show(s==k)=false from by simpa using G];simp
  ·rw[show(k==q)=false from by simpa using h,Ye];unfold Ru;by_cases G:s=q
   ·subst G;rw[beq_self_eq_true,V5,V5,show(s==k)=false from by simpa using fun e=>h e.symm,Bool.or_false]
   ·rw[show(s==q)=false from by simpa using G,Ye,Ye];exact J
theorem QaJ(s k:List UInt8)(m:Bd):uI (Qw Qc k true m) s=(uI m s||(s==k)):=lw s k m
theorem jQ{K V:Type}{eq:K→K→Bool}(J:∀a b,eq a b=true↔a=b)(k G:K)(v:V):∀m:List (K×V),Ru eq G (Qw eq k v m)=bif eq G k then some v else Ru eq G m
|[]=>by unfold Qw Ru Ru;cases eq G k<;>rfl
|(q,w)::m=>by
  have O:=jQ J k G v m;unfold Qw;cases h:eq k q
  ·rw[Ye];unfold Ru;rw[O];cases h2:eq G q
   ·rfl
   ·have:eq G k=false:=by
     cases h3:eq G k
     ·rfl
     ·rw[(J _ _).1 h2] at h3;rw[(J _ _).1 h3,(J k k).2 rfl] at h;cases h
    rw[this];rfl
  ·obtain rfl:=(J _ _).1 h;rw[V5];unfold Ru;cases eq G k<;>rfl
def VM(s:Qo):List (List UInt8):=s.Conductors.map (·.Name)++s.Owners.map (·.Name)++s.Contracts.map (·.Name)++s.Chargers.map (·.Name)++s.Bays.map (·.Name)
def okF(f:V9):Prop:=(f.Rated=0∧f.Heat=0)∨((1≤f.Rated∧f.Rated≤1000)∧0≤f.Heat∧f.Heat≤1000000)
def okW(c:Z0):Prop:=c=⟨0,0,0,0,0⟩∨(((0≤c.Ambient∧c.Ambient≤200000)∧(0≤c.Most∧c.Most≤200000)∧(0≤c.Gain∧c.Gain≤1000)∧(0≤c.Loss∧c.Loss≤1000)∧1≤c.Den∧c.Den≤1000000)∧c.Ambient<c.Most)
def okC(c:ZU)(i:Nat):Prop:=((i=0→c.Up=-1)∧(0<i→0≤c.Up∧c.Up<i))∧(1≤c.Limit∧c.Limit≤1000)∧(1≤c.Neutral∧c.Neutral≤1000)∧okF c.Fuse∧okW c.Cable
def okK(no:Nat)(c:K3):Prop:=(0≤c.Owner∧c.Owner<no)∧(1≤c.Rank∧c.Rank≤9)∧1≤c.Card∧c.Card≤1000000
def okG(G no:Nat)(c:Kj):Prop:=(0≤c.At∧c.At<G)∧(0≤c.Owner∧c.Owner<no)∧(1≤c.Phases∧c.Phases≤7)∧(1≤c.Min∧c.Min≤80)∧(1≤c.Max∧c.Max≤80)∧(1≤c.Step∧c.Step≤80)∧(0≤c.Fallback∧c.Fallback≤80)∧c.Min≤c.Max∧(c.Fallback=0∨(c.Min≤c.Fallback∧c.Fallback≤c.Max))
structure mG(s:Qo):Prop where
 c:∀i c,s.Conductors[i]?=some c→okC c i
 k:∀c∈s.Contracts,okK s.Owners.length c
 kd:s.Contracts.Pairwise fun a b=>a.Card≠b.Card
 g:∀c∈s.Chargers,okG s.Conductors.length s.Owners.length c
 b:∀c∈s.Bays,0≤c.Charger∧c.Charger<s.Chargers.length
 nm:∀w∈VM s,Fq w=true
 nd:(VM s).Nodup
theorem step_loop{R V:Type}{B:(V→Option R)→V→Option R}{E:Option R}{f:Nat→V}{k:Nat}(hs:∀rec (i:Nat),i<k→B rec (f i)=rec (f (i+1)))(G:∀rec,B rec (f k)=E):∀{n:Nat} (i:Nat),i≤k→k-i<n→Q0 B n (f i)=E
|0,_,_,h=>absurd h (Nat.not_lt_zero _)
|n+1,i,hi,h=>by
  unfold Q0;by_cases c:i<k
  ·rw[hs _ i c];exact step_loop hs G (i+1) c zo
  ·rw[show i=k by omega];exact G _
theorem FD(h:lo≤x∧x≤hi):QC n x lo hi=some true:=by
 unfold QC;rw[Wu h.1,V5,Wu h.2]
theorem Tp(h:lo≤x∧x≤hi):QE n (⟨lo,hi⟩:KJ) x=some true:=by
 unfold QE;rw[Wu h.1,V5,Wu h.2]
theorem Qc0{f:V9}(h:okF f):TA ((Qq f.Rated 0)&&((Qq f.Heat 0)&&true))=true∨(TA ((Qq f.Rated 0)&&((Qq f.Heat 0)&&true))=false∧(1≤f.Rated∧f.Rated≤1000)∧0≤f.Heat∧f.Heat≤1000000):=by
 rcases h with⟨J,G⟩|⟨J,G⟩
 ·left;rw[J,G];rfl
 ·right;refine⟨?_,J,G⟩;rw[Sz zo];rfl
theorem QaL{c:Z0}(h:okW c):TA ((Qq c.Ambient 0)&&((Qq c.Most 0)&&((Qq c.Gain 0)&&((Qq c.Loss 0)&&((Qq c.Den 0)&&true)))))=true∨(TA ((Qq c.Ambient 0)&&((Qq c.Most 0)&&((Qq c.Gain 0)&&((Qq c.Loss 0)&&((Qq c.Den 0)&&true)))))=false∧((0≤c.Ambient∧c.Ambient≤200000)∧(0≤c.Most∧c.Most≤200000)∧(0≤c.Gain∧c.Gain≤1000)∧(0≤c.Loss∧c.Loss≤1000)∧1≤c.Den∧c.Den≤1000000)∧c.Ambient<c.Most):=by
 rcases h with rfl|h
 ·left;rfl
 ·right;refine⟨?_,h⟩;rw[Sz (show ¬c.Den=0 by omega)];simp[TA]
theorem Qc1{c:ZU}(h:okC c i):YS n c (i:Int)=some true:=by
 obtain⟨⟨u1,u2⟩,h2,h3,Z,h5⟩:=h;unfold YS
 have hu:(cond (Qq (i:Int) 0) (cond (!Qq c.Up (-1)) (some true) (cond (QD 0 (i:Int)) (cond (QD c.Up 0) (some true) (some (leI (i:Int) c.Up))) (some false))) (cond (QD 0 (i:Int)) (cond (QD c.Up 0) (some true) (some (leI (i:Int) c.Up))) (some false)))=some false:=by
  by_cases h0:i=0
  ·subst h0;rw[u1 rfl];rfl
  ·have hi:=u2 zo;rw[Sz zo,Ye,Vy zo,V5,KM zo,Ye,UI zo]
 rw[hu,Zy,Ye,Tp h2,Zy,Bool.not_true,Ye,Tp h3,Zy,Zy,Bool.not_true,Ye]
 have hf:(cond (!TA ((Qq c.Fuse.Rated 0)&&((Qq c.Fuse.Heat 0)&&true))) ((QE n (⟨1,1000⟩:KJ) c.Fuse.Rated).bind fun J=>cond J ((QE n (⟨0,1000000⟩:KJ) c.Fuse.Heat).bind fun O=>some (!O)) (some true)) (some false))=some false:=by
  rcases Qc0 Z with e|⟨e,U,G⟩
  ·rw[e];rfl
  ·rw[e,Tp U,Zy,Tp G];rfl
 rw[hf,Zy,Ye];rcases QaL h5 with e|⟨e,⟨U,G,e3,Y,e5⟩,e6⟩
 ·rw[e];rfl
 ·rw[e,Ye,Tp U,Zy,V5,Tp G,Zy,V5,Tp e3,Zy,V5,Tp Y,Zy,V5,Tp e5,Zy,V5];unfold Jh;rw[Vy e6];rfl
theorem y7(h:k≤1000):wi ((k:Int)-1)=(k:Int)-1:=ZM zo zo
theorem QeY{c:Kj}(h:okG s.Conductors.length s.Owners.length c)(h1:s.Conductors.length≤1000)(U:s.Owners.length≤1000):VC n s c=some true:=by
 obtain⟨a1,a2,a3,O,Y,Z,a7,J,G⟩:=h;unfold VC;simp only[Qd,RS];rw[y7 h1,y7 U,Tp zo,Zy,V5,Tp zo,Zy,V5,Tp a3,Zy,V5,Tp O,Zy,V5,Tp Y,Zy,V5,Tp Z,Zy,V5,Tp a7,Zy,V5];unfold Wn;rw[Wu J,V5];rcases G with G|G
 ·rw[G];rfl
 ·rw[Wu G.1,Wu G.2];cases Qq c.Fallback 0<;>rfl
theorem uK{L:List α}(hi:i<L.length):L.take (i+1)=L.take i++[L[i]]:=by
 rw[List.take_add_one,List.getElem?_eq_getElem hi];rfl
theorem WQ{L:List α}{nm:α→List UInt8}{cs:α→List PV}{B:(List (List UInt8)×Int→Option (List (List UInt8)))→List (List UInt8)×Int→Option (List (List UInt8))}{acc:List (List UInt8)}(G:∀rec a i,B rec (a,i)=cond (QD i (Qd (L.map cs))) ((Za L i).bind fun x=>cond (ZW (List.length (a++[nm x])) 16) (rec (a++[nm x],wi (i+1))) none) (some a))(O:L.length≤50)(J:acc.length≤500)(U:2000≤n):Q0 B n (acc,0)=some (acc++L.map nm):=by
 have:=step_loop (B:=B) (E:=some (acc++L.map nm)) (k:=L.length) (f:=fun i=>(acc++(L.take i).map nm,(i:Int))) (fun rec i hi=>?_) (fun rec=>?_) (n:=n) 0 zo zo
 ·simpa using this
 ·rw[G];simp only[Qd,RS];rw[Vy zo,V5,Zj,List.getElem?_eq_getElem hi,Zy,ZM zo zo];have e:acc++List.map nm (List.take i L)++[nm L[i]]=acc++(L.take (i+1)).map nm:=by rw[uK hi,List.map_append,List.append_assoc];rfl
  rw[e,show ZW (List.length (acc++(L.take (i+1)).map nm)) 16=true from by unfold ZW;simp;omega,V5];rfl
 ·rw[G];simp only[Qd,RS];rw[KM zo,Ye,List.take_length]
theorem QeZ{s:List UInt8}(hs:s∉l)(J:l.length≤1000)(G:2000≤n):Xq n l s=some false:=by
 unfold Xq;refine step_loop (f:=fun i:Nat=>(i:Int)) (k:=l.length) (fun rec i hi=>?_) (fun rec=>?_) 0 zo zo
 ·unfold V3;simp only[Qd,RS];rw[Vy zo,V5,Zj,List.getElem?_eq_getElem hi,Zy,ZM zo zo]
  have:Zb l[i] s=false:=by
   unfold Zb;rw[beq_eq_false_iff_ne];intro e;exact hs (e▸List.getElem_mem hi)
  rw[this,Ye];rfl
 ·unfold V3;simp only[Qd,RS];rw[KM zo,Ye]
theorem uL(h:l.Nodup)(hi:i<l.length):l[i]∉l.take i:=by
 intro J;obtain⟨j,G,e⟩:=List.mem_iff_getElem.1 J;simp only[List.length_take] at G;rw[List.getElem_take] at e;have:=(List.getElem_inj h).1 e;omega
def AO(s:Qo):Prop:=s.Conductors.length≤16∧s.Owners.length≤8∧s.Contracts.length≤32∧s.Chargers.length≤16∧s.Bays.length≤24
theorem uM(h:AO s):(VM s).length≤100:=by
 unfold AO at h;simp only[VM,mR,RS];omega
theorem QaM(hf:AO s)(G:2000≤n):Xo n s=some (VM s):=by
 obtain⟨f1,f2,f3,f4,f5⟩:=hf;unfold Xo;refine(congrArg (fun q=>Option.bind q _) (WQ (L:=s.Conductors) (nm:=(·.Name)) (acc:=[]) (B:=fun rec (v:List (List UInt8)×Int)=>J3 s rec v.1 v.2) (fun _ _ _=>rfl) zo (by simp;try omega) G)).trans ?_;rw[Zy];refine(congrArg (fun q=>Option.bind q _) (WQ (L:=s.Owners) (nm:=(·.Name)) (acc:=([]++s.Conductors.map (·.Name))) (B:=fun rec (v:List (List UInt8)×Int)=>J4 s rec v.1 v.2) (fun _ _ _=>rfl) zo (by simp;try omega) G)).trans ?_;rw[Zy];refine(congrArg (fun q=>Option.bind q _) (WQ (L:=s.Contracts) (nm:=(·.Name)) (acc:=(([]++s.Conductors.map (·.Name))++s.Owners.map (·.Name))) (B:=fun rec (v:List (List UInt8)×Int)=>J5 s rec v.1 v.2) (fun _ _ _=>rfl) zo (by simp;try omega) G)).trans ?_;rw[Zy];refine(congrArg (fun q=>Option.bind q _) (WQ (L:=s.Chargers) (nm:=(·.Name)) (acc:=((([]++s.Conductors.map (·.Name))++s.Owners.map (·.Name))++s.Contracts.map (·.Name))) (B:=fun rec (v:List (List UInt8)×Int)=>JD s rec v.1 v.2) (fun _ _ _=>rfl) zo (by simp;try omega) G)).trans ?_;rw[Zy];refine(WQ (L:=s.Bays) (nm:=(·.Name)) (acc:=(((([]++s.Conductors.map (·.Name))++s.Owners.map (·.Name))++s.Contracts.map (·.Name))++s.Chargers.map (·.Name))) (B:=fun rec (v:List (List UInt8)×Int)=>JE s rec v.1 v.2) (fun _ _ _=>rfl) zo (by simp;try omega) G).trans ?_;rw[List.nil_append];rfl
def jR(l:List K3):List (Int×Bool):=l.foldl (fun m c=>Qw Zn c.Card true m) []
theorem lC(a b:Int):Zn a b=true↔a=b:=by
 unfold Zn Qq;simp
theorem zW:∀(l:List K3) (m:List (Int×Bool)) (z:Int),(∀c∈l,c.Card≠z)→QK Zn z false m=false→QK Zn z false (l.foldl (fun m c=>Qw Zn c.Card true m) m)=false
|[],m,z,_,h=>h
|c::l,m,z,hc,h=>by
  rw[List.foldl_cons];refine zW l _ z (fun a G=>hc a (by simp[G])) ?_;unfold QK at h ⊢
  rw[jQ lC,show Zn z c.Card=false from by
   cases e:Zn z c.Card
   ·rfl
   ·exact absurd ((lC _ _).1 e).symm (hc c zq)]
  exact h
def jS(l:List (List UInt8)):Bd:=l.foldl (fun m w=>Qw Qc w true m) []
theorem zX:∀(l:List (List UInt8)) (m:Bd) (z:List UInt8),z∉l→QK Qc z false m=false→QK Qc z false (l.foldl (fun m w=>Qw Qc w true m) m)=false
|[],m,z,_,h=>h
|c::l,m,z,hc,h=>by
  rw[List.foldl_cons];simp only[List.mem_cons,not_or] at hc;refine zX l _ z hc.2 ?_;have:=QaJ z c m;unfold uI at this;rw[this,h,Bool.false_or,beq_eq_false_iff_ne];exact hc.1
theorem QaN(h:mG s)(hf:AO s)(Y:2000≤n):Wy n s=some true:=by
 obtain⟨f1,f2,f3,f4,f5⟩:=hf;unfold Wy;refine step_loop (f:=fun i:Nat=>(i:Int)) (k:=s.Conductors.length) (fun rec i hi=>?_) (fun rec=>?_) 0 zo zo
 ·unfold YT;simp only[Qd,RS];rw[Vy zo,V5,Zj,List.getElem?_eq_getElem hi,Zy,Qc1 (h.c i _ (List.getElem?_eq_getElem hi)),Zy,Bool.not_true,Ye,ZM zo zo];rfl
 unfold YT;simp only[Qd,RS];rw[KM zo,Ye];unfold Yk;refine step_loop (B:=fun rec (v:Int×List (Int×Bool))=>K4 n s rec v.1 v.2) (f:=fun i:Nat=>((i:Int),jR (s.Contracts.take i))) (k:=s.Contracts.length) (fun rec i hi=>?_) (fun rec=>?_) 0 zo zo
 ·unfold K4;simp only[Qd,RS];obtain⟨k1,U,O⟩:=h.k _ (List.getElem_mem hi)
  have e:QK Zn s.Contracts[i].Card false (jR (s.Contracts.take i))=false:=by
   refine zW _ _ _ (fun c hc=>?_) rfl;obtain⟨j,G,e⟩:=List.mem_iff_getElem.1 hc;simp only[List.length_take] at G;rw[List.getElem_take] at e;rw[←e];exact List.pairwise_iff_getElem.1 h.kd j i zo hi zo
  have J:jR (s.Contracts.take (i+1))=Qw Zn s.Contracts[i].Card true (jR (s.Contracts.take i)):=by
   unfold jR;rw[uK hi,List.foldl_append];rfl
  rw[Vy zo,V5,Zj,List.getElem?_eq_getElem hi,Zy,y7 zo,Tp zo,Zy,Bool.not_true,Ye,Tp U,Zy,Bool.not_true,Ye,Tp O,Zy,Bool.not_true,Ye,e,Zy,Ye,ZM zo zo,J];rfl
 unfold K4;simp only[Qd,RS];rw[KM zo,Ye];unfold Yj;refine step_loop (f:=fun i:Nat=>(i:Int)) (k:=s.Chargers.length) (fun rec i hi=>?_) (fun rec=>?_) 0 zo zo
 ·unfold Va;simp only[Qd,RS];rw[Vy zo,V5,Zj,List.getElem?_eq_getElem hi,Zy,QeY (h.g _ (List.getElem_mem hi)) zo zo,Zy,Bool.not_true,Ye,ZM zo zo];rfl
 unfold Va;simp only[Qd,RS];rw[KM zo,Ye];unfold Yi;refine step_loop (f:=fun i:Nat=>(i:Int)) (k:=s.Bays.length) (fun rec i hi=>?_) (fun rec=>?_) 0 zo zo
 ·unfold Y9;simp only[Qd,RS];have k1:=h.b _ (List.getElem_mem hi);rw[Vy zo,V5,Zj,List.getElem?_eq_getElem hi,Zy,y7 zo,Tp zo,Zy,Bool.not_true,Ye,ZM zo zo];rfl
 unfold Y9;simp only[Qd,RS];rw[KM zo,Ye]
theorem Ed(h:mG s)(hf:AO s)(Z:1≤s.Conductors.length)(J:2000≤n):JF n s=some true:=by
 have hp:=QaN h hf J;have G:=QaM hf J;have Y:=uM hf;obtain⟨f1,f2,f3,f4,f5⟩:=hf;unfold JF;simp only[Qd,RS];rw[KM zo,Ye,KM zo,Ye,KM zo,Ye,KM zo,Ye,KM zo,Ye,KM zo,Zy,Ye,G,Zy];refine step_loop (B:=fun rec (v:Int×Bd)=>VO n s (VM s) rec v.1 v.2) (f:=fun i:Nat=>((i:Int),jS ((VM s).take i))) (k:=(VM s).length) (fun rec i hi=>?_) (fun rec=>?_) 0 zo zo
 ·unfold VO;simp only[Qd,RS];have e:QK Qc (VM s)[i] false (jS ((VM s).take i))=false:=zX _ _ _ (uL h.nd hi) rfl
  have O:jS ((VM s).take (i+1))=Qw Qc (VM s)[i] true (jS ((VM s).take i)):=by
   unfold jS;rw[uK hi,List.foldl_append];rfl
  have U:JK n (VM s)[i]=some true:=by
   unfold JK;rw[lu n _ zo,h.nm _ (List.getElem_mem hi)];rfl
  rw[Vy zo,V5,Zj,List.getElem?_eq_getElem hi,Zy,U,Zy,Bool.not_true,Ye,e,Zy,Ye,ZM zo zo,O];rfl
 unfold VO;simp only[Qd,RS];rw[KM zo,Ye];unfold Wp;rw[hp];rfl
theorem LH(h:¬(lo≤x∧x≤hi)):QC n x lo hi=some false:=by
 unfold QC;by_cases G:lo≤x
 ·rw[Wu G,V5,UI zo]
 ·rw[UI G];rfl
theorem Qc2{c:ZU}(hi:i≤1000):Does (WE n c (i:Int)) (fun b=>b=true→okC c i):=by
 unfold WE;by_cases Y:1≤c.Limit∧c.Limit≤1000;rotate_left
 ·rw[LH Y];exact Qs (x:=false) nofun
 by_cases h3:1≤c.Neutral∧c.Neutral≤1000;rotate_left
 ·rw[FD Y,LH h3];exact Qs (x:=false) nofun
 rw[FD Y,Zy,Bool.not_true,Ye,FD h3,Zy,Bool.not_true,Ye]
 have hu:(cond (Qq (i:Int) 0) (cond (!Qq c.Up (-1)) (some true) (cond (QD 0 (i:Int)) ((QC n c.Up 0 (wi ((i:Int)-1))).bind fun r9=>some (!r9)) (some false))) (cond (QD 0 (i:Int)) ((QC n c.Up 0 (wi ((i:Int)-1))).bind fun G=>some (!G)) (some false)))=some false∧((i=0→c.Up=-1)∧(0<i→0≤c.Up∧c.Up<i))∨(cond (Qq (i:Int) 0) (cond (!Qq c.Up (-1)) (some true) (cond (QD 0 (i:Int)) ((QC n c.Up 0 (wi ((i:Int)-1))).bind fun r9=>some (!r9)) (some false))) (cond (QD 0 (i:Int)) ((QC n c.Up 0 (wi ((i:Int)-1))).bind fun G=>some (!G)) (some false)))=some true:=by
  by_cases h0:i=0
  ·subst h0;by_cases hu:c.Up=-1
   ·left;rw[hu];exact⟨rfl,fun _=>rfl,fun h=>absurd h zo⟩
   ·right;rw[Sz hu];rfl
  ·rw[Sz (show ¬(i:Int)=0 by omega),Ye,Vy zo,V5,ZM zo zo];by_cases hu:0≤c.Up∧c.Up≤(i:Int)-1
   ·left;rw[FD hu];exact⟨rfl,fun h=>absurd h h0,fun _=>by omega⟩
   ·right;rw[LH hu];rfl
 rcases hu with⟨e,hu⟩|e
 rotate_left
 ·rw[e];exact Qs (x:=false) nofun
 rw[e,Zy,Ye]
 have hf:(cond (!TA ((Qq c.Fuse.Rated 0)&&((Qq c.Fuse.Heat 0)&&true))) ((QC n c.Fuse.Rated 1 1000).bind fun J=>cond (!J) (some true) ((QC n c.Fuse.Heat 0 1000000).bind fun O=>some (!O))) (some false))=some false∧okF c.Fuse∨(cond (!TA ((Qq c.Fuse.Rated 0)&&((Qq c.Fuse.Heat 0)&&true))) ((QC n c.Fuse.Rated 1 1000).bind fun J=>cond (!J) (some true) ((QC n c.Fuse.Heat 0 1000000).bind fun O=>some (!O))) (some false))=some true:=by
  cases e1:TA ((Qq c.Fuse.Rated 0)&&((Qq c.Fuse.Heat 0)&&true))
  ·rw[Bool.not_false,V5];by_cases Z:1≤c.Fuse.Rated∧c.Fuse.Rated≤1000;rotate_left
   ·right;rw[LH Z];rfl
   by_cases U:0≤c.Fuse.Heat∧c.Fuse.Heat≤1000000;rotate_left
   ·right;rw[FD Z,LH U];rfl
   left;rw[FD Z,FD U];exact⟨rfl,.inr ⟨Z,U⟩⟩
  ·left;refine⟨rfl,.inl ?_⟩;simpa [TA,Qq] using e1
 rcases hf with⟨e,hf⟩|e
 rotate_left
 ·rw[e];exact Qs (x:=false) nofun
 rw[e,Zy,Ye];cases e1:TA ((Qq c.Cable.Ambient 0)&&((Qq c.Cable.Most 0)&&((Qq c.Cable.Gain 0)&&((Qq c.Cable.Loss 0)&&((Qq c.Cable.Den 0)&&true)))));rotate_left
 ·refine Qs (x:=true) fun _=>⟨hu,Y,h3,hf,.inl ?_⟩
  have U:c.Cable.Ambient=0∧c.Cable.Most=0∧c.Cable.Gain=0∧c.Cable.Loss=0∧c.Cable.Den=0:=by simpa [TA,Qq] using e1
  generalize c.Cable=q at U;obtain⟨a,b,g,l,d⟩:=q;simp only at U;obtain⟨rfl,rfl,rfl,rfl,rfl⟩:=U;rfl
 rw[Ye];by_cases a1:0≤c.Cable.Ambient∧c.Cable.Ambient≤200000;rotate_left
 ·rw[LH a1];exact Qs (x:=false) nofun
 rw[FD a1,Zy,V5,ZM (x:=c.Cable.Ambient+1) zo zo];by_cases a2:c.Cable.Ambient+1≤c.Cable.Most∧c.Cable.Most≤200000;rotate_left
 ·rw[LH a2];exact Qs (x:=false) nofun
 rw[FD a2,Zy,V5];by_cases a3:0≤c.Cable.Gain∧c.Cable.Gain≤1000;rotate_left
 ·rw[LH a3];exact Qs (x:=false) nofun
 rw[FD a3,Zy,V5];by_cases a4:0≤c.Cable.Loss∧c.Cable.Loss≤1000;rotate_left
 ·rw[LH a4];exact Qs (x:=false) nofun
 rw[FD a4,Zy,V5];by_cases a5:1≤c.Cable.Den∧c.Cable.Den≤1000000;rotate_left
 ·rw[LH a5];exact Qs (x:=false) nofun
 rw[FD a5];exact Qs (x:=true) fun _=>⟨hu,Y,h3,hf,.inr ⟨⟨a1,by omega,a3,a4,a5⟩,by omega⟩⟩
theorem Qc3{c:Kj}:Does (JQ n c) (fun b=>b=true→(1≤c.Phases∧c.Phases≤7)∧(1≤c.Min∧c.Min≤80)∧(c.Min≤c.Max∧c.Max≤80)∧(1≤c.Step∧c.Step≤80)∧(c.Fallback=0∨(c.Min≤c.Fallback∧c.Fallback≤c.Max))):=by
 unfold JQ;by_cases a1:1≤c.Phases∧c.Phases≤7;rotate_left
 ·rw[LH a1];exact Qs (x:=false) nofun
 rw[FD a1,Zy,V5];by_cases a2:1≤c.Min∧c.Min≤80;rotate_left
 ·rw[LH a2];exact Qs (x:=false) nofun
 rw[FD a2,Zy,V5];by_cases J:c.Min≤c.Max∧c.Max≤80;rotate_left
 ·rw[LH J];exact Qs (x:=false) nofun
 rw[FD J,Zy,V5];by_cases G:1≤c.Step∧c.Step≤80;rotate_left
 ·rw[LH G];exact Qs (x:=false) nofun
 rw[FD G,Zy,V5];by_cases U:c.Fallback=0
 ·rw[Iu U];exact Qs (x:=true) fun _=>⟨a1,a2,J,G,.inl U⟩
 rw[Sz U,Ye];by_cases O:c.Min≤c.Fallback∧c.Fallback≤c.Max;rotate_left
 ·rw[LH O];exact Qs (x:=false) nofun
 rw[FD O];exact Qs (x:=true) fun _=>⟨a1,a2,J,G,.inr O⟩
theorem Qc4{s:List UInt8}(Y:l.length≤1000)(hn:2000≤n):Does (Xq n l s) (fun b=>b=false→s∉l):=by
 by_cases h:s∈l;rotate_left
 ·exact⟨_,QeZ h Y hn,fun _=>h⟩
 unfold Xq;have:=Ub (B:=fun rec i=>V3 l s rec i) (n:=n) (L:=l.length) (fun i b=>b=false→s∉l.drop i) zo (fun rec i hi O=>?_) 0 zo zo
 ·exact Kw this fun b hb e=>by simpa using hb e
 unfold V3;simp only[Qd,RS];by_cases G:i<l.length;rotate_left
 ·rw[KM zo,Ye];exact Qs fun _=>by rw[List.drop_eq_nil_of_le zo];simp
 obtain⟨Z,w2⟩:=O G;rw[Vy zo,V5,Zj,List.getElem?_eq_getElem G,Zy,Z];cases e:Zb l[i] s
 ·rw[Ye];refine Kw w2 fun b hb hf=>?_
  rw[List.drop_eq_getElem_cons G];intro U;rcases List.mem_cons.1 U with J|J
  ·rw[←J] at e;unfold Zb at e;simp at e
  ·exact hb hf J
 ·exact Qs nofun
theorem lD(h:∀j (G:j<l.length),l[j]∉l.take j):l.Nodup:=by
 rw[List.nodup_iff_pairwise_ne,List.pairwise_iff_getElem];intro i j hi G J e;apply h j G;rw[←e];exact List.mem_iff_getElem.2 ⟨i,by simp;omega,by rw[List.getElem_take]⟩
theorem lF(hl:l.length≤500)(hw:∀w∈l,w.length≤9223372036854775807)(hn:9223372036854776000≤n):Does (Q0 (fun rec i=>Vm n l rec i) n 0) (fun b=>b=true→(∀w∈l,Fq w=true)∧l.Nodup):=by
 have:=Ub (B:=fun rec i=>Vm n l rec i) (n:=n) (L:=l.length) (fun i b=>b=true→∀j (G:j<l.length),i≤j→Fq l[j]=true∧l[j]∉l.take j) zo (fun rec i hi hr=>?_) 0 zo zo
 ·refine Kw this fun b hb e=>?_
  have h:=hb e;refine⟨fun w hw=>?_,lD fun j G=>(h j G zo).2⟩;obtain⟨j,G,rfl⟩:=List.mem_iff_getElem.1 hw;exact(h j G zo).1
 unfold Vm;simp only[Qd,RS];by_cases U:i<l.length;rotate_left
 ·rw[KM zo,Ye];exact Qs fun _ j G J=>absurd G zo
 obtain⟨w1,w2⟩:=hr U;rw[Vy zo,V5,Zj,List.getElem?_eq_getElem U,Zy,QaI hn (hw _ (List.getElem_mem U)),Zy];cases hb:Fq l[i]
 ·exact Qs (x:=false) nofun
 rw[Bool.not_true,Ye,show sliceB 0 (i:Int) l.length=true from by unfold sliceB;rw[Ii];omega,V5,Zy];have e:List.drop (Int.toNat 0) (List.take (Int.toNat (i:Int)) l)=l.take i:=by simp
 obtain⟨b,O,Y⟩:=Qc4 (n:=n) (l:=l.take i) (s:=l[i]) (by simp;omega) zo;rw[e,O,Zy];cases b;rotate_left
 ·exact Qs (x:=false) nofun
 rw[Zy,Ye,w1];refine Kw w2 fun b h hf j G J=>?_
 by_cases Z:j=i
 ·subst Z;exact⟨hb,Y rfl⟩
 ·exact h hf j G zo
def QaO(s:Qo):Prop:=s.Conductors.length≤40∧s.Owners.length≤40∧s.Contracts.length≤40∧s.Chargers.length≤40∧s.Bays.length≤40
theorem lG(hf:QaO s)(hw:∀w∈VM s,w.length≤9223372036854775807)(O:9223372036854776000≤n):Does (X8 n s) (fun b=>b=true→(∀w∈VM s,Fq w=true)∧(VM s).Nodup):=by
 obtain⟨f1,f2,f3,f4,f5⟩:=hf;unfold X8;have U:=WQ (L:=s.Conductors) (nm:=(·.Name)) (acc:=[]) (B:=fun rec (v:List (List UInt8)×Int)=>XE s rec v.1 v.2) (n:=n) (fun _ _ _=>rfl) zo zq zo;have J:=WQ (L:=s.Owners) (nm:=(·.Name)) (acc:=[]++s.Conductors.map (·.Name)) (B:=fun rec (v:List (List UInt8)×Int)=>XF s rec v.1 v.2) (n:=n) (fun _ _ _=>rfl) zo (by simp;omega) zo;have e3:=WQ (L:=s.Contracts) (nm:=(·.Name)) (acc:=[]++s.Conductors.map (·.Name)++s.Owners.map (·.Name)) (B:=fun rec (v:List (List UInt8)×Int)=>XG s rec v.1 v.2) (n:=n) (fun _ _ _=>rfl) zo (by simp;omega) zo;have Y:=WQ (L:=s.Chargers) (nm:=(·.Name)) (acc:=[]++s.Conductors.map (·.Name)++s.Owners.map (·.Name)++s.Contracts.map (·.Name)) (B:=fun rec (v:List (List UInt8)×Int)=>J7 s rec v.1 v.2) (n:=n) (fun _ _ _=>rfl) zo (by simp;omega) zo;have e5:=WQ (L:=s.Bays) (nm:=(·.Name)) (acc:=[]++s.Conductors.map (·.Name)++s.Owners.map (·.Name)++s.Contracts.map (·.Name)++s.Chargers.map (·.Name)) (B:=fun rec (v:List (List UInt8)×Int)=>J8 s rec v.1 v.2) (n:=n) (fun _ _ _=>rfl) zo (by simp;omega) zo;have Z:[]++s.Conductors.map (·.Name)++s.Owners.map (·.Name)++s.Contracts.map (·.Name)++s.Chargers.map (·.Name)++s.Bays.map (·.Name)=VM s:=rfl;have G:(VM s).length≤500:=by simp only[VM,mR,RS];omega
 obtain⟨b,hb,h⟩:=lF G hw O;refine⟨b,?_,h⟩;refine(congrArg (fun q=>Option.bind q _) U).trans ?_;rw[Zy];refine(congrArg (fun q=>Option.bind q _) J).trans ?_;rw[Zy];refine(congrArg (fun q=>Option.bind q _) e3).trans ?_;rw[Zy];refine(congrArg (fun q=>Option.bind q _) Y).trans ?_;rw[Zy];refine(congrArg (fun q=>Option.bind q _) e5).trans ?_;rw[Zy,Z];exact hb
theorem mH(h:k≤1000):wi ((k:Int)-1)=(k:Int)-1:=ZM zo zo
theorem lH(hf:QaO s)(hw:∀w∈VM s,w.length≤9223372036854775807)(hn:9223372036854776000≤n):Does (X9 n s) (fun b=>b=true→mG s∧AO s∧1≤s.Conductors.length):=by
 have U:=lG hf hw hn;obtain⟨f1,f2,f3,f4,f5⟩:=hf;unfold X9;simp only[Qd,RS];by_cases g1:(1:Int)≤s.Conductors.length∧(s.Conductors.length:Int)≤16;rotate_left
 ·rw[LH g1];exact Qs (x:=false) nofun
 rw[FD g1,Zy,Bool.not_true,Ye];by_cases g2:(8:Int)<s.Owners.length
 ·rw[Vy g2];exact Qs (x:=false) nofun
 rw[KM g2,Ye];by_cases g3:(32:Int)<s.Contracts.length
 ·rw[Vy g3];exact Qs (x:=false) nofun
 rw[KM g3,Ye];by_cases g4:(16:Int)<s.Chargers.length
 ·rw[Vy g4];exact Qs (x:=false) nofun
 rw[KM g4,Ye];by_cases g5:(24:Int)<s.Bays.length
 ·rw[Vy g5];exact Qs (x:=false) nofun
 rw[KM g5,Ye];obtain⟨b,hb,U⟩:=U;rw[hb,Zy,Zy];cases b
 ·exact Qs (x:=false) nofun
 obtain⟨U,af⟩:=U rfl;rw[Bool.not_true,Ye]
 have hB:Does (YH n s) (fun b=>b=true→∀c∈s.Bays,0≤c.Charger∧c.Charger<s.Chargers.length):=by
  unfold YH;have:=Ub (B:=fun rec i=>WF n s rec i) (n:=n) (L:=s.Bays.length) (fun i b=>b=true→∀c∈s.Bays.drop i,0≤c.Charger∧c.Charger<s.Chargers.length) zo (fun rec i hi hr=>?_) 0 zo zo
  ·exact this
  unfold WF;simp only[Qd,RS];by_cases G:i<s.Bays.length;rotate_left
  ·rw[KM zo,Ye,List.drop_eq_nil_of_le zo];exact Qs fun _ c hc=>by cases hc
  obtain⟨w1,w2⟩:=hr G;rw[Vy zo,V5,Zj,List.getElem?_eq_getElem G,Zy,mH zo,w1];by_cases a1:0≤s.Bays[i].Charger∧s.Bays[i].Charger≤(s.Chargers.length:Int)-1;rotate_left
  ·rw[LH a1];exact Qs (x:=false) nofun
  rw[FD a1,Zy,Bool.not_true,Ye];refine Kw w2 fun b hb hf c hc=>?_
  rw[List.drop_eq_getElem_cons G] at hc;rcases List.mem_cons.1 hc with rfl|hc
  ·omega
  ·exact hb hf c hc
 have hG:Does (YI n s) (fun b=>b=true→(∀c∈s.Chargers,okG s.Conductors.length s.Owners.length c)∧∀c∈s.Bays,0≤c.Charger∧c.Charger<s.Chargers.length):=by
  unfold YI;have:=Ub (B:=fun rec i=>WG n s rec i) (n:=n) (L:=s.Chargers.length) (fun i b=>b=true→(∀c∈s.Chargers.drop i,okG s.Conductors.length s.Owners.length c)∧∀c∈s.Bays,0≤c.Charger∧c.Charger<s.Chargers.length) zo (fun rec i hi hr=>?_) 0 zo zo
  ·exact this
  unfold WG;simp only[Qd,RS];by_cases G:i<s.Chargers.length;rotate_left
  ·rw[KM zo,Ye,List.drop_eq_nil_of_le zo];exact Kw hB fun b hb hf=>⟨(fun c hc=>by cases hc),hb hf⟩
  obtain⟨w1,w2⟩:=hr G;rw[Vy zo,V5,Zj,List.getElem?_eq_getElem G,Zy,mH zo,mH zo,w1];obtain⟨b,hb,ak⟩:=Qc3 (n:=n) (c:=s.Chargers[i]);rw[hb,Zy];cases b
  ·exact Qs (x:=false) nofun
  obtain⟨k1,k2,k3,k4,k5⟩:=ak rfl;rw[Bool.not_true,Ye];by_cases a1:0≤s.Chargers[i].At∧s.Chargers[i].At≤(s.Conductors.length:Int)-1;rotate_left
  ·rw[LH a1];exact Qs (x:=false) nofun
  rw[FD a1,Zy,Bool.not_true,Ye];by_cases a2:0≤s.Chargers[i].Owner∧s.Chargers[i].Owner≤(s.Owners.length:Int)-1;rotate_left
  ·rw[LH a2];exact Qs (x:=false) nofun
  rw[FD a2,Zy,Bool.not_true,Zy,Ye];refine Kw w2 fun b hb hf=>?_
  obtain⟨J,O⟩:=hb hf;refine⟨fun c hc=>?_,O⟩;rw[List.drop_eq_getElem_cons G] at hc;rcases List.mem_cons.1 hc with rfl|hc
  ·unfold okG;omega
  ·exact J c hc
 have hK:Does (YY n s) (fun b=>b=true→((∀c∈s.Contracts,okK s.Owners.length c)∧s.Contracts.Pairwise fun a b=>a.Card≠b.Card)∧(∀c∈s.Chargers,okG s.Conductors.length s.Owners.length c)∧∀c∈s.Bays,0≤c.Charger∧c.Charger<s.Chargers.length):=by
  unfold YY;have:=Ub (B:=fun rec i=>WI n s rec i) (n:=n) (L:=s.Contracts.length) (fun i b=>b=true→(∀j (Y:j<s.Contracts.length),i≤j→okK s.Owners.length s.Contracts[j]∧∀k (Z:k<j),s.Contracts[k].Card≠s.Contracts[j].Card)∧(∀c∈s.Chargers,okG s.Conductors.length s.Owners.length c)∧∀c∈s.Bays,0≤c.Charger∧c.Charger<s.Chargers.length) zo (fun rec i hi hr=>?_) 0 zo zo
  ·refine Kw this fun b hb hf=>?_
   obtain⟨J,O⟩:=hb hf;refine⟨⟨fun c hc=>?_,?_⟩,O⟩
   ·obtain⟨j,Y,rfl⟩:=List.mem_iff_getElem.1 hc;exact(J j Y zo).1
   ·rw[List.pairwise_iff_getElem];exact fun k j Z Y ac=>(J j Y zo).2 k ac
  unfold WI;simp only[Qd,RS];by_cases G:i<s.Contracts.length;rotate_left
  ·rw[KM zo,Ye];exact Kw hG fun b hb hf=>⟨fun j Y ae=>absurd Y zo,hb hf⟩
  obtain⟨w1,w2⟩:=hr G;rw[Vy zo,V5,Zj,List.getElem?_eq_getElem G,Zy,mH zo];by_cases a1:0≤s.Contracts[i].Owner∧s.Contracts[i].Owner≤(s.Owners.length:Int)-1;rotate_left
  ·rw[LH a1];exact Qs (x:=false) nofun
  rw[FD a1,Zy,Bool.not_true,Ye];by_cases a2:1≤s.Contracts[i].Rank∧s.Contracts[i].Rank≤9;rotate_left
  ·rw[LH a2];exact Qs (x:=false) nofun
  rw[FD a2,Zy,Bool.not_true,Ye];by_cases a3:1≤s.Contracts[i].Card∧s.Contracts[i].Card≤1000000;rotate_left
  ·rw[LH a3];exact Qs (x:=false) nofun
  rw[FD a3,Zy,Bool.not_true,Zy,Ye];have aj:=Ub (B:=fun aa j=>WH s (i:Int) rec s.Contracts[i] aa j) (n:=n) (L:=i) (fun j b=>b=true→(∀k (Z:k<i),j≤k→s.Contracts[k].Card≠s.Contracts[i].Card)∧((∀j (Y:j<s.Contracts.length),i+1≤j→okK s.Owners.length s.Contracts[j]∧∀k (Z:k<j),s.Contracts[k].Card≠s.Contracts[j].Card)∧(∀c∈s.Chargers,okG s.Conductors.length s.Owners.length c)∧∀c∈s.Bays,0≤c.Charger∧c.Charger<s.Chargers.length)) zo (fun aa j Y ai=>?_) 0 zo zo
  ·refine Kw aj fun b hb hf=>?_
   obtain⟨J,O,h3⟩:=hb hf;refine⟨fun j Y ae=>?_,h3⟩;by_cases ad:j=i
   ·subst ad;exact⟨by unfold okK;omega,fun k Z=>J k Z zo⟩
   ·exact O j Y zo
  unfold WH;by_cases c2:j<i;rotate_left
  ·rw[KM zo,Ye,w1];exact Kw w2 fun b hb hf=>⟨fun k Z ah=>absurd Z zo,hb hf⟩
  obtain⟨v1,v2⟩:=ai c2;rw[Vy zo,V5,Zj,List.getElem?_eq_getElem (show j<s.Contracts.length by omega),Zy,v1];by_cases a4:s.Contracts[j].Card=s.Contracts[i].Card
  ·rw[Iu a4];exact Qs (x:=false) nofun
  rw[Sz a4,Ye];refine Kw v2 fun b hb hf=>?_
  obtain⟨J,O⟩:=hb hf;refine⟨fun k Z ah=>?_,O⟩;by_cases ac:k=j
  ·subst ac;exact a4
  ·exact J k Z zo
 have:=Ub (B:=fun rec i=>WJ n s rec i) (n:=n) (L:=s.Conductors.length) (fun i b=>b=true→(∀j c,i≤j→s.Conductors[j]?=some c→okC c j)∧((∀c∈s.Contracts,okK s.Owners.length c)∧s.Contracts.Pairwise fun a b=>a.Card≠b.Card)∧(∀c∈s.Chargers,okG s.Conductors.length s.Owners.length c)∧∀c∈s.Bays,0≤c.Charger∧c.Charger<s.Chargers.length) zo (fun rec i hi hr=>?_) 0 zo zo
 ·refine Kw this fun b hb hf=>?_
  obtain⟨J,⟨O,h3⟩,h4,h5⟩:=hb hf;exact⟨⟨fun i c hc=>J i c zo hc,O,h3,h4,h5,U,af⟩,⟨by omega,by omega,by omega,by omega,by omega⟩,by omega⟩
 unfold WJ;simp only[Qd,RS];by_cases G:i<s.Conductors.length;rotate_left
 ·rw[KM zo,Ye];refine Kw hK fun b hb hf=>⟨fun j c ae hc=>?_,hb hf⟩
  obtain⟨J,_⟩:=MG.1 hc;omega
 obtain⟨w1,w2⟩:=hr G;obtain⟨b,hb,hc⟩:=Qc2 (n:=n) (c:=s.Conductors[i]) (i:=i) zo;rw[Vy zo,V5,Zj,List.getElem?_eq_getElem G,Zy,hb,Zy,w1];cases b
 ·exact Qs (x:=false) nofun
 rw[Bool.not_true,Ye];refine Kw w2 fun b hb hf=>?_
 obtain⟨J,O⟩:=hb hf;refine⟨fun j c ae ab=>?_,O⟩;by_cases ad:j=i
 ·subst ad;rw[List.getElem?_eq_getElem G] at ab;cases ab;exact hc rfl
 ·exact J j c zo ab
theorem QaP:Kr 36893488147419103232=some true:=by kernel_rfl
theorem Qe0:Does (GY n s) (fun b=>b=true→QaO s):=by
 unfold GY;simp only[Qd,RS];by_cases G:(s.Conductors.length:Int)≤40;rotate_left
 ·rw[UI G];exact Qs (x:=false) nofun
 by_cases J:(s.Owners.length:Int)≤40;rotate_left
 ·rw[Wu G,UI J];exact Qs (x:=false) nofun
 by_cases O:(s.Contracts.length:Int)≤40;rotate_left
 ·rw[Wu G,Wu J,UI O];exact Qs (x:=false) nofun
 by_cases U:(s.Chargers.length:Int)≤40;rotate_left
 ·rw[Wu G,Wu J,Wu O,UI U];exact Qs (x:=false) nofun
 by_cases Y:(s.Bays.length:Int)≤40;rotate_left
 ·rw[Wu G,Wu J,Wu O,Wu U,UI Y];exact Qs (x:=false) nofun
 rw[Wu G,Wu J,Wu O,Wu U,Wu Y];exact Qs (x:=true) fun _=>by unfold QaO;omega
theorem Qe1{G:List Int}(hl:G.length≤9223372036854775807)(hn:9223372036854776000≤n):Does (Jm n s G) (fun b=>b=true→(∀a∈G,0≤a∧a≤80)∧G.length=s.Chargers.length):=by
 unfold Jm;have:=Ub (B:=fun rec i=>VF s G rec i) (n:=n) (L:=G.length) (fun i b=>b=true→(∀a∈G.drop i,0≤a∧a≤80)∧G.length=s.Chargers.length) hl (fun rec i hi Z=>?_) 0 zo zo
 ·exact this
 unfold VF;simp only[Qd,RS];by_cases U:i<G.length;rotate_left
 ·rw[KM zo,Ye,List.drop_eq_nil_of_le zo];refine Qs fun h=>⟨fun a J=>(by cases J),?_⟩
  exact Int.ofNat_inj.1 (by simpa [Qq] using h)
 obtain⟨w1,w2⟩:=Z U;rw[Vy zo,V5,Zj,List.getElem?_eq_getElem U,Zy,Zy,w1];by_cases O:G[i]<0
 ·rw[Vy O];exact Qs (x:=false) nofun
 by_cases Y:80<G[i]
 ·rw[KM O,Vy Y];exact Qs (x:=false) nofun
 rw[KM O,Ye,KM Y,Zy,Ye];refine Kw w2 fun b hb hf=>?_
 obtain⟨g1,g2⟩:=hb hf;refine⟨fun a J=>?_,g2⟩;rw[List.drop_eq_getElem_cons U] at J;rcases List.mem_cons.1 J with rfl|J
 ·omega
 ·exact g1 a J
theorem QaQ(n:Nat)(x y:Int):∃r,Kq n x y=some r:=by
 unfold Kq JN;simp only[Zy,Qq];cases h1:(x==x)<;>cases h2:(y==y)<;>simp[cond]<;>(repeat' split)<;>exact⟨_,rfl⟩
structure Ee(N m:Nat)(T:List Int)(l0 l:List Int):Prop where
 len:l.length=N
 perm:(l.take m).Perm (l0.take m)
def Pls(T:List Int)(l:List Int):Prop:=∀v∈l,∃x,Za T v=some x
theorem Ee.pls{l0 l:List Int}(h:Ee N m T l0 l)(hp:Pls T (l0.take m)):Pls T (l.take m):=fun v G=>hp v (h.perm.mem_iff.1 G)
theorem BJ{l:List Int}{i:Int}(J:l.length=N)(O:m≤N)(h0:0≤i)(U:i<m):∃(h:i.toNat<l.length),Jw N m l i=some l[i.toNat]∧l[i.toNat]∈l.take m:=by
 have G:i.toNat<l.length:=by omega
 refine⟨G,?_,?_⟩
 ·unfold Jw;rw[←J,Nat.beq_refl,V5];unfold Za;rw[if_neg zo,List.getElem?_take,if_pos zo,List.getElem?_eq_getElem G]
 ·rw[List.mem_iff_getElem?];exact⟨i.toNat,by rw[List.getElem?_take,if_pos zo,List.getElem?_eq_getElem G]⟩
theorem lI{l0 l:List Int}{j:Nat}(h:Ee N m T l0 l)(Z:m≤N)(hi:i<m)(Y:j<m)(h1:i<l.length)(h2:j<l.length):Ee N m T l0 ((l.set i l[j]).set j l[i]):=by
 refine⟨by simp[h.len],?_⟩;rw[List.take_set,List.take_set];have U:i<(l.take m).length:=by simp;omega
 have G:j<(l.take m).length:=by simp;omega
 have J:(l.take m)[j]=l[j]:=by simp
 have O:(l.take m)[i]=l[i]:=by simp
 have:=List.set_set_perm U G;rw[J,O] at this;exact this.trans h.perm
theorem bF{l0 l:List Int}{i j:Int}{k:List Int→Option R}{Q:R→Prop}(h:Ee N m T l0 l)(J:m≤N)(hi:0≤i)(O:i<m)(U:0≤j)(G:j<m)(Y:∀l',Ee N m T l0 l'→Does (k l') Q) :
  Does ((Jw N m l j).bind fun x=>(Jw N m l i).bind fun y=>(Jw N m l i).bind fun _=>(Jw N m (List.set l (Int.toNat i) x) j).bind fun _=>k (List.set (List.set l (Int.toNat i) x) (Int.toNat j) y)) Q:=by
 obtain⟨h1,h2,_⟩:=BJ h.len J hi O;obtain⟨h3,Z,_⟩:=BJ h.len J U G;obtain⟨h5,h6,_⟩:=BJ (l:=List.set l (Int.toNat i) l[j.toNat]) (N:=N) (by simp[h.len]) J U G;simp only[h2,Z,h6,Zy];exact Y _ (lI h J zo zo h1 h3)
section
variable {n N m:Nat}{T l0:List Int}
def mJ(n N m:Nat)(T l0:List Int):Prop:=m≤N∧N≤4611686018427387904∧m+100≤n∧Pls T (l0.take m)
theorem lJ{l:List Int}{v:Int}(h:Pls T l)(G:v∈l):∃x,Za T v=some x:=h v G
theorem lK{l:List Int}{i j:Int}{k:Int→Option R}{Q:R→Prop}(g:mJ n N m T l0)(h:Ee N m T l0 l)(hi:0≤i)(J:i<m)(O:0≤j)(G:j<m)(q:Nat)(Y:∀r,Does (k r) Q) :
  Does ((Jw N m l i).bind fun x5=>(Jw N m l j).bind fun x6=>(Za T x6).bind fun x7=>(Za T x5).bind fun x8=>(Kq q x7 x8).bind k) Q:=by
 obtain⟨_,h2,p2⟩:=BJ h.len g.1 hi J;obtain⟨_,h4,p4⟩:=BJ h.len g.1 O G;obtain⟨u,hu⟩:=lJ (h.pls g.2.2.2) p2;obtain⟨v,Z⟩:=lJ (h.pls g.2.2.2) p4;obtain⟨r,U⟩:=QaQ q v u;simp only[h2,h4,hu,Z,U,Zy];exact Y r
theorem jT{l:List Int}{a b:Int}(g:mJ n N m T l0)(h:Ee N m T l0 l)(ha:0≤a)(ac:a≤b)(hb:b≤m) :
  Does (Zw n a b N m l T) (fun r=>Ee N m T l0 r):=by
 obtain⟨hm,hN,hn,hp⟩:=g;have g:mJ n N m T l0:=⟨hm,hN,hn,hp⟩;unfold Zw;refine Vo (Q:=fun _ r=>Ee N m T l0 r) (μ:=fun v:List Int×Int=>(b-v.2).toNat) (Inv:=fun v:List Int×Int=>Ee N m T l0 v.1∧a+1≤v.2) ?_ ⟨h,by rw[ZM zo zo];omega⟩ (by simp only;rw[ZM zo zo];omega);rintro rec ⟨l1,i⟩ ⟨Z,h2⟩ ih;simp only at Z h2;show Does (ZE n a b N m T rec l1 i) _;unfold ZE;refine Kb (fun hc=>?_) (fun hc=>Qs Z);have hc:i<b:=by simpa [QD] using hc
 refine Vo (Q:=fun _ r=>Ee N m T l0 r) (μ:=fun v:List Int×Int=>(v.2-a).toNat) (Inv:=fun v:List Int×Int=>Ee N m T l0 v.1∧a≤v.2∧v.2≤i) ?_ ⟨Z,by omega,Int.le_refl _⟩ (by simp only;omega);rintro G ⟨l2,j⟩ ⟨U,h4,h5⟩ aa;simp only at U h4 h5;show Does (ZC n a N m T i rec G l2 j) _;unfold ZC
 have O:Does (rec (l2,wi (i+1))) (fun r=>Ee N m T l0 r):=by
  refine ih _ ⟨U,?_⟩ ?_
  ·simp only;rw[ZM zo zo];omega
  ·simp only;rw[ZM zo zo];omega
 refine Vn (Q:=fun j3=>j3=true→a<j) (Kb (fun J=>?_) (fun _=>Qs zq)) (fun j3 ab=>Kb (fun hq=>?_) (fun _=>O))
 ·have J:a<j:=by simpa [QD] using J
  rw[ZM (x:=j-1) zo zo];exact lK g U zo zo zo zo n (fun r=>Qs (fun _=>J))
 ·have:=ab hq;rw[ZM (x:=j-1) zo zo];exact bF (k:=fun l'=>G (l',j-1)) U hm zo zo zo zo (fun l' Y=>aa (l',j-1) ⟨Y,by simp only;omega,by simp only;omega⟩ (by simp only;omega))
end
def lS(s:Qo):Nat→Int→Nat→Bool
|0,_,_=>false
|k+1,c0,c=>if c0<0 then false else if c0=(c:Int) then true else match s.Conductors[c0.toNat]? with|some x=>lS s k x.Up c|none=>false
def Uy(s:Qo)(c0:Int)(c:Nat):Bool:=lS s (c0+1).toNat c0 c
theorem jU{s:Qo}(h:mG s){c:Nat}:∀(k1 G:Nat) (c0:Int),(c0+1).toNat≤k1→(c0+1).toNat≤G→lS s k1 c0 c=lS s G c0 c
|0,0,_,_,_=>rfl
|0,G+1,c0,J,O=>by simp only[lS];rw[if_pos zo]
|k1+1,0,c0,J,O=>by simp only[lS];rw[if_pos zo]
|k1+1,G+1,c0,J,O=>by
  simp only[lS];split
  ·rfl
  split
  ·rfl
  rename_i Z _;cases hx:s.Conductors[c0.toNat]? with
 |none=>rfl
 |some x =>
   obtain⟨⟨Y,U⟩,_⟩:=h.c _ _ hx
   have hu:x.Up<c0:=by
    by_cases e:c0.toNat=0
    ·have:=Y e;omega
    ·have:=(U zo).2;omega
   exact jU h k1 G x.Up zo zo
theorem Ef(h:c0<0):Uy s c0 c=false:=by
 unfold Uy;rw[show(c0+1).toNat=0 from by omega];rfl
theorem zY(h:0≤c0):Uy s c0 c0.toNat=true:=by
 unfold Uy;rw[show(c0+1).toNat=c0.toNat+1 from by omega];simp only[lS];rw[if_neg zo,if_pos zo]
theorem mK(h:mG s){x:ZU}(h0:0≤c0)(O:s.Conductors[c0.toNat]?=some x):-1≤x.Up∧x.Up<c0:=by
 obtain⟨⟨J,G⟩,_⟩:=h.c _ _ O;by_cases e:c0.toNat=0
 ·have:=J e;omega
 ·have:=G zo;omega
theorem BK(h:mG s){x:ZU}(h0:0≤c0)(G:s.Conductors[c0.toNat]?=some x)(hne:c0≠(c:Int)):Uy s c0 c=Uy s x.Up c:=by
 obtain⟨O,J⟩:=mK h h0 G;unfold Uy;rw[show(c0+1).toNat=c0.toNat+1 from by omega];simp only[lS];rw[if_neg zo,if_neg hne,G];exact jU h _ _ _ zo zo
theorem y8{s:Qo}(h:mG s){c:Nat}:∀(k:Nat) (c0:Int),(c0+1).toNat≤k→Uy s c0 c=true→(c:Int)≤c0
|0,c0,J,hw=>by rw[Ef zo] at hw;cases hw
|k+1,c0,J,hw=>by
  by_cases h0:c0<0
  ·rw[Ef h0] at hw;cases hw
  by_cases G:c0=(c:Int)
  ·omega
  cases hx:s.Conductors[c0.toNat]? with
 |none =>
   unfold Uy at hw;rw[show(c0+1).toNat=c0.toNat+1 from by omega] at hw;simp only[lS] at hw;rw[if_neg h0,if_neg G,hx] at hw;cases hw
 |some x =>
   rw[BK h zo hx G] at hw;obtain⟨_,O⟩:=mK h zo hx;have:=y8 h k x.Up zo hw;omega
def BV(G:Int)(p:Nat):Bool:=!Qq (JY .i64 G (WZ .i64 1 (p:Int))) 0
def ctr(s:Qo)(A:List Int)(c p i:Nat):Int:=match s.Chargers[i]?,A[i]? with|some g,some a=>if Uy s g.At c&&BV g.Phases p then a else 0|_,_=>0
def XU(s:Qo)(A:List Int)(c p:Nat):Nat→Int|0=>0|i+1=>XU s A c p i+ctr s A c p i
theorem QaR(G:∀a∈A,0≤a∧a≤80)(c p i:Nat):0≤ctr s A c p i∧ctr s A c p i≤80:=by
 unfold ctr;split
 ·rename_i g a O J;have:=G a (List.mem_of_getElem? J);split<;>omega
 ·omega
theorem Eg{s:Qo}{A:List Int}(G:∀a∈A,0≤a∧a≤80)(c p:Nat):∀k:Nat,0≤XU s A c p k∧XU s A c p k≤80*(k:Int)
|0=>by simp[XU]
|k+1=>by
  have O:=Eg (s:=s) G c p k;have J:=QaR (s:=s) G c p k;simp only[XU];omega
def nt(b0 b1 b2:Bool)(a:Int)(x:Int×Int×Int):Int×Int×Int:=(if b0 then x.1+a else x.1,if b1 then x.2.1+a else x.2.1,if b2 then x.2.2+a else x.2.2)
theorem Qe3{b0 b1 b2:Bool}{a:Int}{l:List (Int×Int×Int)}{x:Int×Int×Int}(G:l[k]?=some x)(O:0≤a∧a≤80)(Y:0≤x.1∧x.1≤100000)(U:0≤x.2.1∧x.2.1≤100000)(J:0≤x.2.2∧x.2.2≤100000) :
  cond b0
   (cond b1
    (cond b2
     (some (List.set (List.set (List.set l k (wi (x.1+a),x.2.1,x.2.2)) k (wi (x.1+a),wi (x.2.1+a),x.2.2)) k (wi (x.1+a),wi (x.2.1+a),wi (x.2.2+a))))
     (some (List.set (List.set l k (wi (x.1+a),x.2.1,x.2.2)) k (wi (x.1+a),wi (x.2.1+a),x.2.2))))
    (cond b2
     (some (List.set (List.set l k (wi (x.1+a),x.2.1,x.2.2)) k (wi (x.1+a),x.2.1,wi (x.2.2+a))))
     (some (List.set l k (wi (x.1+a),x.2.1,x.2.2)))))
   (cond b1
    (cond b2
     (some (List.set (List.set l k (x.1,wi (x.2.1+a),x.2.2)) k (x.1,wi (x.2.1+a),wi (x.2.2+a))))
     (some (List.set l k (x.1,wi (x.2.1+a),x.2.2))))
    (cond b2
     (some (List.set l k (x.1,x.2.1,wi (x.2.2+a))))
     (some l)))=some (l.set k (nt b0 b1 b2 a x)):=by
 have hid:l.set k x=l:=by
  apply List.ext_getElem?;intro j;rw[List.getElem?_set];split
  ·rename_i e;subst e;have:=(MG.1 G).1;rw[if_pos this,G]
  ·rfl
 rw[ZM (x:=x.1+a) zo zo,ZM (x:=x.2.1+a) zo zo,ZM (x:=x.2.2+a) zo zo];cases b0<;>cases b1<;>cases b2<;>simp[nt,List.set_set,hid]
theorem qj(b:Bool)(x a:Int):(if b=true then x+a else x)=x+(if b=true then a else 0):=by cases b<;>simp
def LdI(s:Qo)(A:List Int)(k:Nat)(l:List (Int×Int×Int)):Prop:=l.length=s.Conductors.length∧∀c<s.Conductors.length,l[c]?=some (XU s A c 0 k,XU s A c 1 k,XU s A c 2 k)
def LdJ(s:Qo)(A:List Int)(k:Nat)(g:Kj)(a c':Int)(l:List (Int×Int×Int)):Prop:=l.length=s.Conductors.length∧∀c<s.Conductors.length,l[c]? = some (XU s A c 0 k+(if Uy s g.At c&&!Uy s c' c&&BV g.Phases 0 then a else 0),XU s A c 1 k+(if Uy s g.At c&&!Uy s c' c&&BV g.Phases 1 then a else 0),XU s A c 2 k+(if Uy s g.At c&&!Uy s c' c&&BV g.Phases 2 then a else 0))
theorem uN(hok:mG s)(ab:AO s)(ha:∀a∈A,0≤a∧a≤80)(ae:A.length=s.Chargers.length)(hn:9223372036854776000≤n) :
  Does (Vv n s A) (fun r=>r.2=0∧LdI s A s.Chargers.length r.1):=by
 obtain⟨f1,f2,f3,f4,f5⟩:=ab;unfold Vv;simp only[Qd,RS];rw[show Pi (s.Conductors.length:Int) (s.Conductors.length:Int) 24=true from by unfold Pi;simp;omega,V5,Int.toNat_natCast]
 refine Vo (B:=fun rec (v:Int×List (Int×Int×Int))=>JM n s A rec v.1 v.2) (Q:=fun _ r=>r.2=0∧LdI s A s.Chargers.length r.1) (fun v=>s.Chargers.length-v.1.toNat)
  (fun v=>∃i:Nat,v.1=(i:Int)∧i≤s.Chargers.length∧LdI s A i v.2) ?_ ⟨0,rfl,Nat.zero_le _,by simp,fun c hc=>by rw[List.getElem?_replicate,if_pos hc];rfl⟩ (by simp only;omega)
 rintro rec ⟨q,l⟩ ⟨i,hi,ad,hb⟩ G;simp only at hi hb G ⊢;subst hi;unfold JM;simp only[Qd,RS,Int.toNat_natCast] at G ⊢;by_cases c1:i<s.Chargers.length;rotate_left
 ·rw[KM zo,Ye];have:i=s.Chargers.length:=by omega
  subst this;exact Qs ⟨rfl,hb⟩
 rw[Vy zo,V5,Zj,List.getElem?_eq_getElem c1,Zy];obtain⟨⟨a1,a2⟩,_⟩:=hok.g _ (List.getElem_mem c1);have c2:i<A.length:=by omega
 have hA:=ha _ (List.getElem_mem c2)
 refine Vo (B:=fun O (v:Int×List (Int×Int×Int))=>JL s A (i:Int) rec s.Chargers[i] O v.1 v.2) (Q:=fun _ r=>r.2=0∧LdI s A s.Chargers.length r.1) (fun v=>(v.1+1).toNat)
  (fun v=>-1≤v.1∧v.1<s.Conductors.length∧(∀c,Uy s v.1 c=true→Uy s s.Chargers[i].At c=true)∧LdJ s A i s.Chargers[i] A[i] v.1 v.2) ?_ ⟨by simp only;omega,a2,fun c h=>h,hb.1,fun c hc=>?_⟩ (by simp only;omega)
 rotate_left
 ·rw[hb.2 c hc];simp only;cases Uy s s.Chargers[i].At c<;>simp
 rintro O ⟨c,l⟩ ⟨b1,b2,b3,U⟩ J;simp only at b1 b2 b3 U J ⊢;unfold JL;by_cases c3:0≤c;rotate_left
 ·rw[UI zo,Ye,ZM zo zo];refine G _ ⟨i+1,by simp only;omega,c1,U.1,fun d Z=>?_⟩ (by simp only;omega);rw[U.2 d Z];have hz:=Ef (s:=s) (c:=d) (show c<0 by omega);simp only[XU,ctr,List.getElem?_eq_getElem c1,List.getElem?_eq_getElem c2,hz,Bool.not_false,Bool.and_true]
 ·rw[Wu c3,V5];have Y:c.toNat<s.Conductors.length:=by omega
  have ac:=U.2 c.toNat Y;have aa:(c:Int)=((c.toNat:Nat):Int):=by omega
  rw[show Za l c=l[c.toNat]? from by rw[aa,Zj,Int.toNat_natCast],ac,Zy,Zj,List.getElem?_eq_getElem c2,Zy];have r0:=Eg (s:=s) ha c.toNat 0 i;have r1:=Eg (s:=s) ha c.toNat 1 i;have r2:=Eg (s:=s) ha c.toNat 2 i;have hs:=Qe3 (b0:=BV s.Chargers[i].Phases 0) (b1:=BV s.Chargers[i].Phases 1) (b2:=BV s.Chargers[i].Phases 2) ac hA (by simp only;split<;>omega) (by simp only;split<;>omega) (by simp only;split<;>omega);unfold BV at hs;rw[show((0:Nat):Int)=0 from rfl,show((1:Nat):Int)=1 from rfl,show((2:Nat):Int)=2 from rfl] at hs;have hC:s.Conductors[c.toNat]?=some s.Conductors[c.toNat]:=List.getElem?_eq_getElem Y;refine Vn (Q:=fun l'=>l'=_) ⟨_,hs,rfl⟩ ?_;rintro _ rfl;rw[show Za s.Conductors c=s.Conductors[c.toNat]? from by rw[aa,Zj,Int.toNat_natCast],hC,Zy];obtain⟨u1,u2⟩:=mK hok c3 hC;refine J _ ⟨u1,by simp only;omega,fun d Z=>?_,by simp[U.1],fun d Z=>?_⟩ (by simp only;omega)
  ·by_cases e:c=(d:Int)
   ·have:=y8 hok _ _ (Yf _) Z;simp only at this;omega
   ·exact b3 d (by rw[BK hok c3 hC e];exact Z)
  ·rw[List.getElem?_set];by_cases e:c.toNat=d
   ·subst e;rw[if_pos rfl,if_pos (by rw[U.1];exact Y)];have e1:Uy s c c.toNat=true:=zY c3;have e2:Uy s s.Chargers[i].At c.toNat=true:=b3 _ e1
    have e3:Uy s s.Conductors[c.toNat].Up c.toNat=false:=by
     cases hq:Uy s s.Conductors[c.toNat].Up c.toNat with
    |false=>rfl
    |true=>have:=y8 hok _ _ (Yf _) hq;omega
    simp only[nt,BV,e1,e2,e3,Bool.not_true,Bool.not_false,Bool.and_false,Bool.false_and,Bool.true_and,Bool.and_true,Bool.false_eq_true,if_false,Int.add_zero];congr 1;exact Prod.ext (qj _ _ _) (Prod.ext (qj _ _ _) (qj _ _ _))
   ·rw[if_neg e,U.2 d Z,BK hok c3 hC (fun e2=>e zo)]
def zC:Z0:=⟨0,0,0,0,0⟩
def Rl(c:Z0):Int:=K9 c.Loss c.Den
def Ns(c:Z0)(a:Int):Prop:=Rl c*(c.Most-c.Ambient)<c.Gain*a*a
theorem Tq(J:lo≤x)(G:x≤hi):Ki n x lo hi=some true:=by
 unfold Ki;rw[Wu J,V5,Wu G]
theorem Eh{c:Z0}:Does (Z8 n ⟨c,0⟩) (fun b=>(b=true→c=zC)∧(b=false→c≠zC)):=by
 unfold Z8;refine Qs ?_;obtain⟨a1,a2,a3,Z,a5⟩:=c;simp only[TA,zC,Qq];constructor
 ·intro h;simp at h;obtain⟨Y,J,G,O,U⟩:=h;rw[Y,J,G,O,U]
 ·intro h e;simp only[Z0.mk.injEq] at e;obtain⟨rfl,rfl,rfl,rfl,rfl⟩:=e;simp at h
theorem zZ{c:Z0}(h:okW c):JV n c=some true:=by
 unfold JV;rcases h with rfl|⟨⟨⟨h1,Y⟩,⟨h3,h4⟩,⟨h5,Z⟩,⟨h7,U⟩,O,G⟩,J⟩
 ·rfl
 ·rw[Tq h1 Y,Zy,V5,Vy J,V5,Wu h4,V5,Tq h5 Z,Zy,V5,Tq h7 U,Zy,V5,Tq O G,Zy,Zy];cases TA _<;>rfl
theorem Dh{a b y:Int}(U:0≤a)(O:a≤x)(G:0≤b)(J:b≤y):0≤a*b∧a*b≤x*y:=⟨Int.mul_nonneg U G,Int.mul_le_mul O J G zo⟩
theorem Ah{c:Z0}(h:okW c)(hn:2000≤n) :
    Does (Vl n c) (fun r=>r.2=0∧0≤r.1∧r.1≤1000∧(c≠zC→∀a,r.1<a→a≤1000→Ns c a)):=by
  unfold Vl;rw[zZ h,Zy,Bool.not_true,cond_false];refine Vn Eh (fun b hb=>Kb (fun e=>Qs ⟨rfl,by simp,by simp,fun hc=>absurd (hb.1 e) hc⟩) (fun e=>?_));have hz:=hb.2 e;rcases h with h|⟨⟨⟨h1,h2⟩,⟨h3,h4⟩,⟨h5,h6⟩,⟨h7,h8⟩,h9,ab⟩,aa⟩
  · exact absurd h hz
  have hl:0≤Rl c∧Rl c≤1000:=by unfold Rl K9;split<;>omega
  show Does ((Yz n ⟨c,0⟩).bind _) _;unfold Yz;rw[Zy];show Does ((Q0 (fun G (v:Int×Int)=>Yl c (Rl c) G v.1 v.2) n (0,1000)).bind _) _;have hR:=Dh hl.1 hl.2 (show 0≤c.Most-c.Ambient by omega) (show c.Most-c.Ambient≤200000 by omega);refine Vn (Q:=fun r=>0≤r∧r≤1000∧∀a,r<a→a≤1000→Ns c a) ?_ (fun r O=>Qs ⟨rfl,O.1,O.2.1,fun _=>O.2.2⟩);refine Vo (Q:=fun _ r=>0≤r∧r≤1000∧∀a,r<a→a≤1000→Ns c a) (μ:=fun v:Int×Int=>(v.2-v.1).toNat) (Inv:=fun v:Int×Int=>0≤v.1∧v.1≤v.2∧v.2≤1000∧∀a,v.2<a→a≤1000→Ns c a) ?_ ⟨by simp,by simp,by simp,fun a Y q2=>by simp only at Y;omega⟩ (by simp only;omega);rintro rec ⟨lo,hi⟩ ⟨Z,i2,i3,i4⟩ ih;simp only at Z i2 i3 i4;show Does (Yl c (Rl c) rec lo hi) _;unfold Yl;refine Kb (fun hc=>?_) (fun hc=>?_);rotate_left
  · have:lo=hi:=by
       have:¬lo<hi:=by simpa [QD] using hc
       omega
    exact Qs ⟨Z,by omega,by rw[this];exact i4⟩
  have hc:lo<hi:=by simpa [QD] using hc
  rw[ZM (x:=hi-lo) (by omega) (by omega),ZM (x:=hi-lo+1) (by omega) (by omega),Int.tdiv_eq_ediv_of_nonneg (by omega)];have J:∃m,lo+(hi-lo+1) / 2=m:=⟨_,rfl⟩;obtain⟨m,hm⟩:=J;rw[ZM (x:=(hi-lo+1) / 2) (by omega) (by omega),hm,ZM (x:=m) (by omega) (by omega)];have g1:=Dh h5 h6 (show 0≤m by omega) (show m≤1000 by omega);have g2:=Dh g1.1 g1.2 (show 0≤m by omega) (show m≤1000 by omega);rw[ZM (x:=c.Most-c.Ambient) (by omega) (by omega),ZM (x:=c.Gain*m) (by omega) (by omega),ZM (x:=c.Gain*m*m) (by omega) (by omega),ZM (x:=Rl c*(c.Most-c.Ambient)) (by omega) (by omega),ZM (x:=m-1) (by omega) (by omega)];refine Kb (fun U=>ih (m,hi) ⟨by simp only;omega,by simp only;omega,i3,i4⟩ (by simp only;omega)) (fun U=>ih (lo,m-1) ⟨Z,by simp only;omega,by simp only;omega,fun a Y q2=>?_⟩ (by simp only;omega));have U:¬c.Gain*m*m≤Rl c*(c.Most-c.Ambient):=by simpa [leI] using U
  simp only at Y;unfold Ns;have k1:c.Gain*m≤c.Gain*a:=Int.mul_le_mul_of_nonneg_left (by omega) h5;have k2:c.Gain*m*m≤c.Gain*a*a:=Int.mul_le_mul k1 (by omega) (by omega) (by have:=Int.mul_nonneg h5 (show 0≤a by omega);omega);omega
theorem ql{f:Int}{l:List Int}(U:l.length≤10)(Y:2000≤n)(hf:0≤f∧f≤1000)(h:∀x∈l,0≤x∧x≤1000):Does (Jj n f l) (fun r=>0≤r∧r≤1000):=by
  unfold Jj;refine Vo (Q:=fun _ r=>0≤r∧r≤1000) (μ:=fun v:Int×Int=>l.length-v.2.toNat) (Inv:=fun v:Int×Int=>(0≤v.1∧v.1≤1000)∧∃i:Nat,v.2=(i:Int)∧i≤l.length) ?_ ⟨hf,0,rfl,Nat.zero_le _⟩ (by simp only;omega);rintro rec ⟨x,q⟩ ⟨G,i,hi,J⟩ O;simp only at G hi;subst hi;show Does (Wz l rec x i) _;unfold Wz;simp only[Qd,List.length_map];refine Kb (fun hc=>?_) (fun hc=>Qs G)
  have hc:i<l.length:=by
     have:(i:Int)<l.length:=by simpa [QD] using hc
     omega
  rw[Zj,List.getElem?_eq_getElem hc,Zy];have Z:=h _ (List.getElem_mem hc);refine O _ ⟨by simp only;unfold K9;split<;>omega,i+1,by simp only;rw[ZM (by omega) (by omega)];omega,by omega⟩ ?_;simp only;rw[ZM (by omega) (by omega)];omega
theorem Di{c:ZU}(h:okC c i)(O:2000≤n):Does (KE n c) (fun r=>0≤r∧r≤1000):=by
 obtain⟨_,⟨l1,l2⟩,⟨l3,l4⟩,U,hW⟩:=h;unfold KE;refine Vn (Ah hW O) (fun r G=>?_);obtain⟨e1,e2,e3,_⟩:=G;rw[e1,show(!Qq 0 0)=false from rfl,Ye,Zy];refine Kb (fun hc=>?_) (fun hc=>?_)
 ·refine Vn (ql zq O ⟨by omega,l2⟩ ?_) (fun r G=>Qs G);intro x J;simp at J;rcases J with rfl|rfl<;>omega
 ·refine Vn (ql zq O ⟨by omega,l2⟩ ?_) (fun r G=>Qs G);intro x J;simp at J;have:0≤c.Fuse.Rated∧c.Fuse.Rated≤1000:=by rcases U with⟨Y,Z⟩|⟨⟨Y,Z⟩,h3⟩<;>omega
  rcases J with rfl|rfl|rfl<;>omega
def LB(s:Qo)(A:List Int):Prop:=A.length=s.Chargers.length∧∀a∈A,0≤a∧a≤80
theorem Ai(hok:mG s)(G:AO s)(Y:1≤s.Conductors.length)(hA:A.length≤1000000)(hn:9223372036854776000≤n) :
    Does (XC n s A) (fun r=>(¬LB s A∧r.2=1)∨(LB s A∧r.2=0∧LdI s A s.Chargers.length r.1)):=by
  unfold XC;rw[Ed hok G Y (by omega),Zy,Bool.not_true,cond_false,Zy];simp only[Qd,List.length_map];by_cases U:A.length=s.Chargers.length;rotate_left
  · rw[show(!Qq (A.length:Int) (s.Chargers.length:Int))=true from by simp[Qq];omega,cond_true]
    exact Qs (.inl ⟨fun h=>U h.1,rfl⟩)
  rw[U,show(!Qq (s.Chargers.length:Int) (s.Chargers.length:Int))=false from by simp[Qq],cond_false];refine Vo (B:=fun rec (v:Int)=>Ji n s A rec v) (Q:=fun _ r=>(¬LB s A∧r.2=1)∨(LB s A∧r.2=0∧LdI s A s.Chargers.length r.1)) (μ:=fun v:Int=>A.length-v.toNat) (Inv:=fun v:Int=>∃i:Nat,v=(i:Int)∧i≤A.length∧∀j (O:j<A.length),j<i→0≤A[j]∧A[j]≤80) ?_ ⟨0,rfl,Nat.zero_le _,fun j _ h=>by omega⟩ (by omega);rintro rec q ⟨i,rfl,hi,J⟩ ih;unfold Ji;simp only[Qd,List.length_map];refine Kb (fun hc=>?_) (fun hc=>?_)
  · have hc:i<A.length:=by
       have:(i:Int)<A.length:=by simpa [QD] using hc
       omega
    rw[Zj,List.getElem?_eq_getElem hc,Zy];by_cases hb:0≤A[i]∧A[i]≤80
    · rw[KM (by omega),cond_false,KM (by omega),Zy,cond_false,ZM (by omega) (by omega)]
      refine ih _ ⟨i+1,by omega,hc,fun j O aa=>?_⟩ (by omega);by_cases e:j=i
      · subst e;exact hb
      · exact J j O (by omega)
    · have:cond (QD A[i] 0) (some true) (some (QD 80 A[i]))=some true:=by
        by_cases e:A[i]<0
        · rw[Vy e,cond_true]
        · rw[KM e,cond_false,Vy (by omega)]
      rw[this,Zy,cond_true];exact Qs (.inl ⟨fun h=>hb (h.2 _ (List.getElem_mem hc)),rfl⟩)
  · have hc:¬i<A.length:=by
       have:¬(i:Int)<A.length:=by simpa [QD] using hc
       omega
    have Z:∀a∈A,0≤a∧a≤80:=by
      intro a h;obtain⟨j,O,rfl⟩:=List.getElem_of_mem h;exact J j O (by omega)
    exact Kw (uN hok G Z U hn) (fun r hr=>.inr ⟨⟨U,Z⟩,hr⟩)
def lL(n:Nat)(s:Qo)(A:List Int)(v:Zg):Prop:=∃(c p:Nat) (h:c<s.Conductors.length) (G:Int),p<3∧v=⟨(c:Int),(p:Int),XU s A c p s.Chargers.length⟩∧KE n s.Conductors[c]=some G∧G<XU s A c p s.Chargers.length
def Ig(n:Nat)(s:Qo)(A:List Int)(k:Nat):Prop:=∀(c p:Nat) (h:c<s.Conductors.length) (G:Int),c<k→p<3→KE n s.Conductors[c]=some G→XU s A c p s.Chargers.length≤G
theorem Nu(hok:mG s)(O:AO s)(ab:1≤s.Conductors.length)(hA:A.length≤1000000)(hn:9223372036854776000≤n) :
    Does (Jk n s A) (fun r=>(¬LB s A∧r=(⟨0,0,0⟩,false,1))∨(LB s A∧r=(⟨0,0,0⟩,false,0)∧Ig n s A s.Conductors.length)∨(LB s A∧r.2=(true,0)∧lL n s A r.1)):=by
  unfold Jk;refine Vn (Ai hok O ab hA hn) ?_;rintro⟨L,e⟩ (⟨h1,h2⟩|⟨h1,h2,h3⟩)
  · simp only at h2
    subst h2;exact Qs (.inl ⟨h1,rfl⟩)
  simp only at h2 h3;subst h2;rw[show(!Qq ((L,(0:Int)).2) 0)=false from rfl,cond_false];refine Kw (Q:=fun r=>(r=((⟨0,0,0⟩:Zg),false,0)∧Ig n s A s.Conductors.length)∨(r.2=(true,0)∧lL n s A r.1)) ?_ (fun r hr=>by rcases hr with h|h;exact .inr (.inl ⟨h1,h⟩);exact .inr (.inr ⟨h1,h⟩));refine Vo (B:=fun rec (v:Int)=>WA n s (L,0) rec v) (Q:=fun _ r=>(r=((⟨0,0,0⟩:Zg),false,0)∧Ig n s A s.Conductors.length)∨(r.2=(true,0)∧lL n s A r.1)) (μ:=fun v:Int=>s.Conductors.length-v.toNat) (Inv:=fun v:Int=>∃i:Nat,v=(i:Int)∧i≤s.Conductors.length∧Ig n s A i) ?_ ⟨0,rfl,Nat.zero_le _,fun c p h J hc=>by omega⟩ (by have:=O.1;omega);rintro rec q ⟨i,rfl,hi,U⟩ ih;unfold WA;simp only[Qd,List.length_map];refine Kb (fun hc=>?_) (fun hc=>?_);rotate_left
  · have hc:¬i<s.Conductors.length:=by
       have:¬(i:Int)<s.Conductors.length:=by simpa [QD] using hc
       omega
    have:i=s.Conductors.length:=by omega
    subst this;exact Qs (.inl ⟨rfl,U⟩)
  have hc:i<s.Conductors.length:=by
     have:(i:Int)<s.Conductors.length:=by simpa [QD] using hc
     omega
  have hx:=h3.2 i hc;obtain⟨J,G,ad,af⟩:=Di (n:=n) (hok.c i _ (List.getElem?_eq_getElem hc)) (by omega);rw[show Za L (i:Int)=L[i]? from Zj,hx,show Za s.Conductors (i:Int)=some s.Conductors[i] from by rw[Zj,List.getElem?_eq_getElem hc]];simp only[Zy,G];refine Kb (fun Z=>?_) (fun h0=>?_)
  · exact Qs (.inr ⟨rfl,i,0,hc,J,by omega,rfl,G,by simpa [QD] using Z⟩)
  refine Kb (fun Z=>?_) (fun aa=>?_)
  · exact Qs (.inr ⟨rfl,i,1,hc,J,by omega,rfl,G,by simpa [QD] using Z⟩)
  refine Kb (fun Z=>?_) (fun ac=>?_)
  · exact Qs (.inr ⟨rfl,i,2,hc,J,by omega,rfl,G,by simpa [QD] using Z⟩)
  have q0:¬J<XU s A i 0 s.Chargers.length:=by simpa [QD] using h0
  have q1:¬J<XU s A i 1 s.Chargers.length:=by simpa [QD] using aa
  have q2:¬J<XU s A i 2 s.Chargers.length:=by simpa [QD] using ac
  rw[ZM (by have:=O.1;omega) (by have:=O.1;omega)];refine ih _ ⟨i+1,by omega,hc,fun c p h Y ae hp hl=>?_⟩ (by omega);by_cases e:c=i
  · subst e
    rw[G] at hl;cases hl;have:p=0∨p=1∨p=2:=by omega
    rcases this with rfl|rfl|rfl<;>omega
  · exact U c p h Y (by omega) hp hl
def K7(s:Qo)(c:Nat):Nat→List Int
|0=>[]
|k+1=>match s.Chargers[k]? with|some g=>if Uy s g.At c then K7 s c k++[(k:Int)] else K7 s c k|none=>K7 s c k
theorem Gi{s:Qo}{c:Nat}:∀{k:Nat} {v:Int},v∈K7 s c k→∃(i:Nat) (g:Kj),v=(i:Int)∧i<k∧s.Chargers[i]?=some g∧Uy s g.At c=true
|k+1,v,h=>by
  simp only[K7] at h;split at h
  ·rename_i g Y;split at h
   ·rename_i hw;rcases List.mem_append.1 h with h|h
    ·obtain⟨i,O,J,U,G⟩:=Gi h;exact⟨i,O,J,by omega,G⟩
    ·simp at h;exact⟨k,g,h,by omega,Y,hw⟩
   ·obtain⟨i,O,J,U,G⟩:=Gi h;exact⟨i,O,J,by omega,G⟩
  ·obtain⟨i,O,J,U,G⟩:=Gi h;exact⟨i,O,J,by omega,G⟩
theorem z8{s:Qo}{c:Nat}{g:Kj}{i:Nat}(G:s.Chargers[i]?=some g)(hw:Uy s g.At c=true):∀{k:Nat},i<k→(i:Int)∈K7 s c k
|k+1,h=>by
  simp only[K7];by_cases e:i=k
  ·subst e;rw[G];simp[hw]
  ·have:=z8 G hw (k:=k) zo;split
   ·split
    ·exact List.mem_append.2 (.inl this)
    ·exact this
   ·exact this
theorem Nv{s:Qo}{c:Nat}:∀k:Nat,(K7 s c k).length≤k
|0=>by simp[K7]
|k+1=>by
  have:=Nv (s:=s) (c:=c) k;simp only[K7];split
  ·split<;>simp<;>omega
  ·omega
theorem Ei{s:Qo}{c:Nat}:∀k:Nat,(K7 s c k).Nodup
|0=>by simp[K7]
|k+1=>by
  have h:=Ei (s:=s) (c:=c) k;simp only[K7];split
  ·split
   ·rw[List.nodup_append];refine⟨h,by simp,fun a G b hb=>?_⟩;obtain⟨i,g,J,O,_⟩:=Gi G;simp at hb;subst hb J;intro e;have:i=k:=by exact_mod_cast e
    omega
   ·exact h
  ·exact h
theorem lM(hok:mG s):∀(c0:Int),-1≤c0→c0<s.Conductors.length→(c0+2).toNat<n→Does (Q0 (fun rec l=>Jl s (c:Int) rec l) n c0) (fun b=>b=Uy s c0 c):=by
 intro c0 Y Z hn;refine Vo (Q:=fun v b=>b=Uy s v c) (μ:=fun v:Int=>(v+1).toNat) (Inv:=fun v:Int=>-1≤v∧v<s.Conductors.length) ?_ ⟨Y,Z⟩ zo;rintro rec v ⟨v1,v2⟩ U;unfold Jl Wq;by_cases h0:0≤v;rotate_left
 ·rw[UI zo,Ye];exact Qs (Ef zo).symm
 rw[Wu h0,V5];by_cases G:v=(c:Int)
 ·subst G;rw[show Qq (c:Int) (c:Int)=true from by simp[Qq],V5];exact Qs (by have:=zY (s:=s) (show(0:Int)≤(c:Int) by omega);rw[Int.toNat_natCast] at this;exact this.symm)
 ·rw[show Qq v (c:Int)=false from by simp[Qq,G],Ye];have O:v.toNat<s.Conductors.length:=by omega
  have J:s.Conductors[v.toNat]?=some s.Conductors[v.toNat]:=List.getElem?_eq_getElem O;rw[show Za s.Conductors v=s.Conductors[v.toNat]? from by unfold Za;rw[if_neg zo],J,Zy];obtain⟨u1,u2⟩:=mK hok h0 J;rw[BK hok h0 J G];exact U _ ⟨u1,by omega⟩ zo
theorem uO(hok:mG s)(J:AO s)(Z:c<s.Conductors.length)(hn:9223372036854776000≤n) :
    XD n s (c:Int)=some (K7 s c s.Chargers.length,0):=by
  have key:Does (XD n s (c:Int)) (fun r=>r=(K7 s c s.Chargers.length,0)):=by
    unfold XD;rw[Ed hok J (by omega) (by omega),Zy,Bool.not_true,cond_false,KM (by omega),cond_false];simp only[Qd,List.length_map];rw[UI (by omega),Zy,cond_false];obtain⟨f1,_,_,f4,_⟩:=J;refine Vo (B:=fun rec (v:List Int×Int)=>Ws n s (c:Int) rec v.1 v.2) (Q:=fun _ r=>r=(K7 s c s.Chargers.length,0)) (μ:=fun v:List Int×Int=>s.Chargers.length-v.2.toNat) (Inv:=fun v:List Int×Int=>∃i:Nat,v.2=(i:Int)∧i≤s.Chargers.length∧v.1=K7 s c i) ?_ ⟨0,rfl,Nat.zero_le _,rfl⟩ (by simp only;omega);rintro rec ⟨l,q⟩ ⟨i,hi,aa,O⟩ U;simp only at hi O;subst hi O;show Does (Ws n s (c:Int) rec (K7 s c i) (i:Int)) _;unfold Ws;simp only[Qd,List.length_map];refine Kb (fun hc=>?_) (fun hc=>?_);rotate_left
    · have:i=s.Chargers.length:=by
         have:¬(i:Int)<s.Chargers.length:=by simpa [QD] using hc
         omega
      subst this;exact Qs rfl
    have hc:i<s.Chargers.length:=by
       have:(i:Int)<s.Chargers.length:=by simpa [QD] using hc
       omega
    have Y:s.Chargers[i]?=some s.Chargers[i]:=List.getElem?_eq_getElem hc;obtain⟨⟨a1,a2⟩,_⟩:=hok.g _ (List.getElem_mem hc);rw[Zj,Y,Zy];refine Vn (lM hok _ (by omega) a2 (by omega)) ?_;rintro b rfl;have G:K7 s c (i+1)=if Uy s s.Chargers[i].At c then K7 s c i++[(i:Int)] else K7 s c i:=by simp only[K7,Y]
    rw[ZM (by omega) (by omega)];refine Kb (fun e=>?_) (fun e=>?_)
    · rw[show ZW (List.length (K7 s c i++[(i:Int)])) 8=true from by have:=Nv (s:=s) (c:=c) i;unfold ZW;simp;omega,cond_true]
      exact U (K7 s c i++[(i:Int)],(i:Int)+1) ⟨i+1,by simp only;omega,hc,by rw[G,if_pos e]⟩ (by simp only;omega)
    · exact U (K7 s c i,(i:Int)+1) ⟨i+1,by simp only;omega,hc,by rw[G,if_neg (by simp[e])]⟩ (by simp only;omega)
  obtain⟨r,h1,rfl⟩:=key;exact h1
def U5(s:Qo)(p:Nat)(v:Int):Bool:=match s.Chargers[v.toNat]? with|some g=>BV g.Phases p|none=>false
def y9(s:Qo)(c p:Nat):List Int:=(K7 s c s.Chargers.length).filter (U5 s p)
def RP(T:List Int):List Int→Int→List Int→List Int|[],_,o=>o|i::G,left,o=>if left-K9 ((T[i.toNat]?).getD 0) left=0 then o.set i.toNat (K9 ((T[i.toNat]?).getD 0) left) else RP T G (left-K9 ((T[i.toNat]?).getD 0) left) (o.set i.toNat (K9 ((T[i.toNat]?).getD 0) left))
def GL(s:Qo)(B:List Int):Prop:=∀v∈B,∃(i:Nat) (g:Kj),v=(i:Int)∧s.Chargers[i]?=some g
theorem qm{g:Kj}(G:s.Chargers[i]?=some g):U5 s p (i:Int)=BV g.Phases p:=by
 unfold U5;rw[Int.toNat_natCast,G]
end Go.Proofs
