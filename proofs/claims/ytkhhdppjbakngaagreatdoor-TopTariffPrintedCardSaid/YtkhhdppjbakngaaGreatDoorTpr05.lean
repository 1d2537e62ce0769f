/-
  A part of the proof of a statement of the seat YtkhhdppjbakngaaGreatDoor.
-/
import Derived.Test.YtkhhdppjbakngaaGreatDoorTpr04
set_option linter.unusedVariables false
namespace Go.Proofs
open Go Go.Abs
set_option maxRecDepth 100000
theorem za (n:Nat) (O:Kj) (G:Int):∀ r,Hw n O G=some r→QB Tryz.prog 225 [ag (Kj.cs O),I G] (.ret (.tup [I r.1,I r.2])):=by
 refine Qj Tryz.func225 rfl Tryz.ntmps225 rfl ?_;unfold Hw;refine Qf Qd ⟨[(1,I G),qq 2],Ir O⟩ (sS (KI (fun j1=>⟨[(1,I G),qq 2,(19,B j1)],Ir O⟩:Bool→St) ?_ ?_))
 ·refine sG (xR 1 ?_);refine xC [] (Wz n O) QE (fun r2=>?_);refine xR 2 (xS (!r2) (fun h3=>xN (Qy h3) (xR 3 (xE (QS true)))) (fun h3=>xO (Qw h3) ?_));refine xC [] (Jz n G (-1) 36501) QE (fun r4=>?_);exact xR 2 (xE (QS (!r4)))
 rintro j1;refine sC j1 (Qf Qd ⟨[(4,I 0),(5,I 1)],[]⟩ (sT (QA (qR (.id))))) (sK (Qk ⟨[(1,I G),qq 2],Ir O⟩ (sS (sG (Gn [] [] [] [] [] Tryz.func94 rfl Tryz.ntmps94 rfl (Qf Qd ⟨[],[]⟩ (Qf Qd ⟨QgA,[]⟩ (sT (QC (.id) [] [] (.tup [.p (.val (.func (.func 162) #[] #[])), .p (.val (.func (.func 163) #[] #[]))]) (VZ (xR 5 (xE (Qk ⟨[(1,I G),qq 2,(6, .p (.val (.func (.func 162) #[] #[]))),(7, .p (.val (.func (.func 163) #[] #[])))],Ir O⟩ (sS (sS (sG (xR 4 ?_)))))))))))))))));refine xC [] (NV n O.Holidays G) QE (fun r5=>?_);refine xR 1 (xE (Qk ⟨[(1,I G),qq 2,(6, .p (.val (.func (.func 162) #[] #[]))),(7, .p (.val (.func (.func 163) #[] #[]))),(8,I r5)],Ir O⟩ (KI (fun j6=>⟨[(1,I G),(6, .p (.val (.func (.func 162) #[] #[]))),(7, .p (.val (.func (.func 163) #[] #[]))),(39,B j6)],[]⟩:Bool→St) (sG (xR 3 (xS (leI 0 r5) (fun h7=>xO (Qv h7) (xR 2 (xG (Zx (e:=3) (S:=1) (enc:=ci) (l:=O.Holidays) (k:=.i64) (n:=r5) (sv:=.p (.sl 1 (List.map ci O.Holidays))) rfl Qc Qc Qc Qc Qc) (fun x8=>xR 4 (xE (QS (Qr x8 G))))))) (fun h7=>xN (Qx h7) (xR 7 (xE (QS false))))))) ?_)));rintro j6;refine sC j6 (Qf Qd ⟨[(4,I 2),(5,I 0)],[]⟩ (sT (QA (qR (.id))))) (sK (Qk ⟨[(1,I G),(6, .p (.val (.func (.func 162) #[] #[]))),(7, .p (.val (.func (.func 163) #[] #[])))],[]⟩ (sS (sG ?_))));refine xC [] (q9 n) QE (fun J=>?_);refine xR 2 (xE (Qk ⟨[(1,I G),(6, .p (.val (.func (.func 162) #[] #[]))),(7, .p (.val (.func (.func 163) #[] #[]))),qq 9],[(9,(QdT J.1 J.2.1 J.2.2.1 J.2.2.2.1 J.2.2.2.2.1 J.2.2.2.2.2.1 J.2.2.2.2.2.2))]⟩ (sS (sG (xR 1 ?_)))));refine xC [] (Dn n G 7) QE (fun U=>?_);exact xR 5 (xE (Qk ⟨[(6, .p (.val (.func (.func 162) #[] #[]))),(7, .p (.val (.func (.func 163) #[] #[]))),qq 9,(11,I U.2)],[(9,(QdT J.1 J.2.1 J.2.2.1 J.2.2.2.1 J.2.2.2.2.1 J.2.2.2.2.2.1 J.2.2.2.2.2.2))]⟩ (sS (sG (xR 1 (QcP Qc Qc (Qav (b:=9) (k:=.i64) (n:=U.2) (len:=7) (e:=3) (l:=[J.1,J.2.1,J.2.2.1,J.2.2.2.1,J.2.2.2.2.1,J.2.2.2.2.2.1,J.2.2.2.2.2.2]) rfl Qc Qc Qc Qc rfl) (fun Z Y=>(zL (QcS (g:=I) (l:=[J.1,J.2.1,J.2.2.1,J.2.2.2.1,J.2.2.2.2.1,J.2.2.2.2.2.1,J.2.2.2.2.2.2]) (tb:=299) (b:=9) (n:=U.2) (v:=Z) rfl Qc Qc Qc (QcQ Y)) (xR 2 (xE (Qk ⟨[(4,I Z),(5,I 0)],[]⟩ (sT (qR (.id))))))))))))))
def V6 (n:Nat) (J:Q3) (O:Kj) (G:Int):Option Bool :=
 (Kn n J).bind fun r1 =>
 cond (!r1)
  (some false)
  ((X6 n O G).bind fun U =>
  (cond (!Qr U.2.2 0)
   (some true)
   (cond (Qp U.2.1 J.From)
    (some true)
    (some (leI J.To U.2.1)))).bind fun Z =>
  cond Z
   (some false)
   ((Hw n O U.1).bind fun Y =>
   cond (Qr Y.2 0)
    (cond (!Qp Y.1 0) (
     some (!Qr (PI .i64 J.Days (vv .i64 1 Y.1)) 0)) none)
    (some false)))
def lw:=fun J G=>([(3, .box 183 (Yx (Q3.cs J))),(4, .box 52 (Yx (Kj.cs G)))]:List (Nat × Blk))
abbrev bS (x:Q3):Go.Abs.Blk:=.box 183 (Yx (Q3.cs x))
theorem X7 (n:Nat) (J:Q3) (O:Kj) (G:Int):∀ r,V6 n J O G=some r→QB Tryz.prog 205 [ag (Q3.cs J),ag (Kj.cs O),I G] (.ret (B r)):=by
 refine Qj Tryz.func205 rfl Tryz.ntmps205 rfl ?_;unfold V6;refine Qf Qd ⟨[(2,I G),qq 3,qq 4,(6,B false)],lw J O⟩ (sS (sS (sG (xR 1 ?_))));refine xC [] (JM n J) QE (fun r1=>?_);refine xR 1 (xE (Qk ⟨[(2,I G),qq 3,qq 4,(6,B false),(13,B (!r1))],lw J O⟩ (sC (!r1) (Qf Qd ⟨[(6,B false)],[]⟩ (sT (QA (qR (.id))))) (sK (Qk ⟨[(2,I G),qq 3,qq 4,(6,B false)],lw J O⟩ (sS (sG (xR 2 ?_))))))));refine xC [] (Iu n O G) QE (fun U=>?_);refine xR 7 (xE (Qk ⟨[qq 3,qq 4,(6,B false),(7,I U.1),(8,I U.2.1),(9,I U.2.2)],lw J O⟩ (sS (KI (fun j3=>⟨[qq 3,qq 4,(6,B false),(7,I U.1),(34,B j3)],lw J O⟩:Bool→St) (sG (xR 3 (xS (!Qr U.2.2 0) (fun Z=>xN (Qy Z) (xR 10 (xE (QS true)))) (fun Z=>xO (Qw Z) (xR 5 (xS (Qp U.2.1 J.From) (fun h5=>xN (Qy h5) (xR 4 (xE (QS true)))) (fun h5=>xO (Qw h5) (xR 4 (xE (QS (leI J.To U.2.1))))))))))) ?_))));rintro j3;refine sC j3 (Qf Qd ⟨[(6,B false)],[]⟩ (sT (QA (qR (.id))))) (sK (Qk ⟨[qq 3,qq 4,(6,B false),(7,I U.1)],lw J O⟩ (sS (sG (xR 2 ?_)))));refine xC [] (za n O U.1) QE (fun Y=>?_);exact xR 5 (xE (Qk ⟨[qq 3,(6,B false),(7,I U.1),(9,I Y.2),(10,I Y.1)],[(3,bS J)]⟩ (sS (CQ Qd rfl (xR 3 (xS (Qr Y.2 0) (fun h7=>xO (Qv h7) (xR 2 (xF (QcN (k:=.i64) (k':=.i64) (a:=1) (b:=Y.1) rfl Qc Qc) (xR 4 (BZ (Qk ⟨[(6,B (!Qr (PI .i64 J.Days (vv .i64 1 Y.1)) 0))],[]⟩ (sT (qR (.id))))))))) (fun h7=>xN (Qx h7) (xR 7 (BZ (Qk ⟨[(6,B false)],[]⟩ (sT (qR (.id)))))))))))))
def Vl (n:Nat) (J:Gf) (G:Int):Option Bool :=
 (V6 n J.article J.calendar G).bind fun r1 =>
 some r1
theorem Gg (n:Nat) (J:Gf) (G:Int):∀ r,Vl n J G=some r→QB Tryz.prog 207 [.eptr (Gf.cs J),I G] (.ret (B r)):=by
 refine Qj Tryz.func207 rfl Tryz.ntmps207 rfl ?_;unfold Vl;refine Qf Qd ⟨[(0, .eptr (Gf.cs J)),(1,I G)],[]⟩ (sS (CQ Qd rfl (xR 9 ?_)));refine xC [] (X7 n J.article J.calendar G) QE (fun r1=>?_);exact xR 1 (BZ (Qk ⟨[(4,B r1)],[]⟩ (sT (qR (.id)))))
def Kc (n:Nat) (O:Int) (J:Int) (G:Int):Option Bool :=
 cond (leI J O)
  (some (leI O G))
  (some false)
theorem Yl (n:Nat) (O:Int) (J:Int) (G:Int):∀ r,Kc n O J G=some r→QB Tryz.prog 159 [I O,I J,I G] (.ret (B r)):=by
 refine Qj Tryz.func159 rfl Tryz.ntmps159 rfl ?_;unfold Kc;exact Qf Qd ⟨[(0,I O),(1,I J),(2,I G),(6,B false)],[]⟩ (sS (sG (xR 4 (xS (leI J O) (fun U=>xO (Qv U) (xR 4 (xE (Qk ⟨[(6,B (leI O G))],[]⟩ (sT (qR (.id))))))) (fun U=>xN (Qx U) (xR 4 (xE (Qk ⟨[(6,B false)],[]⟩ (sT (qR (.id)))))))))))
def Ko (n:Nat) (G:Int):Option Bool :=
 (Kc n G 0 1000000000).bind fun r1 =>
 some r1
theorem VK (n:Nat) (G:Int):∀ r,Ko n G=some r→QB Tryz.prog 158 [I G] (.ret (B r)):=by
 refine Qj Tryz.func158 rfl Tryz.ntmps158 rfl ?_;unfold Ko;refine Qf Qd ⟨[(0,I G)],[]⟩ (sS (sG (xR 1 ?_)));refine xC [] (Yl n G 0 1000000000) QE (fun r1=>?_);exact xR 1 (xE (Qk ⟨[(2,B r1)],[]⟩ (sT (qR (.id)))))
def Kg (n:Nat) (G:Bool) (J:Int):Option (Except Int Unit) :=
 cond (!G)
  (some (.error J))
  (some (.ok ()))
theorem Kh (n:Nat) (G:Bool) (J:Int):∀ r,Kg n G J=some r→QB Tryz.prog 157 [B G,I J] (zM (fun r:Unit=>(.tup []:AV)) (fun e:Int=>(.ifc 280 (.agg [I e]):AV)) r):=by
 refine Qj Tryz.func157 rfl Tryz.ntmps157 rfl ?_;unfold Kg;exact Qf Qd ⟨[(1,I J),(5,B (!G))],[]⟩ (sC (!G) (sG (xR 3 (xPa 280 (.agg [I J]) Qc rfl Qc (qy)))) (sK (Qjw (.id) Qc Qc Qc)))
def JB (n:Nat) (J:Int) (G:Int):Option Int :=
 cond (!Qr (wi (2 * G)) 0) (
  some (wi (Int.tdiv (wi ((wi (2 * J))+G)) (wi (2 * G))))) none
theorem Dp (n:Nat) (J:Int) (G:Int):∀ r,JB n J G=some r→QB Tryz.prog 161 [I J,I G] (.ret (I r)):=by
 refine Qj Tryz.func161 rfl Tryz.ntmps161 rfl ?_;unfold JB;exact Qf Qd ⟨[(0,I J),(1,I G)],[]⟩ (sS (sG (xR 6 (xF (vS (k:=.i64) (a:=wi ((wi (2 * J))+G)) (b:=wi (2 * G)) rfl Qc Qc) (xR 1 (xE (Qk ⟨[(4,I (wi (Int.tdiv (wi ((wi (2 * J))+G)) (wi (2 * G)))))],[]⟩ (sT (qR (.id))))))))))
def KL (n:Nat) (G:Int):Option (Except Int Int) :=
 (Ko n G).bind fun r1 =>
 (Kg n r1 3).bind (F3 (fun O =>
  some (.ok G)) fun J=>some (.error J))
theorem Xr (n:Nat) (G:Int):∀ r,KL n G=some r→QB Tryz.prog 160 [I G] (zM (fun r:Int=>(I r:AV)) (fun e:Int=>(.ifc 280 (.agg [I e]):AV)) r):=by
 refine Qj Tryz.func160 rfl Tryz.ntmps160 rfl ?_;unfold KL;refine Qf Qd ⟨[(0,I G)],[]⟩ (sS (sG (xR 1 ?_)));refine xC [] (VK n G) QE (fun r1=>?_);refine JK [] (Kh n r1 3) QE QE (fun O=>?_) (fun J=>?_)
 ·exact xE (Qk ⟨[(0,I G)],[]⟩ (Qf Qd ⟨[(2,I G)],[]⟩ (sT (qR (.id)))))
 exact Uf (qy)
def VP (n:Nat) (G:Int):Option Int :=
 some G
theorem X8 (n:Nat) (G:Int):∀ r,VP n G=some r→Kw Tryz.prog 156 [.p (.val (.nilIface)),L8] (Go.Abs.look [(1001, .box 29 [I G])]) (Ya (fun r:Int=>((.ret (.tup []),[(1001, .box 29 [I r])]):Zz × List (Nat × Blk))) r):=by
 refine Km (MK G) Tryz.func156 rfl Tryz.ntmps156 rfl ?_;unfold VP;exact sS (Qf Qd ⟨Qis,MK G⟩ (ZQ (sT (QA (Kr (.id) [1001] [])))))
def Q5 (n:Nat) (G:Int) (J:Int):Option Int :=
 some G
def Qit:=fun G=>([(0, .ifc 280 (.agg [I G])),(1, .ptr 1001 0),(6, .ifc 280 (.agg [I G])),(7,B false)]:List (Nat × AV))
theorem Q8 (n:Nat) (G:Int) (J:Int):∀ r,Q5 n G J=some r→Kw Tryz.prog 156 [.ifc 280 (.agg [I G]),L8] (Go.Abs.look [(1001, .box 29 [I J])]) (Ya (fun r:Int=>((.ret (.tup []),[(1001, .box 29 [I r])]):Zz × List (Nat × Blk))) r):=by
 refine Km (MK J) Tryz.func156 rfl Tryz.ntmps156 rfl ?_;unfold Q5;exact sS (Qf Qd ⟨Qit G,MK J⟩ (QW (sK (Qk ⟨Qit G,MK J⟩ (Qf Qd ⟨[(0, .ifc 280 (.agg [I G])),(1,L8),qq 4,(5,B true),(6, .ifc 280 (.agg [I G])),(7,B false)],[(4, .box 280 [I G])]++MK J⟩ (sS (Qf Qd ⟨[(0, .ifc 280 (.agg [I G])),(1,L8),qq 4,(6, .ifc 280 (.agg [I G])),(7,B false),(14,B false)],[(4, .box 280 [I G])]++MK J⟩ (QW (sK (Qk ⟨[(1,L8),qq 4,(6, .ifc 280 (.agg [I G])),(7,B false)],[(4, .box 280 [I G])]++MK J⟩ (sL Qd (sH (.id) [1001] []))))))))))))
def ZJ (n:Nat) (J:Int) (G:Int) (O:Int):Option (Int × Int) :=
 (JB n (wi (J * G)) O).bind fun r2 =>
 (KL n r2).bind (F3 (fun Z =>
  (VP n 0).bind fun Y =>
  some (Z,Y)) fun e4=>(Q5 n e4 0).bind fun U =>
 some (0,U))
def Vz (n:Nat) (J:Int) (G:Int) (O:Int):Option (Int × Int) :=
 (Ko n J).bind fun r7 =>
 cond r7
  ((Kc n G 0 1000000000).bind fun r9 =>
  cond r9
   ((Kc n O 1 1000000000).bind fun Y =>
   (Kg n Y 1).bind (F3 (fun ah =>
    ZJ n J G O) fun aa=>(Q5 n aa 0).bind fun Z =>
   some (0,Z)))
   ((Kg n false 1).bind (F3 (fun af =>
    ZJ n J G O) fun ad=>(Q5 n ad 0).bind fun ab =>
   some (0,ab))))
  ((Kg n false 1).bind (F3 (fun ae =>
   ZJ n J G O) fun ac=>(Q5 n ac 0).bind fun U =>
  some (0,U)))
def QdU:=fun O G J=>([(0,I O),(1,I G),(2,I J),(6,I 0),(7, .ptr 2000 0)]:List (Nat × AV))
def Lp:=fun G=>([(2000, .box 29 [I G])]:List (Nat × Blk))
theorem EC (n:Nat) (J:Int) (G:Int) (O:Int):∀ r,Vz n J G O=some r→Kw Tryz.prog 202 [I J,I G,I O] (Go.Abs.look []) (Ya (fun r:Int × Int=>((.ret (.tup [I r.1,I r.2]),[]):Zz × List (Nat × Blk))) r):=by
 refine Me (X:=fun r:Int × Int=>((.ret (.tup [I r.1,I r.2]),[]):Zz × List (Nat × Blk))) [] (⟨Tryz.f223,_,_,_,1,_,_,Tryz.func223,rfl,rfl,rfl,rfl,rfl,rfl,by decide,by decide,rfl,by kernel_rfl⟩:Lh Tryz.prog 223 156) (⟨_,_,_,_,_,7,8,_,rfl,rfl,rfl,rfl,rfl,rfl,rfl,by decide⟩:Ru Tryz.f202 223) 7 Tryz.func202 Tryz.ntmps202 rfl Qc rfl Qd rfl Qc Qc Qc ?_;unfold Vz;refine NM ⟨QdU J G O,Lp 0⟩ ?_;refine K4 (fun _=>⟨QdU J G O,Lp 0⟩:Unit→St) (fun _=>ZJ n J G O) ?_ ?_
 ·rintro _;show QO (ZJ n J G O) _ _ _ _ _ _;unfold ZJ;refine sS ?_;refine sG ?_;refine xR 4 ?_;refine xC [] (Dp n (wi (J * G)) O) QE (fun r2=>?_);refine JK [] (Xr n r2) QE QE (fun r3=>?_) (fun e4=>?_)
  ·refine xR 2 ?_;refine xE ?_;refine Qk ⟨[(6,I r3),(7, .ptr 2000 0)],Lp 0⟩ ?_;refine sT ?_;refine qz ?_;refine Zf [(1001,2000)] [] [] (X8 n 0) Qc Qc Qc QE QE (fun r5=>?_);exact Jd (.id) [] []
  ·refine Uf ?_;refine Ia ?_;refine Zf [(1001,2000)] [] [] (Q8 n e4 0) Qc Qc Qc QE QE (fun r6=>?_);exact Jd (.id) [] []
 ·refine sG ?_;refine xR 1 ?_;refine xC [] (VK n J) QE (fun r7=>?_);refine xR 1 ?_;refine xS r7 (fun h8=>?_) (fun h8=>?_)
  ·refine xO (Qv h8) ?_;refine xC [] (Yl n G 0 1000000000) QE (fun r9=>?_);refine xR 2 ?_;refine xS r9 (fun U=>?_) (fun U=>?_)
   ·refine xO (Qv U) ?_;refine xC [] (Yl n O 1 1000000000) QE (fun Y=>?_);refine xR 1 ?_;refine JK [] (Kh n Y 1) QE QE (fun af=>?_) (fun Z=>?_)
    ·refine xE ?_;exact KP (k:=fun _=>ZJ n J G O) ()
    ·refine Ga ?_;refine Ia ?_;refine Zf [(1001,2000)] [] [] (Q8 n Z 0) Qc Qc Qc QE QE (fun ai=>?_);exact Jd (.id) [] []
   ·refine xN (Qx U) ?_;refine xR 2 ?_;refine JK [] (Kh n false 1) QE QE (fun ad=>?_) (fun ab=>?_)
    ·refine xE ?_;exact KP (k:=fun _=>ZJ n J G O) ()
    ·refine Ga ?_;refine Ia ?_;refine Zf [(1001,2000)] [] [] (Q8 n ab 0) Qc Qc Qc QE QE (fun ae=>?_);exact Jd (.id) [] []
  ·refine xN (Qx h8) ?_;refine xR 6 ?_;refine JK [] (Kh n false 1) QE QE (fun ac=>?_) (fun aa=>?_)
   ·refine xE ?_;exact KP (k:=fun _=>ZJ n J G O) ()
   ·refine Ga ?_;refine Ia ?_;refine Zf [(1001,2000)] [] [] (Q8 n aa 0) Qc Qc Qc QE QE (fun ah=>?_);exact Jd (.id) [] []
theorem RV (n:Nat) (J:Int) (G:Int) (O:Int):∀ r,Vz n J G O=some r→QB Tryz.prog 202 [I J,I G,I O] (.ret (.tup [I r.1,I r.2])):=fun r h=>P9 (EC n J G O r h) rfl
def Jm (n:Nat) (G:Int) (J:Int):Option (Except Int Int) :=
 cond (!Qr J 0)
  (some (.error 3))
  (some (.ok G))
theorem FM (n:Nat) (G:Int) (J:Int):∀ r,Jm n G J=some r→QB Tryz.prog 98 [I G,I J] (zM (fun r:Int=>(I r:AV)) (fun e:Int=>(.ifc 196 (.agg [I e]):AV)) r):=by
 refine Qj Tryz.func98 rfl Tryz.ntmps98 rfl ?_;unfold Jm;exact Qf Qd ⟨[(0,I G),(1,I J)],[]⟩ (sS (Qf Qd ⟨[(0,I G),(6,B (!Qr J 0))],[]⟩ (sC (!Qr J 0) (sG (xR 2 (xPa 196 (.agg [I 3]) Qc rfl Qc (Uf (qy))))) (sK (Qk ⟨[(0,I G),(6,B (!Qr J 0))],[]⟩ (Qf Qd ⟨[(4,I G)],[]⟩ (sT (qR (.id)))))))))
def Zl (n:Nat) (O:Int) (J:Int) (G:Int):Option (Int × Int) :=
 cond (!Qr G 0) (
  (KL n (wi (O * (wi (Int.tdiv (wi ((wi (J+G)) - 1)) G))))).bind (F3 (fun Y =>
   (VP n 0).bind fun U =>
   some (Y,U)) fun e3=>(Q5 n e3 0).bind fun Z =>
  some (0,Z))) none
def Yv (n:Nat) (J:Int) (G:Int) (O:Int):Option (Int × Int) :=
 (Ko n J).bind fun r6 =>
 cond r6
  ((Kc n G 0 1000000000).bind fun r8 =>
  cond r8
   ((Kc n O 1 1000000000).bind fun ac =>
   (Kg n ac 1).bind (F3 (fun ae =>
    Zl n J G O) fun U=>(Q5 n U 0).bind fun ad =>
   some (0,ad)))
   ((Kg n false 1).bind (F3 (fun af =>
    Zl n J G O) fun ab=>(Q5 n ab 0).bind fun aa =>
   some (0,aa))))
  ((Kg n false 1).bind (F3 (fun ah =>
   Zl n J G O) fun Z=>(Q5 n Z 0).bind fun Y =>
  some (0,Y)))
theorem ML (n:Nat) (O:Int) (G:Int) (J:Int):∀ r,Yv n O G J=some r→Kw Tryz.prog 153 [I O,I G,I J] (Go.Abs.look []) (Ya (fun r:Int × Int=>((.ret (.tup [I r.1,I r.2]),[]):Zz × List (Nat × Blk))) r):=by
 refine Me (X:=fun r:Int × Int=>((.ret (.tup [I r.1,I r.2]),[]):Zz × List (Nat × Blk))) [] (⟨Tryz.f206,_,_,_,1,_,_,Tryz.func206,rfl,rfl,rfl,rfl,rfl,rfl,by decide,by decide,rfl,by kernel_rfl⟩:Lh Tryz.prog 206 156) (⟨_,_,_,_,_,7,8,_,rfl,rfl,rfl,rfl,rfl,rfl,rfl,by decide⟩:Ru Tryz.f153 206) 7 Tryz.func153 Tryz.ntmps153 rfl Qc rfl Qd rfl Qc Qc Qc ?_;unfold Yv;refine NM ⟨QdU O G J,Lp 0⟩ ?_;refine K4 (fun _=>⟨QdU O G J,Lp 0⟩:Unit→St) (fun _=>Zl n O G J) ?_ ?_
 ·rintro _;show QO (Zl n O G J) _ _ _ _ _ _;unfold Zl;refine sS ?_;refine sG ?_;refine xR 6 ?_;refine xF (vS (k:=.i64) (a:=wi ((wi (G+J)) - 1)) (b:=J) rfl Qc Qc) ?_;refine xR 1 ?_;refine JK [] (Xr n (wi (O * (wi (Int.tdiv (wi ((wi (G+J)) - 1)) J))))) QE QE (fun r2=>?_) (fun e3=>?_)
  ·refine xR 2 ?_;refine xE ?_;refine Qk ⟨[(6,I r2),(7, .ptr 2000 0)],Lp 0⟩ ?_;refine sT ?_;refine qz ?_;refine Zf [(1001,2000)] [] [] (X8 n 0) Qc Qc Qc QE QE (fun r4=>?_);exact Jd (.id) [] []
  ·refine Uf ?_;refine Ia ?_;refine Zf [(1001,2000)] [] [] (Q8 n e3 0) Qc Qc Qc QE QE (fun r5=>?_);exact Jd (.id) [] []
 ·refine sG ?_;refine xR 1 ?_;refine xC [] (VK n O) QE (fun r6=>?_);refine xR 1 ?_;refine xS r6 (fun h7=>?_) (fun h7=>?_)
  ·refine xO (Qv h7) ?_;refine xC [] (Yl n G 0 1000000000) QE (fun r8=>?_);refine xR 2 ?_;refine xS r8 (fun Y=>?_) (fun Y=>?_)
   ·refine xO (Qv Y) ?_;refine xC [] (Yl n J 1 1000000000) QE (fun ab=>?_);refine xR 1 ?_;refine JK [] (Kh n ab 1) QE QE (fun af=>?_) (fun aa=>?_)
    ·refine xE ?_;exact KP (k:=fun _=>Zl n O G J) ()
    ·refine Ga ?_;refine Ia ?_;refine Zf [(1001,2000)] [] [] (Q8 n aa 0) Qc Qc Qc QE QE (fun ai=>?_);exact Jd (.id) [] []
   ·refine xN (Qx Y) ?_;refine xR 2 ?_;refine JK [] (Kh n false 1) QE QE (fun ah=>?_) (fun Z=>?_)
    ·refine xE ?_;exact KP (k:=fun _=>Zl n O G J) ()
    ·refine Ga ?_;refine Ia ?_;refine Zf [(1001,2000)] [] [] (Q8 n Z 0) Qc Qc Qc QE QE (fun ad=>?_);exact Jd (.id) [] []
  ·refine xN (Qx h7) ?_;refine xR 6 ?_;refine JK [] (Kh n false 1) QE QE (fun ae=>?_) (fun U=>?_)
   ·refine xE ?_;exact KP (k:=fun _=>Zl n O G J) ()
   ·refine Ga ?_;refine Ia ?_;refine Zf [(1001,2000)] [] [] (Q8 n U 0) Qc Qc Qc QE QE (fun ac=>?_);exact Jd (.id) [] []
theorem FN (n:Nat) (J:Int) (G:Int) (O:Int):∀ r,Yv n J G O=some r→QB Tryz.prog 153 [I J,I G,I O] (.ret (.tup [I r.1,I r.2])):=fun r h=>P9 (ML n J G O r h) rfl
def KM (n:Nat) (Y:Gf) (U:Int) (O:(Int × Int)→Option Int) (J:Int) (G:Int):Option Int :=
 cond (Qp J U)
  (((Vl n Y J).bind fun r5 =>
  cond r5
   (some (wi (G+1)))
   (some G)).bind fun Z =>
  O (wi (J+1),Z))
  (some G)
def JC (n:Nat) (J:Gf) (G:Int) (Z:Int):Option (Except Int Int) :=
 (Qo (fun O (Y,U)=>KM n J Z O Y U) n (G,0)).bind fun j1 =>
 (Yv n J.article.Price (Jb 0 (wi (j1 - J.article.Free))) J.article.Unit).bind fun r7 =>
 (Jm n r7.1 r7.2).bind (F3 (fun r8 =>
  some (.ok r8)) fun e9=>some (.error e9))
def QjR:=fun G=>([(0,G),(6,I 0),(7, .ptr 7 0),(11, .fn (.func 234) [] [.ptr 404 0, .ptr 405 0, .ptr 403 0])]:List (Nat × AV))
def Qiu:=fun G J O=>(⟨QjR G,[(7, .box 3 [I 0]),(403, .box 208 [G]),(404, .box 3 [I J]),(405, .box 3 [I O])]⟩:St)
def ED:=fun U G O J Y=>([(1007, .box 3 [I U]),(1403, .box 208 [G]),(1404, .box 3 [I O]),(1405, .box 3 [I J]),(4000,Y)]:List (Nat × Blk))
def zY:=fun G=>([(0,G),(6,I 0),(7, .ptr 1007 0),(11, .fn (.func 234) [] [.ptr 1404 0, .ptr 1405 0, .ptr 1403 0])]:List (Nat × AV))
def Qiv:=fun G J=>([(0,(.yv 4000)),(2, .ptr 1405 0),(3, .ptr 1403 0),(5,I G),(6,I J),(7,I G)]:List (Nat × AV))
theorem Dq (n:Nat) (J:Gf) (G:Int) (O:Int):∀ r,JC n J G O=some r→QB Tryz.prog 208 [.eptr (Gf.cs J),I G,I O] (zM (fun r:Int=>(I r:AV)) (fun e:Int=>(.ifc 196 (.agg [I e]):AV)) r):=by
 refine Qj Tryz.func208 rfl Tryz.ntmps208 rfl ?_;unfold JC;refine Qf Qd ⟨[(0, .eptr (Gf.cs J)),(1,I G),(2,I O),(6,I 0)],[]⟩ (Qf Qd ⟨[(0, .eptr (Gf.cs J)),(1,I G),(2,I O),(6,I 0),qq 7],[(7, .box 3 [I 0])]⟩ (KI (fun j1=>⟨[(0, .eptr (Gf.cs J)),(6,I 0),qq 7],[(7, .box 3 [I j1])]⟩:Int→St) ?_ ?_));rotate_left
 ·rintro j1;refine sS (CQ Qd rfl (xR 18 ?_));refine xC [] (FN n J.article.Price (Jb 0 (wi (j1 - J.article.Free))) J.article.Unit) QE (fun r7=>?_);refine xR 2 (P8 rfl Qc Qc ?_);refine JK [] (FM n r7.1 r7.2) QE QE (fun r8=>?_) (fun e9=>?_)
  ·exact xR 1 (xE (Qk ⟨[(6,I r8)],[]⟩ (sT (qR (.id)))))
  exact Uf (qy)
 refine sS (sG (xR 3 (Gn [] [.eptr (Gf.cs J),I G,I O] [(3,403),(4,404),(5,405)] [] [] Tryz.func226 rfl Tryz.ntmps226 rfl (Qf Qd ⟨[qq 3,qq 4,qq 5,(6, .p (.val (.nilFunc)))],[(3, .box 208 [.eptr (Gf.cs J)]),(4, .box 3 [I G]),(5, .box 3 [I O])]⟩ (Qf Qd ⟨[(6, .fn (.func 234) [] [.ptr 4 0, .ptr 5 0, .ptr 3 0])],[(3, .box 208 [.eptr (Gf.cs J)]),(4, .box 3 [I G]),(5, .box 3 [I O])]⟩ (sT (QC (.id) [3,4,5] [] (.fn (.func 234) [] [.ptr 4 0, .ptr 5 0, .ptr 3 0]) (VZ (xE (Qk (Qiu (.eptr (Gf.cs J)) G O) (sB (NM (Qiu (.eptr (Gf.cs J)) G O) (RA 234 3000 [] [.ptr 404 0, .ptr 405 0, .ptr 403 0] Qc Qc (fun Z _ ab=>(QQ (hc:=(ED 0 (.eptr (Gf.cs J)) G O (.lp (zY (.eptr (Gf.cs J))) Z .ready none))) (args':=[.yv 4000, .ptr 1404 0, .ptr 1405 0, .ptr 1403 0]) [(1007,7),(1403,403),(1404,404),(1405,405),(4000,3000)] [] [] Tryz.func234 rfl Tryz.ntmps234 rfl Qc Qc Qc (Qf Qd ⟨[(0, .yv 4000),(2, .ptr 1405 0),(3, .ptr 1403 0),(5,I G),(6,I G)],ED 0 (.eptr (Gf.cs J)) G O (.lp (zY (.eptr (Gf.cs J))) Z .ready none)⟩ (sB (QF (fun (U,Y)=>⟨[(0, .yv 4000),(2, .ptr 1405 0),(3, .ptr 1403 0),(5,I U),(6,I G)],ED Y (.eptr (Gf.cs J)) G O (.lp (zY (.eptr (Gf.cs J))) Z .ready none)⟩:(Int × Int)→St) (H5) ?_))))))))))))))))));rintro aa ⟨U,Y⟩;show QO (KM n J O aa U Y) _ _ _ _ _ _;unfold KM;refine sS (Qf Qd ⟨[(0, .yv 4000),(2, .ptr 1405 0),(3, .ptr 1403 0),(5,I U),(6,I G),(7,I U),(9,B (Qp U O))],ED Y (.eptr (Gf.cs J)) G O (.lp (zY (.eptr (Gf.cs J))) Z .ready none)⟩ (sC (Qp U O) ?_ ?_));rotate_left
 ·refine Qq (ZR (Yp (QL (Dw .id [1007,1403,1404,1405,4000] [] (.tup []) ?_))));refine Qax .ready ⟨[0,6,7],[7],[],[]⟩ ⟨[(0, .eptr (Gf.cs J)),(6,I 0),qq 7],[(7, .box 3 [I Y])]⟩ Qc (by intro h; cases h) Qc ?_;exact QR (QS Y)
 refine sK (Qk ⟨Qiv U G,ED Y (.eptr (Gf.cs J)) G O (.lp (zY (.eptr (Gf.cs J))) Z .ready none)⟩ (sS (sB (KI (fun j4=>⟨[(0, .yv 4000),(2, .ptr 1405 0),(3, .ptr 1403 0),(5,I U),(6,I G),(7,I U),(20,B false)],ED j4 (.eptr (Gf.cs J)) G O (.lp (zY (.eptr (Gf.cs J))) Z .ready none)⟩:Int→St) ?_ ?_))));rotate_left
 ·rintro j4;exact QW (sK (QR (Qk ⟨Qiv U G,ED j4 (.eptr (Gf.cs J)) G O (.lp (zY (.eptr (Gf.cs J))) Z .ready none)⟩ (sL Qd (KP (wi (U+1),j4))))))
 refine sG (xR 2 ?_);refine xC [] (Gg n J U) QE (fun r5=>?_);exact xR 1 (xS r5 (fun h6=>xO (Qv h6) (xR 1 (CV [] (ED Y (.eptr (Gf.cs J)) G O (.lp (zY (.eptr (Gf.cs J))) Z .ready none)) 4000 (zY (.eptr (Gf.cs J))) [] [] [I U] Qc ab Qc Qc Qc Qc Qc (fun _=>sK (Qay ⟨[6,7],[1007,1403,1404,1405,4000],[],[]⟩ ⟨[(6,I 0),(7, .ptr 1007 0)],ED Y (.eptr (Gf.cs J)) G O (.lp (zY (.eptr (Gf.cs J))) Z .busy none)⟩ none Qc Qc (sB (sL Qd (QR (sM [1007,1403,1404,1405,4000] [] .busy none (VZ (xR 2 (xE (QS (wi (Y+1))))))))))))))) (fun h6=>xN (Qx h6) (xR 4 (xE (QS Y)))))
def Ye (n:Nat) (G:Int) (J:Int):Option (Int × Int) :=
 (JB n (wi (G * J)) 10000).bind fun Z =>
 (KL n Z).bind (F3 (fun Y =>
  (VP n 0).bind fun r5 =>
  some (Y,r5)) fun U=>(Q5 n U 0).bind fun O =>
 some (0,O))
def Jn (n:Nat) (G:Int) (J:Int):Option (Int × Int) :=
 (Ko n G).bind fun r7 =>
 cond r7
  ((Kc n J 0 100000).bind fun r9 =>
  (Kg n r9 1).bind (F3 (fun aa =>
   Ye n G J) fun Y=>(Q5 n Y 0).bind fun Z =>
  some (0,Z)))
  ((Kg n false 1).bind (F3 (fun ab =>
   Ye n G J) fun O=>(Q5 n O 0).bind fun U =>
  some (0,U)))
theorem Iw (n:Nat) (G:Int) (J:Int):∀ r,Jn n G J=some r→Kw Tryz.prog 92 [I G,I J] (Go.Abs.look []) (Ya (fun r:Int × Int=>((.ret (.tup [I r.1,I r.2]),[]):Zz × List (Nat × Blk))) r):=by
 refine Me (X:=fun r:Int × Int=>((.ret (.tup [I r.1,I r.2]),[]):Zz × List (Nat × Blk))) [] (⟨Tryz.f155,_,_,_,1,_,_,Tryz.func155,rfl,rfl,rfl,rfl,rfl,rfl,by decide,by decide,rfl,by kernel_rfl⟩:Lh Tryz.prog 155 156) (⟨_,_,_,_,_,5,6,_,rfl,rfl,rfl,rfl,rfl,rfl,rfl,by decide⟩:Ru Tryz.f92 155) 5 Tryz.func92 Tryz.ntmps92 rfl Qc rfl Qd rfl Qc Qc Qc ?_;unfold Jn;refine NM ⟨[(0,I G),(1,I J),(4,I 0),(5, .ptr 2000 0)],Lp 0⟩ ?_;refine K4 (fun _=>⟨[(0,I G),(1,I J),(4,I 0),(5, .ptr 2000 0)],Lp 0⟩:Unit→St) (fun _=>Ye n G J) ?_ ?_
 ·rintro _;show QO (Ye n G J) _ _ _ _ _ _;unfold Ye;refine sS ?_;refine sG ?_;refine xR 3 ?_;refine xC [] (Dp n (wi (G * J)) 10000) QE (fun r2=>?_);refine JK [] (Xr n r2) QE QE (fun r3=>?_) (fun e4=>?_)
  ·refine xR 2 ?_;refine xE ?_;refine Qk ⟨[(4,I r3),(5, .ptr 2000 0)],Lp 0⟩ ?_;refine sT ?_;refine qz ?_;refine Zf [(1001,2000)] [] [] (X8 n 0) Qc Qc Qc QE QE (fun r5=>?_);exact Jd (.id) [] []
  ·refine Uf ?_;refine Ia ?_;refine Zf [(1001,2000)] [] [] (Q8 n e4 0) Qc Qc Qc QE QE (fun r6=>?_);exact Jd (.id) [] []
 ·refine sG ?_;refine xR 1 ?_;refine xC [] (VK n G) QE (fun r7=>?_);refine xR 1 ?_;refine xS r7 (fun Y=>?_) (fun Y=>?_)
  ·refine xO (Qv Y) ?_;refine xC [] (Yl n J 0 100000) QE (fun Z=>?_);refine xR 1 ?_;refine JK [] (Kh n Z 1) QE QE (fun ac=>?_) (fun U=>?_)
   ·refine xE ?_;exact KP (k:=fun _=>Ye n G J) ()
   ·refine Ga ?_;refine Ia ?_;refine Zf [(1001,2000)] [] [] (Q8 n U 0) Qc Qc Qc QE QE (fun ab=>?_);exact Jd (.id) [] []
  ·refine xN (Qx Y) ?_;refine xR 2 ?_;refine JK [] (Kh n false 1) QE QE (fun ad=>?_) (fun O=>?_)
   ·refine xE ?_;exact KP (k:=fun _=>Ye n G J) ()
   ·refine Ga ?_;refine Ia ?_;refine Zf [(1001,2000)] [] [] (Q8 n O 0) Qc Qc Qc QE QE (fun aa=>?_);exact Jd (.id) [] []
theorem Bh (n:Nat) (G:Int) (J:Int):∀ r,Jn n G J=some r→QB Tryz.prog 92 [I G,I J] (.ret (.tup [I r.1,I r.2])):=fun r h=>P9 (Iw n G J r h) rfl
def VA (n:Nat) (U:Int) (G:Int) (O:List Z7) (J:Int):Option (Except Int Ka) :=
 (cond (leI 0 G)
  (some (F4 J G))
  (some J)).bind fun Y =>
 (Jn n Y U).bind fun r3 =>
 (Jm n r3.1 r3.2).bind (F3 (fun Z =>
  cond (Qp 1000000000 (wi (Y+Z)))
   (some (.error 3))
   (some (.ok (⟨O,Y,Z,wi (Y+Z)⟩:Ka)))) fun e5=>some (.error e5))
def Q0 (Z:Int) (Y:Int) (G:Int) (J:List Z7) (aa:Int) (O:(Int × Int × Int × (List Z7) × Int)→Option (Except Int Ka)) (U:Int):Option (Except Int Ka) :=
 cond (QM (List.length (J++[(⟨G,U⟩:Z7)])) 16) (
  O (Z,Y,wi (G+1),J++[(⟨G,U⟩:Z7)],wi (aa+U))) none
def KF (n:Nat) (Z:Kj) (U:YG) (x7:Q3) (O:(Int × Int)→Option Int) (J:Int) (G:Int):Option Int :=
 cond (Qp G (Qb (List.map Ho.cs U.Slices)))
  ((QY U.Slices G).bind fun Y =>
  (Vl n (⟨x7,Z,U⟩:Gf) Y.Minute).bind fun aa =>
  cond aa
   (O (wi (J+Y.Energy),wi (G+1)))
   (O (J,wi (G+1))))
  (some J)
def YD (n:Nat) (ah:K5) (ac:Kj) (aa:YG) (G:(Int × Int × Int × (List Z7) × Int)→Option (Except Int Ka)) (Z:Int) (J:Int) (O:Int) (Y:List Z7) (U:Int):Option (Except Int Ka) :=
 cond (Qp O (Qb (List.map Q3.cs ah.Articles)))
  ((QY ah.Articles O).bind fun x7 =>
  cond (Qr x7.Kind 5)
   ((cond (Qp J 0)
    (some true)
    (some (Qp x7.Price J))).bind fun j8 =>
   cond j8
    (G (Z,x7.Price,wi (O+1),Y,U))
    (G (Z,J,wi (O+1),Y,U)))
   (cond (Qr x7.Kind 6)
    (G (x7.Price,J,wi (O+1),Y,U))
    (cond (Qr x7.Kind 1)
     ((Vl n (⟨x7,ac,aa⟩:Gf) aa.From).bind fun aq =>
     cond aq
      (Q0 Z J O Y U G x7.Price)
      (Q0 Z J O Y U G 0))
     (cond (Qr x7.Kind 2)
      ((Qo (fun ab (ae,ad)=>KF n ac aa x7 ab ae ad) n (0,0)).bind fun ao =>
      (Vz n x7.Price ao 1000).bind fun af =>
      (Jm n af.1 af.2).bind (F3 (fun ak =>
       Q0 Z J O Y U G ak) fun aj=>some (.error aj)))
      (cond (Qr x7.Kind 3)
       ((JC n (⟨x7,ac,aa⟩:Gf) aa.From aa.To).bind (F3 (fun ai =>
        Q0 Z J O Y U G ai) fun al=>some (.error al)))
       (cond (Qr x7.Kind 4)
        ((JC n (⟨x7,ac,aa⟩:Gf) aa.End aa.To).bind (F3 (fun an =>
         Q0 Z J O Y U G an) fun am=>some (.error am)))
        (Q0 Z J O Y U G 0)))))))
  (VA n Z J Y U)
def FO (n:Nat) (ab:K5) (aa:Kj) (ac:YG):Option (Except Int Ka) :=
 Qo (fun G (U,O,Y,Z,J)=>YD n ab aa ac G U O Y Z J) n (0,(-1),0,[],0)
def zZ:Blk:=.box 62 [.p (.val (.slice none 0 0)),I 0,I 0,I 0]
def bT:=fun O G J=>([(3, .box 59 (Yx (K5.cs O))),(4, .box 52 (Yx (Kj.cs G))),(5, .box 55 (Yx (YG.cs J))),(6,zZ)]:List (Nat × Blk))
def QeA:=fun O G J=>([(3, .box 59 (Yx (K5.cs O))),(4, .box 52 (Yx (Kj.cs G))),(5, .box 55 (Yx (YG.cs J))),(6,zZ),(7,zZ)]:List (Nat × Blk))
def Qa6:=fun U J O G=>(.box 62 [.tsl 2 (List.map Z7.cs U) 38,I J,I O,I G]:Blk)
def Qa7:=fun G=>(.arr 137 2 (List.map Z7.cs G).length:Blk)
def uO:=fun G O U J=>([(6,zZ),(7,(Qa6 G O U J)),(38,(Qa7 G))]:List (Nat × Blk))
def QgJ:=fun U J O G=>(⟨[(6, .ptr 6 0),(7, .ptr 7 0)],uO U J O G⟩:St)
def lC:=fun U O G J=>([(4, .ptr 4 0),(5, .ptr 5 0),(6, .ptr 6 0),(7, .ptr 7 0),(8,I U),(9,I O),(15, .p (.sl 7 (List.map Q3.cs (K5.Articles G)))),(16,I (Qb (List.map Q3.cs (K5.Articles G)))),(17,I J)]:List (Nat × AV))
def QeB:=fun J G=>([(4, .box 52 (Yx (Kj.cs J))),(5, .box 55 (Yx (YG.cs G))),(6,zZ),(7,zZ)]:List (Nat × Blk))
def EE:=fun U O G J=>([(4, .box 52 (Yx (Kj.cs U))),(5, .box 55 (Yx (YG.cs O))),(6,zZ),(7,(Qa6 G J 0 0)),(38,(Qa7 G))]:List (Nat × Blk))
def uP:=fun U J G O Y=>([(4, .box 52 (Yx (Kj.cs U))),(5, .box 55 (Yx (YG.cs J))),(6,zZ),(7,(Qa6 G O 0 0)),(11, .box 183 (Yx (Q3.cs Y))),(38,(Qa7 G))]:List (Nat × Blk))
def Qiw:=fun G=>(.box 210 (Yx (Gf.cs G)):Blk)
def YE:=fun G=>([(1000,(Qiw G))]:List (Nat × Blk))
def Qa8:=fun G=>(⟨[(0, .ptr 1000 0)],YE G⟩:St)
def Qix:=fun J G=>(⟨[(0, .ptr 1000 0),(6, .ptr 1000 0),(7,I (Q3.Kind J))],YE G⟩:St)
def Qa9:=fun J G=>(⟨[(2, .fn J [.ptr 1000 0] [])],YE G⟩:St)
def Qba:=fun O G J=>([(0, .ptr 1000 0),(3,I O),(6, .ptr 1000 0),(7, .ptr 1000 0),(10, .p (.sl 2 (List.map Ho.cs (YG.Slices G)))),(11,I (Qb (List.map Ho.cs (YG.Slices G)))),(12,I J)]:List (Nat × AV))
abbrev bU (x:Ho):Go.Abs.Blk:=.box 207 (Yx (Ho.cs x))
theorem z8 (n:Nat) (ab:K5) (J:Kj) (G:YG):∀ r,FO n ab J G=some r→QB Tryz.prog 47 [ag (K5.cs ab),ag (Kj.cs J),ag (YG.cs G)] (zM (fun r:Ka=>(ag (Ka.cs r):AV)) (fun e:Int=>(.ifc 196 (.agg [I e]):AV)) r):=by
 refine Qj Tryz.func47 rfl Tryz.ntmps47 rfl ?_;unfold FO;refine Qf Qd ⟨[qq 3,qq 4,qq 5,qq 6],bT ab J G⟩ (Qf Qd ⟨[qq 3,qq 4,qq 5,qq 6,qq 7],QeA ab J G⟩ (Qf Qd ⟨[qq 3,qq 4,qq 5,qq 6,qq 7,(8,I 0),(9,I (-1))],QeA ab J G⟩ (K4 (fun (ak,ai,af,aj)=>⟨[qq 6,qq 7,(8,I ak),(9,I ai)],uO af aj 0 0⟩:(Int × Int × (List Z7) × Int)→St) (fun (ak,ai,af,aj)=>VA n ak ai af aj) ?_ ?_)))
 ·rintro ⟨ak,ai,af,aj⟩;show QO (VA n ak ai af aj) _ _ _ _ _ _;unfold VA;refine KI (fun j2=>⟨[qq 6,qq 7,(8,I ak)],uO af j2 0 0⟩:Int→St) (Qf Qd ⟨[qq 6,qq 7,(8,I ak),(9,I ai),(63,B (leI 0 ai))],uO af aj 0 0⟩ (sC (leI 0 ai) (sL Qd (QS (F4 aj ai))) (sK (QS aj)))) ?_;rintro j2;refine sS (sG (xR 3 ?_));refine xC [] (Bh n j2 ak) QE (fun r3=>?_);refine xR 2 ?_;refine JK [] (FM n r3.1 r3.2) QE QE (fun r4=>?_) (fun e5=>?_);rotate_left
  ·exact Uf (qy)
  exact xR 2 (xE (Qk (QgJ af j2 r4 0) (Qf Qd (QgJ af j2 r4 (wi (j2+r4))) (sS (Qf Qd ⟨[qq 6,qq 7,(85,B (Qp 1000000000 (wi (j2+r4))))],uO af j2 r4 (wi (j2+r4))⟩ (sC (Qp 1000000000 (wi (j2+r4))) (sG (xR 2 (xPa 196 (.agg [I 3]) Qc rfl Qc (Uf (qy))))) (sK (Qk (QgJ af j2 r4 (wi (j2+r4))) (Qf Qd ⟨[qq 6],[(6,(Qa6 af j2 r4 (wi (j2+r4)))),(38,(Qa7 af))]⟩ (sT (qR (.agg [.sl 2, .id, .id, .id]))))))))))))
 refine Qf Qd ⟨lC 0 (-1) ab 0,QeB J G⟩ (sB (NM ⟨lC 0 (-1) ab 0,QeB J G⟩ (Kz (Yk 137 2 38 [] [(7,0)]) (QF (fun (aa,Y,O,U,Z)=>⟨lC aa Y ab O,EE J G U Z⟩:(Int × Int × Int × (List Z7) × Int)→St) (H5) ?_))));rintro ah ⟨aa,Y,O,U,Z⟩;show QO (YD n ab J G ah aa Y O U Z) _ _ _ _ _ _;unfold YD;refine Qf Qd ⟨[qq 4,qq 5,qq 6,qq 7,(8,I aa),(9,I Y),(15, .p (.sl 7 (YX ab.Articles))),(16,I (Qb (YX ab.Articles))),(17,I O),(18,B (Qp O (Qb (YX ab.Articles))))],EE J G U Z⟩ (sS (sC (Qp O (Qb (YX ab.Articles))) (sK (Qk ⟨lC aa Y ab O,EE J G U Z⟩ (sS (sB (sS (sG (xR 1 (xG (Zx (e:=183) (S:=7) (enc:=Q3.cs) (l:=ab.Articles) (k:=.i64) (n:=O) (sv:=.p (.sl 7 (YX ab.Articles))) rfl Qc Qc Qc Qc Qc) (fun x7=>xR 4 (xE (Qk ⟨[qq 4,qq 5,qq 6,qq 7,(8,I aa),(9,I Y),(10,I O),qq 11,(15, .p (.sl 7 (YX ab.Articles))),(16,I (Qb (YX ab.Articles))),(17,I O)],uP J G U Z x7⟩ (Qf Qd ⟨[qq 4,qq 5,qq 6,qq 7,(8,I aa),(9,I Y),(10,I O),qq 11,(15, .p (.sl 7 (YX ab.Articles))),(16,I (Qb (YX ab.Articles))),(17,I O),(23,I x7.Kind)],uP J G U Z x7⟩ (sB (Qf Qd ⟨[qq 4,qq 5,qq 6,qq 7,(8,I aa),(9,I Y),(10,I O),qq 11,(15, .p (.sl 7 (YX ab.Articles))),(16,I (Qb (YX ab.Articles))),(17,I O),(23,I x7.Kind),(45,B (Qr x7.Kind 5))],uP J G U Z x7⟩ (sC (Qr x7.Kind 5) ?_ ?_))))))))))))))) (Qq (ZR (Yp (QL (KP (k:=fun (ak,ai,af,aj)=>VA n ak ai af aj) (aa,Y,U,Z))))))))
 ·refine KI (fun j8=>⟨[qq 4,qq 5,qq 6,qq 7,(8,I aa),(9,I Y),qq 11,(15, .p (.sl 7 (YX ab.Articles))),(16,I (Qb (YX ab.Articles))),(17,I O),(54,B j8)],uP J G U Z x7⟩:Bool→St) (sG (xR 3 (xS (Qp Y 0) (fun h9=>xN (Qy h9) (xR 4 (xE (QS true)))) (fun h9=>xO (Qw h9) (xR 4 (xE (QS (Qp x7.Price Y)))))))) ?_;rintro j8;exact sC j8 (sL Qd (QR (QR (Qk ⟨[qq 4,qq 5,qq 6,qq 7,(8,I aa),(9,I x7.Price),(15, .p (.sl 7 (YX ab.Articles))),(16,I (Qb (YX ab.Articles))),(17,I O)],EE J G U Z⟩ (sL Qd (KP (aa,x7.Price,wi (O+1),U,Z))))))) (sK (QR (QR (Qk ⟨lC aa Y ab O,EE J G U Z⟩ (sL Qd (KP (aa,Y,wi (O+1),U,Z)))))))
 refine Qf Qd ⟨[qq 4,qq 5,qq 6,qq 7,(8,I aa),(9,I Y),(10,I O),qq 11,(15, .p (.sl 7 (YX ab.Articles))),(16,I (Qb (YX ab.Articles))),(17,I O),(57,B (Qr x7.Kind 6))],uP J G U Z x7⟩ (sC (Qr x7.Kind 6) (sL Qd (QR (QR (Qk ⟨[qq 4,qq 5,qq 6,qq 7,(8,I x7.Price),(9,I Y),(15, .p (.sl 7 (YX ab.Articles))),(16,I (Qb (YX ab.Articles))),(17,I O)],EE J G U Z⟩ (sL Qd (KP (x7.Price,Y,wi (O+1),U,Z))))))) (Qf Qd ⟨[qq 4,qq 5,qq 6,qq 7,(8,I aa),(9,I Y),(10,I O),(12, .ptr 28 0),(15, .p (.sl 7 (YX ab.Articles))),(16,I (Qb (YX ab.Articles))),(17,I O)],[(4,qX J),(5,NU G),(6,zZ),(7,(Qa6 U Z 0 0)),(28,(Qiw ⟨x7,J,G⟩)),(38,(Qa7 U))]⟩ (K4 (fun ad=>⟨[qq 4,qq 5,qq 6,qq 7,(8,I aa),(9,I Y),(10,I O),(13,I ad),(15, .p (.sl 7 (YX ab.Articles))),(16,I (Qb (YX ab.Articles))),(17,I O)],EE J G U Z⟩:Int→St) (fun ad=>Q0 aa Y O U Z ah ad) ?_ ?_)))
 ·rintro ad;show QO (Q0 aa Y O U Z ah ad) _ _ _ _ _ _;unfold Q0;exact sS (sG (xR 6 (xF (YV (e:=137) (S:=2) (by_:=16) (enc:=Z7.cs) (tk:=38) (l:=U) (l2:=[(⟨O,ad⟩:Z7)]) (xv:=.tsl 2 (Em [(⟨O,ad⟩:Z7)]) 37) rfl Qc Qc rfl Qc Qc Qc rfl Qc) (xR 2 (xE (Qk ⟨[qq 4,qq 5,qq 6,qq 7,(8,I aa),(9,I Y),(13,I ad),(15, .p (.sl 7 (YX ab.Articles))),(16,I (Qb (YX ab.Articles))),(17,I O)],EE J G (U++[(⟨O,ad⟩:Z7)]) Z⟩ (sL Qd (QR (QR (Qk ⟨lC aa Y ab O,EE J G (U++[(⟨O,ad⟩:Z7)]) (wi (Z+ad))⟩ (sL Qd (KP (aa,Y,wi (O+1),U++[(⟨O,ad⟩:Z7)],wi (Z+ad))))))))))))))
 refine sG (xR 1 (Gn (YE ⟨x7,J,G⟩) [Zh] [(1000,28)] [] [] Tryz.func97 rfl Tryz.ntmps97 rfl (Qf Qd (Qa8 ⟨x7,J,G⟩) (sS (Qf Qd (Qix x7 ⟨x7,J,G⟩) (sB (Qf Qd ⟨[(0,Zh),(6,Zh),(7,I x7.Kind),(8,B (Qr x7.Kind 1))],YE ⟨x7,J,G⟩⟩ (sC (Qr x7.Kind 1) ?_ ?_))))))))
 ·refine Qf Qd (Qa9 (.func 164) ⟨x7,J,G⟩) (sT (Q4 (QA (QC (.id) [1000] [] (.fn (.func 164) [Zh] []) (VZ (Gn (YE ⟨x7,J,G⟩) [Zh] [(1000,28)] [] [] Tryz.func164 rfl Tryz.ntmps164 rfl (Qf Qd (Qa8 ⟨x7,J,G⟩) (sS (sS (sG (xR 6 ?_)))))))))));refine Xz [.ro [], .cv (.id)] (Gg n (⟨x7,J,G⟩:Gf) G.From) QE (fun aw=>?_);exact xE (Qk ⟨[(0,Zh),(6, .ptr 1000 10),(7, .ptr 1000 10),(9,B aw)],YE ⟨x7,J,G⟩⟩ (sC aw (Qf Qd ⟨[(2,I x7.Price)],YE ⟨x7,J,G⟩⟩ (sT (QA (QC (.id) [1000] [] (I x7.Price) (VZ (xR 1 (xE (KP (k:=fun ad=>Q0 aa Y O U Z ah ad) x7.Price)))))))) (sK (Qk ⟨[(6, .ptr 1000 10),(7, .ptr 1000 10)],YE ⟨x7,J,G⟩⟩ (Qf Qd ⟨[(2,I 0)],YE ⟨x7,J,G⟩⟩ (sT (QC (.id) [1000] [] (I 0) (VZ (xR 1 (xE (KP (k:=fun ad=>Q0 aa Y O U Z ah ad) 0)))))))))))
 refine Qf Qd ⟨[(0,Zh),(6,Zh),(7,I x7.Kind),(12,B (Qr x7.Kind 2))],YE ⟨x7,J,G⟩⟩ (sC (Qr x7.Kind 2) ?_ ?_)
 ·refine Qf Qd (Qa9 (.func 165) ⟨x7,J,G⟩) (sT (Q4 (QA (QC (.id) [1000] [] (.fn (.func 165) [Zh] []) (VZ (Gn (YE ⟨x7,J,G⟩) [Zh] [(1000,28)] [] [] Tryz.func165 rfl Tryz.ntmps165 rfl (Qf Qd (Qa8 ⟨x7,J,G⟩) (Qf Qd ⟨[(0,Zh),(3,I 0)],YE ⟨x7,J,G⟩⟩ (KI (fun ar=>⟨[(0,Zh),(3,I ar),(6,Zh),(7,Zh)],YE ⟨x7,J,G⟩⟩:Int→St) ?_ ?_)))))))));rotate_left
  ·rintro ar;refine sS (sG (xR 6 ?_));refine xC [] (RV n x7.Price ar 1000) QE (fun au=>?_);refine xR 2 ?_;refine JK [] (FM n au.1 au.2) QE QE (fun ao=>?_) (fun ay=>?_)
   ·exact xR 1 (xE (Qk ⟨[(2,I ao)],YE ⟨x7,J,G⟩⟩ (sT (QC (.id) [1000] [] (I ao) (VZ (xR 1 (xE (KP (k:=fun ad=>Q0 aa Y O U Z ah ad) ao))))))))
   exact Uf (NC [1000] [] (Ga (SB (SB (Uf (Ga (SB (Ga (qy)))))))))
  refine Qf Qd ⟨Qba 0 G 0,YE ⟨x7,J,G⟩⟩ (sB (QF (fun (ae,ac)=>⟨Qba ae G ac,YE ⟨x7,J,G⟩⟩:(Int × Int)→St) (H5) ?_));rintro am ⟨ae,ac⟩;show QO (KF n J G x7 am ae ac) _ _ _ _ _ _;unfold KF;refine Qf Qd ⟨[(0,Zh),(3,I ae),(6,Zh),(7,Zh),(10, .p (.sl 2 (M5 G.Slices))),(11,I (Qb (M5 G.Slices))),(12,I ac),(13,B (Qp ac (Qb (M5 G.Slices))))],YE ⟨x7,J,G⟩⟩ (sS (sC (Qp ac (Qb (M5 G.Slices))) (sK (Qk ⟨Qba ae G ac,YE ⟨x7,J,G⟩⟩ (sS (sB (sS (sG (xG (Zx (e:=207) (S:=2) (enc:=Ho.cs) (l:=G.Slices) (k:=.i64) (n:=ac) (sv:=.p (.sl 2 (M5 G.Slices))) rfl Qc Qc Qc Qc Qc) (fun al=>xR 3 (xE (Qk ⟨[(0,Zh),(3,I ae),qq 5,(6,Zh),(7,Zh),(10, .p (.sl 2 (M5 G.Slices))),(11,I (Qb (M5 G.Slices))),(12,I ac)],[(5,bU al)]++YE ⟨x7,J,G⟩⟩ (sS (sG (xR 3 ?_))))))))))))) (Qq (ZR (Yp (QL (QS ae)))))));refine Xz [.ro [], .cv (.id)] (Gg n (⟨x7,J,G⟩:Gf) al.Minute) QE (fun av=>?_);exact xE (Qk ⟨[(0,Zh),(3,I ae),qq 5,(6,Zh),(7,Zh),(10, .p (.sl 2 (M5 G.Slices))),(11,I (Qb (M5 G.Slices))),(12,I ac),(19,B av)],[(5,bU al)]++YE ⟨x7,J,G⟩⟩ (sC av (sL Qd (QR (Qk ⟨Qba (wi (ae+al.Energy)) G ac,YE ⟨x7,J,G⟩⟩ (sL Qd (KP (wi (ae+al.Energy),wi (ac+1))))))) (sK (QR (Qk ⟨Qba ae G ac,YE ⟨x7,J,G⟩⟩ (sL Qd (KP (ae,wi (ac+1)))))))))
 refine Qf Qd ⟨[(0,Zh),(6,Zh),(7,I x7.Kind),(16,B (Qr x7.Kind 3))],YE ⟨x7,J,G⟩⟩ (sC (Qr x7.Kind 3) ?_ ?_)
 ·refine Qf Qd (Qa9 (.func 166) ⟨x7,J,G⟩) (sT (Q4 (QA (QC (.id) [1000] [] (.fn (.func 166) [Zh] []) (VZ (Gn (YE ⟨x7,J,G⟩) [Zh] [(1000,28)] [] [] Tryz.func166 rfl Tryz.ntmps166 rfl (Qf Qd (Qa8 ⟨x7,J,G⟩) (sS (CQ Qd rfl (xR 11 (P8 rfl Qc Qc ?_)))))))))));refine CU [.ro [], .cv (.id), .cv (.id)] (Dq n (⟨x7,J,G⟩:Gf) G.From G.To) QE QE (fun an=>?_) (fun ax=>?_)
  ·exact xR 1 (xE (Qk ⟨[(2,I an)],YE ⟨x7,J,G⟩⟩ (sT (QC (.id) [1000] [] (I an) (VZ (xR 1 (xE (KP (k:=fun ad=>Q0 aa Y O U Z ah ad) an))))))))
  exact Uf (NC [1000] [] (Ga (SB (SB (Uf (Ga (SB (Ga (qy)))))))))
 refine Qf Qd ⟨[(0,Zh),(6,Zh),(7,I x7.Kind),(20,B (Qr x7.Kind 4))],YE ⟨x7,J,G⟩⟩ (sC (Qr x7.Kind 4) (Qf Qd (Qa9 (.func 167) ⟨x7,J,G⟩) (sT (Q4 (QA (QC (.id) [1000] [] (.fn (.func 167) [Zh] []) (VZ (Gn (YE ⟨x7,J,G⟩) [Zh] [(1000,28)] [] [] Tryz.func167 rfl Tryz.ntmps167 rfl (Qf Qd (Qa8 ⟨x7,J,G⟩) (sS (CQ Qd rfl (xR 11 (P8 rfl Qc Qc ?_)))))))))))) (sK (QR (Qk (Qix x7 ⟨x7,J,G⟩) (Qf Qd (Qa9 (.func 168) ⟨x7,J,G⟩) (sT (QC (.id) [1000] [] (.fn (.func 168) [Zh] []) (VZ (Gn (YE ⟨x7,J,G⟩) [Zh] [(1000,28)] [] [] Tryz.func168 rfl Tryz.ntmps168 rfl (Qf Qd ⟨[],YE ⟨x7,J,G⟩⟩ (Qf Qd ⟨[(2,I 0)],YE ⟨x7,J,G⟩⟩ (sT (QC (.id) [1000] [] (I 0) (VZ (xR 1 (xE (KP (k:=fun ad=>Q0 aa Y O U Z ah ad) 0)))))))))))))))));refine CU [.ro [], .cv (.id), .cv (.id)] (Dq n (⟨x7,J,G⟩:Gf) G.End G.To) QE QE (fun aq=>?_) (fun az=>?_)
 ·exact xR 1 (xE (Qk ⟨[(2,I aq)],YE ⟨x7,J,G⟩⟩ (sT (QC (.id) [1000] [] (I aq) (VZ (xR 1 (xE (KP (k:=fun ad=>Q0 aa Y O U Z ah ad) aq))))))))
 exact Uf (NC [1000] [] (Ga (SB (SB (Uf (Ga (SB (Ga (qy)))))))))
def Gh (n:Nat) (G:Int) (J:Int):Option Int :=
 some G
def Qiy:=fun G=>([(0, .ifc 196 (.agg [I G])),(1, .ptr 1001 0),(6, .ifc 196 (.agg [I G])),(7,B false)]:List (Nat × AV))
theorem NW (n:Nat) (G:Int) (J:Int):∀ r,Gh n G J=some r→Kw Tryz.prog 43 [.ifc 196 (.agg [I G]),L8] (Go.Abs.look [(1001, .box 29 [I J])]) (Ya (fun r:Int=>((.ret (.tup []),[(1001, .box 29 [I r])]):Zz × List (Nat × Blk))) r):=by
 refine Km (MK J) Tryz.func43 rfl Tryz.ntmps43 rfl ?_;unfold Gh;exact sS (Qf Qd ⟨Qiy G,MK J⟩ (QW (sK (Qk ⟨Qiy G,MK J⟩ (Qf Qd ⟨[(0, .ifc 196 (.agg [I G])),(1,L8),qq 4,(5,B true),(6, .ifc 196 (.agg [I G])),(7,B false)],[(4, .box 196 [I G])]++MK J⟩ (sS (Qf Qd ⟨[(0, .ifc 196 (.agg [I G])),(1,L8),qq 4,(6, .ifc 196 (.agg [I G])),(7,B false),(14,B false)],[(4, .box 196 [I G])]++MK J⟩ (QW (sK (Qk ⟨[(1,L8),qq 4,(6, .ifc 196 (.agg [I G])),(7,B false)],[(4, .box 196 [I G])]++MK J⟩ (sL Qd (sH (.id) [1001] []))))))))))))
def Vm (n:Nat) (J:K5) (G:Kj) (O:YG):Option (Ka × Int) :=
 ((UI n J).bind fun r2 =>
 cond (!r2)
  (some true)
  ((Yz n G).bind fun r4 =>
  cond (!r4)
   (some true)
   ((JA n O).bind fun Z =>
   some (!Z)))).bind fun j1 =>
 cond j1
  ((U3 n 1).bind fun r7 =>
  some ((⟨[],0,0,0⟩:Ka),r7))
  ((FO n J G O).bind (F3 (fun r8 =>
   (U3 n 0).bind fun Y =>
   some (r8,Y)) fun e9=>(Gh n e9 0).bind fun U =>
  some ((⟨[],0,0,0⟩:Ka),U)))
def Qiz:List (Nat × AV):=[(3, .ptr 3 0),(4, .ptr 4 0),(5, .ptr 5 0),(6, .ptr 6 0),(7, .ptr 2000 0)]
theorem Iy (n:Nat) (J:K5) (G:Kj) (O:YG):∀ r,Vm n J G O=some r→Kw Tryz.prog 18 [ag (K5.cs J),ag (Kj.cs G),ag (YG.cs O)] (Go.Abs.look []) (Ya (fun r:Ka × Int=>((.ret (.tup [ag (Ka.cs r.1),I r.2]),[]):Zz × List (Nat × Blk))) r):=by
 refine Me (X:=fun r:Ka × Int=>((.ret (.tup [ag (Ka.cs r.1),I r.2]),[]):Zz × List (Nat × Blk))) [] (⟨Tryz.f42,_,_,_,1,_,_,Tryz.func42,rfl,rfl,rfl,rfl,rfl,rfl,by decide,by decide,rfl,by kernel_rfl⟩:Lh Tryz.prog 42 43) (⟨_,_,_,_,_,7,8,_,rfl,rfl,rfl,rfl,rfl,rfl,rfl,by decide⟩:Ru Tryz.f18 42) 7 Tryz.func18 Tryz.ntmps18 rfl Qc rfl Qd rfl Qc Qc Qc ?_;unfold Vm;refine NM ⟨Qiz,bT J G O++Lp 0⟩ ?_;refine sS ?_;refine KI (fun Z=>⟨[(3, .ptr 3 0),(4, .ptr 4 0),(5, .ptr 5 0),(6, .ptr 6 0),(7, .ptr 2000 0),(21,B Z)],bT J G O++Lp 0⟩:Bool→St) ?_ ?_
 ·refine sG ?_;refine xR 1 ?_;refine xC [] (TW n J) QE (fun r2=>?_);refine xR 2 ?_;refine xS (!r2) (fun Y=>?_) (fun Y=>?_)
  ·refine xN (Qy Y) ?_;refine xR 8 ?_;refine xE ?_;exact QS true
  ·refine xO (Qw Y) ?_;refine xC [] (Wz n G) QE (fun r4=>?_);refine xR 3 ?_;refine xS (!r4) (fun U=>?_) (fun U=>?_)
   ·refine xN (Qy U) ?_;refine xR 3 ?_;refine xE ?_;exact QS true
   ·refine xO (Qw U) ?_;refine xC [] (Dm n O) QE (fun r6=>?_);refine xR 2 ?_;refine xE ?_;exact QS (!r6)
 ·rintro Z;refine sC Z ?_ ?_
  ·refine Qf Qd ⟨[(6, .ptr 6 0),(7, .ptr 2000 0)],[(6,zZ)]++Lp 1⟩ ?_;refine sT ?_;refine QA ?_;refine qz ?_;refine Zf [(1001,2000)] [] [] (RU n 1) Qc Qc Qc QE QE (fun r7=>?_);exact Jd (.agg [.agg [.sl 2, .id, .id, .id], .id]) [] []
  ·refine sK ?_;refine Qk ⟨Qiz,bT J G O++Lp 0⟩ ?_;refine sS ?_;refine sG ?_;refine xR 3 ?_;refine JK [] (z8 n J G O) QE QE (fun r8=>?_) (fun e9=>?_)
   ·refine xR 2 ?_;refine xE ?_;refine Qk ⟨[(6, .ptr 6 0),(7, .ptr 2000 0)],[(6, .box 62 (Yx (Ka.cs r8)))]++Lp 0⟩ ?_;refine sT ?_;refine qz ?_;refine Zf [(1001,2000)] [] [] (RU n 0) Qc Qc Qc QE QE (fun ab=>?_);exact Jd (.id) [] []
   ·refine Uf ?_;refine Ia ?_;refine Zf [(1001,2000)] [] [] (NW n e9 0) Qc Qc Qc QE QE (fun aa=>?_);exact Jd (.agg [.agg [.sl 2, .id, .id, .id], .id]) [] []
theorem FP (n:Nat) (O:K5) (G:Kj) (J:YG):∀ r,Vm n O G J=some r→QB Tryz.prog 18 [ag (K5.cs O),ag (Kj.cs G),ag (YG.cs J)] (.ret (.tup [ag (Ka.cs r.1),I r.2])):=fun r h=>P9 (Iy n O G J r h) rfl
def X9 (G:Int):Option (Int × Int) :=
 cond (Qp 1000000000 G)
  (some (0,3))
  (some (G,0))
def TY (n:Nat) (ac:K5) (ab:Kj) (aa:YG) (G:List Int) (U:(Int × Int × Int)→Option (Int × Int)) (O:Int) (Z:Int) (J:Int):Option (Int × Int) :=
 cond (Qp J (wi ((Qb (List.map ci G))+1)))
  ((cond (Qp J (Qb (List.map ci G)))
   ((QY G J).bind fun x8 =>
   some x8)
   (some aa.To)).bind fun j7 =>
  (qZ n aa Z j7).bind fun r9 =>
  (Vm n ac ab r9).bind fun Y =>
  cond (!Qr Y.2 0)
   (some (0,Y.2))
   (U (wi (O+Y.1.Total),j7,wi (J+1))))
  (X9 O)
def Mv (n:Nat) (ab:K5) (U:Kj) (J:YG) (G:List Int):Option (Int × Int) :=
 ((SV n ab U J).bind fun r2 =>
 cond (!r2)
  (some true)
  ((LV n J G).bind fun r4 =>
  some (!r4))).bind fun j1 =>
 cond j1
  (some (0,1))
  (Qo (fun O (aa,Z,Y)=>TY n ab U J G O aa Z Y) n (0,J.From,0))
def QiA:=fun G=>([(3, .p (.sl 1 (List.map ci G))),(4, .ptr 4 0),(5, .ptr 5 0),(6, .ptr 6 0)]:List (Nat × AV))
def RX:=fun O G J=>([(4, .box 59 (Yx (K5.cs O))),(5, .box 52 (Yx (Kj.cs G))),(6, .box 55 (Yx (YG.cs J)))]:List (Nat × Blk))
def QgK:=fun U G O J Y=>([(3, .p (.sl 1 (List.map ci U))),(4, .ptr 4 0),(5, .ptr 5 0),(6, .ptr 6 0),(10,I G),(11,I O),(31,I J),(32,I Y)]:List (Nat × AV))
def Qbb:=fun U J O G=>([(4, .box 59 (Yx (K5.cs U))),(5, .box 52 (Yx (Kj.cs J))),(6, .box 55 (Yx (YG.cs O))),(14, .box 62 (Yx (Ka.cs G)))]:List (Nat × Blk))
theorem EF (n:Nat) (Z:K5) (Y:Kj) (O:YG) (G:List Int):∀ r,Mv n Z Y O G=some r→QB Tryz.prog 39 [ag (K5.cs Z),ag (Kj.cs Y),ag (YG.cs O), .p (.sl 1 (List.map ci G))] (.ret (.tup [I r.1,I r.2])):=by
 refine Qj Tryz.func39 rfl Tryz.ntmps39 rfl ?_;unfold Mv;refine Qf Qd ⟨QiA G,RX Z Y O⟩ (sS (KI (fun j1=>⟨[(3, .p (.sl 1 (List.map ci G))),qq 4,qq 5,qq 6,(26,B j1)],RX Z Y O⟩:Bool→St) ?_ ?_))
 ·refine sG (xR 3 ?_);refine xC [] (wL n Z Y O) QE (fun r2=>?_);refine xR 2 (xS (!r2) (fun h3=>xN (Qy h3) (xR 4 (xE (QS true)))) (fun h3=>xO (Qw h3) (xR 1 ?_)));refine xC [] (SX n O G) QE (fun r4=>?_);exact xR 2 (xE (QS (!r4)))
 rintro j1;refine sC j1 (Qf Qd ⟨[(8,I 0),(9,I 1)],[]⟩ (sT (QA (qR (.id))))) (sK (Qk ⟨QiA G,RX Z Y O⟩ (Qf Qd ⟨[(3, .p (.sl 1 (List.map ci G))),qq 4,qq 5,qq 6,(10,I 0),(11,I O.From)],RX Z Y O⟩ (K4 (fun j5=>⟨[(10,I j5)],[]⟩:Int→St) (fun j5=>X9 j5) ?_ ?_))))
 ·rintro j5;show QO (X9 j5) _ _ _ _ _ _;unfold X9;exact sS (Qf Qd ⟨[(10,I j5),(65,B (Qp 1000000000 j5))],[]⟩ (sC (Qp 1000000000 j5) (Qf Qd ⟨[(8,I 0),(9,I 3)],[]⟩ (sT (QA (qR (.id))))) (sK (Qk ⟨[(10,I j5)],[]⟩ (Qf Qd ⟨[(8,I j5),(9,I 0)],[]⟩ (sT (qR (.id))))))))
 refine Qf Qd ⟨[(3, .p (.sl 1 (List.map ci G))),qq 4,qq 5,qq 6,(10,I 0),(11,I O.From),(31,I (wi ((Qb (List.map ci G))+1))),(32,I 0)],RX Z Y O⟩ (sB (QF (fun (U,aa,J)=>⟨QgK G U aa (wi ((Qb (List.map ci G))+1)) J,RX Z Y O⟩:(Int × Int × Int)→St) (H5) ?_));rintro ac ⟨U,aa,J⟩;show QO (TY n Z Y O G ac U aa J) _ _ _ _ _ _;unfold TY;refine Qf Qd ⟨[(3, .p (.sl 1 (List.map ci G))),qq 4,qq 5,qq 6,(10,I U),(11,I aa),(31,I (wi ((Qb (List.map ci G))+1))),(32,I J),(33,B (Qp J (wi ((Qb (List.map ci G))+1))))],RX Z Y O⟩ (sS (sC (Qp J (wi ((Qb (List.map ci G))+1))) (sK (Qk ⟨QgK G U aa (wi ((Qb (List.map ci G))+1)) J,RX Z Y O⟩ (sS (sB (Qf Qd ⟨[(3, .p (.sl 1 (List.map ci G))),qq 4,qq 5,qq 6,(10,I U),(11,I aa),(12,I J),(31,I (wi ((Qb (List.map ci G))+1))),(32,I J)],RX Z Y O⟩ (Qf Qd ⟨[(3, .p (.sl 1 (List.map ci G))),qq 4,qq 5,qq 6,(10,I U),(11,I aa),(12,I J),(13,I O.To),(31,I (wi ((Qb (List.map ci G))+1))),(32,I J)],RX Z Y O⟩ (KI (fun j7=>⟨[(3, .p (.sl 1 (List.map ci G))),qq 4,qq 5,qq 6,(10,I U),(11,I aa),(13,I j7),(31,I (wi ((Qb (List.map ci G))+1))),(32,I J)],RX Z Y O⟩:Int→St) (Qf Qd ⟨[(3, .p (.sl 1 (List.map ci G))),qq 4,qq 5,qq 6,(10,I U),(11,I aa),(12,I J),(13,I O.To),(31,I (wi ((Qb (List.map ci G))+1))),(32,I J),(40,B (Qp J (Qb (List.map ci G))))],RX Z Y O⟩ (sC (Qp J (Qb (List.map ci G))) (sG (xR 2 (xG (Zx (e:=3) (S:=1) (enc:=ci) (l:=G) (k:=.i64) (n:=J) (sv:=.p (.sl 1 (List.map ci G))) rfl Qc Qc Qc Qc Qc) (fun x8=>xR 2 (xE (QS x8)))))) (sK (QS O.To)))) ?_))))))) (Qq (ZR (Yp (QL (KP (k:=fun j5=>X9 j5) U)))))));rintro j7;refine sS (CQ Qd rfl (xR 5 ?_));refine xC [] (uN n O aa j7) QE (fun r9=>?_);refine xC [] (FP n Z Y r9) QE (fun ab=>?_);exact xR 6 (BZ (Qk ⟨[(3, .p (.sl 1 (List.map ci G))),qq 4,qq 5,qq 6,(10,I U),(13,I j7),qq 14,(15,I ab.2),(31,I (wi ((Qb (List.map ci G))+1))),(32,I J)],Qbb Z Y O ab.1⟩ (sS (Qf Qd ⟨[(3, .p (.sl 1 (List.map ci G))),qq 4,qq 5,qq 6,(10,I U),(13,I j7),qq 14,(15,I ab.2),(31,I (wi ((Qb (List.map ci G))+1))),(32,I J),(56,B (!Qr ab.2 0))],Qbb Z Y O ab.1⟩ (sC (!Qr ab.2 0) (Qf Qd ⟨[(8,I 0),(9,I ab.2)],[]⟩ (sT (QA (Q4 (QA (VX (Q4 (VX (qR (.id)))))))))) (sK (Qk ⟨[(3, .p (.sl 1 (List.map ci G))),qq 4,qq 5,qq 6,(10,I U),(13,I j7),qq 14,(31,I (wi ((Qb (List.map ci G))+1))),(32,I J)],Qbb Z Y O ab.1⟩ (sL Qd (QR (Qk ⟨QgK G (wi (U+ab.1.Total)) j7 (wi ((Qb (List.map ci G))+1)) J,RX Z Y O⟩ (sL Qd (KP (wi (U+ab.1.Total),j7,wi (J+1))))))))))))))
def JN (n:Nat) (J:Int) (O:Int) (G:Int):Option Bool :=
 (cond (leI 0 J)
  (cond (Qp J O)
   (cond (leI (wi (O - J)) 2880)
    (cond (leI O 52560000)
     (cond (leI 0 G)
      (some (leI G 480000))
      (some false))
     (some false))
    (some false))
   (some false))
  (some false)).bind fun U =>
 some U
theorem TZ (n:Nat) (J:Int) (O:Int) (G:Int):∀ r,JN n J O G=some r→QB Tryz.prog 90 [I J,I O,I G] (.ret (B r)):=by
 refine Qj Tryz.func90 rfl Tryz.ntmps90 rfl ?_;unfold JN;refine Qf Qd (Qgs J O G) (KI (fun j1=>⟨[(6,B j1)],[]⟩:Bool→St) ?_ ?_);rotate_left
 ·rintro j1;exact sT (qR (.id))
 exact sG (xR 3 (xS (leI 0 J) (fun Z=>xO (Qv Z) (xR 4 (xS (Qp J O) (fun h3=>xO (Qv h3) (xR 5 (xS (leI (wi (O - J)) 2880) (fun U=>xO (Qv U) (xR 3 (xS (leI O 52560000) (fun Y=>xO (Qv Y) (xR 3 (xS (leI 0 G) (fun h6=>xO (Qv h6) (xR 3 (xE (QS (leI G 480000))))) (fun h6=>xN (Qx h6) (xR 3 (xE (QS false))))))) (fun Y=>xN (Qx Y) (xR 7 (xE (QS false))))))) (fun U=>xN (Qx U) (xR 11 (xE (QS false))))))) (fun h3=>xN (Qx h3) (xR 17 (xE (QS false))))))) (fun Z=>xN (Qx Z) (xR 22 (xE (QS false))))))
def VQ (n:Nat) (U:Qa) (Y:Q3) (O:(Int × Int)→Option Int) (G:Int) (J:Int):Option Int :=
 cond (Qp G U.to_)
  (((V6 n Y U.calendar G).bind fun r4 =>
  cond r4
   (some (wi (J+1)))
   (some J)).bind fun Z =>
  O (wi (G+1),Z))
  (some J)
def Vn (n:Nat) (J:Qa) (Y:Q3):Option Int :=
 Qo (fun G (O,U)=>VQ n J Y G O U) n (J.from_,0)
def QeC:=fun J G=>([(2, .box 190 [J]),(3, .box 183 (Yx (Q3.cs G))),(5, .box 3 [I 0])]:List (Nat × Blk))
def bV:=fun J G=>([(2, .box 3 [I J]),(3, .box 3 [I G])]:List (Nat × Blk))
def QgL:=fun J G=>(⟨[(2, .ptr 2 0),(3, .ptr 3 0)],bV J G⟩:St)
def Qbc:=fun G=>([(4, .fn G [] [.ptr 2 0, .ptr 3 0])]:List (Nat × AV))
def QiB:List (Nat × AV):=[(2, .ptr 2 0),(3, .ptr 3 0),(5, .ptr 5 0),(15, .fn (.func 203) [] [.ptr 402 0, .ptr 403 0])]
def QiC:=fun U J O G=>(⟨QiB,QeC U J++[(402, .box 3 [I O]),(403, .box 3 [I G])]⟩:St)
def M8:=fun U G O J Z Y=>([(1002, .box 190 [U]),(1003, .box 183 (Yx (Q3.cs G))),(1005, .box 3 [I O]),(1402, .box 3 [I J]),(1403, .box 3 [I Z]),(4000,Y)]:List (Nat × Blk))
def Bi:List (Nat × AV):=[(2, .ptr 1002 0),(3, .ptr 1003 0),(5, .ptr 1005 0),(15, .fn (.func 203) [] [.ptr 1402 0, .ptr 1403 0])]
def bW:=fun G=>([(0,(.yv 4000)),(2, .ptr 1403 0),(4,I G)]:List (Nat × AV))
def Qbd:=fun G=>([(5, .box 3 [I G])]:List (Nat × Blk))
theorem XH (n:Nat) (G:Qa) (U:Q3):∀ r,Vn n G U=some r→QB Tryz.prog 154 [.eptr (Qa.cs G),ag (Q3.cs U)] (.ret (I r)):=by
 refine Qj Tryz.func154 rfl Tryz.ntmps154 rfl ?_;unfold Vn;refine Qf Qd ⟨[qq 2,qq 3],[(2, .box 190 [.eptr (Qa.cs G)]),(3,bS U)]⟩ (Qf Qd ⟨[qq 2,qq 3,qq 5],QeC (.eptr (Qa.cs G)) U⟩ (sS (sS (CQ Qd rfl (xR 8 (FB [] [I G.from_,I G.to_] [(2,402),(3,403)] [] [] Qc Tryz.func151 rfl Tryz.ntmps151 rfl Qc Qc Qc (Qf Qd (QgL G.from_ G.to_) (Qf Qd ⟨Qbc (.func 203),bV G.from_ G.to_⟩ (sT (QC (.id) [2,3] [] (.fn (.func 203) [] [.ptr 2 0, .ptr 3 0]) (kqn (Qk (QiC (.eptr (Qa.cs G)) U G.from_ G.to_) (sB (NM (QiC (.eptr (Qa.cs G)) U G.from_ G.to_) (RA 203 3000 [] [.ptr 402 0, .ptr 403 0] Qc Qc (fun Y _ aa=>(QQ (hc:=(M8 (.eptr (Qa.cs G)) U 0 G.from_ G.to_ (.lp Bi Y .ready none))) (args':=[.yv 4000, .ptr 1402 0, .ptr 1403 0]) [(1002,2),(1003,3),(1005,5),(1402,402),(1403,403),(4000,3000)] [] [] Tryz.func203 rfl Tryz.ntmps203 rfl Qc Qc Qc (Qf Qd ⟨bW G.from_,M8 (.eptr (Qa.cs G)) U 0 G.from_ G.to_ (.lp Bi Y .ready none)⟩ (sB (QF (fun (J,O)=>⟨bW J,M8 (.eptr (Qa.cs G)) U O G.from_ G.to_ (.lp Bi Y .ready none)⟩:(Int × Int)→St) (H5) ?_))))))))))))))))))));rintro Z ⟨J,O⟩;show QO (VQ n G U Z J O) _ _ _ _ _ _;unfold VQ;refine sS (Qf Qd ⟨[(0, .yv 4000),(2, .ptr 1403 0),(4,I J),(8,B (Qp J G.to_))],M8 (.eptr (Qa.cs G)) U O G.from_ G.to_ (.lp Bi Y .ready none)⟩ (sC (Qp J G.to_) ?_ ?_));rotate_left
 ·refine Qq (ZR (Yp (QL (Dw .id [1002,1003,1005,1402,1403,4000] [] (.tup []) ?_))));refine Qax .ready ⟨[5],[5],[],[]⟩ ⟨[qq 5],Qbd O⟩ Qc (by intro h; cases h) Qc ?_;exact QR (Qk ⟨[qq 5],Qbd O⟩ (Qf Qd ⟨[(4,I O)],[]⟩ (sT (qR (.id)))))
 refine sK (Qk ⟨bW J,M8 (.eptr (Qa.cs G)) U O G.from_ G.to_ (.lp Bi Y .ready none)⟩ (sS (sB (KI (fun j3=>⟨[(0, .yv 4000),(2, .ptr 1403 0),(4,I J),(14,B false)],M8 (.eptr (Qa.cs G)) U j3 G.from_ G.to_ (.lp Bi Y .ready none)⟩:Int→St) ?_ ?_))));rotate_left
 ·rintro j3;exact QW (sK (QR (Qk ⟨bW J,M8 (.eptr (Qa.cs G)) U j3 G.from_ G.to_ (.lp Bi Y .ready none)⟩ (sL Qd (KP (wi (J+1),j3))))))
 refine sG (xR 2 (CV [] (M8 (.eptr (Qa.cs G)) U O G.from_ G.to_ (.lp Bi Y .ready none)) 4000 Bi [] [] [I J] Qc aa Qc Qc Qc Qc Qc (fun _=>sL Qd (Qay ⟨[2,3,5,6],[1002,1003,1005,1402,1403,4000],[],[]⟩ ⟨[(2,Ic),(3,bO),(5, .ptr 1005 0),(6,I J)],M8 (.eptr (Qa.cs G)) U O G.from_ G.to_ (.lp Bi Y .busy none)⟩ none Qc Qc (sB (sS (CQ Qd rfl (xR 6 ?_))))))));refine xC [] (X7 n U G.calendar J) QE (fun r4=>?_);exact BZ (Qk ⟨[(5, .ptr 1005 0),(23,B r4)],M8 (.eptr (Qa.cs G)) U O G.from_ G.to_ (.lp Bi Y .busy none)⟩ (sC r4 (sL Qd (QR (sM [1002,1003,1005,1402,1403,4000] [] .busy none (VZ (xR 1 (xE (QS (wi (O+1))))))))) (sK (QR (sM [1002,1003,1005,1402,1403,4000] [] .busy none (VZ (xR 1 (xE (QS O)))))))))
def VC (n:Nat) (U:Qa) (Y:Int) (O:(Int × Int)→Option Int) (J:Int) (G:Int):Option Int :=
 cond (Qp G (Qb (List.map Q3.cs U.Tariff.Articles)))
  ((QY U.Tariff.Articles G).bind fun Z =>
  (cond (Qr Z.Kind 2)
   ((V6 n Z U.calendar Y).bind fun r9 =>
   some r9)
   (some false)).bind fun j7 =>
  cond j7
   (O (wi (J+Z.Price),wi (G+1)))
   (O (J,wi (G+1))))
  (some J)
def VD (n:Nat) (Y:Qa) (O:(Int × Int)→Option Int) (G:Int) (J:Int):Option Int :=
 cond (Qp G Y.to_)
  ((Qo (fun U (Z,aa)=>VC n Y G U Z aa) n (0,0)).bind fun j4 =>
  O (wi (G+1),Jb J j4))
  (some J)
def Y0 (n:Nat) (U:Qa) (O:(Int × Int)→Option Int) (J:Int) (G:Int):Option Int :=
 cond (Qp G (Qb (List.map Q3.cs U.Tariff.Articles)))
  ((QY U.Tariff.Articles G).bind fun Y =>
  (cond (Qr Y.Kind 2)
   ((Vn n U Y).bind fun Z =>
   some (Qp 0 Z))
   (some false)).bind fun aa =>
  cond aa
   (O (wi (J+1),wi (G+1)))
   (O (J,wi (G+1))))
  (some J)
def WO (n:Nat) (O:Qa) (G:Int):Option (Int × Int) :=
 cond (Qr G 0)
  (some (0,0))
  ((Qo (fun Y (ac,ab)=>VD n O Y ac ab) n (O.from_,0)).bind fun j1 =>
  (Vz n j1 G 1000).bind fun ad =>
  cond (!Qr ad.2 0)
   (some (0,3))
   ((Qo (fun J (Z,U)=>Y0 n O J Z U) n (ad.1,0)).bind fun aa =>
   cond (Qp 1000000000 aa)
    (some (0,3))
    (some (aa,0))))
def bX:=fun J G=>([(2, .box 190 [J]),(3, .box 3 [I G])]:List (Nat × Blk))
def M9:=fun U J O G=>([(1000, .box 3 [I U]),(1001, .box 3 [I J]),(1002, .box 190 [O]),(1003, .box 3 [I G])]:List (Nat × Blk))
def nq6:List (Nat × Nat):=[(1000,402),(1001,403),(1002,439),(1003,440)]
def QeD:List (Nat × AV):=[(0, .fn (.func 203) [] [.ptr 1000 0, .ptr 1001 0]),(3, .ptr 3 0)]
def QgM:Blk:=.box 201 [.fn (.func 204) [] [.ptr 1002 0, .ptr 1003 0]]
def QeE:List (Nat × AV):=[(0, .fn (.func 203) [] [.ptr 1000 0, .ptr 1001 0]),(3, .ptr 3 0),(5, .ptr 5 0)]
def Qbe:List (Nat × Blk):=[(3,QgM),(5, .box 3 [I 0])]
def QdV:=fun U G O J Y=>(⟨[(5, .ptr 5 0)],Qbd U++M9 G O J Y⟩:St)
def uQ:=fun U O G J=>([(0,U),(7,I O),(37, .p (.sl 7 (List.map Q3.cs G))),(38,I (Qb (List.map Q3.cs G))),(39,I J)]:List (Nat × AV))
def bY:=fun G=>([(10, .box 183 (Yx (Q3.cs G)))]:List (Nat × Blk))
def QiD:List (Nat × AV):=[(3, .ptr 3 0),(5, .ptr 5 0),(7, .fn (.func 203) [] [.ptr 1000 0, .ptr 1001 0])]
def QdW:=fun U J O G=>(⟨QiD,Qbe++M9 U J O G⟩:St)
def QjS:Blk:=.box 201 [.fn (.func 204) [] [.ptr 2002 0, .ptr 2003 0]]
def Ui:=fun U G O J Z Y=>([(1003,QjS),(1005, .box 3 [I U]),(2000, .box 3 [I G]),(2001, .box 3 [I O]),(2002, .box 190 [J]),(2003, .box 3 [I Z]),(4000,Y)]:List (Nat × Blk))
def XI:List (Nat × AV):=[(3, .ptr 1003 0),(5, .ptr 1005 0),(7, .fn (.func 203) [] [.ptr 2000 0, .ptr 2001 0])]
def nq7:List (Nat × Nat):=[(1003,3),(1005,5),(2000,1000),(2001,1001),(2002,1002),(2003,1003),(4000,3000)]
def AQ:=fun G=>([(0,(.yv 4000)),(2, .ptr 2001 0),(4,I G)]:List (Nat × AV))
def QeF:=fun G=>([(3, .ptr 1003 0),(5, .ptr 1005 0),(6,I G)]:List (Nat × AV))
def Hy:=fun J G=>([(1000, .box 190 [J]),(1001, .box 3 [I G])]:List (Nat × Blk))
def QeG:=fun G=>([(0,I G),(1, .ptr 1000 0),(2, .ptr 1001 0)]:List (Nat × AV))
def QeH:=fun G=>([(0,I G),(1, .ptr 1000 0),(2, .ptr 1001 0),(5,I 0)]:List (Nat × AV))
def QiE:=fun U O G J=>([(0,I U),(1, .ptr 1000 0),(2, .ptr 1001 0),(5,I O),(12, .p (.sl 7 (List.map Q3.cs G))),(13,I (Qb (List.map Q3.cs G))),(14,I J)]:List (Nat × AV))
def kg:=fun U G O J Z Y=>(⟨QiE U G O J,Hy Z Y⟩:St)
def QeI:=fun U J G O Y=>([(0,I U),(1, .ptr 1000 0),(2, .ptr 1001 0),(5,I J),(12, .p (.sl 7 (List.map Q3.cs G))),(13,I (Qb (List.map Q3.cs G))),(14,I O),(15,B Y)]:List (Nat × AV))
def QeJ:=fun U O G J=>([(0,I U),(1, .ptr 1000 0),(2, .ptr 1001 0),(5,I O),(7, .ptr 7 0),(12, .p (.sl 7 (List.map Q3.cs G))),(13,I (Qb (List.map Q3.cs G))),(14,I J)]:List (Nat × AV))
def bZ:=fun G=>([(7, .box 183 (Yx (Q3.cs G)))]:List (Nat × Blk))
def QeK:=fun U J G O Y=>([(0,I U),(1, .ptr 1000 0),(2, .ptr 1001 0),(5,I J),(7, .ptr 7 0),(12, .p (.sl 7 (List.map Q3.cs G))),(13,I (Qb (List.map Q3.cs G))),(14,I O),(30,B Y)]:List (Nat × AV))
theorem LW (n:Nat) (G:Qa) (O:Int):∀ r,WO n G O=some r→QB Tryz.prog 149 [.eptr (Qa.cs G),I O] (.ret (.tup [I r.1,I r.2])):=by
 refine Qj Tryz.func149 rfl Tryz.ntmps149 rfl ?_;unfold WO;refine Qf Qd ⟨[(0, .eptr (Qa.cs G)),(1,I O)],[]⟩ (sS (Qf Qd ⟨[(0, .eptr (Qa.cs G)),(1,I O),(12,B (Qr O 0))],[]⟩ (sC (Qr O 0) (Qf Qd ⟨[(4,I 0),(5,I 0)],[]⟩ (sT (QA (qR (.id))))) (sK (Qk ⟨[(0, .eptr (Qa.cs G)),(1,I O)],[]⟩ (sS (QaU 9 Qd rfl Qc (xR 9 (P8 rfl Qc Qc (Gn [] [I G.from_,I G.to_] [(2,402),(3,403)] [] [] Tryz.func151 rfl Tryz.ntmps151 rfl (Qf Qd (QgL G.from_ G.to_) (Qf Qd ⟨Qbc (.func 203),bV G.from_ G.to_⟩ (sT (QC (.id) [2,3] [] (.fn (.func 203) [] [.ptr 2 0, .ptr 3 0]) (VZ (Gn [] [.eptr (Qa.cs G),I 2] [(2,439),(3,440)] [] [] Tryz.func152 rfl Tryz.ntmps152 rfl (Qf Qd ⟨[qq 2,qq 3],bX (.eptr (Qa.cs G)) 2⟩ (Qf Qd ⟨Qbc (.func 204),bX (.eptr (Qa.cs G)) 2⟩ (sT (QC (.id) [2,3] [] (.fn (.func 204) [] [.ptr 2 0, .ptr 3 0]) (VZ (Gn (M9 G.from_ G.to_ (.eptr (Qa.cs G)) 2) [.fn (.func 203) [] [Zh,L8], .fn (.func 204) [] [Ic,bO]] nq6 [] [] Tryz.func150 rfl Tryz.ntmps150 rfl (Qf Qd ⟨QeD,[(3,QgM)]++M9 G.from_ G.to_ (.eptr (Qa.cs G)) 2⟩ (Qf Qd ⟨QeE,Qbe++M9 G.from_ G.to_ (.eptr (Qa.cs G)) 2⟩ (KI (fun j1=>(QdV j1 G.from_ G.to_ (.eptr (Qa.cs G)) 2):Int→St) ?_ ?_)))))))))))))))))))))))));rotate_left
 ·rintro j1;refine Qf Qd ⟨[(4,I j1)],M9 G.from_ G.to_ (.eptr (Qa.cs G)) 2⟩ (sT (QC (.id) [1000,1001,1002,1003] [] (I j1) (VZ (xR 1 (xE (QjC (Qk ⟨[(0, .eptr (Qa.cs G)),(1,I O),(6,I j1)],[]⟩ (sS (sG (xR 2 ?_))))))))));refine xC [] (RV n j1 O 1000) QE (fun ae=>?_);refine xR 5 (xE (Qk ⟨[(0, .eptr (Qa.cs G)),(7,I ae.1),(8,I ae.2)],[]⟩ (sS (Qf Qd ⟨[(0, .eptr (Qa.cs G)),(7,I ae.1),(32,B (!Qr ae.2 0))],[]⟩ (sC (!Qr ae.2 0) (Qf Qd ⟨[(4,I 0),(5,I 3)],[]⟩ (sT (QA (qR (.id))))) (sK (Qk ⟨[(0, .eptr (Qa.cs G)),(7,I ae.1)],[]⟩ (KI (fun ad=>⟨[(7,I ad)],[]⟩:Int→St) ?_ ?_))))))));rotate_left
  ·rintro ad;exact sS (Qf Qd ⟨[(7,I ad),(56,B (Qp 1000000000 ad))],[]⟩ (sC (Qp 1000000000 ad) (Qf Qd ⟨[(4,I 0),(5,I 3)],[]⟩ (sT (QA (qR (.id))))) (sK (Qk ⟨[(7,I ad)],[]⟩ (Qf Qd ⟨[(4,I ad),(5,I 0)],[]⟩ (sT (qR (.id))))))))
  refine Qf Qd ⟨uQ (.eptr (Qa.cs G)) ae.1 G.Tariff.Articles 0,[]⟩ (sB (QF (fun (Y,U)=>⟨uQ (.eptr (Qa.cs G)) Y G.Tariff.Articles U,[]⟩:(Int × Int)→St) (H5) ?_));rintro af ⟨Y,U⟩;show QO (Y0 n G af Y U) _ _ _ _ _ _;unfold Y0;refine Qf Qd ⟨[(0, .eptr (Qa.cs G)),(7,I Y),(37, .p (.sl 7 (YX G.Tariff.Articles))),(38,I (Qb (YX G.Tariff.Articles))),(39,I U),(40,B (Qp U (Qb (YX G.Tariff.Articles))))],[]⟩ (sS (sC (Qp U (Qb (YX G.Tariff.Articles))) (sK (Qk ⟨uQ (.eptr (Qa.cs G)) Y G.Tariff.Articles U,[]⟩ (sS (sB (sS (sG (xG (Zx (e:=183) (S:=7) (enc:=Q3.cs) (l:=G.Tariff.Articles) (k:=.i64) (n:=U) (sv:=.p (.sl 7 (YX G.Tariff.Articles))) rfl Qc Qc Qc Qc Qc) (fun aj=>xR 3 (xE (Qk ⟨[(0, .eptr (Qa.cs G)),(7,I Y),qq 10,(37, .p (.sl 7 (YX G.Tariff.Articles))),(38,I (Qb (YX G.Tariff.Articles))),(39,I U)],bY aj⟩ (KI (fun al=>⟨[(0, .eptr (Qa.cs G)),(7,I Y),(37, .p (.sl 7 (YX G.Tariff.Articles))),(38,I (Qb (YX G.Tariff.Articles))),(39,I U),(51,B al)],[]⟩:Bool→St) ?_ ?_))))))))))) (Qq (ZR (Yp (QL (QS Y)))))))
  ·refine sG (xR 4 (xS (Qr aj.Kind 2) (fun ai=>?_) (fun ai=>?_)))
   ·refine xO (Qv ai) (xR 1 ?_);refine xC [] (XH n G aj) QE (fun an=>?_);exact xR 2 (xE (QS (Qp 0 an)))
   exact xN (Qx ai) (xR 4 (xE (QS false)))
  rintro al;exact sC al (sL Qd (QR (Qk ⟨uQ (.eptr (Qa.cs G)) (wi (Y+1)) G.Tariff.Articles U,[]⟩ (sL Qd (KP (wi (Y+1),wi (U+1))))))) (sK (QR (Qk ⟨uQ (.eptr (Qa.cs G)) Y G.Tariff.Articles U,[]⟩ (sL Qd (KP (Y,wi (U+1)))))))
 refine Qf Qd (QdW G.from_ G.to_ (.eptr (Qa.cs G)) 2) (sB (NM (QdW G.from_ G.to_ (.eptr (Qa.cs G)) 2) (RA 203 3000 [] [Zh,L8] Qc Qc (fun ac _ am=>(QQ (hc:=(Ui 0 G.from_ G.to_ (.eptr (Qa.cs G)) 2 (.lp XI ac .ready none))) (args':=[.yv 4000, .ptr 2000 0, .ptr 2001 0]) nq7 [] [] Tryz.func203 rfl Tryz.ntmps203 rfl Qc Qc Qc (Qf Qd ⟨AQ G.from_,Ui 0 G.from_ G.to_ (.eptr (Qa.cs G)) 2 (.lp XI ac .ready none)⟩ (sB (QF (fun (J,aa)=>⟨AQ J,Ui aa G.from_ G.to_ (.eptr (Qa.cs G)) 2 (.lp XI ac .ready none)⟩:(Int × Int)→St) (H5) ?_))))))));rintro ah ⟨J,aa⟩;show QO (VD n G ah J aa) _ _ _ _ _ _;unfold VD;refine sS (Qf Qd ⟨[(0, .yv 4000),(2, .ptr 2001 0),(4,I J),(8,B (Qp J G.to_))],Ui aa G.from_ G.to_ (.eptr (Qa.cs G)) 2 (.lp XI ac .ready none)⟩ (sC (Qp J G.to_) ?_ ?_));rotate_left
 ·refine Qq (ZR (Yp (QL (Dw .id [1003,1005,2000,2001,2002,2003,4000] [] (.tup []) ?_))));refine Qax .ready ⟨[5],[5,1000,1001,1002,1003],[],[]⟩ (QdV aa G.from_ G.to_ (.eptr (Qa.cs G)) 2) Qc (by intro h; cases h) Qc ?_;exact QR (QS aa)
 refine sK (Qk ⟨AQ J,Ui aa G.from_ G.to_ (.eptr (Qa.cs G)) 2 (.lp XI ac .ready none)⟩ (sS (sB (sS (sG (xR 2 (CV [] (Ui aa G.from_ G.to_ (.eptr (Qa.cs G)) 2 (.lp XI ac .ready none)) 4000 XI [] [] [I J] Qc am Qc Qc Qc Qc Qc (fun _=>sL Qd (Qay ⟨[3,5,6],[1003,1005,2000,2001,2002,2003,4000],[],[]⟩ ⟨QeF J,Ui aa G.from_ G.to_ (.eptr (Qa.cs G)) 2 (.lp XI ac .busy none)⟩ none Qc Qc (sB (KA [0,1,2] [0] [(3,[]),(4,[]),(5,[])] Qd rfl (ZF (f:=204) (args:=[I J, .ptr 2002 0, .ptr 2003 0]) (dst:=some 12) (QQ (hc:=(Hy (.eptr (Qa.cs G)) 2)) (args':=[I J,Zh,L8]) [(1000,2002),(1001,2003)] [] [] Tryz.func204 rfl Tryz.ntmps204 rfl Qc Qc Qc (Qf Qd ⟨QeG J,Hy (.eptr (Qa.cs G)) 2⟩ (Qf Qd ⟨QeH J,Hy (.eptr (Qa.cs G)) 2⟩ (KI (fun j4=>⟨[(5,I j4)],Hy (.eptr (Qa.cs G)) 2⟩:Int→St) ?_ ?_))))))))))))))));rotate_left
 ·rintro j4;exact Qf Qd ⟨[(4,I j4)],Hy (.eptr (Qa.cs G)) 2⟩ (sT (QC (.id) [1000,1001] [] (I j4) (kh [0] (Qn (Qz (I aa) rfl) (Qg)) (Yq [] (Qg) (Yq [] (Qg) (Ww (QR (sM [1003,1005,2000,2001,2002,2003,4000] [] .busy none (VZ (xR 1 (xE (Qk ⟨[(0, .yv 4000),(2, .ptr 2001 0),(4,I J),(14,B false)],Ui (Jb aa j4) G.from_ G.to_ (.eptr (Qa.cs G)) 2 (.lp XI ac .ready none)⟩ (QW (sK (QR (Qk ⟨AQ J,Ui (Jb aa j4) G.from_ G.to_ (.eptr (Qa.cs G)) 2 (.lp XI ac .ready none)⟩ (sL Qd (KP (wi (J+1),Jb aa j4)))))))))))))))))))
 refine Qf Qd (kg J 0 G.Tariff.Articles 0 (.eptr (Qa.cs G)) 2) (sB (QF (fun (ab,Z)=>(kg J ab G.Tariff.Articles Z (.eptr (Qa.cs G)) 2):(Int × Int)→St) (H5) ?_));rintro ak ⟨ab,Z⟩;show QO (VC n G J ak ab Z) _ _ _ _ _ _;unfold VC;refine Qf Qd ⟨QeI J ab G.Tariff.Articles Z (Qp Z (Qb (YX G.Tariff.Articles))),Hy (.eptr (Qa.cs G)) 2⟩ (sS (sC (Qp Z (Qb (YX G.Tariff.Articles))) (sK (Qk (kg J ab G.Tariff.Articles Z (.eptr (Qa.cs G)) 2) (sS (sB (sS (sG (xG (Zx (e:=183) (S:=7) (enc:=Q3.cs) (l:=G.Tariff.Articles) (k:=.i64) (n:=Z) (sv:=.p (.sl 7 (YX G.Tariff.Articles))) rfl Qc Qc Qc Qc Qc) (fun x6=>xR 3 (xE (Qk ⟨QeJ J ab G.Tariff.Articles Z,bZ x6++Hy (.eptr (Qa.cs G)) 2⟩ (KI (fun j7=>⟨QeK J ab G.Tariff.Articles Z j7,bZ x6++Hy (.eptr (Qa.cs G)) 2⟩:Bool→St) ?_ ?_))))))))))) (Qq (ZR (Yp (QL (QS ab)))))))
 ·refine CQ Qd rfl (xR 5 (xS (Qr x6.Kind 2) (fun h8=>?_) (fun h8=>?_)))
  ·refine xO (Qv h8) (xR 5 ?_);refine xC [] (X7 n x6 G.calendar J) QE (fun r9=>?_);exact xR 1 (BZ (QS r9))
  exact xN (Qx h8) (xR 7 (BZ (QS false)))
 rintro j7;exact sC j7 (sL Qd (QR (Qk (kg J (wi (ab+x6.Price)) G.Tariff.Articles Z (.eptr (Qa.cs G)) 2) (sL Qd (KP (wi (ab+x6.Price),wi (Z+1))))))) (sK (QR (Qk (kg J ab G.Tariff.Articles Z (.eptr (Qa.cs G)) 2) (sL Qd (KP (ab,wi (Z+1)))))))
def WP (n:Nat) (U:Qa) (Y:Int) (J:(Int × Int)→Option Int) (O:Int) (G:Int):Option Int :=
 cond (Qp G (Qb (List.map Q3.cs U.Tariff.Articles)))
  ((QY U.Tariff.Articles G).bind fun Z =>
  (cond (Qr Z.Kind 1)
   ((V6 n Z U.calendar Y).bind fun aa =>
   some aa)
   (some false)).bind fun j8 =>
  cond j8
   (J (wi (O+Z.Price),wi (G+1)))
   (J (O,wi (G+1))))
  (some O)
def WQ (n:Nat) (Y:Qa) (U:(Int × Int)→Option Int) (G:Int) (J:Int):Option Int :=
 cond (Qp G Y.to_)
  ((Qo (fun O (aa,Z)=>WP n Y G O aa Z) n (0,0)).bind fun j5 =>
  U (wi (G+1),Jb J j5))
  (some J)
def KG (G:Int):Option (Int × Int) :=
 cond (Qp 1000000000 G)
  (some (0,3))
  (some (G,0))
def Wt (n:Nat) (Y:Qa) (O:(Int × Int)→Option (Int × Int)) (J:Int) (G:Int):Option (Int × Int) :=
 cond (Qp G (Qb (List.map Q3.cs Y.Tariff.Articles)))
  ((QY Y.Tariff.Articles G).bind fun U =>
  (cond (!Qr U.Kind 3)
   (some (!Qr U.Kind 4))
   (some false)).bind fun ab =>
  cond ab
   (O (J,wi (G+1)))
   ((Vn n Y U).bind fun aa =>
   (Yv n U.Price (Jb 0 (wi (aa - U.Free))) U.Unit).bind fun Z =>
   cond (!Qr Z.2 0)
    (some (0,3))
    (O (wi (J+Z.1),wi (G+1)))))
  (KG J)
def Xt (n:Nat) (O:Qa) (G:Int):Option (Int × Int) :=
 (WO n O G).bind fun r1 =>
 cond (!Qr r1.2 0)
  (some (0,r1.2))
  ((Qo (fun Y (aa,ab)=>WQ n O Y aa ab) n (O.from_,0)).bind fun j2 =>
  Qo (fun J (Z,U)=>Wt n O J Z U) n (wi (r1.1+j2),0))
def uR:=fun U O G J=>([(0,U),(8,I O),(40, .p (.sl 7 (List.map Q3.cs G))),(41,I (Qb (List.map Q3.cs G))),(42,I J)]:List (Nat × AV))
def QeL:=fun U O G J=>([(0,U),(8,I O),(10, .ptr 10 0),(40, .p (.sl 7 (List.map Q3.cs G))),(41,I (Qb (List.map Q3.cs G))),(42,I J)]:List (Nat × AV))
theorem DC (n:Nat) (G:Qa) (ab:Int):∀ r,Xt n G ab=some r→QB Tryz.prog 91 [.eptr (Qa.cs G),I ab] (.ret (.tup [I r.1,I r.2])):=by
 refine Qj Tryz.func91 rfl Tryz.ntmps91 rfl ?_;unfold Xt;refine Qf Qd ⟨[(0, .eptr (Qa.cs G)),(1,I ab)],[]⟩ (sS (sG (xR 2 ?_)));refine xC [] (LW n G ab) QE (fun r1=>?_);refine xR 5 (xE (Qk ⟨[(0, .eptr (Qa.cs G)),(6,I r1.1),(7,I r1.2)],[]⟩ (sS (Qf Qd ⟨[(0, .eptr (Qa.cs G)),(6,I r1.1),(7,I r1.2),(20,B (!Qr r1.2 0))],[]⟩ (sC (!Qr r1.2 0) (Qf Qd ⟨[(4,I 0),(5,I r1.2)],[]⟩ (sT (QA (qR (.id))))) (sK (Qk ⟨[(0, .eptr (Qa.cs G)),(6,I r1.1)],[]⟩ (sS (KA [0,1,2,3,4,5,6,7,8,10] [0,10] [(9,[]),(11,[]),(12,[]),(13,[]),(14,[])] Qd rfl (ZF (f:=151) (args:=[I G.from_,I G.to_]) (dst:=some 31) (QQ (hc:=[]) (args':=[I G.from_,I G.to_]) [(2,402),(3,403)] [] [] Tryz.func151 rfl Tryz.ntmps151 rfl Qc Qc Qc (Qf Qd (QgL G.from_ G.to_) (Qf Qd ⟨Qbc (.func 203),bV G.from_ G.to_⟩ (sT (QC (.id) [2,3] [] (.fn (.func 203) [] [.ptr 2 0, .ptr 3 0]) (kh [0,10] (Qn (Mj Qc) (Qn (Mj Qc) (Qg))) (ZF (f:=152) (args:=[.eptr (Qa.cs G),I 1]) (dst:=some 33) (QQ (hc:=[]) (args':=[.eptr (Qa.cs G),I 1]) [(2,439),(3,440)] [] [] Tryz.func152 rfl Tryz.ntmps152 rfl Qc Qc Qc (Qf Qd ⟨[qq 2,qq 3],bX (.eptr (Qa.cs G)) 1⟩ (Qf Qd ⟨Qbc (.func 204),bX (.eptr (Qa.cs G)) 1⟩ (sT (QC (.id) [2,3] [] (.fn (.func 204) [] [.ptr 2 0, .ptr 3 0]) (kh [0] (Qn (Mj Qc) (Qg)) (ZF (f:=150) (args:=[.fn (.func 203) [] [.ptr 402 0, .ptr 403 0], .fn (.func 204) [] [.ptr 439 0, .ptr 440 0]]) (dst:=some 34) (QQ (hc:=(M9 G.from_ G.to_ (.eptr (Qa.cs G)) 1)) (args':=[.fn (.func 203) [] [Zh,L8], .fn (.func 204) [] [Ic,bO]]) nq6 [] [] Tryz.func150 rfl Tryz.ntmps150 rfl Qc Qc Qc (Qf Qd ⟨QeD,[(3,QgM)]++M9 G.from_ G.to_ (.eptr (Qa.cs G)) 1⟩ (Qf Qd ⟨QeE,Qbe++M9 G.from_ G.to_ (.eptr (Qa.cs G)) 1⟩ (KI (fun j2=>(QdV j2 G.from_ G.to_ (.eptr (Qa.cs G)) 1):Int→St) ?_ ?_))))))))))))))))))))))))))));rotate_left
 ·rintro j2;refine Qf Qd ⟨[(4,I j2)],M9 G.from_ G.to_ (.eptr (Qa.cs G)) 1⟩ (sT (QC (.id) [1000,1001,1002,1003] [] (I j2) (kh [0] (Qn (Mj Qc) (Qg)) (Yq [] (Qg) (Yq [] (Qg) (Ww (Qk ⟨[(0, .eptr (Qa.cs G)),(8,I (wi (r1.1+j2)))],[]⟩ (K4 (fun ac=>⟨[(8,I ac)],[]⟩:Int→St) (fun ac=>KG ac) ?_ ?_))))))))
  ·rintro ac;show QO (KG ac) _ _ _ _ _ _;unfold KG;exact sS (Qf Qd ⟨[(8,I ac),(76,B (Qp 1000000000 ac))],[]⟩ (sC (Qp 1000000000 ac) (Qf Qd ⟨[(4,I 0),(5,I 3)],[]⟩ (sT (QA (qR (.id))))) (sK (Qk ⟨[(8,I ac)],[]⟩ (Qf Qd ⟨[(4,I ac),(5,I 0)],[]⟩ (sT (qR (.id))))))))
  refine Qf Qd ⟨uR (.eptr (Qa.cs G)) (wi (r1.1+j2)) G.Tariff.Articles 0,[]⟩ (sB (QF (fun (U,O)=>⟨uR (.eptr (Qa.cs G)) U G.Tariff.Articles O,[]⟩:(Int × Int)→St) (H5) ?_));rintro ah ⟨U,O⟩;show QO (Wt n G ah U O) _ _ _ _ _ _;unfold Wt;refine Qf Qd ⟨[(0, .eptr (Qa.cs G)),(8,I U),(40, .p (.sl 7 (YX G.Tariff.Articles))),(41,I (Qb (YX G.Tariff.Articles))),(42,I O),(43,B (Qp O (Qb (YX G.Tariff.Articles))))],[]⟩ (sS (sC (Qp O (Qb (YX G.Tariff.Articles))) (sK (Qk ⟨uR (.eptr (Qa.cs G)) U G.Tariff.Articles O,[]⟩ (sS (sB (sS (sG (xG (Zx (e:=183) (S:=7) (enc:=Q3.cs) (l:=G.Tariff.Articles) (k:=.i64) (n:=O) (sv:=.p (.sl 7 (YX G.Tariff.Articles))) rfl Qc Qc Qc Qc Qc) (fun ae=>xR 3 (xE (Qk ⟨QeL (.eptr (Qa.cs G)) U G.Tariff.Articles O,bY ae⟩ (sS (KI (fun al=>⟨[(0, .eptr (Qa.cs G)),(8,I U),qq 10,(40, .p (.sl 7 (YX G.Tariff.Articles))),(41,I (Qb (YX G.Tariff.Articles))),(42,I O),(53,B al)],bY ae⟩:Bool→St) (sG (xR 4 (xS (!Qr ae.Kind 3) (fun ai=>xO (Qv ai) (xR 3 (xE (QS (!Qr ae.Kind 4))))) (fun ai=>xN (Qx ai) (xR 3 (xE (QS false))))))) ?_)))))))))))) (Qq (ZR (Yp (QL (KP (k:=fun ac=>KG ac) U)))))));rintro al;refine sC al (Qq (ZR (QL (Qk ⟨uR (.eptr (Qa.cs G)) U G.Tariff.Articles O,[]⟩ (sL Qd (KP (U,wi (O+1)))))))) (sK (Qk ⟨QeL (.eptr (Qa.cs G)) U G.Tariff.Articles O,bY ae⟩ (sS (CQ Qd rfl (xR 4 ?_)))));refine xC [] (XH n G ae) QE (fun an=>?_);refine xR 6 ?_;refine xC [] (FN n ae.Price (Jb 0 (wi (an - ae.Free))) ae.Unit) QE (fun af=>?_);exact xR 5 (BZ (Qk ⟨[(0, .eptr (Qa.cs G)),(8,I U),(11,I af.1),(12,I af.2),(40, .p (.sl 7 (YX G.Tariff.Articles))),(41,I (Qb (YX G.Tariff.Articles))),(42,I O)],[]⟩ (sS (Qf Qd ⟨[(0, .eptr (Qa.cs G)),(8,I U),(11,I af.1),(40, .p (.sl 7 (YX G.Tariff.Articles))),(41,I (Qb (YX G.Tariff.Articles))),(42,I O),(70,B (!Qr af.2 0))],[]⟩ (sC (!Qr af.2 0) (Qf Qd ⟨[(4,I 0),(5,I 3)],[]⟩ (sT (QA (Q4 (QA (VX (Q4 (VX (qR (.id)))))))))) (sK (Qk ⟨[(0, .eptr (Qa.cs G)),(8,I U),(11,I af.1),(40, .p (.sl 7 (YX G.Tariff.Articles))),(41,I (Qb (YX G.Tariff.Articles))),(42,I O)],[]⟩ (sL Qd (QR (Qk ⟨uR (.eptr (Qa.cs G)) (wi (U+af.1)) G.Tariff.Articles O,[]⟩ (sL Qd (KP (wi (U+af.1),wi (O+1))))))))))))))
 refine Qf Qd (QdW G.from_ G.to_ (.eptr (Qa.cs G)) 1) (sB (NM (QdW G.from_ G.to_ (.eptr (Qa.cs G)) 1) (RA 203 3000 [] [Zh,L8] Qc Qc (fun ad _ am=>(QQ (hc:=(Ui 0 G.from_ G.to_ (.eptr (Qa.cs G)) 1 (.lp XI ad .ready none))) (args':=[.yv 4000, .ptr 2000 0, .ptr 2001 0]) nq7 [] [] Tryz.func203 rfl Tryz.ntmps203 rfl Qc Qc Qc (Qf Qd ⟨AQ G.from_,Ui 0 G.from_ G.to_ (.eptr (Qa.cs G)) 1 (.lp XI ad .ready none)⟩ (sB (QF (fun (J,Z)=>⟨AQ J,Ui Z G.from_ G.to_ (.eptr (Qa.cs G)) 1 (.lp XI ad .ready none)⟩:(Int × Int)→St) (H5) ?_))))))));rintro ak ⟨J,Z⟩;show QO (WQ n G ak J Z) _ _ _ _ _ _;unfold WQ;refine sS (Qf Qd ⟨[(0, .yv 4000),(2, .ptr 2001 0),(4,I J),(8,B (Qp J G.to_))],Ui Z G.from_ G.to_ (.eptr (Qa.cs G)) 1 (.lp XI ad .ready none)⟩ (sC (Qp J G.to_) ?_ ?_));rotate_left
 ·refine Qq (ZR (Yp (QL (Dw .id [1003,1005,2000,2001,2002,2003,4000] [] (.tup []) ?_))));refine Qax .ready ⟨[5],[5,1000,1001,1002,1003],[],[]⟩ (QdV Z G.from_ G.to_ (.eptr (Qa.cs G)) 1) Qc (by intro h; cases h) Qc ?_;exact QR (QS Z)
 refine sK (Qk ⟨AQ J,Ui Z G.from_ G.to_ (.eptr (Qa.cs G)) 1 (.lp XI ad .ready none)⟩ (sS (sB (sS (sG (xR 2 (CV [] (Ui Z G.from_ G.to_ (.eptr (Qa.cs G)) 1 (.lp XI ad .ready none)) 4000 XI [] [] [I J] Qc am Qc Qc Qc Qc Qc (fun _=>sL Qd (Qay ⟨[3,5,6],[1003,1005,2000,2001,2002,2003,4000],[],[]⟩ ⟨QeF J,Ui Z G.from_ G.to_ (.eptr (Qa.cs G)) 1 (.lp XI ad .busy none)⟩ none Qc Qc (sB (KA [0,1,2] [0] [(3,[]),(4,[]),(5,[])] Qd rfl (ZF (f:=204) (args:=[I J, .ptr 2002 0, .ptr 2003 0]) (dst:=some 12) (QQ (hc:=(Hy (.eptr (Qa.cs G)) 1)) (args':=[I J,Zh,L8]) [(1000,2002),(1001,2003)] [] [] Tryz.func204 rfl Tryz.ntmps204 rfl Qc Qc Qc (Qf Qd ⟨QeG J,Hy (.eptr (Qa.cs G)) 1⟩ (Qf Qd ⟨QeH J,Hy (.eptr (Qa.cs G)) 1⟩ (KI (fun j5=>⟨[(5,I j5)],Hy (.eptr (Qa.cs G)) 1⟩:Int→St) ?_ ?_))))))))))))))));rotate_left
 ·rintro j5;exact Qf Qd ⟨[(4,I j5)],Hy (.eptr (Qa.cs G)) 1⟩ (sT (QC (.id) [1000,1001] [] (I j5) (kh [0] (Qn (Qz (I Z) rfl) (Qg)) (Yq [] (Qg) (Yq [] (Qg) (Ww (QR (sM [1003,1005,2000,2001,2002,2003,4000] [] .busy none (VZ (xR 1 (xE (Qk ⟨[(0, .yv 4000),(2, .ptr 2001 0),(4,I J),(14,B false)],Ui (Jb Z j5) G.from_ G.to_ (.eptr (Qa.cs G)) 1 (.lp XI ad .ready none)⟩ (QW (sK (QR (Qk ⟨AQ J,Ui (Jb Z j5) G.from_ G.to_ (.eptr (Qa.cs G)) 1 (.lp XI ad .ready none)⟩ (sL Qd (KP (wi (J+1),Jb Z j5)))))))))))))))))))
 refine Qf Qd (kg J 0 G.Tariff.Articles 0 (.eptr (Qa.cs G)) 1) (sB (QF (fun (aa,Y)=>(kg J aa G.Tariff.Articles Y (.eptr (Qa.cs G)) 1):(Int × Int)→St) (H5) ?_));rintro aj ⟨aa,Y⟩;show QO (WP n G J aj aa Y) _ _ _ _ _ _;unfold WP;refine Qf Qd ⟨QeI J aa G.Tariff.Articles Y (Qp Y (Qb (YX G.Tariff.Articles))),Hy (.eptr (Qa.cs G)) 1⟩ (sS (sC (Qp Y (Qb (YX G.Tariff.Articles))) (sK (Qk (kg J aa G.Tariff.Articles Y (.eptr (Qa.cs G)) 1) (sS (sB (sS (sG (xG (Zx (e:=183) (S:=7) (enc:=Q3.cs) (l:=G.Tariff.Articles) (k:=.i64) (n:=Y) (sv:=.p (.sl 7 (YX G.Tariff.Articles))) rfl Qc Qc Qc Qc Qc) (fun x7=>xR 3 (xE (Qk ⟨QeJ J aa G.Tariff.Articles Y,bZ x7++Hy (.eptr (Qa.cs G)) 1⟩ (KI (fun j8=>⟨QeK J aa G.Tariff.Articles Y j8,bZ x7++Hy (.eptr (Qa.cs G)) 1⟩:Bool→St) ?_ ?_))))))))))) (Qq (ZR (Yp (QL (QS aa)))))))
 ·refine CQ Qd rfl (xR 5 (xS (Qr x7.Kind 1) (fun h9=>?_) (fun h9=>?_)))
  ·refine xO (Qv h9) (xR 5 ?_);refine xC [] (X7 n x7 G.calendar J) QE (fun ao=>?_);exact xR 1 (BZ (QS ao))
  exact xN (Qx h9) (xR 7 (BZ (QS false)))
 rintro j8;exact sC j8 (sL Qd (QR (Qk (kg J (wi (aa+x7.Price)) G.Tariff.Articles Y (.eptr (Qa.cs G)) 1) (sL Qd (KP (wi (aa+x7.Price),wi (Y+1))))))) (sK (QR (Qk (kg J aa G.Tariff.Articles Y (.eptr (Qa.cs G)) 1) (sL Qd (KP (aa,wi (Y+1)))))))
def UM (Z:K5) (J:(Int × Int × Int)→Option (Int × Int)) (O:Int) (U:Int) (G:Int):Option (Int × Int) :=
 cond (Qp G (Qb (List.map Q3.cs Z.Articles)))
  ((QY Z.Articles G).bind fun Y =>
  cond (Qr Y.Kind 5)
   (J (F4 O Y.Price,U,wi (G+1)))
   (cond (Qr Y.Kind 6)
    (J (O,Y.Price,wi (G+1)))
    (J (O,U,wi (G+1)))))
  (some (O,U))
def LX (n:Nat) (Z:K5) (ad:Kj) (J:Int) (U:Int) (G:Int):Option (Int × Int) :=
 ((UI n Z).bind fun r2 =>
 cond (!r2)
  (some true)
  ((Yz n ad).bind fun r4 =>
  cond (!r4)
   (some true)
   ((JN n J U G).bind fun r6 =>
   some (!r6)))).bind fun j1 =>
 cond j1
  (some (0,1))
  ((Xt n (⟨Z,ad,J,U⟩:Qa) G).bind fun r7 =>
  cond (!Qr r7.2 0)
   (some (0,r7.2))
   ((Qo (fun aa (ae,ab,ac)=>UM Z aa ae ab ac) n (r7.1,0,0)).bind fun (O,af) =>
   (Jn n O af).bind fun Y =>
   (cond (!Qr Y.2 0)
    (some true)
    (some (Qp 1000000000 (wi (O+Y.1))))).bind fun ah =>
   cond ah
    (some (0,3))
    (some (wi (O+Y.1),0))))
def QeM:=fun O G J=>([(2,I O),(3,I G),(4,I J),(5, .ptr 5 0),(6, .ptr 6 0)]:List (Nat × AV))
def Qbf:=fun J G=>([(5, .box 59 (Yx (K5.cs J))),(6, .box 52 (Yx (Kj.cs G)))]:List (Nat × Blk))
def dA:=fun G=>([(5, .box 59 (Yx (K5.cs G)))]:List (Nat × Blk))
def yz:=fun U O G J=>([(13,I U),(15,I O),(50, .p (.sl 7 (List.map Q3.cs (K5.Articles G)))),(51,I (Qb (List.map Q3.cs (K5.Articles G)))),(52,I J)]:List (Nat × AV))
def dB:=fun G=>([(17, .box 183 (Yx (Q3.cs G)))]:List (Nat × Blk))
theorem SY (n:Nat) (G:K5) (ad:Kj) (Z:Int) (ab:Int) (J:Int):∀ r,LX n G ad Z ab J=some r→QB Tryz.prog 40 [ag (K5.cs G),ag (Kj.cs ad),I Z,I ab,I J] (.ret (.tup [I r.1,I r.2])):=by
 refine Qj Tryz.func40 rfl Tryz.ntmps40 rfl ?_;unfold LX;refine Qf Qd ⟨QeM Z ab J,Qbf G ad⟩ (sS (KI (fun j1=>⟨[(2,I Z),(3,I ab),(4,I J),qq 5,qq 6,(33,B j1)],Qbf G ad⟩:Bool→St) ?_ ?_))
 ·refine sG (xR 1 ?_);refine xC [] (TW n G) QE (fun r2=>?_);refine xR 2 (xS (!r2) (fun h3=>xN (Qy h3) (xR 10 (xE (QS true)))) (fun h3=>xO (Qw h3) ?_));refine xC [] (Wz n ad) QE (fun r4=>?_);refine xR 3 (xS (!r4) (fun h5=>xN (Qy h5) (xR 5 (xE (QS true)))) (fun h5=>xO (Qw h5) (xR 2 ?_)));refine xC [] (TZ n Z ab J) QE (fun r6=>?_);exact xR 2 (xE (QS (!r6)))
 rintro j1;refine sC j1 (Qf Qd ⟨[(10,I 0),(11,I 1)],[]⟩ (sT (QA (qR (.id))))) (sK (Qk ⟨QeM Z ab J,Qbf G ad⟩ (Qf Qd ⟨[(4,I J),qq 5,(12, .ptr 39 0)],[(5,nI G),(39, .box 192 (Yx (Qa.cs ⟨G,ad,Z,ab⟩)))]⟩ (sS (sG (xR 2 ?_))))));refine Xz [.ro [], .cv (.id)] (DC n (⟨G,ad,Z,ab⟩:Qa) J) QE (fun r7=>?_);refine xR 5 (xE (Qk ⟨[qq 5,(13,I r7.1),(14,I r7.2)],dA G⟩ (sS (Qf Qd ⟨[qq 5,(13,I r7.1),(14,I r7.2),(47,B (!Qr r7.2 0))],dA G⟩ (sC (!Qr r7.2 0) (Qf Qd ⟨[(10,I 0),(11,I r7.2)],[]⟩ (sT (QA (qR (.id))))) (sK (Qk ⟨[qq 5,(13,I r7.1)],dA G⟩ (Qf Qd ⟨[qq 5,(13,I r7.1),(15,I 0)],dA G⟩ (KI (fun (ac,af)=>⟨[(13,I ac),(15,I af)],[]⟩:(Int × Int)→St) ?_ ?_)))))))));rotate_left
 ·rintro ⟨ac,af⟩;refine sS (sG (xR 2 ?_));refine xC [] (Bh n ac af) QE (fun ae=>?_);refine xR 5 (xE (Qk ⟨[(13,I ac),(14,I ae.2),(18,I ae.1)],[]⟩ (sS (KI (fun ai=>⟨[(13,I ac),(18,I ae.1),(82,B ai)],[]⟩:Bool→St) (sG (xR 3 (xS (!Qr ae.2 0) (fun ah=>xN (Qy ah) (xR 4 (xE (QS true)))) (fun ah=>xO (Qw ah) (xR 4 (xE (QS (Qp 1000000000 (wi (ac+ae.1)))))))))) ?_))));rintro ai;exact sC ai (Qf Qd ⟨[(10,I 0),(11,I 3)],[]⟩ (sT (QA (qR (.id))))) (sK (Qk ⟨[(13,I ac),(18,I ae.1)],[]⟩ (Qf Qd ⟨[(10,I (wi (ac+ae.1))),(11,I 0)],[]⟩ (sT (qR (.id))))))
 refine Qf Qd ⟨yz r7.1 0 G 0,[]⟩ (sB (QF (fun (U,Y,O)=>⟨yz U Y G O,[]⟩:(Int × Int × Int)→St) (H5) ?_));rintro aj ⟨U,Y,O⟩;show QO (UM G aj U Y O) _ _ _ _ _ _;unfold UM;exact Qf Qd ⟨[(13,I U),(15,I Y),(50, .p (.sl 7 (YX G.Articles))),(51,I (Qb (YX G.Articles))),(52,I O),(53,B (Qp O (Qb (YX G.Articles))))],[]⟩ (sS (sC (Qp O (Qb (YX G.Articles))) (sK (Qk ⟨yz U Y G O,[]⟩ (sS (sB (sS (sG (xG (Zx (e:=183) (S:=7) (enc:=Q3.cs) (l:=G.Articles) (k:=.i64) (n:=O) (sv:=.p (.sl 7 (YX G.Articles))) rfl Qc Qc Qc Qc Qc) (fun aa=>xR 3 (xE (Qk ⟨[(13,I U),(15,I Y),qq 17,(50, .p (.sl 7 (YX G.Articles))),(51,I (Qb (YX G.Articles))),(52,I O)],dB aa⟩ (Qf Qd ⟨[(13,I U),(15,I Y),qq 17,(50, .p (.sl 7 (YX G.Articles))),(51,I (Qb (YX G.Articles))),(52,I O),(57,I aa.Kind)],dB aa⟩ (sB (Qf Qd ⟨[(13,I U),(15,I Y),qq 17,(50, .p (.sl 7 (YX G.Articles))),(51,I (Qb (YX G.Articles))),(52,I O),(57,I aa.Kind),(58,B (Qr aa.Kind 5))],dB aa⟩ (sC (Qr aa.Kind 5) (sL Qd (QR (QR (Qk ⟨yz (F4 U aa.Price) Y G O,[]⟩ (sL Qd (KP (F4 U aa.Price,Y,wi (O+1)))))))) (Qf Qd ⟨[(13,I U),(15,I Y),qq 17,(50, .p (.sl 7 (YX G.Articles))),(51,I (Qb (YX G.Articles))),(52,I O),(64,B (Qr aa.Kind 6))],dB aa⟩ (sC (Qr aa.Kind 6) (sL Qd (QR (QR (Qk ⟨yz U aa.Price G O,[]⟩ (sL Qd (KP (U,aa.Price,wi (O+1)))))))) (sK (QR (QR (Qk ⟨yz U Y G O,[]⟩ (sL Qd (KP (U,Y,wi (O+1)))))))))))))))))))))))) (Qq (ZR (Yp (QL (QS (U,Y))))))))
def ZC (n:Nat):Option Bool :=
 (YH n [116,97,114,105,102,102,32,116,32,123,32,116,105,109,101,32,49,48,48,32,112,101,114,32,49,32,102,114,101,101,32,49,48,59,32,125]).bind fun r1 =>
 (YK n r1.1).bind fun J =>
 (cond (Qp 0 (wi ((Qb (List.map ZH.cs r1.2))+(Qb (List.map ZH.cs J.2)))))
  (some true)
  (some (!Qr (Qb (List.map K5.cs J.1)) 1))).bind fun j3 =>
 cond j3
  (some false)
  ((QY J.1 0).bind fun x5 =>
  (Mv n x5 (⟨0,[],[]⟩:Kj) (⟨0,25,20,[]⟩:YG) []).bind fun U =>
  (QY J.1 0).bind fun Z =>
  (Mv n Z (⟨0,[],[]⟩:Kj) (⟨0,25,20,[]⟩:YG) [10]).bind fun Y =>
  (QY J.1 0).bind fun x9 =>
  (LX n x9 (⟨0,[],[]⟩:Kj) 0 25 0).bind fun G =>
  (cond (Qr U.2 0)
   (cond (Qr Y.2 0)
    (cond (Qr G.2 0)
     (cond (Qr U.1 1500)
      (cond (Qr Y.1 500)
       (some (Qr G.1 1500))
       (some false))
      (some false))
     (some false))
    (some false))
   (some false)).bind fun O =>
  some O)
theorem Ua (n:Nat):∀ r,ZC n=some r→QB Tryz.prog 16 [] (.ret (B r)):=by
 refine Qj Tryz.func16 rfl Tryz.ntmps16 rfl ?_;unfold ZC;refine Qf Qd ⟨[],[]⟩ (sS (sG ?_));refine xC [] (TS n [116,97,114,105,102,102,32,116,32,123,32,116,105,109,101,32,49,48,48,32,112,101,114,32,49,32,102,114,101,101,32,49,48,59,32,125]) QE (fun r1=>?_);refine xR 6 (xE (Qk ⟨[qq 1,(2, .p (.sl 2 (Ue r1.2)))],Ik r1.1⟩ (sS (sG (xR 1 ?_)))));refine xC [] (TV n r1.1) QE (fun G=>?_);refine xR 5 (xE (Qk ⟨[(2, .p (.sl 2 (Ue r1.2))),(3, .p (.sl 2 (XM G.1))),(4, .p (.sl 2 (Ue G.2)))],[]⟩ (sS (KI (fun j3=>⟨[(3, .p (.sl 2 (XM G.1))),(31,B j3)],[]⟩:Bool→St) (sG (xR 7 (xS (Qp 0 (wi ((Qb (Ue r1.2))+(Qb (Ue G.2))))) (fun h4=>xN (Qy h4) (xR 3 (xE (QS true)))) (fun h4=>xO (Qw h4) (xR 3 (xE (QS (!Qr (Qb (XM G.1)) 1)))))))) ?_))));rintro j3;refine sC j3 (Qf Qd ⟨[(0,B false)],[]⟩ (sT (QA (qR (.id))))) (sK (Qk ⟨[(3, .p (.sl 2 (XM G.1)))],[]⟩ (Qf Qd ⟨[(3, .p (.sl 2 (XM G.1))),qq 5],[(5,(q8 0 25 20))]⟩ (sS (CQ Qd rfl (xR 1 (xG (Zx (e:=59) (S:=2) (enc:=K5.cs) (l:=G.1) (k:=.i64) (n:=0) (sv:=.p (.sl 2 (XM G.1))) rfl Qc Qc Qc Qc Qc) (fun x5=>xR 3 ?_))))))));refine xC [.id, .agg [.id, .sl 2, .sl 1], .agg [.id, .id, .id, .sl 2], .sl 1] (EF n x5 (⟨0,[],[]⟩:Kj) (⟨0,25,20,[]⟩:YG) []) QE (fun O=>?_);refine xR 5 (BZ (Qk ⟨[(3, .p (.sl 2 (XM G.1))),qq 5,(6,I O.1),(7,I O.2)],[(5,(q8 0 25 20))]⟩ (sS (CQ Qd rfl (xR 1 (xG (Zx (e:=59) (S:=2) (enc:=K5.cs) (l:=G.1) (k:=.i64) (n:=0) (sv:=.p (.sl 2 (XM G.1))) rfl Qc Qc Qc Qc Qc) (fun x7=>xR 4 ?_)))))));refine xC [.id, .agg [.id, .sl 2, .sl 1], .agg [.id, .id, .id, .sl 2], .sl 1] (EF n x7 (⟨0,[],[]⟩:Kj) (⟨0,25,20,[]⟩:YG) [10]) QE (fun r8=>?_);refine xR 5 (BZ (Qk ⟨[(3, .p (.sl 2 (XM G.1))),(6,I O.1),(7,I O.2),(8,I r8.1),(9,I r8.2)],[]⟩ (sS (sG (xR 1 (xG (Zx (e:=59) (S:=2) (enc:=K5.cs) (l:=G.1) (k:=.i64) (n:=0) (sv:=.p (.sl 2 (XM G.1))) rfl Qc Qc Qc Qc Qc) (fun x9=>xR 2 ?_)))))));refine xC [.id, .agg [.id, .sl 2, .sl 1], .id, .id, .id] (SY n x9 (⟨0,[],[]⟩:Kj) 0 25 0) QE (fun J=>?_);refine xR 5 (xE (Qk ⟨[(6,I O.1),(7,I O.2),(8,I r8.1),(9,I r8.2),(10,I J.1),(11,I J.2)],[]⟩ (KI (fun ac=>⟨[(0,B ac)],[]⟩:Bool→St) ?_ ?_)));rotate_left
 ·rintro ac;exact sT (qR (.id))
 exact sG (xR 3 (xS (Qr O.2 0) (fun aa=>xO (Qv aa) (xR 3 (xS (Qr r8.2 0) (fun Y=>xO (Qv Y) (xR 3 (xS (Qr J.2 0) (fun Z=>xO (Qv Z) (xR 3 (xS (Qr O.1 1500) (fun ab=>xO (Qv ab) (xR 3 (xS (Qr r8.1 500) (fun U=>xO (Qv U) (xR 3 (xE (QS (Qr J.1 1500))))) (fun U=>xN (Qx U) (xR 3 (xE (QS false))))))) (fun ab=>xN (Qx ab) (xR 7 (xE (QS false))))))) (fun Z=>xN (Qx Z) (xR 11 (xE (QS false))))))) (fun Y=>xN (Qx Y) (xR 15 (xE (QS false))))))) (fun aa=>xN (Qx aa) (xR 19 (xE (QS false))))))
def Lr (n:Nat) (G:Kj):Option Bool :=
 cond (leI (Qb (List.map XC.cs G.Changes)) 30)
  (some (leI (Qb (List.map ci G.Holidays)) 60))
  (some false)
theorem zb (n:Nat) (G:Kj):∀ r,Lr n G=some r→QB Tryz.prog 41 [ag (Kj.cs G)] (.ret (B r)):=by
 refine Qj Tryz.func41 rfl Tryz.ntmps41 rfl ?_;unfold Lr;exact Qf Qd ⟨[qq 1],Ip G⟩ (sS (sG (xR 5 (xS (leI (Qb (Ba G.Changes)) 30) (fun J=>xO (Qv J) (xR 5 (xE (Qk ⟨[(2,B (leI (Qb (List.map ci G.Holidays)) 60))],[]⟩ (sT (qR (.id))))))) (fun J=>xN (Qx J) (xR 5 (xE (Qk ⟨[(2,B false)],[]⟩ (sT (qR (.id)))))))))))
def Hz (n:Nat) (G:K5) (J:Kj) (O:YG):Option Bool :=
 (Lr n J).bind fun r1 =>
 cond r1
  (cond (leI (Qb G.Name) 50)
   (cond (leI (Qb (List.map Q3.cs G.Articles)) 20)
    (some (leI (Qb (List.map Ho.cs O.Slices)) 60))
    (some false))
   (some false))
  (some false)
theorem ze (n:Nat) (G:K5) (O:Kj) (J:YG):∀ r,Hz n G O J=some r→QB Tryz.prog 17 [ag (K5.cs G),ag (Kj.cs O),ag (YG.cs J)] (.ret (B r)):=by
 refine Qj Tryz.func17 rfl Tryz.ntmps17 rfl ?_;unfold Hz;refine Qf Qd ⟨Qio,Qip G O J⟩ (sS (sG (xR 1 ?_)));refine xC [] (zb n O) QE (fun r1=>?_);exact xR 1 (xE (Qk ⟨[qq 3,qq 5,(7,B r1)],[(3,nI G),(5,NU J)]⟩ (sS (sG (xR 2 (xS r1 (fun Y=>xO (Qv Y) (xR 5 (xS (leI (Qb G.Name) 50) (fun Z=>xO (Qv Z) (xR 5 (xS (leI (Qb (YX G.Articles)) 20) (fun U=>xO (Qv U) (xR 5 (xE (Qk ⟨[(6,B (leI (Qb (M5 J.Slices)) 60))],[]⟩ (sT (qR (.id))))))) (fun U=>xN (Qx U) (xR 5 (xE (Qk ⟨[(6,B false)],[]⟩ (sT (qR (.id)))))))))) (fun Z=>xN (Qx Z) (xR 11 (xE (Qk ⟨[(6,B false)],[]⟩ (sT (qR (.id)))))))))) (fun Y=>xN (Qx Y) (xR 17 (xE (Qk ⟨[(6,B false)],[]⟩ (sT (qR (.id)))))))))))))
def Jo (n:Nat) (G:Int):Option (List UInt8) :=
 cond (leI (-9223372036854775808) G&&leI G 9223372036854775807) (some (Lib.itoa G)) none
theorem EG (n:Nat) (G:Int):∀ r,Jo n G=some r→QB Tryz.prog 196 [I G] (.ret (S r)):=by
 intro r J;unfold Jo at J;cases h:leI (-9223372036854775808) G&&leI G 9223372036854775807
 ·rw [h] at J; cases J
 rw [h] at J; cases J;simp only [leI,Ze,decide_eq_true_eq] at h;exact Qdc h.1 h.2
def GZ (n:Nat) (J:Dx) (G:GN):Option Dx :=
 cond (QM (List.length (J.text++[32])) 1) (
  cond (Qr G.Kind 6)
   ((Jo n G.N).bind fun O =>
   cond (QM (List.length ((J.text++[32])++O)) 1&&!List.isEmpty O) (
    some (⟨(J.text++[32])++O⟩:Dx)) none)
   (cond (QM (List.length ((J.text++[32])++G.Name)) 1&&!List.isEmpty G.Name) (
    some (⟨(J.text++[32])++G.Name⟩:Dx)) none)) none
def QiF:=fun G=>(.box 97 [(.sfp 1000), .tsl 1 (List.map c8b G) 1101]:Blk)
def Na:=fun G=>([(1000,(QiF G)),(1101, .arr 5 1 (List.map c8b G).length)]:List (Nat × Blk))
def dC:=fun G=>([(3, .box 25 (Yx (GN.cs G)))]:List (Nat × Blk))
def Qbg:=fun J G=>(⟨[(0, .ptr 1000 0),(3, .ptr 3 0)],dC J++Na G⟩:St)
def Qbh:=fun G=>(.box 97 [(.sfp 1000), .tsl 1 (List.map c8b G) 1001]:Blk)
def HV:=fun G=>([(1000,(Qbh G)),(1001, .arr 5 1 (List.map c8b G).length)]:List (Nat × Blk))
def QdX:=fun G=>(.arr 5 1 (List.map c8b G).length:Blk)
def Bj:=fun G=>([(1000,(Qbh G)),(1001,(QdX G))]:List (Nat × Blk))
def zf:=fun G=>([(1000,(QiF G)),(1101,(QdX G))]:List (Nat × Blk))
def QdY:=fun J G=>(⟨[(0, .ptr 1000 0),(3, .ptr 3 0)],dC J++zf G⟩:St)
def QiG:=fun G=>([(4,I (G)),(5, .p (.val (.nilIface)))]:List (Nat × AV))
def wM:=fun J G=>(⟨QiG (J),Bj G⟩:St)
def uS:=fun J G=>(⟨[(1,S J)],Bj G⟩:St)
abbrev uT (x:List UInt8):Go.Abs.Blk:=.arr 5 1 (mb x).length
theorem EH (n:Nat) (G:Dx) (J:GN):∀ r,GZ n G J=some r→Kw Tryz.prog 132 [Zh,ag (GN.cs J)] (Go.Abs.look [(1000, .box 97 [.sfp 1000, .tsl 1 (mb G.text) 1101]),(1101,uT G.text)]) (Ya (fun r:Dx=>((.ret (.tup []),[(1000, .box 97 [.sfp 1000, .tsl 1 (mb r.text) 1101]),(1101,uT r.text)]):Zz × List (Nat × Blk))) r):=by
 refine Km (Na G.text) Tryz.func132 rfl Tryz.ntmps132 rfl ?_;unfold GZ;refine Qf Qd (Qbg J G.text) (sS (sG (xR 3 (Gn (HV G.text) [Zh,B8 32] [(1000,1000),(1001,1101)] [] [] Tryz.func195 rfl Tryz.ntmps195 rfl (Qf Qd ⟨[(0,Zh),(1,B8 32)],HV G.text⟩ (sS (sG (xR 1 (UW (Z9 (f:=131) (args:=[Zh]) Qc Qc Qc ?_))))))))));refine Wj 1000 1 1001 5 1 (mb G.text).length (mb G.text) ⟨[0,1,5],[1000],[],[]⟩ rfl (fun _ _ _=>by kernel_rfl) (fun ad af U=>?_);refine Zf [(1000,1000)] [] [] (UX ad af U) Qc Qc Qc QE QE (fun _=>?_);refine Xm _ rfl (VZ (xE (Qk ⟨[(0,Zh),(1,B8 32)],HV G.text⟩ (sS (sG (xR 7 (xF (YV (e:=5) (S:=1) (by_:=1) (enc:=c8b) (tk:=1001) (l:=G.text) (l2:=[32]) (xv:=.tsl 1 (List.map c8 [32]) 13) rfl Qc Qc rfl Qc Qc Qc rfl Qc) (xR 3 (xE (Qk ⟨[],Bj (G.text++[32])⟩ (Qf Qd ⟨[(4, .p (.val (.nilIface)))],Bj (G.text++[32])⟩ (sT (QC (.id) [1000,1001] [] (.p (.val (.nilIface))) (VZ (xE (Qk (QdY J (G.text++[32])) (sS (Qf Qd ⟨[(0,Zh),qq 3,(10,B (Qr J.Kind 6))],dC J++zf (G.text++[32])⟩ (sC (Qr J.Kind 6) ?_ ?_)))))))))))))))))));rotate_left
 ·refine sK (Qk (QdY J (G.text++[32])) (CQ Qd rfl (xR 5 (FB (Bj (G.text++[32])) [Zh,S J.Name] [(1000,1000),(1001,1101)] [] [] Qc Tryz.func62 rfl Tryz.ntmps62 rfl Qc Qc Qc (Qf Qd ⟨[(0,Zh),(1,S J.Name)],Bj (G.text++[32])⟩ (sS (sG (xR 1 (UW (Z9 (f:=131) (args:=[Zh]) Qc Qc Qc ?_))))))))));refine Wj 1000 1 1001 5 1 (mb (G.text++[32])).length (mb (G.text++[32])) ⟨[0,1,6],[1000],[],[]⟩ rfl (fun _ _ _=>by kernel_rfl) (fun aa Z ae=>?_);refine Zf [(1000,1000)] [] [] (UX aa Z ae) Qc Qc Qc QE QE (fun _=>?_);exact Xm _ rfl (VZ (xE (Qk ⟨[(0,Zh),(1,S J.Name)],Bj (G.text++[32])⟩ (sS (sG (xR 6 (xS (QM (List.length ((G.text++[32])++J.Name)) 1&&!List.isEmpty J.Name) (fun h6=>GA (t:=93) (u:=9) (ty:=5) (bs:=G.text++[32]) (b:=J.Name) (tk:=1001) rfl Tryz.underlying93 Tryz.underlying9 h6 (xR 3 (xE (Qk ⟨[(1,S J.Name)],Bj ((G.text++[32])++J.Name)⟩ (Qf Qd (wM (Qb J.Name) ((G.text++[32])++J.Name)) (sT (QC (.id) [1000,1001] [] (.tup [I (Qb J.Name), .p (.val (.nilIface))]) (kqn (sH (.id) [1000,1101] []))))))))) (fun _=>Gz))))))))
 refine sS (CQ Qd rfl (xR 5 ?_));refine xC [] (EG n J.N) QE (fun O=>?_);refine FB (Bj (G.text++[32])) [Zh,S O] [(1000,1000),(1001,1101)] [] [] Qc Tryz.func62 rfl Tryz.ntmps62 rfl Qc Qc Qc (Qf Qd ⟨[(0,Zh),(1,S O)],Bj (G.text++[32])⟩ (sS (sG (xR 1 (UW (Z9 (f:=131) (args:=[Zh]) Qc Qc Qc ?_))))));refine Wj 1000 1 1001 5 1 (mb (G.text++[32])).length (mb (G.text++[32])) ⟨[0,1,6],[1000],[],[]⟩ rfl (fun _ _ _=>by kernel_rfl) (fun Y ac ab=>?_);refine Zf [(1000,1000)] [] [] (UX Y ac ab) Qc Qc Qc QE QE (fun _=>?_);exact Xm _ rfl (VZ (xE (Qk ⟨[(0,Zh),(1,S O)],Bj (G.text++[32])⟩ (sS (sG (xR 6 (xS (QM (List.length ((G.text++[32])++O)) 1&&!List.isEmpty O) (fun h4=>GA (t:=93) (u:=9) (ty:=5) (bs:=G.text++[32]) (b:=O) (tk:=1001) rfl Tryz.underlying93 Tryz.underlying9 h4 (xR 3 (xE (Qk (uS O ((G.text++[32])++O)) (Qf Qd (wM (Qb O) ((G.text++[32])++O)) (sT (QC (.id) [1000,1001] [] (.tup [I (Qb O), .p (.val (.nilIface))]) (kqn (Qk ⟨[],zf ((G.text++[32])++O)⟩ (sT (QA (Kr (.id) [1000,1101] [])))))))))))) (fun _=>Gz))))))))
def Vo (n:Nat) (U:GN) (O:(Int × (List UInt8))→Option (List UInt8)) (G:Int) (J:List UInt8):Option (List UInt8) :=
 cond (Qp G (Qb (List.map Zy U.Kids)))
  ((Option.bind (QY U.Kids G) GN.of).bind fun Z =>
  (GZ n (⟨J⟩:Dx) Z).bind fun Y =>
  O (wi (G+1),Y.text))
  (some J)
def RY (n:Nat) (J:Dx) (G:GN):Option Dx :=
 cond (!Qr G.Kind 3)
  (some (⟨J.text⟩:Dx))
  (cond (Ib [32] G.Name) (
   cond (QM (List.length (J.text++([32]++G.Name))) 1&&!List.isEmpty ([32]++G.Name)) (
    (Qo (fun O (Y,U)=>Vo n G O Y U) n (0,J.text++([32]++G.Name))).bind fun Z =>
    some (⟨Z⟩:Dx)) none) none)
def QiH:=fun O G J=>(⟨[(0, .ptr 1000 0),(3, .ptr 3 0),(6,B O)],dC G++Na J⟩:St)
def Qbi:=fun G=>([(0, .ptr 1000 0),(1,S G)]:List (Nat × AV))
def lD:=fun J G=>(⟨Qbi J,HV G⟩:St)
def QiI:=fun G=>(.box 101 [.fn G [.ptr 1000 0] []]:Blk)
def HY:=fun G J=>([(1000,(Qbh G)),(1001,(QdX G)),(1002,(QiI J))]:List (Nat × Blk))
def nq8:List (Nat × Nat):=[(1002,19),(1000,1000),(1001,1101)]
def RZ:=fun J G=>([(1, .p (.sl 5 (List.map Zy (GN.Kids J)))),(10,(.bsl 1002 1)),(11,I 1),(12,I G)]:List (Nat × AV))
def uU:=fun O G J=>(⟨RZ O 0,HY G J⟩:St)
def Nb:=fun O G J=>([(1, .p (.sl 5 (List.map Zy (GN.Kids O)))),(10,(.bsl 1002 1)),(11,I 1),(12,I G),(13,B J)]:List (Nat × AV))
def VR:=fun G J=>([(1000,(Qbh G)),(1001, .arr 5 1 (List.map c8b G).length),(1002,(QiI J))]:List (Nat × Blk))
def uV:=fun J G=>([(1, .p (.sl 5 (List.map Zy (GN.Kids J)))),(7, .fn G [.ptr 1000 0] []),(10,(.bsl 1002 1)),(11,I 1),(12,I 0)]:List (Nat × AV))
def uW:=fun G J O=>([(1, .p (.sl 5 (List.map Zy (GN.Kids G)))),(7, .fn J [.ptr 1000 0] []),(10,(.bsl 1002 1)),(11,I 1),(12,I 0),(16, .p (.sl 5 (List.map Zy (GN.Kids G)))),(17,I (Qb (List.map Zy (GN.Kids G)))),(18,I O)]:List (Nat × AV))
def MN:=fun U G O J Y=>(⟨uW U G O,VR J Y⟩:St)
def uX:=fun G O U J=>([(1, .p (.sl 5 (List.map Zy (GN.Kids G)))),(7, .fn O [.ptr 1000 0] []),(10,(.bsl 1002 1)),(11,I 1),(12,I 0),(16, .p (.sl 5 (List.map Zy (GN.Kids G)))),(17,I (Qb (List.map Zy (GN.Kids G)))),(18,I U),(19,B J)]:List (Nat × AV))
def QiJ:=fun G J O=>([(1, .p (.sl 5 (List.map Zy (GN.Kids G)))),(7, .fn J [.ptr 1000 0] []),(9, .ptr 9 0),(10,(.bsl 1002 1)),(11,I 1),(12,I 0),(16, .p (.sl 5 (List.map Zy (GN.Kids G)))),(17,I (Qb (List.map Zy (GN.Kids G)))),(18,I O)]:List (Nat × AV))
def QeN:=fun G=>([(9, .box 25 (Yx (GN.cs G)))]:List (Nat × Blk))
def Qbj:=fun U G O J Z Y=>(⟨QiJ U G O,QeN J++VR Z Y⟩:St)
theorem AR (n:Nat) (J:Dx) (G:GN):∀ r,RY n J G=some r→Kw Tryz.prog 64 [Zh,ag (GN.cs G)] (Go.Abs.look [(1000, .box 97 [.sfp 1000, .tsl 1 (mb J.text) 1101]),(1101,uT J.text)]) (Ya (fun r:Dx=>((.ret (.tup []),[(1000, .box 97 [.sfp 1000, .tsl 1 (mb r.text) 1101]),(1101,uT r.text)]):Zz × List (Nat × Blk))) r):=by
 refine Km (Na J.text) Tryz.func64 rfl Tryz.ntmps64 rfl ?_;unfold RY;refine Qf Qd (Qbg G J.text) (sS (Qf Qd (QiH (!Qr G.Kind 3) G J.text) (sC (!Qr G.Kind 3) (sT (QA (Kr (.id) [1000,1101] []))) (sK (Qk (Qbg G J.text) (sS (CQ Qd rfl (xR 5 (xF (Ei (a:=[32]) (b:=G.Name) rfl Qc Qc) (FB (HV J.text) [Zh,S ([32]++G.Name)] [(1000,1000),(1001,1101)] [] [] Qc Tryz.func62 rfl Tryz.ntmps62 rfl Qc Qc Qc (Qf Qd (lD ([32]++G.Name) J.text) (sS (sG (xR 1 (UW (Z9 (f:=131) (args:=[Zh]) Qc Qc Qc ?_))))))))))))))));refine Wj 1000 1 1001 5 1 (mb J.text).length (mb J.text) ⟨[0,1,6],[1000],[],[]⟩ rfl (fun _ _ _=>by kernel_rfl) (fun Z ab aa=>?_);refine Zf [(1000,1000)] [] [] (UX Z ab aa) Qc Qc Qc QE QE (fun _=>?_);refine Xm _ rfl (VZ (xE (Qk (lD ([32]++G.Name) J.text) (sS (sG (xR 6 (xS (QM (List.length (J.text++([32]++G.Name))) 1&&!List.isEmpty ([32]++G.Name)) (fun h2=>GA (t:=93) (u:=9) (ty:=5) (bs:=J.text) (b:=[32]++G.Name) (tk:=1001) rfl Tryz.underlying93 Tryz.underlying9 h2 (xR 3 (xE (Qk (uS ([32]++G.Name) (J.text++([32]++G.Name))) (Qf Qd (wM (Qb ([32]++G.Name)) (J.text++([32]++G.Name))) (sT (QC (.id) [1000,1001] [] (.tup [I (Qb ([32]++G.Name)), .p (.val (.nilIface))]) (kqn (Qk (QdY G (J.text++([32]++G.Name))) (sG (xR 6 (Gn (HY (J.text++([32]++G.Name)) (.func 132)) [Zh, .p (.sl 5 (mI G.Kids)), .bsl 1002 1] nq8 [] [] Tryz.func63 rfl Tryz.ntmps63 rfl (Qf Qd (uU G (J.text++([32]++G.Name)) (.func 132)) (sB (Z4 1 (Qf Qd ⟨Nb G 0 true,HY (J.text++([32]++G.Name)) (.func 132)⟩ (sS (ZQ (sK (Qk (uU G (J.text++([32]++G.Name)) (.func 132)) (KI (fun j3=>⟨RZ G 0,VR j3 (.func 132)⟩:(List UInt8)→St) ?_ ?_))))))))))))))))))))) (fun _=>Gz))))))));rotate_left
 ·rintro j3;exact sL Qd (NJ ⟨[1,10,11,12],[1000,1001,1002],[],[]⟩ ⟨RZ G 1,VR j3 (.func 132)⟩ (Qf Qd ⟨Nb G 1 false,VR j3 (.func 132)⟩ (sS (QW (Qq (ZR (MI (QL (Dw (.id) [1000,1001,1002] [] (.tup []) (VZ (xE (sH (.id) [1000,1101] []))))))))))))
 refine sB (Qf Qd ⟨uV G (.func 132),HY (J.text++([32]++G.Name)) (.func 132)⟩ (Qf Qd ⟨uW G (.func 132) 0,HY (J.text++([32]++G.Name)) (.func 132)⟩ (sB (QF (fun (O,U)=>(MN G (.func 132) O U (.func 132)):(Int × (List UInt8))→St) (H5) ?_))));rintro Y ⟨O,U⟩;show QO (Vo n G Y O U) _ _ _ _ _ _;unfold Vo;refine Qf Qd ⟨uX G (.func 132) O (Qp O (Qb (mI G.Kids))),VR U (.func 132)⟩ (sS (sC (Qp O (Qb (mI G.Kids))) (sK (Qk (MN G (.func 132) O U (.func 132)) (sS (sB (sS (sG (xG (K9 (e:=25) (S:=5) (enc:=GN.cs) (dec:=GN.of) (l:=G.Kids) (k:=.i64) (n:=O) (sv:=.p (.sl 5 (mI G.Kids))) GN.of_cs rfl Qc Qc Qc Qc Qc) (fun x5=>xR 3 (xE (Qk (Qbj G (.func 132) O x5 U (.func 132)) (sG (xR 2 ?_)))))))))))) (Qq (ZR (Yp (QL (QR (QS U))))))));refine UU [(1000,1000),(1101,1001)] [] [] (EH n (⟨U⟩:Dx) x5) QE QE (fun r6=>?_);exact xE (QR (Qk (MN G (.func 132) O r6.text (.func 132)) (sL Qd (KP (wi (O+1),r6.text)))))
def KH (n:Nat) (U:GN) (O:(Int × (List UInt8))→Option (List UInt8)) (G:Int) (J:List UInt8):Option (List UInt8) :=
 cond (Qp G (Qb (List.map Zy U.Kids)))
  ((Option.bind (QY U.Kids G) GN.of).bind fun Z =>
  (GZ n (⟨J⟩:Dx) Z).bind fun Y =>
  O (wi (G+1),Y.text))
  (some J)
def HZ (n:Nat) (J:Dx) (G:GN):Option Dx :=
 cond (!Qr G.Kind 4)
  (some (⟨J.text⟩:Dx))
  (cond (Ib [32,32] G.Name) (
   cond (QM (List.length (J.text++([32,32]++G.Name))) 1&&!List.isEmpty ([32,32]++G.Name)) (
    (Qo (fun O (Y,U)=>KH n G O Y U) n (0,J.text++([32,32]++G.Name))).bind fun Z =>
    cond (QM (List.length (Z++[59,10])) 1&&!List.isEmpty [59,10]) (
     some (⟨Z++[59,10]⟩:Dx)) none) none) none)
def lF:=fun J G=>(⟨[(0, .ptr 1000 0),(1,S J)],HV G⟩:St)
theorem zg (n:Nat) (J:Dx) (G:GN):∀ r,HZ n J G=some r→Kw Tryz.prog 66 [Zh,ag (GN.cs G)] (Go.Abs.look [(1000, .box 97 [.sfp 1000, .tsl 1 (mb J.text) 1101]),(1101,uT J.text)]) (Ya (fun r:Dx=>((.ret (.tup []),[(1000, .box 97 [.sfp 1000, .tsl 1 (mb r.text) 1101]),(1101,uT r.text)]):Zz × List (Nat × Blk))) r):=by
 refine Km (Na J.text) Tryz.func66 rfl Tryz.ntmps66 rfl ?_;unfold HZ;refine Qf Qd (Qbg G J.text) (sS (Qf Qd (QiH (!Qr G.Kind 4) G J.text) (sC (!Qr G.Kind 4) (sT (QA (Kr (.id) [1000,1101] []))) (sK (Qk (Qbg G J.text) (sS (CQ Qd rfl (xR 5 (xF (Ei (a:=[32,32]) (b:=G.Name) rfl Qc Qc) (FB (HV J.text) [Zh,S ([32,32]++G.Name)] [(1000,1000),(1001,1101)] [] [] Qc Tryz.func62 rfl Tryz.ntmps62 rfl Qc Qc Qc (Qf Qd (lD ([32,32]++G.Name) J.text) (sS (sG (xR 1 (UW (Z9 (f:=131) (args:=[Zh]) Qc Qc Qc ?_))))))))))))))));refine Wj 1000 1 1001 5 1 (mb J.text).length (mb J.text) ⟨[0,1,6],[1000],[],[]⟩ rfl (fun _ _ _=>by kernel_rfl) (fun ae af ab=>?_);refine Zf [(1000,1000)] [] [] (UX ae af ab) Qc Qc Qc QE QE (fun _=>?_);refine Xm _ rfl (VZ (xE (Qk (lD ([32,32]++G.Name) J.text) (sS (sG (xR 6 (xS (QM (List.length (J.text++([32,32]++G.Name))) 1&&!List.isEmpty ([32,32]++G.Name)) (fun h2=>GA (t:=93) (u:=9) (ty:=5) (bs:=J.text) (b:=[32,32]++G.Name) (tk:=1001) rfl Tryz.underlying93 Tryz.underlying9 h2 (xR 3 (xE (Qk (uS ([32,32]++G.Name) (J.text++([32,32]++G.Name))) (Qf Qd (wM (Qb ([32,32]++G.Name)) (J.text++([32,32]++G.Name))) (sT (QC (.id) [1000,1001] [] (.tup [I (Qb ([32,32]++G.Name)), .p (.val (.nilIface))]) (kqn (Qk (QdY G (J.text++([32,32]++G.Name))) (sS (sG (xR 6 (Gn (HY (J.text++([32,32]++G.Name)) (.func 132)) [Zh, .p (.sl 5 (mI G.Kids)), .bsl 1002 1] nq8 [] [] Tryz.func63 rfl Tryz.ntmps63 rfl (Qf Qd (uU G (J.text++([32,32]++G.Name)) (.func 132)) (sB (Z4 1 (Qf Qd ⟨Nb G 0 true,HY (J.text++([32,32]++G.Name)) (.func 132)⟩ (sS (ZQ (sK (Qk (uU G (J.text++([32,32]++G.Name)) (.func 132)) (KI (fun Y=>⟨RZ G 0,VR Y (.func 132)⟩:(List UInt8)→St) ?_ ?_)))))))))))))))))))))) (fun _=>Gz))))))))
 ·refine sB (Qf Qd ⟨uV G (.func 132),HY (J.text++([32,32]++G.Name)) (.func 132)⟩ (Qf Qd ⟨uW G (.func 132) 0,HY (J.text++([32,32]++G.Name)) (.func 132)⟩ (sB (QF (fun (O,U)=>(MN G (.func 132) O U (.func 132)):(Int × (List UInt8))→St) (H5) ?_))));rintro Z ⟨O,U⟩;show QO (KH n G Z O U) _ _ _ _ _ _;unfold KH;refine Qf Qd ⟨uX G (.func 132) O (Qp O (Qb (mI G.Kids))),VR U (.func 132)⟩ (sS (sC (Qp O (Qb (mI G.Kids))) (sK (Qk (MN G (.func 132) O U (.func 132)) (sS (sB (sS (sG (xG (K9 (e:=25) (S:=5) (enc:=GN.cs) (dec:=GN.of) (l:=G.Kids) (k:=.i64) (n:=O) (sv:=.p (.sl 5 (mI G.Kids))) GN.of_cs rfl Qc Qc Qc Qc Qc) (fun x5=>xR 3 (xE (Qk (Qbj G (.func 132) O x5 U (.func 132)) (sG (xR 2 ?_)))))))))))) (Qq (ZR (Yp (QL (QR (QS U))))))));refine UU [(1000,1000),(1101,1001)] [] [] (EH n (⟨U⟩:Dx) x5) QE QE (fun r6=>?_);exact xE (QR (Qk (MN G (.func 132) O r6.text (.func 132)) (sL Qd (KP (wi (O+1),r6.text)))))
 rintro Y;refine sL Qd (NJ ⟨[1,10,11,12],[1000,1001,1002],[],[]⟩ ⟨RZ G 1,VR Y (.func 132)⟩ (Qf Qd ⟨Nb G 1 false,VR Y (.func 132)⟩ (sS (QW (Qq (ZR (MI (QL (Dw (.id) [1000,1001,1002] [] (.tup []) (VZ (xE (Qk ⟨[(0,Zh)],Na Y⟩ (sG (xR 3 (Gn (HV Y) [Zh,S [59,10]] [(1000,1000),(1001,1101)] [] [] Tryz.func62 rfl Tryz.ntmps62 rfl (Qf Qd (lF [59,10] Y) (sS (sG (xR 1 (UW (Z9 (f:=131) (args:=[Zh]) Qc Qc Qc ?_)))))))))))))))))))));refine Wj 1000 1 1001 5 1 (mb Y).length (mb Y) ⟨[0,1,6],[1000],[],[]⟩ rfl (fun _ _ _=>by kernel_rfl) (fun aa ad ac=>?_);refine Zf [(1000,1000)] [] [] (UX aa ad ac) Qc Qc Qc QE QE (fun _=>?_);exact Xm _ rfl (VZ (xE (Qk (lF [59,10] Y) (sS (sG (xR 6 (xS (QM (List.length (Y++[59,10])) 1&&!List.isEmpty [59,10]) (fun h8=>GA (t:=93) (u:=9) (ty:=5) (bs:=Y) (b:=[59,10]) (tk:=1001) rfl Tryz.underlying93 Tryz.underlying9 h8 (xR 3 (xE (Qk (uS [59,10] (Y++[59,10])) (Qf Qd (wM (Qb [59,10]) (Y++[59,10])) (sT (QC (.id) [1000,1001] [] (.tup [I (Qb [59,10]), .p (.val (.nilIface))]) (VZ (xE (sH (.id) [1000,1101] [])))))))))) (fun _=>Gz))))))))
def Vp (n:Nat) (U:GN) (O:(Int × (List UInt8))→Option (List UInt8)) (G:Int) (J:List UInt8):Option (List UInt8) :=
 cond (Qp G (Qb (List.map Zy U.Kids)))
  ((Option.bind (QY U.Kids G) GN.of).bind fun Y =>
  (RY n (⟨J⟩:Dx) Y).bind fun Z =>
  O (wi (G+1),Z.text))
  (some J)
def YA (n:Nat) (U:GN) (O:(Int × (List UInt8))→Option (List UInt8)) (G:Int) (J:List UInt8):Option (List UInt8) :=
 cond (Qp G (Qb (List.map Zy U.Kids)))
  ((Option.bind (QY U.Kids G) GN.of).bind fun Z =>
  (RY n (⟨J⟩:Dx) Z).bind fun Y =>
  O (wi (G+1),Y.text))
  (some J)
def Wu (U:GN) (O:(Int × (List UInt8))→Option (List UInt8)) (G:Int) (J:List UInt8):Option (List UInt8) :=
 cond (Qp G (Qb (List.map Zy [GN.cs U])))
  ((Option.bind (QY [GN.cs U] G) GN.of).bind fun Y =>
  cond (QM (List.length (J++[32,123,10])) 1&&!List.isEmpty [32,123,10]) (
   O (wi (G+1),J++[32,123,10])) none)
  (some J)
def YB (n:Nat) (U:GN) (O:(Int × (List UInt8))→Option (List UInt8)) (G:Int) (J:List UInt8):Option (List UInt8) :=
 cond (Qp G (Qb (List.map Zy U.Kids)))
  ((Option.bind (QY U.Kids G) GN.of).bind fun Y =>
  (HZ n (⟨J⟩:Dx) Y).bind fun Z =>
  O (wi (G+1),Z.text))
  (some J)
def Bl (n:Nat) (aa:Dx) (G:GN):Option Dx :=
 (QY kindsTab G.N).bind fun x1 =>
 cond (Ib x1 [32]) (
  cond (Ib (x1++[32]) G.Name) (
   cond (QM (List.length (aa.text++((x1++[32])++G.Name))) 1&&!List.isEmpty ((x1++[32])++G.Name)) (
    cond (!Qr G.N 7)
     ((Qo (fun ae (ai,aj)=>Vp n G ae ai aj) n (0,aa.text++((x1++[32])++G.Name))).bind fun j4 =>
     cond (QM (List.length (j4++[59,10])) 1&&!List.isEmpty [59,10]) (
      some (⟨j4++[59,10]⟩:Dx)) none)
     ((Qo (fun O (af,ab)=>YA n G O af ab) n (0,aa.text++((x1++[32])++G.Name))).bind fun ak =>
     (Qo (fun J (Z,ad)=>Wu G J Z ad) n (0,ak)).bind fun al =>
     (Qo (fun U (Y,ac)=>YB n G U Y ac) n (0,al)).bind fun ah =>
     cond (QM (List.length (ah++[125,10])) 1&&!List.isEmpty [125,10]) (
      some (⟨ah++[125,10]⟩:Dx)) none)) none) none) none
def uY:=fun G=>([(2, .box 91 [.ptr 1000 0]),(3, .box 25 (Yx (GN.cs G)))]:List (Nat × Blk))
def QiK:=fun J G=>(⟨[(2, .ptr 2 0),(3, .ptr 3 0)],uY J++Na G⟩:St)
def QiL:=fun J G=>(⟨[(2, .ptr 2 0),(3, .ptr 3 0)],uY J++zf G⟩:St)
def QiM:=fun G=>(⟨[(2, .ptr 2 0)],[(2, .box 91 [.ptr 1000 0])]++Na G⟩:St)
def QeO:List (Nat × AV):=[(2, .ptr 2 0),(3, .ptr 3 0),(4, .fn (.func 65) [] [.ptr 2 0])]
def QiN:=fun G=>(.arr 25 5 (List.map Zy [GN.cs G]).length:Blk)
def QiO:=fun G=>(.box 97 [(.sfp 1001), .tsl 1 (List.map c8b G) 1002]:Blk)
def QiP:Blk:=.box 101 [.fn (.func 65) [] [.ptr 1003 0]]
def R3:=fun J G=>([(1000,(QiN J)),(1001,(QiO G)),(1002, .arr 5 1 (List.map c8b G).length),(1003, .box 91 [.ptr 1001 0]),(1004,QiP)]:List (Nat × Blk))
def dD:=fun J G=>([(1, .tsl 5 (List.map Zy [GN.cs J]) 1000),(10,(.bsl 1004 1)),(11,I 1),(12,I G)]:List (Nat × AV))
def QeP:=fun O G J=>([(1, .tsl 5 (List.map Zy [GN.cs O]) 1000),(10,(.bsl 1004 1)),(11,I 1),(12,I G),(13,B J)]:List (Nat × AV))
def dE:=fun G J=>([(1, .tsl 5 (List.map Zy [GN.cs G]) 1000),(7, .fn (.func 65) [] [.ptr 1003 0]),(10,(.bsl 1004 1)),(11,I 1),(12,I 0),(16, .tsl 5 (List.map Zy [GN.cs G]) 1000),(17,I (Qb (List.map Zy [GN.cs G]))),(18,I J)]:List (Nat × AV))
def QeQ:=fun G=>([(1000,(Qbh G)),(1001, .arr 5 1 (List.map c8b G).length),(1002, .box 91 [.ptr 1000 0])]:List (Nat × Blk))
theorem uZ (n:Nat) (O:Dx) (G:GN):∀ r,Bl n O G=some r→Kw Tryz.prog 30 [Zh,ag (GN.cs G)] (Go.Abs.look [(1000, .box 97 [.sfp 1000, .tsl 1 (mb O.text) 1101]),(1101,uT O.text)]) (Ya (fun r:Dx=>((.ret (.tup []),[(1000, .box 97 [.sfp 1000, .tsl 1 (mb r.text) 1101]),(1101,uT r.text)]):Zz × List (Nat × Blk))) r):=by
 refine Km (Na O.text) Tryz.func30 rfl Tryz.ntmps30 rfl ?_;unfold Bl;refine Qf Qd (QiK G O.text) (sS (KA [0,1,2,3,4,8,9] [0,1,2,8,9] [(5,[]),(6,[]),(7,[]),(10,[]),(11,[])] Qd rfl (QfZ [0,1,2,8,9] (k:=.i64) (n:=G.N) rfl rfl Qc Tryz.underlying161 Qc Qc Qc Qc uD (fun x1 _=>Qn (Qz Zh rfl) (Qn (Qz Zh rfl) (Qn (Qz Zh rfl) (Qn (Qz (.ptr 3 1) rfl) (Qn (Qz (S G.Name) rfl) (Qg)))))) (fun x1=>Yq [0,1,2,8,9] (Qn (Qz Zh rfl) (Qn (Qz Zh rfl) (Qn (Qz Zh rfl) (Qn (Qz (.ptr 3 1) rfl) (Qn (Qz (S G.Name) rfl) (Qg)))))) (SG [0,1,2,8,9] rfl (Ei (a:=x1) (b:=[32]) rfl Qc Qc) (fun _=>Qn (Qz Zh rfl) (Qn (Qz Zh rfl) (Qn (Qz Zh rfl) (Qn (Qz (.ptr 3 1) rfl) (Qn (Qz (S G.Name) rfl) (Qg)))))) (SG [0,1,2] rfl (Ei (a:=x1++[32]) (b:=G.Name) rfl Qc Qc) (fun _=>Qn (Qz Zh rfl) (Qn (Qz Zh rfl) (Qn (Qz Zh rfl) (Qg)))) (ZF (f:=62) (args:=[Zh,S ((x1++[32])++G.Name)]) (dst:=some 16) (QQ (hc:=(HV O.text)) (args':=[Zh,S ((x1++[32])++G.Name)]) [(1000,1000),(1001,1101)] [] [] Tryz.func62 rfl Tryz.ntmps62 rfl Qc Qc Qc (Qf Qd (lD ((x1++[32])++G.Name) O.text) (sS (sG (xR 1 (UW (Z9 (f:=131) (args:=[Zh]) Qc Qc Qc ?_))))))))))))));refine Wj 1000 1 1001 5 1 (mb O.text).length (mb O.text) ⟨[0,1,6],[1000],[],[]⟩ rfl (fun _ _ _=>by kernel_rfl) (fun az a7 bb=>?_);refine Zf [(1000,1000)] [] [] (UX az a7 bb) Qc Qc Qc QE QE (fun _=>?_);refine Xm _ rfl (VZ (xE (Qk (lD ((x1++[32])++G.Name) O.text) (sS (sG (xR 6 (xS (QM (List.length (O.text++((x1++[32])++G.Name))) 1&&!List.isEmpty ((x1++[32])++G.Name)) (fun h3=>GA (t:=93) (u:=9) (ty:=5) (bs:=O.text) (b:=(x1++[32])++G.Name) (tk:=1001) rfl Tryz.underlying93 Tryz.underlying9 h3 (xR 3 (xE (Qk (uS ((x1++[32])++G.Name) (O.text++((x1++[32])++G.Name))) (Qf Qd (wM (Qb ((x1++[32])++G.Name)) (O.text++((x1++[32])++G.Name))) (sT (QC (.id) [1000,1001] [] (.tup [I (Qb ((x1++[32])++G.Name)), .p (.val (.nilIface))]) (kh [] (Qg) (Ww (Qk (QiL G (O.text++((x1++[32])++G.Name))) (sS (Qf Qd ⟨[qq 2,qq 3,(19,B (!Qr G.N 7))],uY G++zf (O.text++((x1++[32])++G.Name))⟩ (sC (!Qr G.N 7) ?_ ?_))))))))))))) (fun _=>Gz))))))))
 ·refine sS (sG (xR 6 (Gn (HY (O.text++((x1++[32])++G.Name)) (.func 64)) [Zh, .p (.sl 5 (mI G.Kids)), .bsl 1002 1] [(1002,25),(1000,1000),(1001,1101)] [] [] Tryz.func63 rfl Tryz.ntmps63 rfl (Qf Qd (uU G (O.text++((x1++[32])++G.Name)) (.func 64)) (sB (Z4 1 (Qf Qd ⟨Nb G 0 true,HY (O.text++((x1++[32])++G.Name)) (.func 64)⟩ (sS (ZQ (sK (Qk (uU G (O.text++((x1++[32])++G.Name)) (.func 64)) (KI (fun j4=>⟨RZ G 0,VR j4 (.func 64)⟩:(List UInt8)→St) ?_ ?_))))))))))))
  ·refine sB (Qf Qd ⟨uV G (.func 64),HY (O.text++((x1++[32])++G.Name)) (.func 64)⟩ (Qf Qd ⟨uW G (.func 64) 0,HY (O.text++((x1++[32])++G.Name)) (.func 64)⟩ (sB (QF (fun (aa,ae)=>(MN G (.func 64) aa ae (.func 64)):(Int × (List UInt8))→St) (H5) ?_))));rintro av ⟨aa,ae⟩;show QO (Vp n G av aa ae) _ _ _ _ _ _;unfold Vp;refine Qf Qd ⟨uX G (.func 64) aa (Qp aa (Qb (mI G.Kids))),VR ae (.func 64)⟩ (sS (sC (Qp aa (Qb (mI G.Kids))) (sK (Qk (MN G (.func 64) aa ae (.func 64)) (sS (sB (sS (sG (xG (K9 (e:=25) (S:=5) (enc:=GN.cs) (dec:=GN.of) (l:=G.Kids) (k:=.i64) (n:=aa) (sv:=.p (.sl 5 (mI G.Kids))) GN.of_cs rfl Qc Qc Qc Qc Qc) (fun x6=>xR 3 (xE (Qk (Qbj G (.func 64) aa x6 ae (.func 64)) (sG (xR 2 ?_)))))))))))) (Qq (ZR (Yp (QL (QR (QS ae))))))));refine UU [(1000,1000),(1101,1001)] [] [] (AR n (⟨ae⟩:Dx) x6) QE QE (fun r7=>?_);exact xE (QR (Qk (MN G (.func 64) aa r7.text (.func 64)) (sL Qd (KP (wi (aa+1),r7.text)))))
  rintro j4;refine sL Qd (NJ ⟨[1,10,11,12],[1000,1001,1002],[],[]⟩ ⟨RZ G 1,VR j4 (.func 64)⟩ (Qf Qd ⟨Nb G 1 false,VR j4 (.func 64)⟩ (sS (QW (Qq (ZR (MI (QL (Dw (.id) [1000,1001,1002] [] (.tup []) (VZ (xE (Qk (QiM j4) (sS (sG (xR 3 (Gn (HV j4) [Zh,S [59,10]] [(1000,1000),(1001,1101)] [] [] Tryz.func62 rfl Tryz.ntmps62 rfl (Qf Qd (lF [59,10] j4) (sS (sG (xR 1 (UW (Z9 (f:=131) (args:=[Zh]) Qc Qc Qc ?_))))))))))))))))))))));refine Wj 1000 1 1001 5 1 (mb j4).length (mb j4) ⟨[0,1,6],[1000],[],[]⟩ rfl (fun _ _ _=>by kernel_rfl) (fun ax a6 ay=>?_);refine Zf [(1000,1000)] [] [] (UX ax a6 ay) Qc Qc Qc QE QE (fun _=>?_);exact Xm _ rfl (VZ (xE (Qk (lF [59,10] j4) (sS (sG (xR 6 (xS (QM (List.length (j4++[59,10])) 1&&!List.isEmpty [59,10]) (fun h9=>GA (t:=93) (u:=9) (ty:=5) (bs:=j4) (b:=[59,10]) (tk:=1001) rfl Tryz.underlying93 Tryz.underlying9 h9 (xR 3 (xE (Qk (uS [59,10] (j4++[59,10])) (Qf Qd (wM (Qb [59,10]) (j4++[59,10])) (sT (QC (.id) [1000,1001] [] (.tup [I (Qb [59,10]), .p (.val (.nilIface))]) (VZ (xE (Qk ⟨[],zf (j4++[59,10])⟩ (sT (QA (Kr (.id) [1000,1101] []))))))))))))) (fun _=>Gz))))))))
 refine sK (Qk (QiL G (O.text++((x1++[32])++G.Name))) (Qf Qd ⟨QeO,uY G++zf (O.text++((x1++[32])++G.Name))⟩ (sS (sG (xR 6 (Gn (HY (O.text++((x1++[32])++G.Name)) (.func 64)) [Zh, .p (.sl 5 (mI G.Kids)), .bsl 1002 1] [(1002,37),(1000,1000),(1001,1101)] [] [] Tryz.func63 rfl Tryz.ntmps63 rfl (Qf Qd (uU G (O.text++((x1++[32])++G.Name)) (.func 64)) (sB (Z4 1 (Qf Qd ⟨Nb G 0 true,HY (O.text++((x1++[32])++G.Name)) (.func 64)⟩ (sS (ZQ (sK (Qk (uU G (O.text++((x1++[32])++G.Name)) (.func 64)) (KI (fun af=>⟨RZ G 0,VR af (.func 64)⟩:(List UInt8)→St) ?_ ?_)))))))))))))))
 ·refine sB (Qf Qd ⟨uV G (.func 64),HY (O.text++((x1++[32])++G.Name)) (.func 64)⟩ (Qf Qd ⟨uW G (.func 64) 0,HY (O.text++((x1++[32])++G.Name)) (.func 64)⟩ (sB (QF (fun (U,ab)=>(MN G (.func 64) U ab (.func 64)):(Int × (List UInt8))→St) (H5) ?_))));rintro aj ⟨U,ab⟩;show QO (YA n G aj U ab) _ _ _ _ _ _;unfold YA;refine Qf Qd ⟨uX G (.func 64) U (Qp U (Qb (mI G.Kids))),VR ab (.func 64)⟩ (sS (sC (Qp U (Qb (mI G.Kids))) (sK (Qk (MN G (.func 64) U ab (.func 64)) (sS (sB (sS (sG (xG (K9 (e:=25) (S:=5) (enc:=GN.cs) (dec:=GN.of) (l:=G.Kids) (k:=.i64) (n:=U) (sv:=.p (.sl 5 (mI G.Kids))) GN.of_cs rfl Qc Qc Qc Qc Qc) (fun ba=>xR 3 (xE (Qk (Qbj G (.func 64) U ba ab (.func 64)) (sG (xR 2 ?_)))))))))))) (Qq (ZR (Yp (QL (QR (QS ab))))))));refine UU [(1000,1000),(1101,1001)] [] [] (AR n (⟨ab⟩:Dx) ba) QE QE (fun bc=>?_);exact xE (QR (Qk (MN G (.func 64) U bc.text (.func 64)) (sL Qd (KP (wi (U+1),bc.text)))))
 rintro af;refine sL Qd (NJ ⟨[1,10,11,12],[1000,1001,1002],[],[]⟩ ⟨RZ G 1,VR af (.func 64)⟩ (Qf Qd ⟨Nb G 1 false,VR af (.func 64)⟩ (sS (QW (Qq (ZR (MI (QL (Dw (.id) [1000,1001,1002] [] (.tup []) (VZ (xE (Qk ⟨QeO,uY G++Na af⟩ (sS (sG (xR 5 (Gn (R3 G af) [L8, .tsl 5 (mI [GN.cs G]) 1000, .bsl 1004 1] [(1003,2),(1000,41),(1004,43),(1001,1000),(1002,1101)] [] [] Tryz.func63 rfl Tryz.ntmps63 rfl (Qf Qd ⟨dD G 0,R3 G af⟩ (sB (Z4 1 (Qf Qd ⟨QeP G 0 true,R3 G af⟩ (sS (ZQ (sK (Qk ⟨dD G 0,R3 G af⟩ (KI (fun ah=>⟨dD G 0,R3 G ah⟩:(List UInt8)→St) ?_ ?_)))))))))))))))))))))))))
 ·refine sB (Qf Qd ⟨[(1, .tsl 5 (mI [GN.cs G]) 1000),(7, .fn (.func 65) [] [bO]),(10, .bsl 1004 1),(11,I 1),(12,I 0)],R3 G af⟩ (Qf Qd ⟨dE G 0,R3 G af⟩ (sB (QF (fun (Z,J)=>⟨dE G Z,R3 G J⟩:(Int × (List UInt8))→St) (H5) ?_))));rintro al ⟨Z,J⟩;show QO (Wu G al Z J) _ _ _ _ _ _;unfold Wu;refine Qf Qd ⟨[(1, .tsl 5 (mI [GN.cs G]) 1000),(7, .fn (.func 65) [] [bO]),(10, .bsl 1004 1),(11,I 1),(12,I 0),(16, .tsl 5 (mI [GN.cs G]) 1000),(17,I (Qb (mI [GN.cs G]))),(18,I Z),(19,B (Qp Z (Qb (mI [GN.cs G]))))],R3 G J⟩ (sS (sC (Qp Z (Qb (mI [GN.cs G]))) (sK (Qk ⟨dE G Z,R3 G J⟩ (sS (sB (sS (sG (xG (K9 (e:=25) (S:=5) (enc:=GN.cs) (dec:=GN.of) (l:=[GN.cs G]) (k:=.i64) (n:=Z) (sv:=.tsl 5 (mI [GN.cs G]) 1000) GN.of_cs rfl Qc Qc Qc Qc Qc) (fun ai=>xR 3 (xE (Qk ⟨[(1, .tsl 5 (mI [GN.cs G]) 1000),(7, .fn (.func 65) [] [bO]),qq 9,(10, .bsl 1004 1),(11,I 1),(12,I 0),(16, .tsl 5 (mI [GN.cs G]) 1000),(17,I (Qb (mI [GN.cs G]))),(18,I Z)],QeN ai++R3 G J⟩ (sG (xR 2 (Gn (QeQ J) [.agg [I ai.Kind,S ai.Name,I ai.N,I ai.At, .p (.sl 5 (mI ai.Kids))],Ic] [(1000,1001),(1001,1002),(1002,1003)] [] [] Tryz.func65 rfl Tryz.ntmps65 rfl (Qf Qd ⟨[(1,Ic)],QeQ J⟩ (sG (xR 3 (Gn (HV J) [Zh,S [32,123,10]] [(1000,1000),(1001,1001)] [] [] Tryz.func62 rfl Tryz.ntmps62 rfl (Qf Qd ⟨Qbi [32,123,10],HV J⟩ (sS (sG (xR 1 (UW (Z9 (f:=131) (args:=[Zh]) Qc Qc Qc ?_))))))))))))))))))))))) (Qq (ZR (Yp (QL (QR (QS J))))))));refine Wj 1000 1 1001 5 1 (mb J).length (mb J) ⟨[0,1,6],[1000],[],[]⟩ rfl (fun _ _ _=>by kernel_rfl) (fun au ao aq=>?_);refine Zf [(1000,1000)] [] [] (UX au ao aq) Qc Qc Qc QE QE (fun _=>?_);exact Xm _ rfl (VZ (xE (Qk ⟨Qbi [32,123,10],HV J⟩ (sS (sG (xR 6 (xS (QM (List.length (J++[32,123,10])) 1&&!List.isEmpty [32,123,10]) (fun be=>GA (t:=93) (u:=9) (ty:=5) (bs:=J) (b:=[32,123,10]) (tk:=1001) rfl Tryz.underlying93 Tryz.underlying9 be (xR 3 (xE (Qk (uS [32,123,10] (J++[32,123,10])) (Qf Qd (wM (Qb [32,123,10]) (J++[32,123,10])) (sT (QC (.id) [1000,1001] [] (.tup [I (Qb [32,123,10]), .p (.val (.nilIface))]) (VZ (xE (Dw (.id) [1000,1001,1002] [] (.tup []) (VZ (xE (QR (Qk ⟨dE G Z,[(1000,(QiN G)),(1001,(QiO (J++[32,123,10]))),(1002,(QdX (J++[32,123,10]))),(1003, .box 91 [L8]),(1004,QiP)]⟩ (sL Qd (KP (wi (Z+1),J++[32,123,10]))))))))))))))))) (fun _=>Gz))))))))
 rintro ah;refine sL Qd (NJ ⟨[1,10,11,12],[1000,1001,1002,1003,1004],[],[]⟩ ⟨dD G 1,R3 G ah⟩ (Qf Qd ⟨QeP G 1 false,R3 G ah⟩ (sS (QW (Qq (ZR (MI (QL (Dw (.id) [1000,1001,1002,1003,1004] [] (.tup []) (VZ (xE (Qk (QiK G ah) (sS (sG (xR 6 (Gn (VR ah (.func 66)) [Zh, .p (.sl 5 (mI G.Kids)), .bsl 1002 1] [(1002,50),(1000,1000),(1001,1101)] [] [] Tryz.func63 rfl Tryz.ntmps63 rfl (Qf Qd ⟨RZ G 0,VR ah (.func 66)⟩ (sB (Z4 1 (Qf Qd ⟨Nb G 0 true,VR ah (.func 66)⟩ (sS (ZQ (sK (Qk ⟨RZ G 0,VR ah (.func 66)⟩ (KI (fun ad=>⟨RZ G 0,VR ad (.func 66)⟩:(List UInt8)→St) ?_ ?_)))))))))))))))))))))))))
 ·refine sB (Qf Qd ⟨uV G (.func 66),VR ah (.func 66)⟩ (Qf Qd (MN G (.func 66) 0 ah (.func 66)) (sB (QF (fun (Y,ac)=>(MN G (.func 66) Y ac (.func 66)):(Int × (List UInt8))→St) (H5) ?_))));rintro ak ⟨Y,ac⟩;show QO (YB n G ak Y ac) _ _ _ _ _ _;unfold YB;refine Qf Qd ⟨uX G (.func 66) Y (Qp Y (Qb (mI G.Kids))),VR ac (.func 66)⟩ (sS (sC (Qp Y (Qb (mI G.Kids))) (sK (Qk (MN G (.func 66) Y ac (.func 66)) (sS (sB (sS (sG (xG (K9 (e:=25) (S:=5) (enc:=GN.cs) (dec:=GN.of) (l:=G.Kids) (k:=.i64) (n:=Y) (sv:=.p (.sl 5 (mI G.Kids))) GN.of_cs rfl Qc Qc Qc Qc Qc) (fun aw=>xR 3 (xE (Qk (Qbj G (.func 66) Y aw ac (.func 66)) (sG (xR 2 ?_)))))))))))) (Qq (ZR (Yp (QL (QR (QS ac))))))));refine UU [(1000,1000),(1101,1001)] [] [] (zg n (⟨ac⟩:Dx) aw) QE QE (fun a8=>?_);exact xE (QR (Qk (MN G (.func 66) Y a8.text (.func 66)) (sL Qd (KP (wi (Y+1),a8.text)))))
 rintro ad;refine sL Qd (NJ ⟨[1,10,11,12],[1000,1001,1002],[],[]⟩ ⟨RZ G 1,VR ad (.func 66)⟩ (Qf Qd ⟨Nb G 1 false,VR ad (.func 66)⟩ (sS (QW (Qq (ZR (MI (QL (Dw (.id) [1000,1001,1002] [] (.tup []) (VZ (xE (Qk (QiM ad) (sG (xR 3 (Gn (HV ad) [Zh,S [125,10]] [(1000,1000),(1001,1101)] [] [] Tryz.func62 rfl Tryz.ntmps62 rfl (Qf Qd (lF [125,10] ad) (sS (sG (xR 1 (UW (Z9 (f:=131) (args:=[Zh]) Qc Qc Qc ?_)))))))))))))))))))));refine Wj 1000 1 1001 5 1 (mb ad).length (mb ad) ⟨[0,1,6],[1000],[],[]⟩ rfl (fun _ _ _=>by kernel_rfl) (fun am an ar=>?_);refine Zf [(1000,1000)] [] [] (UX am an ar) Qc Qc Qc QE QE (fun _=>?_);exact Xm _ rfl (VZ (xE (Qk (lF [125,10] ad) (sS (sG (xR 6 (xS (QM (List.length (ad++[125,10])) 1&&!List.isEmpty [125,10]) (fun bd=>GA (t:=93) (u:=9) (ty:=5) (bs:=ad) (b:=[125,10]) (tk:=1001) rfl Tryz.underlying93 Tryz.underlying9 bd (xR 3 (xE (Qk (uS [125,10] (ad++[125,10])) (Qf Qd (wM (Qb [125,10]) (ad++[125,10])) (sT (QC (.id) [1000,1001] [] (.tup [I (Qb [125,10]), .p (.val (.nilIface))]) (VZ (xE (sH (.id) [1000,1101] [])))))))))) (fun _=>Gz))))))))
def Zq (n:Nat) (U:GN) (O:(Int × (List UInt8))→Option (List UInt8)) (G:Int) (J:List UInt8):Option (List UInt8) :=
 cond (Qp G (Qb (List.map Zy U.Kids)))
  ((Option.bind (QY U.Kids G) GN.of).bind fun Z =>
  (Bl n (⟨J⟩:Dx) Z).bind fun Y =>
  O (wi (G+1),Y.text))
  (some J)
def VT (n:Nat) (O:GN):Option ((List UInt8) × Int) :=
 (WI n O).bind fun r1 =>
 cond (!r1)
  (some ([],1))
  ((Qo (fun G (U,J)=>Zq n O G U J) n (0,[])).bind fun Y =>
  cond (Qp 8000 (Qb (List.map c8b Y)))
   (some ([],2))
   (some (Y,0)))
def QeR:=fun G=>([(1, .box 25 (Yx (GN.cs G))),(4, .box 91 [.ptr 10 0]),(10, .box 97 [.p (.val (.pointer none)), .p (.val (.slice none 0 0))])]:List (Nat × Blk))
def QjT:=fun G=>(.box 97 [(.sfp 10), .tsl 1 (List.map c8b G) 300]:Blk)
def u6:=fun G=>([(4, .box 91 [.ptr 10 0]),(10,(QjT G))]:List (Nat × Blk))
def dF:=fun G=>([(300, .arr 5 1 (List.map c8b G).length)]:List (Nat × Blk))
def QiQ:=fun G=>([(300, .arr 5 1 (List.map c8b []).length),(401, .box 25 (Yx (GN.cs G)))]:List (Nat × Blk))
def QiR:=fun G=>(⟨[(4, .ptr 4 0),(12, .fn (.func 61) [] [.ptr 401 0])],u6 []++QiQ G⟩:St)
def QiS:=fun G=>(.box 97 [(.sfp 1010), .tsl 1 (List.map c8b G) 1300]:Blk)
def QeS:=fun J G=>([(1004, .box 91 [.ptr 1010 0]),(1010,(QiS [])),(1300, .arr 5 1 (List.map c8b []).length),(1401, .box 25 (Yx (GN.cs J))),(4000,G)]:List (Nat × Blk))
def EI:List (Nat × AV):=[(4, .ptr 1004 0),(12, .fn (.func 61) [] [.ptr 1401 0])]
def dG:=fun G J=>([(0,(.yv 4000)),(6, .p (.sl 5 (List.map Zy (GN.Kids G)))),(7,I (Qb (List.map Zy (GN.Kids G)))),(8,I J)]:List (Nat × AV))
def AU:=fun G J O=>([(1004, .box 91 [.ptr 1010 0]),(1010,(QiS G)),(1300, .arr 5 1 (List.map c8b G).length),(1401, .box 25 (Yx (GN.cs J))),(4000,O)]:List (Nat × Blk))
theorem MO (n:Nat) (G:GN):∀ r,VT n G=some r→QB Tryz.prog 9 [ag (GN.cs G)] (.ret (.tup [S r.1,I r.2])):=by
 refine Qj Tryz.func9 rfl Tryz.ntmps9 rfl ?_;unfold VT;refine Qf Qd ⟨[qq 1],Ik G⟩ (sS (sS (sG (xR 1 ?_))));refine xC [] (TU n G) QE (fun r1=>?_);refine xR 1 (xE (Qk ⟨[qq 1,(8,B (!r1))],Ik G⟩ (sC (!r1) (Qf Qd ⟨[(2,S []),(3,I 1)],[]⟩ (sT (QA (qR (.id))))) (sK (Qk ⟨[qq 1],Ik G⟩ (Qf Qd ⟨[qq 1,qq 4],QeR G⟩ (KI (fun Y=>⟨[qq 4],u6 Y++dF Y⟩:(List UInt8)→St) ?_ ?_)))))));rotate_left
 ·rintro Y;exact sS (sS (sG (xR 3 (Gn (HV Y) [Zh] [(1000,10),(1001,300)] [] [] Tryz.func31 rfl Tryz.ntmps31 rfl (Qf Qd ⟨[(0,Zh)],HV Y⟩ (Qf Qd ⟨[(2,I (Qb (mb Y)))],HV Y⟩ (sT (QC (.id) [1000,1001] [] (I (Qb (mb Y))) (VZ (xR 1 (xE (Qk ⟨[qq 4,(21,B (Qp 8000 (Qb (mb Y))))],u6 Y++dF Y⟩ (sC (Qp 8000 (Qb (mb Y))) (Qf Qd ⟨[(2,S []),(3,I 2)],[]⟩ (sT (QA (qR (.id))))) (sK (Qk ⟨[qq 4],u6 Y++dF Y⟩ (sS (sG (xR 3 (Qc8 (b:=10) (t:=300) (bs:=Y) (s':=⟨[],[]⟩) QjD ⟨[],[],[],[]⟩ Qc Qc Qc Qc Qc Qc Qc Qc (xR 2 (xE (Qk ⟨[(2,S Y),(3,I 0)],[]⟩ (sT (qR (.id)))))))))))))))))))))))))
 refine NM ⟨[qq 1,qq 4],QeR G⟩ (Kz (QaV 10 0 Qc) (Kz (Yk 5 1 300 [] [(10,1)]) (sS (sG (xR 1 (Gn [] [.agg [I G.Kind,S G.Name,I G.N,I G.At, .p (.sl 5 (mI G.Kids))]] [(1,401)] [] [] Tryz.func29 rfl Tryz.ntmps29 rfl (Qf Qd ⟨[qq 1],Ik G⟩ (Qf Qd ⟨[(2, .fn (.func 61) [] [.ptr 1 0])],Ik G⟩ (sT (QC (.id) [1] [] (.fn (.func 61) [] [.ptr 1 0]) (VZ (xE (Qk (QiR G) (sB (NM (QiR G) (RA 61 3000 [] [.ptr 401 0] Qc Qc (fun U _ ab=>(QQ (hc:=(QeS G (.lp EI U .ready none))) (args':=[.yv 4000, .ptr 1401 0]) [(1004,4),(1010,10),(1300,300),(1401,401),(4000,3000)] [] [] Tryz.func61 rfl Tryz.ntmps61 rfl Qc Qc Qc (Qf Qd ⟨dG G 0,QeS G (.lp EI U .ready none)⟩ (sB (QF (fun (J,O)=>⟨dG G J,AU O G (.lp EI U .ready none)⟩:(Int × (List UInt8))→St) (H5) ?_)))))))))))))))))))));rintro aa ⟨J,O⟩;show QO (Zq n G aa J O) _ _ _ _ _ _;unfold Zq;refine Qf Qd ⟨[(0, .yv 4000),(6, .p (.sl 5 (mI G.Kids))),(7,I (Qb (mI G.Kids))),(8,I J),(9,B (Qp J (Qb (mI G.Kids))))],AU O G (.lp EI U .ready none)⟩ (sS (sC (Qp J (Qb (mI G.Kids))) ?_ ?_));rotate_left
 ·refine Qq (ZR (Yp (QL (Dw .id [1004,1010,1300,1401,4000] [] (.tup []) ?_))));refine Qax .ready ⟨[4],[4,10,300],[],[]⟩ ⟨[qq 4],u6 O++dF O⟩ Qc (by intro h; cases h) Qc ?_;exact QR (QS O)
 refine sK (Qk ⟨dG G J,AU O G (.lp EI U .ready none)⟩ (sS (sB (sS (sG (xG (K9 (e:=25) (S:=5) (enc:=GN.cs) (dec:=GN.of) (l:=G.Kids) (k:=.i64) (n:=J) (sv:=.p (.sl 5 (mI G.Kids))) GN.of_cs rfl Qc Qc Qc Qc Qc) (fun Z=>xR 3 (xE (Qk ⟨[(0, .yv 4000),qq 4,(6, .p (.sl 5 (mI G.Kids))),(7,I (Qb (mI G.Kids))),(8,I J)],[(4,yx Z)]++AU O G (.lp [(4, .ptr 1004 0),(12, .fn (.func 61) [] [.ptr 1401 0])] U .ready none)⟩ (sS (sG (xR 2 (CV [] (AU O G (.lp EI U .ready none)) 4000 EI [] [] [.agg [I Z.Kind,S Z.Name,I Z.N,I Z.At, .p (.sl 5 (mI Z.Kids))]] Qc ab Qc Qc Qc Qc Qc (fun _=>sL Qd (Qay ⟨[4,5],[5,1004,1010,1300,1401,4000],[],[]⟩ ⟨[(4, .ptr 1004 0),qq 5],[(5,yx Z)]++AU O G (.lp [(4, .ptr 1004 0),(12, .fn (.func 61) [] [.ptr 1401 0])] U .busy none)⟩ none Qc Qc (sB (sG (xR 2 ?_))))))))))))))))));refine UU [(1000,1010),(1101,1300)] [] [] (uZ n (⟨O⟩:Dx) Z) QE QE (fun r6=>?_);exact xE (QR (sM [1004,1010,1300,1401,4000] [] .busy none (VZ (xR 1 (xE (Qk ⟨[(0, .yv 4000),(6, .p (.sl 5 (mI G.Kids))),(7,I (Qb (mI G.Kids))),(8,I J),(15,B false)],AU r6.text G (.lp EI U .ready none)⟩ (QW (sK (QR (Qk ⟨dG G J,AU r6.text G (.lp EI U .ready none)⟩ (sL Qd (KP (wi (J+1),r6.text)))))))))))))
def Y5 (J:Ka) (G:Ka):Option Bool :=
 cond (Qr J.Net G.Net)
  (cond (Qr J.Tax G.Tax)
   (some (Qr J.Total G.Total))
   (some false))
  (some false)
def WB (G:Ka) (O:Ka) (J:Int→Option Bool) (U:Int):Option Bool :=
 cond (Qp U (Qb (List.map Z7.cs G.Lines)))
  ((QY G.Lines U).bind fun Y =>
  (QY O.Lines U).bind fun Z =>
  cond (!opq ((Qr Y.Article Z.Article)&&((Qr Y.Amount Z.Amount)&&true)))
   (some false)
   (J (wi (U+1))))
  (Y5 G O)
def Ub (n:Nat) (O:Ka) (J:Ka):Option Bool :=
 cond (!Qr (Qb (List.map Z7.cs O.Lines)) (Qb (List.map Z7.cs J.Lines)))
  (some false)
  (Qo (fun G U=>WB O J G U) n 0)
def AY:=fun J G=>([(2, .box 62 (Yx (Ka.cs J))),(3, .box 62 (Yx (Ka.cs G)))]:List (Nat × Blk))
def QgN:=fun J G=>(⟨[(2, .ptr 2 0),(3, .ptr 3 0)],AY J G⟩:St)
def dH:=fun G=>([(2, .ptr 2 0),(3, .ptr 3 0),(5,I G)]:List (Nat × AV))
theorem Iz (n:Nat) (G:Ka) (J:Ka):∀ r,Ub n G J=some r→QB Tryz.prog 19 [ag (Ka.cs G),ag (Ka.cs J)] (.ret (B r)):=by
 refine Qj Tryz.func19 rfl Tryz.ntmps19 rfl ?_;unfold Ub;refine Qf Qd (QgN G J) (sS (Qf Qd ⟨[qq 2,qq 3,(12,B (!Qr (Qb (Em G.Lines)) (Qb (Em J.Lines))))],AY G J⟩ (sC (!Qr (Qb (Em G.Lines)) (Qb (Em J.Lines))) (Qf Qd ⟨[(4,B false)],[]⟩ (sT (QA (qR (.id))))) (sK (Qk (QgN G J) (K4 (fun _=>(QgN G J):Unit→St) (fun _=>Y5 G J) ?_ ?_))))))
 ·rintro _;show QO (Y5 G J) _ _ _ _ _ _;unfold Y5;exact sS (sG (xR 6 (xS (Qr G.Net J.Net) (fun h2=>xO (Qv h2) (xR 6 (xS (Qr G.Tax J.Tax) (fun h3=>xO (Qv h3) (xR 6 (xE (Qk ⟨[(4,B (Qr G.Total J.Total))],[]⟩ (sT (qR (.id))))))) (fun h3=>xN (Qx h3) (xR 6 (xE (Qk ⟨[(4,B false)],[]⟩ (sT (qR (.id)))))))))) (fun h2=>xN (Qx h2) (xR 13 (xE (Qk ⟨[(4,B false)],[]⟩ (sT (qR (.id))))))))))
 refine Qf Qd ⟨dH 0,AY G J⟩ (sB (QF (fun O=>⟨dH O,AY G J⟩:Int→St) (H5) ?_));rintro Z O;show QO (WB G J Z O) _ _ _ _ _ _;unfold WB;exact sS (Qf Qd ⟨[qq 2,qq 3,(5,I O),(17,B (Qp O (Qb (Em G.Lines))))],AY G J⟩ (sC (Qp O (Qb (Em G.Lines))) (sK (Qk ⟨dH O,AY G J⟩ (sS (sB (sS (CQ Qd rfl (xR 3 (xG (Zx (e:=137) (S:=2) (enc:=Z7.cs) (l:=G.Lines) (k:=.i64) (n:=O) (sv:=.p (.sl 2 (Em G.Lines))) rfl Qc Qc Qc Qc Qc) (fun U=>xR 4 (xG (Zx (e:=137) (S:=2) (enc:=Z7.cs) (l:=J.Lines) (k:=.i64) (n:=O) (sv:=.p (.sl 2 (Em J.Lines))) rfl Qc Qc Qc Qc Qc) (fun Y=>xR 1 (zL (QcO (xs:=[I U.Article,I U.Amount]) (ys:=[I Y.Article,I Y.Amount]) (vx:=[.int .i64 U.Article, .int .i64 U.Amount]) (vy:=[.int .i64 Y.Article, .int .i64 Y.Amount]) (b:=(Qr U.Article Y.Article)&&((Qr U.Amount Y.Amount)&&true)) rfl Qc Qc Qc Qc Qc Qc) (BZ (Qk ⟨[qq 2,qq 3,(5,I O),(30,B (!opq ((Qr U.Article Y.Article)&&((Qr U.Amount Y.Amount)&&true))))],AY G J⟩ (sC (!opq ((Qr U.Article Y.Article)&&((Qr U.Amount Y.Amount)&&true))) (Qf Qd ⟨[(4,B false)],[]⟩ (sT (Q4 (QA (VX (Q4 (VX (qR (.id))))))))) (sK (QR (Qk ⟨dH O,AY G J⟩ (sL Qd (KP (wi (O+1)))))))))))))))))))))) (Qq (ZR (Yp (QL (KP (k:=fun _=>Y5 G J) ())))))))
def Q9 (n:Nat) (U:Kj) (aa:YG) (r1:Bool) (r6:(List K5) × (List ZH)) (Y:(List K5) × (List ZH)) (J:Int→Option Bool) (G:Int):Option Bool :=
 cond (Qp G (Qb (List.map K5.cs r6.1)))
  ((QY r6.1 G).bind fun ab =>
  (Vm n ab U aa).bind fun Z =>
  (QY Y.1 G).bind fun ad =>
  (Vm n ad U aa).bind fun O =>
  ((QY r6.1 G).bind fun ah =>
  (QY Y.1 G).bind fun ae =>
  cond (!Qt ah.Name ae.Name)
   (some true)
   (cond (!Qr Z.2 O.2)
    (some true)
    ((Ub n Z.1 O.1).bind fun ac =>
    some (!ac)))).bind fun af =>
  cond af
   (some false)
   (J (wi (G+1))))
  (some r1)
def Zk (n:Nat) (U:List UInt8) (O:Kj) (Z:YG):Option Bool :=
 (ZC n).bind fun r1 =>
 (cond (Qp 8000 (Qb U))
  (some true)
  ((Hz n (⟨[],[]⟩:K5) O Z).bind fun r4 =>
  some (!r4))).bind fun j2 =>
 cond j2
  (some r1)
  ((YH n U).bind fun r5 =>
  (YK n r5.1).bind fun r6 =>
  cond (Qp 0 (wi ((Qb (List.map ZH.cs r5.2))+(Qb (List.map ZH.cs r6.2)))))
   (some r1)
   ((VT n r5.1).bind fun r7 =>
   cond (!Qr r7.2 0)
    ((cond r1
     (some (Qr r7.2 2))
     (some false)).bind fun j8 =>
    some j8)
    ((YH n r7.1).bind fun Y =>
    (YK n Y.1).bind fun J =>
    (cond (Qp 0 (wi ((Qb (List.map ZH.cs Y.2))+(Qb (List.map ZH.cs J.2)))))
     (some true)
     (some (!Qr (Qb (List.map K5.cs r6.1)) (Qb (List.map K5.cs J.1))))).bind fun aa =>
    cond aa
     (some false)
     (Qo (fun G ab=>Q9 n O Z r1 r6 J G ab) n 0))))
def Gq:=fun J G=>([(4, .box 52 (Yx (Kj.cs J))),(5, .box 55 (Yx (YG.cs G)))]:List (Nat × Blk))
def QiT:=fun U J O G=>(⟨[(0,S U),(4, .ptr 4 0),(5, .ptr 5 0),(7,B J)],Gq O G⟩:St)
def dJ:=fun O G J=>([(4, .box 52 (Yx (Kj.cs O))),(5, .box 55 (Yx (YG.cs G))),(8, .box 25 (Yx (GN.cs J)))]:List (Nat × Blk))
def dK:=fun U G O J=>([(4, .ptr 4 0),(5, .ptr 5 0),(7,B U),(10, .p (.sl 2 (List.map K5.cs G))),(16, .p (.sl 2 (List.map K5.cs O))),(88,I (Qb (List.map K5.cs G))),(89,I J)]:List (Nat × AV))
abbrev zh (x:Ka):Go.Abs.Blk:=.box 62 (Yx (Ka.cs x))
theorem JX (n:Nat) (Z:List UInt8) (G:Kj) (J:YG):∀ r,Zk n Z G J=some r→QB Tryz.prog 5 [S Z,ag (Kj.cs G),ag (YG.cs J)] (.ret (B r)):=by
 refine Qj Tryz.func5 rfl Tryz.ntmps5 rfl ?_;unfold Zk;refine Qf Qd ⟨[(0,S Z),qq 4,qq 5],Gq G J⟩ (sS (sG ?_));refine xC [] (Ua n) QE (fun r1=>?_);refine xR 1 (xE (Qk (QiT Z r1 G J) (sS (KI (fun j2=>⟨[(0,S Z),qq 4,qq 5,(7,B r1),(33,B j2)],Gq G J⟩:Bool→St) ?_ ?_))))
 ·refine sG (xR 4 (xS (Qp 8000 (Qb Z)) (fun h3=>xN (Qy h3) (xR 5 (xE (QS true)))) (fun h3=>xO (Qw h3) (xR 2 ?_))));refine xC [.agg [.id, .sl 7], .id, .id] (ze n (⟨[],[]⟩:K5) G J) QE (fun r4=>?_);exact xR 2 (xE (QS (!r4)))
 rintro j2;refine sC j2 (Qf Qd ⟨[(6,B r1)],[]⟩ (sT (QA (qR (.id))))) (sK (Qk (QiT Z r1 G J) (sS (sG (xR 1 ?_)))));refine xC [] (TS n Z) QE (fun r5=>?_);refine xR 6 (xE (Qk ⟨[qq 4,qq 5,(7,B r1),qq 8,(9, .p (.sl 2 (Ue r5.2)))],dJ G J r5.1⟩ (sS (sG (xR 1 ?_)))));refine xC [] (TV n r5.1) QE (fun Y=>?_);refine xR 5 (xE (Qk ⟨[qq 4,qq 5,(7,B r1),qq 8,(9, .p (.sl 2 (Ue r5.2))),(10, .p (.sl 2 (XM Y.1))),(11, .p (.sl 2 (Ue Y.2)))],dJ G J r5.1⟩ (sS (Qf Qd ⟨[qq 4,qq 5,(7,B r1),qq 8,(10, .p (.sl 2 (XM Y.1))),(50,B (Qp 0 (wi ((Qb (Ue r5.2))+(Qb (Ue Y.2))))))],dJ G J r5.1⟩ (sC (Qp 0 (wi ((Qb (Ue r5.2))+(Qb (Ue Y.2))))) (Qf Qd ⟨[(6,B r1)],[]⟩ (sT (QA (qR (.id))))) (sK (Qk ⟨[qq 4,qq 5,(7,B r1),qq 8,(10, .p (.sl 2 (XM Y.1)))],dJ G J r5.1⟩ (sS (sG (xR 1 ?_))))))))));refine xC [] (MO n r5.1) QE (fun r7=>?_);refine xR 5 (xE (Qk ⟨[qq 4,qq 5,(7,B r1),(10, .p (.sl 2 (XM Y.1))),(12,S r7.1),(13,I r7.2)],Gq G J⟩ (sS (Qf Qd ⟨[qq 4,qq 5,(7,B r1),(10, .p (.sl 2 (XM Y.1))),(12,S r7.1),(13,I r7.2),(58,B (!Qr r7.2 0))],Gq G J⟩ (sC (!Qr r7.2 0) ?_ ?_)))))
 ·refine KI (fun j8=>⟨[(6,B j8)],[]⟩:Bool→St) (sG (xR 2 (xS r1 (fun h9=>xO (Qv h9) (xR 3 (xE (QS (Qr r7.2 2))))) (fun h9=>xN (Qx h9) (xR 3 (xE (QS false))))))) ?_;rintro j8;exact sT (QA (qR (.id)))
 refine sK (Qk ⟨[qq 4,qq 5,(7,B r1),(10, .p (.sl 2 (XM Y.1))),(12,S r7.1)],Gq G J⟩ (sS (sG (xR 1 ?_))));refine xC [] (TS n r7.1) QE (fun ab=>?_);refine xR 6 (xE (Qk ⟨[qq 4,qq 5,(7,B r1),(10, .p (.sl 2 (XM Y.1))),qq 14,(15, .p (.sl 2 (Ue ab.2)))],[(4,qX G),(5,NU J),(14,yx ab.1)]⟩ (sS (sG (xR 1 ?_)))));refine xC [] (TV n ab.1) QE (fun O=>?_);refine xR 5 (xE (Qk ⟨[qq 4,qq 5,(7,B r1),(10, .p (.sl 2 (XM Y.1))),(15, .p (.sl 2 (Ue ab.2))),(16, .p (.sl 2 (XM O.1))),(17, .p (.sl 2 (Ue O.2)))],Gq G J⟩ (sS (KI (fun ai=>⟨[qq 4,qq 5,(7,B r1),(10, .p (.sl 2 (XM Y.1))),(16, .p (.sl 2 (XM O.1))),(86,B ai)],Gq G J⟩:Bool→St) (sG (xR 7 (xS (Qp 0 (wi ((Qb (Ue ab.2))+(Qb (Ue O.2))))) (fun af=>xN (Qy af) (xR 5 (xE (QS true)))) (fun af=>xO (Qw af) (xR 5 (xE (QS (!Qr (Qb (XM Y.1)) (Qb (XM O.1)))))))))) ?_))));rintro ai;refine sC ai (Qf Qd ⟨[(6,B false)],[]⟩ (sT (QA (qR (.id))))) (sK (Qk ⟨[qq 4,qq 5,(7,B r1),(10, .p (.sl 2 (XM Y.1))),(16, .p (.sl 2 (XM O.1)))],Gq G J⟩ (sS (Qf Qd ⟨dK r1 Y.1 O.1 0,Gq G J⟩ (sB (QF (fun U=>⟨dK r1 Y.1 O.1 U,Gq G J⟩:Int→St) (H5) ?_))))));rintro ad U;show QO (Q9 n G J r1 Y O ad U) _ _ _ _ _ _;unfold Q9;refine Qf Qd ⟨[qq 4,qq 5,(7,B r1),(10, .p (.sl 2 (XM Y.1))),(16, .p (.sl 2 (XM O.1))),(88,I (Qb (XM Y.1))),(89,I U),(90,B (Qp U (Qb (XM Y.1))))],Gq G J⟩ (sS (sC (Qp U (Qb (XM Y.1))) (sK (Qk ⟨dK r1 Y.1 O.1 U,Gq G J⟩ (sS (sB (Qf Qd ⟨[qq 4,qq 5,(7,B r1),(10, .p (.sl 2 (XM Y.1))),(16, .p (.sl 2 (XM O.1))),(18,I U),(88,I (Qb (XM Y.1))),(89,I U)],Gq G J⟩ (sS (CQ Qd rfl (xR 2 (xG (Zx (e:=59) (S:=2) (enc:=K5.cs) (l:=Y.1) (k:=.i64) (n:=U) (sv:=.p (.sl 2 (XM Y.1))) rfl Qc Qc Qc Qc Qc) (fun am=>xR 3 ?_)))))))))) (Qq (ZR (Yp (QL (Qk ⟨[(7,B r1)],[]⟩ (Qf Qd ⟨[(6,B r1)],[]⟩ (sT (qR (.id)))))))))));refine xC [] (FP n am G J) QE (fun aa=>?_);refine xR 6 (BZ (Qk ⟨[qq 4,qq 5,(7,B r1),(10, .p (.sl 2 (XM Y.1))),(16, .p (.sl 2 (XM O.1))),(18,I U),qq 19,(20,I aa.2),(88,I (Qb (XM Y.1))),(89,I U)],[(4,qX G),(5,NU J),(19,zh aa.1)]⟩ (sS (CQ Qd rfl (xR 2 (xG (Zx (e:=59) (S:=2) (enc:=K5.cs) (l:=O.1) (k:=.i64) (n:=U) (sv:=.p (.sl 2 (XM O.1))) rfl Qc Qc Qc Qc Qc) (fun an=>xR 3 ?_)))))));refine xC [] (FP n an G J) QE (fun ac=>?_);refine xR 6 (BZ (Qk ⟨[qq 4,qq 5,(7,B r1),(10, .p (.sl 2 (XM Y.1))),(16, .p (.sl 2 (XM O.1))),(18,I U),qq 19,(20,I aa.2),qq 21,(22,I ac.2),(88,I (Qb (XM Y.1))),(89,I U)],[(4,qX G),(5,NU J),(19,zh aa.1),(21,zh ac.1)]⟩ (KI (fun ae=>⟨[qq 4,qq 5,(7,B r1),(10, .p (.sl 2 (XM Y.1))),(16, .p (.sl 2 (XM O.1))),(88,I (Qb (XM Y.1))),(89,I U),(133,B ae)],Gq G J⟩:Bool→St) ?_ ?_)));rotate_left
 ·rintro ae;exact sC ae (Qf Qd ⟨[(6,B false)],[]⟩ (sT (Q4 (QA (VX (Q4 (QA (qR (.id))))))))) (sK (QR (Qk ⟨dK r1 Y.1 O.1 U,Gq G J⟩ (sL Qd (KP (wi (U+1)))))))
 refine CQ Qd rfl (xR 2 (xG (Zx (e:=59) (S:=2) (enc:=K5.cs) (l:=Y.1) (k:=.i64) (n:=U) (sv:=.p (.sl 2 (XM Y.1))) rfl Qc Qc Qc Qc Qc) (fun ao=>xR 4 (xG (Zx (e:=59) (S:=2) (enc:=K5.cs) (l:=O.1) (k:=.i64) (n:=U) (sv:=.p (.sl 2 (XM O.1))) rfl Qc Qc Qc Qc Qc) (fun al=>xR 4 (xS (!Qt ao.Name al.Name) (fun ah=>xN (Qy ah) (xR 9 (BZ (QS true)))) (fun ah=>xO (Qw ah) (xR 4 (xS (!Qr aa.2 ac.2) (fun aj=>xN (Qy aj) (xR 4 (BZ (QS true)))) (fun aj=>xO (Qw aj) (xR 1 ?_)))))))))));refine xC [] (Iz n aa.1 ac.1) QE (fun ak=>?_);exact xR 2 (BZ (QS (!ak)))
structure Qbk where
 Rated:Int
 Heat:Int
deriving DecidableEq
def Qbk.cs (x:Qbk):List PV:=[VI x.Rated,VI x.Heat]
structure wN where
 Ambient:Int
 Most:Int
 Gain:Int
 Loss:Int
 Den:Int
deriving DecidableEq
def wN.cs (x:wN):List PV:=[VI x.Ambient,VI x.Most,VI x.Gain,VI x.Loss,VI x.Den]
structure GCo where
 Name:List UInt8
 Up:Int
 Limit:Int
 Neutral:Int
 Fuse:Qbk
 Cable:wN
deriving DecidableEq
def GCo.cs (x:GCo):List PV:=[VS x.Name,VI x.Up,VI x.Limit,VI x.Neutral,VI x.Fuse.Rated,VI x.Fuse.Heat,VI x.Cable.Ambient,VI x.Cable.Most,VI x.Cable.Gain,VI x.Cable.Loss,VI x.Cable.Den]
structure wO where
 Name:List UInt8
deriving DecidableEq
def wO.cs (x:wO):List PV:=[VS x.Name]
structure GCt where
 Name:List UInt8
 Owner:Int
 Rank:Int
 Card:Int
deriving DecidableEq
def GCt.cs (x:GCt):List PV:=[VS x.Name,VI x.Owner,VI x.Rank,VI x.Card]
structure GCg where
 Name:List UInt8
 At:Int
 Phases:Int
 Min:Int
 Max:Int
 Step:Int
 Fallback:Int
 Owner:Int
deriving DecidableEq
def GCg.cs (x:GCg):List PV:=[VS x.Name,VI x.At,VI x.Phases,VI x.Min,VI x.Max,VI x.Step,VI x.Fallback,VI x.Owner]
structure QdZ where
 Name:List UInt8
 Charger:Int
deriving DecidableEq
def QdZ.cs (x:QdZ):List PV:=[VS x.Name,VI x.Charger]
structure QeT where
 Conductors:List GCo
 Owners:List wO
 Contracts:List GCt
 Chargers:List GCg
 Bays:List QdZ
deriving DecidableEq
def QeT.cs (x:QeT):List PV:=[.sl 11 (List.map GCo.cs x.Conductors), .sl 1 (List.map wO.cs x.Owners), .sl 4 (List.map GCt.cs x.Contracts), .sl 8 (List.map GCg.cs x.Chargers), .sl 2 (List.map QdZ.cs x.Bays)]
structure GTh where
 kind:Int
 index:Int
deriving DecidableEq
def GTh.cs (x:GTh):List PV:=[VI x.kind,VI x.index]
structure GSp where
 from_:Int
 to_:Int
deriving DecidableEq
def GSp.cs (x:GSp):List PV:=[VI x.from_,VI x.to_]
structure yA where
 diag:ZH
deriving DecidableEq
def yA.cs (x:yA):List PV:=[VI x.diag.Err,VI x.diag.At]
def Zu (Z:GN) (O:Int) (G:GN→Int→Option Int) (Y:(Int × Int)→Option Int) (J:Int) (U:Int):Option Int :=
 (cond (Qp U (Qb (List.map Zy Z.Kids)))
  (some (leI J O))
  (some false)).bind fun j2 =>
 cond j2
  ((Option.bind (QY Z.Kids U) GN.of).bind fun x4 =>
  (G x4 (wi (O - J))).bind fun r5 =>
  Y (wi (J+r5),wi (U+1)))
  (some J)
def ZV (n:Nat) (G:GN→Int→Option Int) (Z:GN) (J:Int):Option Int :=
 Qo (fun O (Y,U)=>Zu Z J G O Y U) n (1,0)
def Zm:Nat→GN→Int→Option Int
 | 0,_,_=>none
 | n+1,J,G=>ZV n (Zm n) J G
def lG (x:Int × Int × Int):List PV:=[VI x.1,VI x.2.1,VI x.2.2]
structure zi where
 Conductor:Int
 Phase:Int
 Amps:Int
deriving DecidableEq
def zi.cs (x:zi):List PV:=[VI x.Conductor,VI x.Phase,VI x.Amps]
structure zk where
 Cable:wN
 now:Int
deriving DecidableEq
def zk.cs (x:zk):List PV:=[VI x.Cable.Ambient,VI x.Cable.Most,VI x.Cable.Gain,VI x.Cable.Loss,VI x.Cable.Den,VI x.now]
structure EJ where
 conductor:Int
 phase:Int
deriving DecidableEq
def EJ.cs (x:EJ):List PV:=[VI x.conductor,VI x.phase]
structure Qbl where
 Sums:List (Int × Int × Int)
deriving DecidableEq
def Qbl.cs (x:Qbl):List PV:=[.sl 3 (List.map lG x.Sums)]
def Nc (n:Nat):Option (List (List UInt8)) :=
 some [[102,101,101,100,101,114],[99,97,98,108,101],[111,119,110,101,114],[99,111,110,116,114,97,99,116],[99,104,97,114,103,101,114],[98,97,121],[116,97,114,105,102,102]]
def WL (n:Nat):Option (List (List UInt8)) :=
 some [[108,105,109,105,116],[110,101,117,116,114,97,108],[102,117,115,101],[116,104,101,114,109,97,108],[102,114,111,109],[97,116],[112,104,97,115,101,115],[97,109,112,115],[102,97,108,108,98,97,99,107],[111,119,110,101,114],[99,97,114,100],[114,97,110,107],[99,104,97,114,103,101,114]]
def YL (n:Nat):Option (List (List UInt8)) :=
 some [[115,116,97,114,116],[101,110,101,114,103,121],[116,105,109,101],[105,100,108,101],[99,97,112],[116,97,120]]
def WM (n:Nat):Option (List (List UInt8)) :=
 some [[111,110],[119,111,114,107],[115,97,116,117,114,100,97,121],[115,117,110,100,97,121],[98,101,116,119,101,101,110],[112,101,114],[102,114,101,101]]
def J9 (n:Nat) (G:Q3):Option Bool :=
 (cond (Qp G.Price 0)
  (some true)
  (cond (Qp 1000000 G.Price)
   (some true)
   (cond (Qp G.From 0)
    (some true)
    (cond (Qp 1439 G.From)
     (some true)
     (cond (leI G.To G.From)
      (some true)
      (cond (Qp 1440 G.To)
       (some true)
       (cond (Qp G.Days 1)
        (some true)
        (some (Qp 7 G.Days))))))))).bind fun Z =>
 cond Z
  (some false)
  ((cond (Qr G.Kind 3)
   (some true)
   (some (Qr G.Kind 4))).bind fun j9 =>
  cond j9
   ((cond (leI 1 G.Unit)
    (cond (leI G.Unit 1440)
     (cond (leI 0 G.Free)
      (some (leI G.Free 1440))
      (some false))
     (some false))
    (some false)).bind fun U =>
   some U)
   ((cond (!Qr G.Unit 0)
    (some true)
    (some (!Qr G.Free 0))).bind fun Y =>
   cond Y
    (some false)
    ((cond (Qr G.From 0)
     (cond (Qr G.To 1440)
      (some (Qr G.Days 7))
      (some false))
     (some false)).bind fun J =>
    cond (Qr G.Kind 6)
     ((cond J
      (some (leI G.Price 10000))
      (some false)).bind fun O =>
     some O)
     (cond (Qr G.Kind 5)
      (some J)
      (cond (Qr G.Kind 1)
       (some true)
       (some (Qr G.Kind 2)))))))
def Uc (n:Nat) (G:Int):Option Bool :=
 cond (leI (-1440) G)
  (some (leI G 1440))
  (some false)
def JD (G:Kj) (J:Int→Option Bool) (O:Int):Option Bool :=
 cond (Qp O (Qb (List.map ci G.Holidays)))
  ((QY G.Holidays O).bind fun U =>
  (cond (Qp U 0)
   (some true)
   (cond (Qp 36500 U)
    (some true)
    (cond (Qp 0 O)
     ((QY G.Holidays (wi (O - 1))).bind fun Y =>
     some (leI U Y))
     (some false)))).bind fun Z =>
  cond Z
   (some false)
   (J (wi (O+1))))
  (some true)
def UN (n:Nat) (J:Kj):Option Bool :=
 Qo (fun G O=>JD J G O) n 0
def Vq (n:Nat) (J:Kj) (U:Int→Option Bool) (G:Int):Option Bool :=
 cond (Qp G (Qb (List.map XC.cs J.Changes)))
  ((QY J.Changes G).bind fun O =>
  ((Uc n O.Offset).bind fun Y =>
  cond (!Y)
   (some true)
   (cond (Qp O.At 0)
    (some true)
    (cond (Qp 52560000 O.At)
     (some true)
     (cond (Qp 0 G)
      ((QY J.Changes (wi (G - 1))).bind fun aa =>
      some (leI O.At aa.At))
      (some false))))).bind fun Z =>
  cond Z
   (some false)
   (U (wi (G+1))))
  (UN n J)
def JY (n:Nat) (G:Kj):Option Bool :=
 ((Uc n G.Offset).bind fun Y =>
 cond (!Y)
  (some true)
  (cond (Qp 16 (Qb (List.map XC.cs G.Changes)))
   (some true)
   (some (Qp 32 (Qb (List.map ci G.Holidays)))))).bind fun U =>
 cond U
  (some false)
  (Qo (fun J O=>Vq n G J O) n 0)
def WU (Y:Kj) (J:Int) (O:(Int × Int)→Option Int) (U:Int) (G:Int):Option Int :=
 cond (Qp G (Qb (List.map XC.cs Y.Changes)))
  ((QY Y.Changes G).bind fun x2 =>
  cond (leI x2.At J)
   ((QY Y.Changes G).bind fun Z =>
   O (Z.Offset,wi (G+1)))
   (O (U,wi (G+1))))
  (some U)
def FQ (n:Nat) (O:Kj) (G:Int):Option Int :=
 Qo (fun J (Y,U)=>WU O G J Y U) n (O.Offset,0)
def LY (n:Nat) (J:Kj) (G:Int):Option (Int × Int × Int) :=
 ((JY n J).bind fun Y =>
 cond (!Y)
  (some true)
  (cond (Qp G 0)
   (some true)
   (some (Qp 52560000 G)))).bind fun U =>
 cond U
  (some (0,0,1))
  ((FQ n J G).bind fun O =>
  cond (Qp (wi (G+O)) 0)
   (some ((-1),wi ((wi (G+O)) - (-1440)),0))
   (some (wi (Int.tdiv (wi (G+O)) 1440),wi ((wi (G+O)) - (wi (1440 * (wi (Int.tdiv (wi (G+O)) 1440))))),0)))
def Dr (G:Int):Option (Int × Int) :=
 cond (Qr (Int.tmod (wi (G+7)) 7) 6)
  (some (2,0))
  (cond (Qr (Int.tmod (wi (G+7)) 7) 5)
   (some (1,0))
   (some (0,0)))
def Xb (O:Kj) (G:Int) (J:Int→Option (Int × Int)) (U:Int):Option (Int × Int) :=
 cond (Qp U (Qb (List.map ci O.Holidays)))
  ((QY O.Holidays U).bind fun Y =>
  cond (Qr Y G)
   (some (2,0))
   (J (wi (U+1))))
  (Dr G)
def T9 (n:Nat) (O:Kj) (G:Int):Option (Int × Int) :=
 ((JY n O).bind fun Y =>
 cond (!Y)
  (some true)
  (cond (Qp G (-1))
   (some true)
   (some (Qp 36501 G)))).bind fun U =>
 cond U
  (some (0,1))
  (Qo (fun J Z=>Xb O G J Z) n 0)
def Xc (n:Nat) (G:Q3) (O:Kj) (J:Int):Option Bool :=
 (J9 n G).bind fun r1 =>
 cond (!r1)
  (some false)
  ((LY n O J).bind fun U =>
  cond (!Qr U.2.2 0)
   (some false)
   ((T9 n O U.1).bind fun Y =>
   (cond (Qr Y.1 1)
    (some (Qr (Int.tmod (wi (Int.tdiv G.Days 2)) 2) 1))
    (some (Qr (Int.tmod G.Days 2) 1))).bind fun Z =>
   (cond (Qr Y.1 2)
    (some (Qr (Int.tmod (wi (Int.tdiv G.Days 4)) 2) 1))
    (some Z)).bind fun j5 =>
   cond j5
    (cond (leI G.From U.2.1)
     (some (Qp U.2.1 G.To))
     (some false))
    (some false)))
def Yf (n:Nat) (G:Int):Option Bool :=
 cond (leI 0 G)
  (some (leI G 1000000000))
  (some false)
def KN (n:Nat) (G:Int):Option (Int × Int) :=
 (Yf n G).bind fun r1 =>
 cond (!r1)
  (some (0,3))
  (some (G,0))
def KO (n:Nat) (O:Int) (J:Int) (G:Int):Option (Int × Int) :=
 ((Yf n O).bind fun r2 =>
 cond (!r2)
  (some true)
  ((Yf n J).bind fun Z =>
  cond (!Z)
   (some true)
   (cond (Qp G 1)
    (some true)
    (some (Qp 1000000000 G))))).bind fun Y =>
 cond Y
  (some (0,1))
  (cond (!Qr G 0) (
   (KN n (wi (O * (wi (Int.tdiv (wi ((wi (J+G)) - 1)) G))))).bind fun U =>
   some (U.1,U.2)) none)
def Y6 (n:Nat) (J:Int) (G:Int):Option Int :=
 cond (!Qr (wi (2 * G)) 0) (
  some (wi (Int.tdiv (wi ((wi (2 * J))+G)) (wi (2 * G))))) none
def JZ (n:Nat) (J:Int) (G:Int) (O:Int):Option (Int × Int) :=
 ((Yf n J).bind fun r2 =>
 cond (!r2)
  (some true)
  ((Yf n G).bind fun Y =>
  cond (!Y)
   (some true)
   (cond (Qp O 1)
    (some true)
    (some (Qp 1000000000 O))))).bind fun j1 =>
 cond j1
  (some (0,1))
  ((Y6 n (wi (J * G)) O).bind fun Z =>
  (KN n Z).bind fun U =>
  some (U.1,U.2))
def XJ (n:Nat) (J:Int) (G:Int):Option (Int × Int) :=
 ((Yf n J).bind fun Y =>
 cond (!Y)
  (some true)
  (cond (Qp G 0)
   (some true)
   (some (Qp 100000 G)))).bind fun U =>
 cond U
  (some (0,1))
  ((Y6 n (wi (J * G)) 10000).bind fun Z =>
  (KN n Z).bind fun O =>
  some (O.1,O.2))
structure J2 where
 Serial:Int
 Number:Int
 Minute:Int
 Register:Int
 Link:Int
deriving DecidableEq
def J2.cs (x:J2):List PV:=[VI x.Serial,VI x.Number,VI x.Minute,VI x.Register,VU x.Link]
structure nJ where
 Tariff:K5
 Calendar:Kj
 Readings:List J2
 Seed:Int
 Session:YG
 Bill:Ka
deriving DecidableEq
def nJ.cs (x:nJ):List PV:=[VS x.Tariff.Name, .sl 7 (List.map Q3.cs x.Tariff.Articles),VI x.Calendar.Offset, .sl 2 (List.map XC.cs x.Calendar.Changes), .sl 1 (List.map ci x.Calendar.Holidays), .sl 5 (List.map J2.cs x.Readings),VU x.Seed,VI x.Session.From,VI x.Session.To,VI x.Session.End, .sl 2 (List.map Ho.cs x.Session.Slices), .sl 2 (List.map Z7.cs x.Bill.Lines),VI x.Bill.Net,VI x.Bill.Tax,VI x.Bill.Total]
structure GAE where
 Claim:nJ
 follows:YG
 bill:Ka
 rate:Int
deriving DecidableEq
def GAE.cs (x:GAE):List PV:=[VS x.Claim.Tariff.Name, .sl 7 (List.map Q3.cs x.Claim.Tariff.Articles),VI x.Claim.Calendar.Offset, .sl 2 (List.map XC.cs x.Claim.Calendar.Changes), .sl 1 (List.map ci x.Claim.Calendar.Holidays), .sl 5 (List.map J2.cs x.Claim.Readings),VU x.Claim.Seed,VI x.Claim.Session.From,VI x.Claim.Session.To,VI x.Claim.Session.End, .sl 2 (List.map Ho.cs x.Claim.Session.Slices), .sl 2 (List.map Z7.cs x.Claim.Bill.Lines),VI x.Claim.Bill.Net,VI x.Claim.Bill.Tax,VI x.Claim.Bill.Total,VI x.follows.From,VI x.follows.To,VI x.follows.End, .sl 2 (List.map Ho.cs x.follows.Slices), .sl 2 (List.map Z7.cs x.bill.Lines),VI x.bill.Net,VI x.bill.Tax,VI x.bill.Total,VI x.rate]
def Wv (n:Nat) (O:Int) (J:Int) (G:Int):Option Bool :=
 cond (leI J O)
  (some (leI O G))
  (some false)
def yB (n:Nat) (G:List UInt8):Option Bool :=
 (cond (Qt G [102,101,101,100,101,114])
  (some (Qt G [102,101,101,100,101,114]))
  (cond (Qt G [99,97,98,108,101])
   (some (Qt G [99,97,98,108,101]))
   (cond (Qt G [111,119,110,101,114])
    (some (Qt G [111,119,110,101,114]))
    (cond (Qt G [99,111,110,116,114,97,99,116])
     (some (Qt G [99,111,110,116,114,97,99,116]))
     (cond (Qt G [99,104,97,114,103,101,114])
      (some (Qt G [99,104,97,114,103,101,114]))
      (cond (Qt G [98,97,121])
       (some (Qt G [98,97,121]))
       (some (Qt G [116,97,114,105,102,102])))))))).bind fun Y =>
 cond Y
  (some true)
  ((cond (Qt G [108,105,109,105,116])
   (some (Qt G [108,105,109,105,116]))
   (cond (Qt G [110,101,117,116,114,97,108])
    (some (Qt G [110,101,117,116,114,97,108]))
    (cond (Qt G [102,117,115,101])
     (some (Qt G [102,117,115,101]))
     (cond (Qt G [116,104,101,114,109,97,108])
      (some (Qt G [116,104,101,114,109,97,108]))
      (cond (Qt G [102,114,111,109])
       (some (Qt G [102,114,111,109]))
       (cond (Qt G [97,116])
        (some (Qt G [97,116]))
        (cond (Qt G [112,104,97,115,101,115])
         (some (Qt G [112,104,97,115,101,115]))
         (cond (Qt G [97,109,112,115])
          (some (Qt G [97,109,112,115]))
          (cond (Qt G [102,97,108,108,98,97,99,107])
           (some (Qt G [102,97,108,108,98,97,99,107]))
           (cond (Qt G [99,97,114,100])
            (some (Qt G [99,97,114,100]))
            (some (Qt G [114,97,110,107])))))))))))).bind fun J =>
  cond J
   (some true)
   ((cond (Qt G [115,116,97,114,116])
    (some (Qt G [115,116,97,114,116]))
    (cond (Qt G [101,110,101,114,103,121])
     (some (Qt G [101,110,101,114,103,121]))
     (cond (Qt G [116,105,109,101])
      (some (Qt G [116,105,109,101]))
      (cond (Qt G [105,100,108,101])
       (some (Qt G [105,100,108,101]))
       (cond (Qt G [99,97,112])
        (some (Qt G [99,97,112]))
        (some (Qt G [116,97,120]))))))).bind fun U =>
   cond U
    (some true)
    ((cond (Qt G [111,110])
     (some (Qt G [111,110]))
     (cond (Qt G [119,111,114,107])
      (some (Qt G [119,111,114,107]))
      (cond (Qt G [115,97,116,117,114,100,97,121])
       (some (Qt G [115,97,116,117,114,100,97,121]))
       (cond (Qt G [115,117,110,100,97,121])
        (some (Qt G [115,117,110,100,97,121]))
        (cond (Qt G [98,101,116,119,101,101,110])
         (some (Qt G [98,101,116,119,101,101,110]))
         (cond (Qt G [112,101,114])
          (some (Qt G [112,101,114]))
          (some (Qt G [102,114,101,101])))))))).bind fun O =>
    cond O
     (some true)
     (some false))))
def JE (n:Nat) (G:Q3):Option Bool :=
 ((Wv n G.Kind 1 6).bind fun r2 =>
 cond (!r2)
  (some true)
  ((Wv n G.Days 1 7).bind fun r4 =>
  some (!r4))).bind fun j1 =>
 cond j1
  (some false)
  (((Wv n G.From 0 1439).bind fun r6 =>
  cond (!r6)
   (some true)
   (cond (leI G.To G.From)
    (some true)
    (some (Qp 1440 G.To)))).bind fun j5 =>
  cond j5
   (some false)
   ((cond (Qr G.From 0)
    (cond (Qr G.To 1440)
     (some (Qr G.Days 7))
     (some false))
    (some false)).bind fun j9 =>
   (cond (Qr G.Unit 0)
    (some (Qr G.Free 0))
    (some false)).bind fun J =>
   (Wv n G.Price 0 1000000).bind fun O =>
   (cond (Qr G.Kind 3)
    (some (Qr G.Kind 3))
    (some (Qr G.Kind 4))).bind fun ad =>
   cond ad
    ((cond O
     ((Wv n G.Unit 1 1440).bind fun U =>
     cond U
      ((Wv n G.Free 0 1440).bind fun Y =>
      some Y)
      (some false))
     (some false)).bind fun Z =>
    some Z)
    (cond (Qr G.Kind 5)
     ((cond O
      (cond J
       (some j9)
       (some false))
      (some false)).bind fun aa =>
     some aa)
     (cond (Qr G.Kind 6)
      (((Wv n G.Price 0 10000).bind fun ac =>
      cond ac
       (cond J
        (some j9)
        (some false))
       (some false)).bind fun ab =>
      some ab)
      (cond O
       (some J)
       (some false))))))
def VV (G:YG) (J:Int→Option Bool) (U:Int):Option Bool :=
 cond (Qp U (Qb (List.map Ho.cs G.Slices)))
  ((QY G.Slices U).bind fun O =>
  (cond (Qp O.Minute G.From)
   (some true)
   (cond (leI G.End O.Minute)
    (some true)
    (cond (Qp O.Energy 0)
     (some true)
     (cond (Qp 10000 O.Energy)
      (some true)
      (cond (Qp 0 U)
       ((QY G.Slices (wi (U - 1))).bind fun Y =>
       some (leI O.Minute Y.Minute))
       (some false)))))).bind fun Z =>
  cond Z
   (some false)
   (J (wi (U+1))))
  (some true)
def LZ (n:Nat) (G:YG):Option Bool :=
 (cond (Qp G.From 0)
  (some true)
  (cond (leI G.To G.From)
   (some true)
   (cond (Qp 52560000 G.To)
    (some true)
    (cond (Qp 2880 (wi (G.To - G.From)))
     (some true)
     (cond (Qp G.End G.From)
      (some true)
      (cond (Qp G.To G.End)
       (some true)
       (some (Qp 48 (Qb (List.map Ho.cs G.Slices)))))))))).bind fun O =>
 cond O
  (some false)
  (Qo (fun J U=>VV G J U) n 0)
def KZ (n:Nat) (Z:Q3) (Y:Kj) (U:Int) (J:(Int × Int)→Option Int) (O:Int) (G:Int):Option Int :=
 cond (Qp G U)
  ((Xc n Z Y G).bind fun r2 =>
  cond r2
   (J (wi (O+1),wi (G+1)))
   (J (O,wi (G+1))))
  (some O)
def Y7 (n:Nat) (Z:Q3) (aa:Kj) (G:Int) (U:Int):Option Int :=
 Qo (fun J (Y,O)=>KZ n Z aa U J Y O) n (0,G)
def Ym (n:Nat) (Z:Q3) (Y:Kj) (U:YG) (O:(Int × Int)→Option Int) (J:Int) (G:Int):Option Int :=
 cond (Qp G (Qb (List.map Ho.cs U.Slices)))
  ((QY U.Slices G).bind fun x2 =>
  (Xc n Z Y x2.Minute).bind fun r3 =>
  cond r3
   ((QY U.Slices G).bind fun x4 =>
   O (wi (J+x4.Energy),wi (G+1)))
   (O (J,wi (G+1))))
  (some J)
def FR (n:Nat) (U:Q3) (Y:Kj) (Z:YG):Option Int :=
 Qo (fun G (O,J)=>Ym n U Y Z G O J) n (0,0)
def EK (n:Nat) (G:Q3) (O:Kj) (J:YG):Option (Int × Int) :=
 (J9 n G).bind fun r1 =>
 (JY n O).bind fun r2 =>
 (LZ n J).bind fun r3 =>
 (cond (!r1)
  (some true)
  (cond (!r2)
   (some true)
   (some (!r3)))).bind fun j4 =>
 cond j4
  (some (0,1))
  (cond (Qr G.Kind 1)
   ((Y7 n G O J.From (wi (J.From+1))).bind fun r7 =>
   some (wi (G.Price * r7),0))
   (cond (Qr G.Kind 2)
    ((FR n G O J).bind fun r8 =>
    (JZ n G.Price r8 1000).bind fun r9 =>
    some (r9.1,r9.2))
    (cond (Qr G.Kind 3)
     ((Y7 n G O J.From J.To).bind fun Z =>
     (KO n G.Price (Jb 0 (wi (Z - G.Free))) G.Unit).bind fun U =>
     some (U.1,U.2))
     (cond (Qr G.Kind 4)
      ((Y7 n G O J.End J.To).bind fun aa =>
      (KO n G.Price (Jb 0 (wi (aa - G.Free))) G.Unit).bind fun Y =>
      some (Y.1,Y.2))
      (some (0,0))))))
structure GLs where
 from_:Int
 to_:Int
deriving DecidableEq
def GLs.cs (x:GLs):List PV:=[VI x.from_,VI x.to_]
end Go.Proofs
namespace Go.Proofs
open Go Go.Abs Go.ChangeShapes Go.WideShapes Go.ChangeAt Go.RowKit Go.Proofs.YtkhhdppjbakngaaGreatDoor
set_option maxRecDepth 100000
variable {d:Nat}
structure XC.wf (x:XC):Prop where
 At:RH x.At
 Offset:RH x.Offset
theorem QgO {cs:List PV} (h:Sh Tryz.prog (d+2) 199 cs):∃ r:XC,cs=XC.cs r∧XC.wf r:=by
 have h:=Mq Tryz.underlying199 h;obtain ⟨_,_,rfl,h0,_,_,rfl,U,rfl⟩:=h;obtain ⟨J,rfl,w0⟩:=TL Tryz.underlying3 h0;obtain ⟨G,rfl,O⟩:=TL Tryz.underlying3 U;exact ⟨⟨J,G⟩,rfl,⟨w0,O⟩⟩
structure Kj.wf (x:Kj):Prop where
 Offset:RH x.Offset
 Changes:(bN XC.wf) x.Changes
 Holidays:(bN RH) x.Holidays
theorem QgP {cs:List PV} (h:Sh Tryz.prog (d+4) 52 cs):∃ r:Kj,cs=Kj.cs r∧Kj.wf r:=by
 have h:=Mq Tryz.underlying52 h;obtain ⟨_,_,rfl,h0,_,_,rfl,h1,_,_,rfl,Y,rfl⟩:=h;obtain ⟨U,rfl,w0⟩:=TL Tryz.underlying3 h0;obtain ⟨G,rfl,Z⟩:=wm (S:=2) (f:=XC.cs) (W:=XC.wf) Tryz.underlying49 Qc (fun c h=>QgO h) h1;obtain ⟨J,rfl,O⟩:=wm (S:=1) (f:=ci) (W:=RH) Tryz.underlying50 Qc (fun c h=>TL Tryz.underlying3 h) Y;exact ⟨⟨U,G,J⟩,rfl,⟨w0,Z,O⟩⟩
structure Ho.wf (x:Ho):Prop where
 Minute:RH x.Minute
 Energy:RH x.Energy
theorem QgQ {cs:List PV} (h:Sh Tryz.prog (d+2) 207 cs):∃ r:Ho,cs=Ho.cs r∧Ho.wf r:=by
 have h:=Mq Tryz.underlying207 h;obtain ⟨_,_,rfl,h0,_,_,rfl,U,rfl⟩:=h;obtain ⟨J,rfl,w0⟩:=TL Tryz.underlying3 h0;obtain ⟨G,rfl,O⟩:=TL Tryz.underlying3 U;exact ⟨⟨J,G⟩,rfl,⟨w0,O⟩⟩
structure YG.wf (x:YG):Prop where
 From:RH x.From
 To:RH x.To
 End:RH x.End
 Slices:(bN Ho.wf) x.Slices
theorem QgR {cs:List PV} (h:Sh Tryz.prog (d+4) 55 cs):∃ r:YG,cs=YG.cs r∧YG.wf r:=by
 have h:=Mq Tryz.underlying55 h;obtain ⟨_,_,rfl,h0,_,_,rfl,h1,_,_,rfl,h2,_,_,rfl,Z,rfl⟩:=h;obtain ⟨Y,rfl,w0⟩:=TL Tryz.underlying3 h0;obtain ⟨J,rfl,w1⟩:=TL Tryz.underlying3 h1;obtain ⟨x2,rfl,O⟩:=TL Tryz.underlying3 h2;obtain ⟨U,rfl,G⟩:=wm (S:=2) (f:=Ho.cs) (W:=Ho.wf) Tryz.underlying53 Qc (fun c h=>QgQ h) Z;exact ⟨⟨Y,J,x2,U⟩,rfl,⟨w0,w1,O,G⟩⟩
def YW:Prop:=∀ (G:List UInt8) (a1:Kj) (a2:YG),QhH G→Kj.wf a1→YG.wf a2→∃ n,Zk n G a1 a2=some true
theorem DD (h:YW):∀ xs,qP Tryz.prog 9 Tryz.f5.params.toList xs→QB Tryz.prog 5 xs (.ret (.p (.val (.bool true)))):=by
 intro xs J;rw [Tryz.params5] at J;obtain ⟨_,_,rfl,h0,_,_,rfl,h1,_,_,rfl,Z,rfl⟩:=J;obtain ⟨G,rfl,w0⟩:=QfX Tryz.underlying9 h0;obtain ⟨a1,rfl,Y⟩:=QgP h1;obtain ⟨a2,rfl,O⟩:=QgR Z;obtain ⟨n,U⟩:=h G a1 a2 w0 Y O;simp only [QaR Tryz.underlying9,AC Tryz.underlying52,AC Tryz.underlying55];exact JX n G a1 a2 true U
theorem Qd0 {W:World} (h:laidMetH Tryz.prog Rows.topTariffPrintedRow.laid W):fI W:=by
 have h2:=MakeChecks.laidMetH_plain Tryz.prog Rows.topTariffPrintedRow.laid W Qc;have h3:laidMet Tryz.prog Rows.topTariffPrintedRow.laid W:=h2 ▸ h;obtain ⟨ps,⟨_,_,_,_,_,_,_,_,_,_,⟨_,_,_,_,_,_,_,_,_,_,⟨g,t,cs,Y,p,q,Z,ht,hv,U,⟨g2,t2,aa,J,p2,q2,hg2,O,G,hd2,_,_⟩,_⟩,_⟩,_⟩,_,_⟩:=h3;obtain rfl:=Option.some.inj ((show Tryz.prog.globalNamed "internal/strconv.uint64pow10"=some 1 by kernel_rfl).symm.trans Z);obtain rfl:=Option.some.inj ((show Tryz.prog.globalNamed "chargepark/printer.kinds"=some 0 by kernel_rfl).symm.trans hg2);refine Qf1 ?_ ?_
 ·have e:(Rows.laid_chargepark_printer_kinds:DataW Unit)=.agg (kindsTab.map fun z=>.lit (.string z)):=by kernel_rfl
  rw [e] at hd2;obtain rfl:=Option.some.inj ((show (Tryz.prog.globals[0]?).map (·.type)=some 161 by kernel_rfl).symm.trans O);have h5:=Lib.cells_of_stab Tryz.underlying161 Tryz.underlying9 Qc Qc hd2;unfold World.var? at G;rw [show Tryz.prog.globalNamed "chargepark/printer.kinds"=some 0 by kernel_rfl] at G;simp only [QJ] at G;split at G
  ·rename_i c ty fz hc;simp only [QN] at G;subst G;rw [← h5];exact ⟨ty,fz,hc⟩
  ·cases G
 ·unfold Lib.TabIs;have e:(Rows.laid_internal_strconv_uint64pow10:DataW Unit)=Lib.tabData .u64 Lib.pow10Tab:=by kernel_rfl
  rw [e] at U;obtain rfl:=Option.some.inj ((show (Tryz.prog.globals[1]?).map (·.type)=some 308 by kernel_rfl).symm.trans ht);rw [hv,← Lib.cells_of_tab Tryz.underlying308 Tryz.underlying302 Qc Qc U]
set_option maxRecDepth 100000 in
theorem R4 (h:YW) (os:Os) (started:os.Started) (H:Type) (enc:TypeId × Value→H) :
  ReturnsInHanded {} Tryz.checked os 5 .any (fun w args=>(Rows.topTariffPrintedSpec.pre enc Tryz.prog Tryz.f5 Rows.topTariffPrintedRow.domain false w args∧laidMetH Tryz.prog Rows.topTariffPrintedRow.laid w)∧sizedMet enc Tryz.prog Tryz.f5 (OpenSpec.ofChange Rows.topTariffPrintedSpec) false w args) (Rows.topTariffPrintedSpec.post enc Tryz.prog Tryz.f5 false true false false):=by
 refine returnsInHanded_of_change_and (C:=Tryz.checked) (X:=fun w _=>laidMetH Tryz.prog Rows.topTariffPrintedRow.laid w) (fun _ _ _ U h=>h.of_heap U) Qc started Qc Tryz.func5
  (ChangeSpec.witness_shaped (enc:=enc) (C:=Tryz.checked) (os:=os) (X:=fun w _=>laidMetH Tryz.prog Rows.topTariffPrintedRow.laid w) false (World.laidAll Tryz.prog os Rows.topTariffPrintedRow.laid) #[.string ⟨#[]⟩, .agg #[.int .i64 0, .slice none 0 0, .slice none 0 0], .agg #[.int .i64 0, .int .i64 0, .int .i64 0, .slice none 0 0]] 8 (World.laidAll_os _ _ _)
   (World.shaped_of_ZipB Qc Qc) Qc Qc Qc
   (by rw [MakeChecks.laidMetH_plain _ _ _ Qc]; exact laidMet_laidAll _ Qc Qc)) ?_
 intro W base args ds gs before G Y _ _ O _
 exact wh (P:=Tryz.prog) (f:=5) (fn:=Tryz.f5) (s:=Rows.topTariffPrintedSpec) (tb:=4) (d:=9) Qc Qc Qc Qc Tryz.underlying4 rfl
  (fun ds J=>by
   have J:ds.length=3:=by rw [J,show Tryz.f5.params.size=3 from by kernel_rfl]
   match ds,J with
   | [d0,d1,d2],_=>rfl)
  (DD h) G Y (Qd0 O)
theorem DF (h:YW):Rows.TopTariffPrintedSaid :=
 OpenClaim.holds_of_wide 5 Tryz.f5 rfl rfl rfl rfl rfl rfl rfl ⟨rfl,rfl,rfl,rfl,rfl⟩ rfl rfl rfl rfl rfl Qc Tryz.func5 Qc
  (of_decide_eq_true Qc) (by unfold Func.isWrapper; first | (rw [if_pos (by decide +kernel)]; kernel_rfl) | (rw [if_neg (by decide +kernel)]; exact ⟨rfl,rfl⟩))
  (fun os started H enc _=>R4 h os started H enc)
theorem DI (h:YW):Rows.TopTariffPrintedCardSaid :=
 Claim7.holds_tied_plain_at .later [] [.data, .data, .data, .data] true (true,"f2aa9020095c129a4e33b028fe15800a6a1530f7b693bd8eaf770e8f26b6203c") true
  (DF h) (fun _ h=>by cases h) Qc (fun _ h=>by cases h) topTariffPrinted_row_tie rfl ⟨rfl,rfl⟩ Qc rfl
  (fun f fn hf J=>by
   obtain rfl:f=5:=Option.some.inj ((show Tryz.prog.funcNamed Rows.topTariffPrintedRow.func=some 5 by kernel_rfl).symm.trans hf) |>.symm;obtain rfl:fn=Tryz.f5:=(Option.some.inj (Tryz.func5.symm.trans J)).symm
   exact ⟨by kernel_rfl,fun j t G=>by
    rw [Tryz.params5] at G
    have O:t=9∨t=52∨t=55:=by
     rcases j with _ | _ | _ | j
     ·left; simpa using G.symm
     ·right; left; simpa using G.symm
     ·right; right; simpa using G.symm
     ·simp at G
    rcases O with rfl | rfl | rfl
    ·exact (show Tryz.prog.wantsStandIn 9=false by kernel_rfl)
    ·exact (show Tryz.prog.wantsStandIn 52=false by kernel_rfl)
    ·exact (show Tryz.prog.wantsStandIn 55=false by kernel_rfl)⟩)
  Qc
end Go.Proofs
namespace Go.Proofs
open Go Go.Abs
set_option maxRecDepth 100000
variable {R V:Type}{b:Bool}{c:UInt8}{d e i:Nat}{l:List (List PV)}{n:Nat}{s:List UInt8}{x:GN}{α β:Type}
def Does {α:Type} (m:Option α) (Q:α→Prop):Prop:=∃ r,m=some r∧Q r
section
variable {α β V R E:Type}
theorem QK {x:α} {Q:α→Prop} (h:Q x):Does (some x) Q:=⟨x,rfl,h⟩
theorem R5 {m:Option α} {Q Q':α→Prop} (h:Does m Q) (G:∀ x,Q x→Q' x):Does m Q':=by obtain ⟨x,e,h⟩:=h; exact ⟨x,e,G x h⟩
theorem Kq {m:Option α} {k:α→Option β} {Q:α→Prop} {Q':β→Prop} (h:Does m Q) (G:∀ x,Q x→Does (k x) Q'):Does (m.bind k) Q':=by
 obtain ⟨x,rfl,h⟩:=h;exact G x h
theorem K3 {x y:Option α} {Q:α→Prop} (G:b=true→Does x Q) (J:b=false→Does y Q):Does (cond b x y) Q:=by
 cases b
 ·exact J rfl
 ·exact G rfl
theorem WN {B:(V→Option R)→V→Option R} {Q:V→R→Prop} (J:V→Nat) (Inv:V→Prop)
  (O:∀ rec v,Inv v→(∀ G,Inv G→J G < J v→Does (rec G) (Q G))→Does (B rec v) (Q v)):∀ {n:Nat} {v:V},Inv v→J v < n→Does (Qo B n v) (Q v)
 | 0,_,_,h=>absurd h (Nat.not_lt_zero _)
 | n+1,v,U,h=>O _ v U (fun G Y Z=>WN J Inv O Y zo)
end
theorem Zg {l:List α}:QY l (i:Int)=l[i]?:=by
 unfold QY; rw [if_neg zo]; simp
theorem QD {x:Int} (G:-9223372036854775808≤x) (J:x≤9223372036854775807):wi x=x:=by
 simp [wi,IntKind.wrap,IntKind.signed,IntKind.bits]; omega
theorem zl (n:Nat) (x a b:Int):Wv n x a b=some (decide (a≤x∧x≤b)):=by
 unfold Wv leI;by_cases h:a≤x <;> simp [h]
def QeU (b:Bool) (p:Int):Except Int Unit:=if b then .ok () else .error p
def QjU (a r:J2):Bool:=if r.Serial=a.Serial then decide (a.Minute≤r.Minute∧a.Register≤r.Register) else decide (r.Minute=a.Minute)
def QjV (s x k:Int):Int:=wu ((Qcn .u64 s (PI .u64 (QfB .u64 (wu x) k) 255)) * 1099511628211)
def QjW (s x:Int):Int:=[56,48,40,32,24,16,8,0].foldl (fun s k=>QjV s x k) s
def QiU (s:Int) (r:J2):Int:=[r.Serial,r.Number,r.Minute,r.Register].foldl QjW s
theorem EL {k:Unit→Option R} {e:Int→Option R} {p:Int}:F3 k e (QeU b p)=cond b (k ()) (e p):=by cases b <;> rfl
def Qbm (G:Int) (l:List J2) (i:Nat):Int:=if i=0 then G else ((l[i - 1]?).map (·.Link)).getD 0
def Qd1 (G:Int) (l:List J2) (i:Nat):Prop:=∀ r ∈ l[i]?,(1≤r.Serial∧r.Serial≤1000000)∧r.Number=i+1∧(0≤r.Minute∧r.Minute≤52560000)∧(0≤r.Register∧r.Register≤1000000000) ∧
 (i ≠ 0→∀ a ∈ l[i - 1]?,QjU a r=true)∧r.Link=QiU (Qbm G l i) r
def chainOk (G:Int) (l:List J2):Prop:=(1≤l.length∧l.length≤64)∧∀ i,i < l.length→Qd1 G l i
theorem Zo (x y:Int):Qr x y=decide (x=y):=by unfold Qr; by_cases h:x=y <;> simp [h]
theorem Qs {x y:α}:cond b (some x) (some y)=some (cond b x y):=by cases b <;> rfl
def R6 (w:List UInt8):Bool:=(yB 0 w).getD false
def Da (a:Q3):Bool:=(JE 0 a).getD false
def wP (x:UInt8):Bool:=decide ((97≤Zv x∧Zv x≤122)∨(48≤Zv x∧Zv x≤57)∨Zv x=95)
def Uj (s:List UInt8):Bool:=decide (1≤s.length∧s.length≤12)&&decide (∀ x ∈ s.head?,97≤Zv x∧Zv x≤122)&&!R6 s&&s.all wP
theorem R7 {α R:Type} {l:List α} {B:(Int→Option R)→Int→Option R} {F:List α→R} (O:l.length≤4611686018427387904)
  (J:∀ rec,B rec (l.length:Int)=some (F []))
  (G:∀ (rec:Int→Option R) (i:Nat) (x:α) (r:List α),l.drop i=x :: r→l[i]?=some x→i < l.length→wi ((i:Int)+1)=((i+1:Nat):Int)→(rec ((i+1:Nat):Int)=some (F r))→B rec (i:Int)=some (F (x :: r))) :
  ∀ {n:Nat} (i:Nat),i≤l.length→l.length - i < n→Qo B n (i:Int)=some (F (l.drop i))
 | 0,_,_,h=>absurd h (Nat.not_lt_zero _)
 | n+1,i,hi,h=>by
  unfold Qo;by_cases Y:i=l.length
  ·subst Y; rw [J]; simp
  ·have hlt:i < l.length:=by omega
   have U:l.drop i=l[i] :: l.drop (i+1):=by rw [List.drop_eq_getElem_cons hlt]
   rw [U];exact G _ i _ _ U (by simp [hlt]) hlt (by rw [QD] <;> omega) (R7 O J G (i+1) zo zo)
theorem Qd2 (c:Int):(bif decide (97≤c) then bif decide (c≤122) then false else bif decide (48≤c) then bif decide (c≤57) then false else !(c == 95) else !(c == 95)
  else bif decide (48≤c) then bif decide (c≤57) then false else !(c == 95) else !(c == 95))=!decide ((97≤c∧c≤122)∨(48≤c∧c≤57)∨c=95):=by
 by_cases U:97≤c <;> by_cases Y:c≤122 <;> by_cases G:48≤c <;> by_cases J:c≤57 <;> by_cases O:c=95 <;> simp [U,Y,G,J,O] <;> omega
theorem R8 {α R A:Type} {l:List α} {B:(A × Int→Option R)→A × Int→Option R} {F:A→List α→R} (O:l.length≤4611686018427387904)
  (J:∀ rec a,B rec (a,(l.length:Int))=some (F a []))
  (G:∀ (rec:A × Int→Option R) (a:A) (i:Nat) (x:α) (r:List α),l.drop i=x :: r→l[i]?=some x→i < l.length→wi ((i:Int)+1)=((i+1:Nat):Int)→(∀ a,rec (a,((i+1:Nat):Int))=some (F a r))→B rec (a,(i:Int))=some (F a (x :: r))) :
  ∀ {n:Nat} (i:Nat) (a:A),i≤l.length→l.length - i < n→Qo B n (a,(i:Int))=some (F a (l.drop i))
 | 0,_,_,_,h=>absurd h (Nat.not_lt_zero _)
 | n+1,i,a,hi,h=>by
  unfold Qo;by_cases Y:i=l.length
  ·subst Y; rw [J]; simp
  ·have hlt:i < l.length:=by omega
   have U:l.drop i=l[i] :: l.drop (i+1):=by rw [List.drop_eq_getElem_cons hlt]
   rw [U];exact G _ a i _ _ U (by simp [hlt]) hlt (by rw [QD] <;> omega) (fun a=>R8 O J G (i+1) a zo zo)
def Bn:Int→List Int→Bool
 | _,[]=>true
 | a,x :: r=>decide (a < x∧x≤36500)&&Bn x r
def wQ:Int→List XC→Bool
 | _,[]=>true
 | a,x :: r=>decide (a < x.At∧x.At≤52560000∧-1440≤x.Offset∧x.Offset≤1440)&&wQ x.At r
def L6 (c:Kj):Bool:=decide (-1440≤c.Offset∧c.Offset≤1440)&&decide (c.Changes.length≤16)&&decide (c.Holidays.length≤32)&&wQ (-1) c.Changes&&Bn (-1) c.Holidays
theorem FT {α R A V:Type} {l:List α} (S:A→Int→V) {B:(V→Option R)→V→Option R} {F:A→List α→R} (Inv:Nat→A→Prop) (O:l.length≤4611686018427387904)
  (J:∀ rec a,Inv l.length a→B rec (S a (l.length:Int))=some (F a []))
  (G:∀ (rec:V→Option R) (a:A) (i:Nat) (x:α) (r:List α),Inv i a→l.drop i=x :: r→l[i]?=some x→i < l.length→wi ((i:Int)+1)=((i+1:Nat):Int)→(∀ a,Inv (i+1) a→rec (S a ((i+1:Nat):Int))=some (F a r))→B rec (S a (i:Int))=some (F a (x :: r))) :
  ∀ {n:Nat} (i:Nat) (a:A),Inv i a→i≤l.length→l.length - i < n→Qo B n (S a (i:Int))=some (F a (l.drop i))
 | 0,_,_,_,_,h=>absurd h (Nat.not_lt_zero _)
 | n+1,i,a,U,hi,h=>by
  unfold Qo;by_cases Z:i=l.length
  ·subst Z; rw [J _ _ U]; simp
  ·have hlt:i < l.length:=by omega
   have Y:l.drop i=l[i] :: l.drop (i+1):=by rw [List.drop_eq_getElem_cons hlt]
   rw [Y];exact G _ a i _ _ U Y (by simp [hlt]) hlt (by rw [QD] <;> omega) (fun a U=>FT S Inv O J G (i+1) a U zo zo)
def IA:Int→List Q3→Bool
 | k,[]=>decide (k≤1)
 | k,a :: r=>Da a&&IA (if a.Kind=6 then k+1 else k) r
def Bo:Int→List Q3→Int
 | z,[]=>z
 | z,a :: r=>Bo (if a.Kind=6 then a.Price else z) r
def Ls (t:K5):Bool:=Uj t.Name&&decide (t.Articles.length≤12)&&IA 0 t.Articles
def Gi (m:Int):Int→List XC→Int
 | o,[]=>o
 | o,x :: r=>Gi m (if x.At≤m then x.Offset else o) r
def wkF (d:Int):Int:=if Int.tmod (wi (d+7)) 7=5 then 1 else if Int.tmod (wi (d+7)) 7=6 then 2 else 0
def Bq (d:Int):List Int→Int
 | []=>wkF d
 | x :: r=>if x=d then 2 else Bq d r
theorem NY (d:Int):∀ l,0≤Bq d l∧Bq d l≤2
 | []=>by
  unfold Bq wkF;split
  ·omega
  ·split <;> omega
 | x :: r=>by
  have:=NY d r;unfold Bq; split <;> omega
def NZ (c:Kj) (a:Q3) (m:Int):Bool :=
 let w:=wi (wi (m+Gi m c.Offset c.Changes)+1440)
 decide (a.From≤Int.tmod w 1440)&&decide (Int.tmod w 1440 < a.To)&&!decide (PI .i64 a.Days (vv .i64 1 (Bq (wi (wi (Int.tdiv w 1440) - 1)) c.Holidays))=0)
def cntF (c:Kj) (a:Q3):Nat→Int→Int→Int
 | 0,_,z=>z
 | k+1,m,z=>cntF c a k (m+1) (if NZ c a m then wi (z+1) else z)
def S9 (c:Kj) (a:Q3) (f t:Int):Int :=
 wi (a.Price * wi (Int.tdiv (wi (wi (Jb 0 (cntF c a (t - f).toNat f (wi (0 - a.Free)))+a.Unit) - 1)) a.Unit))
def MP (c:Kj) (a:Q3):Int→List Ho→Int
 | z,[]=>z
 | z,x :: r=>MP c a (if NZ c a x.Minute then wi (z+x.Energy) else z) r
def EM (c:Kj) (s:YG) (a:Q3):Int :=
 if a.Kind=1 then (if NZ c a s.From then a.Price else 0)
 else if a.Kind=2 then wi (Int.tdiv (wi (wi (wi (2 * a.Price) * MP c a 0 s.Slices)+1000)) 2000)
 else if a.Kind=3 then S9 c a s.From s.To
 else if a.Kind=4 then S9 c a s.End s.To
 else 0
def GH (c:Kj) (s:YG):Nat→List Q3→List Z7
 | _,[]=>[]
 | i,a :: r=>if a.Kind=5∨a.Kind=6 then GH c s (i+1) r else ⟨i,EM c s a⟩ :: GH c s (i+1) r
def ku (l:List Z7):Bool:=l.all (fun x=>decide (x.Amount≤1000000000))
def sumF:Int→List Z7→Int
 | z,[]=>z
 | z,x :: r=>sumF (wi (z+x.Amount)) r
def Qd3:Int→List Q3→Int
 | z,[]=>z
 | z,a :: r=>Qd3 (if a.Kind=5 then F4 z a.Price else z) r
def IB (G rate:Int):Int:=wi (Int.tdiv (wi (wi (wi (2 * G) * rate)+10000)) 20000)
def Qbn (t:K5) (z:Int) (l:List Z7):Int:=Qd3 (sumF z l) t.Articles
def lH (t:K5) (rate z:Int) (l:List Z7):Ka:=⟨l,Qbn t z l,IB (Qbn t z l) rate,wi (Qbn t z l+IB (Qbn t z l) rate)⟩
def Qd4 (b:Ka):Bool:=decide (b.Net≤1000000000)&&decide (b.Total≤1000000000)
theorem u7:∀ {l:List Q3} {k:Int},IA k l=true→∀ a ∈ l,Da a=true
 | [],_,_,a,G=>by cases G
 | x :: r,k,h,a,G=>by
  simp only [IA,Ze] at h;rcases List.mem_cons.1 G with rfl | G
  ·exact h.1
  ·exact u7 h.2 a G
def ks:List Nat:=[56,48,40,32,24,16,8,0]
def keyL:List (List UInt8):=((Nc 0).getD [])++(((WL 0).getD [])++(((YL 0).getD [])++((WM 0).getD [])))
theorem cse (b c:Bool):(bif b then b else c)=(b||c):=by cases b <;> rfl
theorem cst (b c:Bool):(bif b then true else c)=(b||c):=by cases b <;> rfl
def keyA:List (List UInt8):=[[102,101,101,100,101,114],[99,97,98,108,101],[111,119,110,101,114],[99,111,110,116,114,97,99,116],[99,104,97,114,103,101,114],[98,97,121],[116,97,114,105,102,102],[108,105,109,105,116],[110,101,117,116,114,97,108],[102,117,115,101],[116,104,101,114,109,97,108],[102,114,111,109],[97,116],[112,104,97,115,101,115],[97,109,112,115],[102,97,108,108,98,97,99,107],[99,97,114,100],[114,97,110,107],[115,116,97,114,116],[101,110,101,114,103,121],[116,105,109,101],[105,100,108,101],[99,97,112],[116,97,120],[111,110],[119,111,114,107],[115,97,116,117,114,100,97,121],[115,117,110,100,97,121],[98,101,116,119,101,101,110],[112,101,114],[102,114,101,101]]
theorem Qbo (s:List UInt8):R6 s=keyA.contains s:=by
 unfold R6 yB keyA;simp only [Qs,QJ,Option.getD_some,cse,cst,Qt,List.contains_cons,List.contains_nil,Bool.or_assoc,Bool.or_false]
theorem Qbp (s:List UInt8):R6 s=keyL.contains s:=by
 rw [Qbo,Bool.eq_iff_iff,List.contains_iff_mem,List.contains_iff_mem];have G:∀ x ∈ keyA,x ∈ keyL:=by decide
 have J:∀ x ∈ keyL,x ∈ keyA:=by decide
 exact ⟨G s,J s⟩
theorem yC (n:Nat) (a:Q3):J9 n a=some (Da a):=by
 unfold J9 Da JE;simp only [zl,Qs,QJ,Option.getD_some,Zo,Qp,leI];rw [QN,Bool.eq_iff_iff];obtain ⟨k,d,f,t,p,u,v⟩:=a;simp only [Bool.cond_eq_ite];by_cases k1:k=1
 ·subst k1; simp; omega
 by_cases Y:k=2
 ·subst Y; simp; omega
 by_cases G:k=3
 ·subst G; simp; omega
 by_cases J:k=4
 ·subst J; simp; omega
 by_cases U:k=5
 ·subst U; simp; omega
 by_cases O:k=6
 ·subst O; simp; omega
 simp [k1,Y,G,J,U,O];omega
theorem QeV (n:Nat) (x:Int):Uc n x=some (decide (-1440≤x∧x≤1440)):=by
 unfold Uc;by_cases h:-1440≤x <;> simp [leI,h]
theorem QgS (n:Nat) (c:Kj) (hn:1000≤n) (hl:c.Holidays.length≤900):UN n c=some (Bn (-1) c.Holidays):=by
 unfold UN;have:=FT (l:=c.Holidays) (fun (_:Int) i=>i) (B:=fun G l6=>JD c G l6) (F:=Bn) (fun i a=>-1≤a∧(i=0→a=-1)∧(i ≠ 0→c.Holidays[i - 1]?=some a)) zo ?_ ?_ (n:=n) 0 (-1) zq zo zo
 ·exact this
 ·intro rec a O;simp only [JD,Qb,List.length_map,Qp];rw [QP zo,cond_false];rfl
 ·intro rec a i x r O hd hx hi hw hr;simp only [JD,Qb,List.length_map,Qp,leI,Zg,hx,QJ,hw];rw [QZ zo,cond_true,Bn];by_cases Y:x < 0
  ·rw [QZ Y];simp only [cond_true,QJ];rw [QP (show ¬ (a < x∧x≤36500) by omega)]; rfl
  rw [QP Y,cond_false];by_cases U:36500 < x
  ·rw [QZ U];simp only [cond_true,QJ];rw [QP (show ¬ (a < x∧x≤36500) by omega)]; rfl
  rw [QP U,cond_false];have J:=hr x ⟨by omega,by omega,fun _=>by simpa using hx⟩;by_cases c3:i=0
  ·rw [QP (show ¬ (0:Int) < i by omega)];simp only [cond_false,QJ];rw [J,QZ (show a < x∧x≤36500 by have:=O.2.1 c3; omega)]; rfl
  ·rw [QZ (show (0:Int) < i by omega),cond_true,show wi ((i:Int) - 1)=((i - 1:Nat):Int) from by rw [QD] <;> omega,Zg,O.2.2 c3];simp only [QJ];by_cases Z:x≤a
   ·rw [QZ Z,cond_true,QP (show ¬ (a < x∧x≤36500) by omega)]; rfl
   ·rw [QP Z,cond_false,J,QZ (show a < x∧x≤36500 by omega)]; rfl
theorem Qbq (n:Nat) (c:Kj) (hn:1000≤n) (h1:c.Changes.length≤900) (h2:c.Holidays.length≤900):JY n c=some (L6 c):=by
 have key:Qo (fun G J=>Vq n c G J) n 0=some (wQ (-1) c.Changes&&Bn (-1) c.Holidays):=by
  have:=FT (l:=c.Changes) (fun (_:Int) i=>i) (B:=fun G J=>Vq n c G J) (F:=fun a r=>wQ a r&&Bn (-1) c.Holidays) (fun i a=>-1≤a∧(i=0→a=-1)∧(i ≠ 0→∃ x,c.Changes[i - 1]?=some x∧x.At=a)) zo ?_ ?_ (n:=n) 0 (-1) zq zo zo
  ·exact this
  ·intro rec a ha;simp only [Vq,Qb,List.length_map,Qp];rw [QP zo,cond_false,QgS n c hn h2];rfl
  ·intro rec a i x r ha hd hx hi hw hr;simp only [Vq,Qb,List.length_map,Qp,leI,Zg,hx,QJ,hw,QeV];rw [QZ zo,cond_true,wQ];by_cases O:-1440≤x.Offset∧x.Offset≤1440;rotate_left
   ·rw [QP O];simp only [Bool.not_false,cond_true,QJ];rw [QP (show ¬ (a < x.At∧x.At≤52560000∧-1440≤x.Offset∧x.Offset≤1440) by omega)]; rfl
   rw [QZ O,Bool.not_true,cond_false];by_cases U:x.At < 0
   ·rw [QZ U];simp only [cond_true,QJ];rw [QP (show ¬ (a < x.At∧x.At≤52560000∧-1440≤x.Offset∧x.Offset≤1440) by omega)]; rfl
   rw [QP U,cond_false];by_cases Z:52560000 < x.At
   ·rw [QZ Z];simp only [cond_true,QJ];rw [QP (show ¬ (a < x.At∧x.At≤52560000∧-1440≤x.Offset∧x.Offset≤1440) by omega)]; rfl
   rw [QP Z,cond_false];have Y:=hr x.At ⟨by omega,by omega,fun _=>⟨x,by simpa using hx,rfl⟩⟩;by_cases c3:i=0
   ·rw [QP (show ¬ (0:Int) < i by omega)];simp only [cond_false,QJ];rw [Y,QZ (show a < x.At∧x.At≤52560000∧-1440≤x.Offset∧x.Offset≤1440 by have:=ha.2.1 c3; omega)]; rfl
   ·obtain ⟨y,hy,aa⟩:=ha.2.2 c3;rw [QZ (show (0:Int) < i by omega),cond_true,show wi ((i:Int) - 1)=((i - 1:Nat):Int) from by rw [QD] <;> omega,Zg,hy];simp only [QJ,aa];by_cases c4:x.At≤a
    ·rw [QZ c4,cond_true,QP (show ¬ (a < x.At∧x.At≤52560000∧-1440≤x.Offset∧x.Offset≤1440) by omega)]; rfl
    ·rw [QP c4,cond_false,Y,QZ (show a < x.At∧x.At≤52560000∧-1440≤x.Offset∧x.Offset≤1440 by omega)]; rfl
 unfold JY L6;rw [key];simp only [QeV,QJ,Qs,Qb,List.length_map,Qp];by_cases O:-1440≤c.Offset∧c.Offset≤1440;rotate_left
 ·rw [QP O]; rfl
 rw [QZ O];by_cases U:c.Changes.length≤16;rotate_left
 ·rw [QZ (show (16:Int) < c.Changes.length by omega),QP U]; rfl
 rw [QP (show ¬ (16:Int) < c.Changes.length by omega),QZ U];by_cases Z:c.Holidays.length≤32;rotate_left
 ·rw [QZ (show (32:Int) < c.Holidays.length by omega),QP Z]; rfl
 rw [QP (show ¬ (32:Int) < c.Holidays.length by omega),QZ Z];rfl
structure Art (a:Q3):Prop where
 days:1≤a.Days∧a.Days≤7
 from_:0≤a.From∧a.From≤1439
 to_:a.From < a.To∧a.To≤1440
 price:0≤a.Price∧a.Price≤1000000
 kind:1≤a.Kind∧a.Kind≤6
 unit:a.Kind=3∨a.Kind=4→1≤a.Unit∧a.Unit≤1440∧0≤a.Free∧a.Free≤1440
 rate:a.Kind=6→a.Price≤10000
theorem R9 {a:Q3} (h:Da a=true):Art a:=by
 unfold Da JE at h;simp only [zl,Qs,QJ,Option.getD_some,Zo,Qp,leI] at h;obtain ⟨k,d,f,t,p,u,v⟩:=a;simp only [Bool.cond_eq_ite] at h;by_cases k1:k=1
 ·subst k1; simp at h; constructor <;> simp <;> omega
 by_cases Y:k=2
 ·subst Y; simp at h; constructor <;> simp <;> omega
 by_cases G:k=3
 ·subst G; simp at h; constructor <;> simp <;> omega
 by_cases J:k=4
 ·subst J; simp at h; constructor <;> simp <;> omega
 by_cases U:k=5
 ·subst U; simp at h; constructor <;> simp <;> omega
 by_cases O:k=6
 ·subst O; simp at h; constructor <;> simp <;> omega
 exfalso;simp [G,J,U,O] at h;omega
theorem zm (m:Int):∀ (l:List XC) (p o:Int),wQ p l=true→(-1440≤o∧o≤1440)→-1440≤Gi m o l∧Gi m o l≤1440
 | [],_,o,_,h=>h
 | x :: r,p,o,hc,h=>by
  simp only [wQ,Ze,decide_eq_true_eq] at hc;unfold Gi;refine zm m r x.At _ hc.2 ?_;split
  ·exact ⟨hc.1.2.2.1,hc.1.2.2.2⟩
  ·exact h
theorem wR {c:Kj} (m:Int) (h:L6 c=true):-1440≤Gi m c.Offset c.Changes∧Gi m c.Offset c.Changes≤1440:=by
 simp only [L6,Ze,decide_eq_true_eq] at h;exact zm m _ _ _ h.1.2 h.1.1.1.1
theorem Qbr (n:Nat) (c:Kj) (m:Int) (hn:1000≤n) (Y:c.Changes.length≤900):FQ n c m=some (Gi m c.Offset c.Changes):=by
 unfold FQ;have:=R8 (l:=c.Changes) (B:=fun G (v:Int × Int)=>WU c m G v.1 v.2) (F:=Gi m) zo ?_ ?_ (n:=n) 0 c.Offset zo zo
 ·exact this
 ·intro rec a; simp [WU,Qp,Qb,Gi]
 ·intro rec a i x r Z U hi O J;simp only [WU,Qb,List.length_map,Zg,U,QJ,O,J,Qp,leI,Gi];rw [QZ zo,cond_true];by_cases h:x.At≤m <;> simp [h]
theorem QgT (n:Nat) (c:Kj) (d:Int) (Z:1000≤n) (h1:c.Changes.length≤900) (h2:c.Holidays.length≤900) (hc:L6 c=true) (O:-1≤d∧d≤36501):T9 n c d=some (Bq d c.Holidays,0):=by
 unfold T9;rw [Qbq n c Z h1 h2,hc];simp only [QJ,Bool.not_true,cond_false,Qp];rw [QP (show ¬ d < -1 by omega),cond_false,QJ,QP (show ¬ 36501 < d by omega),cond_false];have:=R7 (l:=c.Holidays) (B:=fun G J=>Xb c d G J) (F:=fun r=>(Bq d r,(0:Int))) zo ?_ ?_ (n:=n) 0 zo zo
 ·exact this
 ·intro rec;simp only [Xb,Dr,Qb,List.length_map,Qp,Zo,Bq,wkF];rw [QP zo,cond_false];by_cases k1:Int.tmod (wi (d+7)) 7=5
  ·simp [k1]
  ·by_cases Y:Int.tmod (wi (d+7)) 7=6 <;> simp [k1,Y]
 ·intro rec i x r O hx hi hw U;simp only [Xb,Qb,List.length_map,Zg,hx,QJ,hw,U,Qp,Zo,Bq];rw [QZ zo,cond_true];by_cases h:x=d <;> simp [h]
theorem Qbs (d t:Int) (U:1≤d∧d≤7) (O:0≤t∧t≤2) :
  (bif decide (t=2) then decide (Int.tmod (wi (Int.tdiv d 4)) 2=1) else bif decide (t=1) then decide (Int.tmod (wi (Int.tdiv d 2)) 2=1) else decide (Int.tmod d 2=1))=!decide (PI .i64 d (vv .i64 1 t)=0):=by
 have J:d=1∨d=2∨d=3∨d=4∨d=5∨d=6∨d=7:=by omega
 have G:t=0∨t=1∨t=2:=by omega
 rcases J with rfl | rfl | rfl | rfl | rfl | rfl | rfl <;> rcases G with rfl | rfl | rfl <;> decide
theorem yD (n:Nat) (c:Kj) (a:Q3) (m:Int) (O:1000≤n) (U:c.Changes.length≤900) (Z:c.Holidays.length≤900) (hc:L6 c=true) (ha:Da a=true) (hm:0≤m∧m≤52560000) :
  Xc n a c m=some (NZ c a m):=by
 have Y:=wR m hc;have hA:=R9 ha
 have J:LY n c m=some ((m+Gi m c.Offset c.Changes+1440) / 1440 - 1,(m+Gi m c.Offset c.Changes+1440) % 1440,0):=by
  unfold LY;rw [Qbq n c O U Z,hc];simp only [QJ,Bool.not_true,cond_false,Qp];rw [QP (show ¬ m < 0 by omega),cond_false,QJ,QP (show ¬ 52560000 < m by omega),cond_false,Qbr n c m O U,QJ];generalize Gi m c.Offset c.Changes=o at Y;rw [QD (x:=m+o) zo zo];by_cases G:m+o < 0
  ·rw [QZ G,cond_true,QD (x:=m+o - -1440) zo zo];congr 2
   ·omega
   ·congr 1;omega
  ·rw [QP G,cond_false,Int.tdiv_eq_ediv_of_nonneg zo];rw [QD (x:=(m+o) / 1440) zo zo,QD (x:=1440 * ((m+o) / 1440)) zo zo,QD zo zo];congr 2
   ·omega
   ·congr 1;omega
 unfold Xc NZ;rw [yC,ha,J];simp only [QJ,Bool.not_true,cond_false,Zo,decide_true];generalize Gi m c.Offset c.Changes=o at Y;rw [QD (x:=m+o) zo zo,QD (x:=m+o+1440) zo zo];rw [Int.tdiv_eq_ediv_of_nonneg (a:=m+o+1440) zo,Int.tmod_eq_emod_of_nonneg (a:=m+o+1440) zo];rw [QD (x:=(m+o+1440) / 1440) zo zo,QD (x:=(m+o+1440) / 1440 - 1) zo zo];rw [QgT n c _ O U Z hc zo];simp only [QJ,Qs,leI,Qp];rw [Qbs _ _ hA.days (NY _ _)];generalize decide (PI .i64 a.Days (vv .i64 1 (Bq ((m+o+1440) / 1440 - 1) c.Holidays))=0)=b;generalize decide (a.From≤(m+o+1440) % 1440)=b1;generalize decide ((m+o+1440) % 1440 < a.To)=b2;cases b <;> cases b1 <;> cases b2 <;> rfl
def cN (c:Kj) (a:Q3):Nat→Int→Int
 | 0,_=>0
 | k+1,m=>(if NZ c a m then 1 else 0)+cN c a k (m+1)
theorem gp (c:Kj) (a:Q3):∀ (k:Nat) (m:Int),0≤cN c a k m∧cN c a k m≤k
 | 0,_=>by simp [cN]
 | k+1,m=>by
  have:=gp c a k (m+1);unfold cN;split <;> omega
theorem wS (c:Kj) (a:Q3):∀ (k:Nat) (m z:Int),k≤1000000→-1000000≤z∧z≤2000000 - k→cntF c a k m z=z+cN c a k m
 | 0,m,z,_,_=>by simp [cntF,cN]
 | k+1,m,z,G,J=>by
  unfold cntF cN;split
  ·rw [QD zo zo,wS c a k (m+1) (z+1) zo zo];omega
  ·rw [wS c a k (m+1) z zo zo];omega
theorem Aa (n:Nat) (c:Kj) (a:Q3) (f t:Int) (hn:10000≤n) (h1:c.Changes.length≤900) (h2:c.Holidays.length≤900) (hc:L6 c=true) (ha:Da a=true) (hf:0≤f) (ht:t≤52560000) (hk:t - f≤2880) :
  Y7 n a c f t=some (cN c a (t - f).toNat f):=by
 unfold Y7
 have key:∀ (k j:Nat) (z m:Int),(t - m).toNat=k→k < j→0≤m→k≤2880→0≤z∧z≤3000 - k →
   Qo (fun G (v:Int × Int)=>KZ n a c t G v.1 v.2) j (z,m)=some (z+cN c a k m):=by
  intro k
  induction k with
  | zero =>
   intro j z m h3 h4 h5 Y Z;obtain ⟨j,rfl⟩:∃ J,j=J+1:=⟨j - 1,by omega⟩;unfold Qo;simp only [KZ,Qp];rw [QP zo,cond_false];simp [cN]
  | succ k U =>
   intro j z m h3 h4 h5 Y Z;obtain ⟨j,rfl⟩:∃ J,j=J+1:=⟨j - 1,by omega⟩;have i0:=U j z (m+1) zo zo zo zo zo;have O:=U j (z+1) (m+1) zo zo zo zo zo;unfold Qo;generalize Qo (fun G (v:Int × Int)=>KZ n a c t G v.1 v.2) j=L at i0 O ⊢;show KZ n a c t L z m=_;unfold KZ;simp only [Qp];rw [QZ zo,cond_true,yD n c a m zo h1 h2 hc ha zo,QJ,QD (x:=m+1) zo zo,QD (x:=z+1) zo zo];unfold cN;cases NZ c a m
   ·rw [cond_false,i0];simp
   ·rw [cond_true,O];simp;omega
 have:=key (t - f).toNat n 0 f rfl zo hf zo zo;rw [Int.zero_add] at this;exact this
def slB (f e:Int):Int→List Ho→Bool
 | _,[]=>true
 | p,x :: r=>decide (f≤x.Minute∧x.Minute < e∧0≤x.Energy∧x.Energy≤10000∧p < x.Minute)&&slB f e x.Minute r
def kw (s:YG):Bool:=decide (0≤s.From∧s.From < s.To∧s.To≤52560000∧s.To - s.From≤2880∧s.From≤s.End∧s.End≤s.To∧s.Slices.length≤48)&&slB s.From s.End (s.From - 1) s.Slices
theorem IC (n:Nat) (s:YG) (hn:1000≤n) (hl:s.Slices.length≤900) (hb:RH s.From):LZ n s=some (kw s):=by
 unfold RH at hb;unfold LZ kw;simp only [Qp,leI,Qb,List.length_map]
 have key:Qo (fun G l8=>VV s G l8) n 0=some (slB s.From s.End (s.From - 1) s.Slices):=by
  have:=FT (l:=s.Slices) (fun (_:Int) i=>i) (B:=fun G l8=>VV s G l8) (F:=slB s.From s.End) (fun i a=>s.From - 1≤a∧(i=0→a=s.From - 1)∧(i ≠ 0→∃ x,s.Slices[i - 1]?=some x∧x.Minute=a)) zo ?_ ?_ (n:=n) 0 (s.From - 1) zq zo zo
  ·exact this
  ·intro rec a ha;simp only [VV,Qb,List.length_map,Qp];rw [QP zo,cond_false];rfl
  ·intro rec a i x r ha hd hx hi hw hr;simp only [VV,Qb,List.length_map,Qp,leI,Zg,hx,QJ,hw];rw [QZ zo,cond_true,slB];by_cases J:x.Minute < s.From
   ·rw [QZ J,cond_true,QJ,cond_true,QP zo]; rfl
   rw [QP J,cond_false];by_cases Z:s.End≤x.Minute
   ·rw [QZ Z,cond_true,QJ,cond_true,QP zo]; rfl
   rw [QP Z,cond_false];by_cases c3:x.Energy < 0
   ·rw [QZ c3,cond_true,QJ,cond_true,QP zo]; rfl
   rw [QP c3,cond_false];by_cases O:10000 < x.Energy
   ·rw [QZ O,cond_true,QJ,cond_true,QP zo]; rfl
   rw [QP O,cond_false];have U:=hr x.Minute ⟨by omega,by omega,fun _=>⟨x,by simpa using hx,rfl⟩⟩;by_cases Y:i=0
   ·rw [QP (show ¬ (0:Int) < i by omega),cond_false,QJ,cond_false,U,QZ (show s.From≤x.Minute∧x.Minute < s.End∧0≤x.Energy∧x.Energy≤10000∧a < x.Minute by have:=ha.2.1 Y; omega)]; rfl
   ·obtain ⟨y,hy,aa⟩:=ha.2.2 Y;rw [QZ (show (0:Int) < i by omega),cond_true,show wi ((i:Int) - 1)=((i - 1:Nat):Int) from by rw [QD] <;> omega,Zg,hy];simp only [QJ,aa];by_cases c6:x.Minute≤a
    ·rw [QZ c6,cond_true,QP (show ¬ (s.From≤x.Minute∧x.Minute < s.End∧0≤x.Energy∧x.Energy≤10000∧a < x.Minute) by omega)]; rfl
    ·rw [QP c6,cond_false,U,QZ (show s.From≤x.Minute∧x.Minute < s.End∧0≤x.Energy∧x.Energy≤10000∧a < x.Minute by omega)]; rfl
 rw [key];by_cases J:s.From < 0
 ·rw [QZ J,cond_true,QJ,cond_true,QP zo]; rfl
 rw [QP J,cond_false];by_cases Z:s.To≤s.From
 ·rw [QZ Z,cond_true,QJ,cond_true,QP zo]; rfl
 rw [QP Z,cond_false];by_cases c3:52560000 < s.To
 ·rw [QZ c3,cond_true,QJ,cond_true,QP zo]; rfl
 rw [QP c3,cond_false,QD (x:=s.To - s.From) zo zo];by_cases O:2880 < s.To - s.From
 ·rw [QZ O,cond_true,QJ,cond_true,QP zo]; rfl
 rw [QP O,cond_false];by_cases Y:s.End < s.From
 ·rw [QZ Y,cond_true,QJ,cond_true,QP zo]; rfl
 rw [QP Y,cond_false];by_cases c6:s.To < s.End
 ·rw [QZ c6,cond_true,QJ,cond_true,QP zo]; rfl
 rw [QP c6,cond_false,QJ];by_cases c7:s.Slices.length≤48
 ·rw [QP (show ¬ (48:Int) < s.Slices.length by omega),cond_false,QZ (show 0≤s.From∧s.From < s.To∧s.To≤52560000∧s.To - s.From≤2880∧s.From≤s.End∧s.End≤s.To∧s.Slices.length≤48 by omega)]; rfl
 ·rw [QZ (show (48:Int) < s.Slices.length by omega),cond_true,QP (show ¬ (0≤s.From∧s.From < s.To∧s.To≤52560000∧s.To - s.From≤2880∧s.From≤s.End∧s.End≤s.To∧s.Slices.length≤48) by omega)]; rfl
theorem wU {f e:Int}:∀ {l:List Ho} {p:Int},slB f e p l=true→∀ x ∈ l,f≤x.Minute∧x.Minute < e∧0≤x.Energy∧x.Energy≤10000
 | [],_,_,x,G=>by cases G
 | y :: r,p,h,x,G=>by
  simp only [slB,Ze,decide_eq_true_eq] at h;rcases List.mem_cons.1 G with rfl | G
  ·omega
  ·exact wU h.2 x G
theorem Db (c:Kj) (a:Q3):∀ (l:List Ho) (z:Int),(∀ x ∈ l,0≤x.Energy∧x.Energy≤10000)→0≤z→z+10000 * l.length≤10000000→0≤MP c a z l∧MP c a z l≤z+10000 * l.length
 | [],z,_,h0,J=>by
  show 0≤z∧z≤z+10000 * ((0:Nat):Int);omega
 | x :: r,z,h,h0,J=>by
  have O:=h x List.mem_cons_self;simp only [Y9] at J ⊢;unfold MP;split
  ·rw [QD zo zo];have:=Db c a r (z+x.Energy) (fun y G=>h y (List.mem_cons_of_mem _ G)) zo zo;omega
  ·have:=Db c a r z (fun y G=>h y (List.mem_cons_of_mem _ G)) zo zo;omega
theorem Qbt (n:Nat) (c:Kj) (a:Q3) (s:YG) (Y:1000≤n) (h1:c.Changes.length≤900) (h2:c.Holidays.length≤900) (hc:L6 c=true) (ha:Da a=true) (hl:s.Slices.length≤900) (hs:∀ x ∈ s.Slices,0≤x.Minute∧x.Minute≤52560000) :
  FR n a c s=some (MP c a 0 s.Slices):=by
 unfold FR;have:=R8 (l:=s.Slices) (B:=fun G (v:Int × Int)=>Ym n a c s G v.1 v.2) (F:=MP c a) zo ?_ ?_ (n:=n) 0 0 zo zo
 ·exact this
 ·intro rec z;have h:Qp ((s.Slices.length:Nat):Int) (Qb (List.map Ho.cs s.Slices))=false:=by simp [Qp,Qb]
  show Ym n a c s rec z ((s.Slices.length:Nat):Int)=some z;unfold Ym;rw [h,cond_false]
 ·intro rec z i x r hd O hi Z J
  have U:Qp (i:Int) (Qb (List.map Ho.cs s.Slices))=true:=by
   simp only [Qp,Qb,List.length_map];rw [QZ zo]
  show Ym n a c s rec z (i:Int)=some (MP c a z (x :: r));unfold Ym MP;rw [U,cond_true,Zg,O,QJ,yD n c a x.Minute Y h1 h2 hc ha (hs x (List.mem_of_getElem? O)),QJ,QJ,Z,J,J];cases NZ c a x.Minute
  ·rfl
  ·rfl
theorem Ud (n:Nat) (x:Int):Yf n x=some (decide (0≤x∧x≤1000000000)):=by
 unfold Yf;by_cases h:0≤x <;> simp [leI,h]
theorem Ab (n:Nat) (x:Int) (h:0≤x):KN n x=some (if x≤1000000000 then (x,0) else (0,3)):=by
 unfold KN;rw [Ud,QJ];by_cases G:x≤1000000000
 ·rw [QZ ⟨h,G⟩,if_pos G]; rfl
 ·rw [QP (fun h=>G h.2),if_neg G]; rfl
theorem Ac {x y X Y:Int} (G:0≤x∧x≤X) (J:0≤y∧y≤Y):0≤x * y∧x * y≤X * Y :=
 ⟨Int.mul_nonneg G.1 J.1,Int.mul_le_mul G.2 J.2 J.1 (Int.le_trans G.1 G.2)⟩
theorem dL (n:Nat) (p q:Int) (hp:0≤p∧p≤1000000) (hq:0≤q∧q≤480000) :
  JZ n p q 1000=some (if wi (Int.tdiv (wi (wi (wi (2 * p) * q)+1000)) 2000)≤1000000000 then (wi (Int.tdiv (wi (wi (wi (2 * p) * q)+1000)) 2000),0) else (0,3))∧0≤wi (Int.tdiv (wi (wi (wi (2 * p) * q)+1000)) 2000):=by
 have hb:=Ac hp hq;have Z:wi (p * q)=p * q:=QD zo zo;have Y:wi (2 * p)=2 * p:=QD zo zo;have e3:2 * p * q=2 * (p * q):=Int.mul_assoc ..;have U:wi (2 * (p * q))=2 * (p * q):=QD zo zo;have G:wi (2 * (p * q)+1000)=2 * (p * q)+1000:=QD zo zo;have J:Int.tdiv (2 * (p * q)+1000) 2000=(2 * (p * q)+1000) / 2000:=Int.tdiv_eq_ediv_of_nonneg zo;have O:wi ((2 * (p * q)+1000) / 2000)=(2 * (p * q)+1000) / 2000:=QD zo zo;rw [Y,e3,U,G,J,O];refine ⟨?_,by omega⟩;unfold JZ Y6;simp only [Ud,QJ];rw [QZ (show 0≤p∧p≤1000000000 by omega),QZ (show 0≤q∧q≤1000000000 by omega)];simp only [Bool.not_true,cond_false,QJ,show Qp 1000 1=false from rfl,show Qp 1000000000 1000=false from rfl];rw [show wi (2 * 1000)=2000 from rfl,show (!Qr 2000 0)=true from rfl,cond_true,QJ,Z,U,G,J,O,Ab n _ zo,QJ]
theorem lI (n:Nat) (p q u:Int) (hp:0≤p∧p≤1000000) (hq:0≤q∧q≤3000) (hu:1≤u∧u≤1440) :
  KO n p q u=some (if wi (p * wi (Int.tdiv (wi (wi (q+u) - 1)) u))≤1000000000 then (wi (p * wi (Int.tdiv (wi (wi (q+u) - 1)) u)),0) else (0,3))∧0≤wi (p * wi (Int.tdiv (wi (wi (q+u) - 1)) u)):=by
 have J:wi (q+u)=q+u:=QD zo zo;have G:wi (q+u - 1)=q+u - 1:=QD zo zo;have O:Int.tdiv (q+u - 1) u=(q+u - 1) / u:=Int.tdiv_eq_ediv_of_nonneg zo
 have Z:0≤(q+u - 1) / u∧(q+u - 1) / u≤5000:=by
  constructor
  ·exact Int.ediv_nonneg zo zo
  ·have:=Int.ediv_le_self (a:=q+u - 1) u zo;omega
 have Y:wi ((q+u - 1) / u)=(q+u - 1) / u:=QD zo zo;have hb:=Ac hp Z;have U:wi (p * ((q+u - 1) / u))=p * ((q+u - 1) / u):=QD zo zo;rw [J,G,O,Y,U];refine ⟨?_,hb.1⟩;unfold KO;simp only [Ud,QJ];rw [QZ (show 0≤p∧p≤1000000000 by omega),QZ (show 0≤q∧q≤1000000000 by omega)];simp only [Bool.not_true,cond_false,Qp,Zo];rw [QP (show ¬ u < 1 by omega),cond_false,QJ,QP (show ¬ 1000000000 < u by omega),cond_false,QP (show ¬ u=0 by omega),Bool.not_false,cond_true,J,G,O,Y,U,Ab n _ hb.1,QJ]
theorem Qbu (n:Nat) (c:Kj) (a:Q3) (f t:Int) (hn:10000≤n) (h1:c.Changes.length≤900) (h2:c.Holidays.length≤900) (hc:L6 c=true) (O:Da a=true) (G:a.Kind=3∨a.Kind=4) (hf:0≤f) (ht:t≤52560000) (Y:t - f≤2880) :
  ((Y7 n a c f t).bind fun r=>(KO n a.Price (Jb 0 (wi (r - a.Free))) a.Unit).bind fun r=>some (r.1,r.2))=some (if S9 c a f t≤1000000000 then (S9 c a f t,0) else (0,3))∧0≤S9 c a f t:=by
 have J:=R9 O;have U:=J.unit G;have Z:=gp c a (t - f).toNat f
 have eq:Jb 0 (wi (cN c a (t - f).toNat f - a.Free))=Jb 0 (cntF c a (t - f).toNat f (wi (0 - a.Free))):=by
  rw [QD (x:=0 - a.Free) zo zo,wS c a _ _ _ zo zo,QD zo zo];congr 1;omega
 have hq:0≤Jb 0 (wi (cN c a (t - f).toNat f - a.Free))∧Jb 0 (wi (cN c a (t - f).toNat f - a.Free))≤3000:=by
  rw [QD zo zo];unfold Jb;split <;> omega
 have hs:=lI n a.Price _ a.Unit J.price hq ⟨U.1,U.2.1⟩;rw [eq] at hs;unfold S9;refine ⟨?_,hs.2⟩;rw [Aa n c a f t hn h1 h2 hc O hf ht Y,QJ,eq,hs.1,QJ]
theorem QgU (n:Nat) (c:Kj) (a:Q3) (s:YG) (hn:10000≤n) (Z:c.Changes.length≤900) (Y:c.Holidays.length≤900) (hc:L6 c=true) (G:Da a=true) (hv:kw s=true) :
  EK n a c s=some (if EM c s a≤1000000000 then (EM c s a,0) else (0,3))∧0≤EM c s a:=by
 have hA:=R9 G;have O:=hv;simp only [kw,Ze,decide_eq_true_eq] at O;obtain ⟨hr,hs⟩:=O;unfold EK EM;rw [yC,Qbq n c zo Z Y,IC n s zo zo (by unfold RH; omega),G,hc,hv];simp only [QJ,Bool.not_true,cond_false,Zo];by_cases k1:a.Kind=1
 ·rw [QZ k1,cond_true,if_pos k1,QD (x:=s.From+1) zo zo,Aa n c a s.From (s.From+1) hn Z Y hc G hr.1 zo zo,QJ];rw [show (s.From+1 - s.From).toNat=1 from by omega];unfold cN cN;have:=hA.price;cases NZ c a s.From
  ·refine ⟨?_,by simp⟩;simp;rfl
  ·rw [if_pos rfl,if_pos rfl,if_pos zo,show (1:Int)+0=1 from rfl,Int.mul_one,QD zo zo];exact ⟨rfl,this.1⟩
 rw [QP k1,cond_false,if_neg k1];by_cases k2:a.Kind=2
 ·rw [QZ k2,cond_true,if_pos k2];have hm:=wU hs;rw [Qbt n c a s zo Z Y hc G zo (fun x hx=>by have:=hm x hx; omega),QJ];have he:=Db c a s.Slices 0 (fun x hx=>by have:=hm x hx; omega) zo zo;have ht:=dL n a.Price (MP c a 0 s.Slices) hA.price zo;refine ⟨?_,ht.2⟩;rw [ht.1,QJ]
 rw [QP k2,cond_false,if_neg k2];by_cases U:a.Kind=3
 ·rw [QZ U,cond_true,if_pos U];exact Qbu n c a s.From s.To hn Z Y hc G (Or.inl U) hr.1 zo zo
 rw [QP U,cond_false,if_neg U];by_cases J:a.Kind=4
 ·rw [QZ J,cond_true,if_pos J];exact Qbu n c a s.End s.To hn Z Y hc G (Or.inr J) zo zo zo
 rw [QP J,cond_false,if_neg J];exact ⟨rfl,by omega⟩
theorem Qbv {l:List α} {x:α} {r:List α} (h:l.drop i=x :: r) (hi:i < l.length):l.length - (r.length+1)=i∧l.length - r.length=i+1:=by
 have:=congrArg List.length h;simp only [List.length_drop,Y9] at this;omega
theorem lJ (x:Z7) (r:List Z7):ku (x :: r)=(decide (x.Amount≤1000000000)&&ku r):=by
 unfold ku;rw [List.all_cons]
def gq:Int→List Q3→Int
 | k,[]=>k
 | k,a :: r=>gq (if a.Kind=5 then (if k < 0∨a.Price < k then a.Price else k) else k) r
def EN (k z:Int):Int:=if 0≤k∧k < z then k else z
theorem nK:∀ (l:List Q3) (k z:Int),(∀ a ∈ l,0≤a.Price)→Qd3 (EN k z) l=EN (gq k l) z
 | [],k,z,_=>rfl
 | a :: r,k,z,h=>by
  have Y:=h a List.mem_cons_self;unfold Qd3 gq;by_cases J:a.Kind=5
  ·rw [if_pos J,if_pos J,← nK r _ z (fun x O=>h x (List.mem_cons_of_mem _ O))];congr 1;unfold EN F4;by_cases U:0≤k∧k < z
   ·rw [if_pos U];by_cases G:k < 0∨a.Price < k
    ·rw [if_pos G];split <;> first | omega | (split <;> omega)
    ·rw [if_neg G];split <;> first | omega | (split <;> omega)
   ·rw [if_neg U];by_cases G:k < 0∨a.Price < k
    ·rw [if_pos G];split <;> first | omega | (split <;> omega)
    ·rw [if_neg G];split <;> first | omega | (split <;> omega)
  ·rw [if_neg J,if_neg J];exact nK r k z (fun x O=>h x (List.mem_cons_of_mem _ O))
theorem QiY (n:Nat) (G rate:Int) (O:0≤G∧G≤1000000000) (J:0≤rate∧rate≤10000):XJ n G rate=some (IB G rate,0)∧0≤IB G rate∧IB G rate≤G+1:=by
 have hb:=Ac O J;have aa:G * rate≤G * 10000:=Int.mul_le_mul_of_nonneg_left J.2 O.1;have e1:wi (G * rate)=G * rate:=QD zo zo;have e2:wi (2 * G)=2 * G:=QD zo zo;have e3:2 * G * rate=2 * (G * rate):=Int.mul_assoc ..;have e4:wi (2 * (G * rate))=2 * (G * rate):=QD zo zo;have U:wi (2 * (G * rate)+10000)=2 * (G * rate)+10000:=QD zo zo;have Y:Int.tdiv (2 * (G * rate)+10000) 20000=(2 * (G * rate)+10000) / 20000:=Int.tdiv_eq_ediv_of_nonneg zo;have Z:wi ((2 * (G * rate)+10000) / 20000)=(2 * (G * rate)+10000) / 20000:=QD zo zo;unfold IB;rw [e2,e3,e4,U,Y,Z];refine ⟨?_,by omega,by omega⟩;unfold XJ Y6;simp only [Ud,QJ,Qp];rw [QZ (show 0≤G∧G≤1000000000 by omega),Bool.not_true,cond_false,QP (show ¬ rate < 0 by omega),cond_false,QJ,QP (show ¬ 100000 < rate by omega),cond_false];rw [show wi (2 * 10000)=20000 from rfl,show (!Qr 20000 0)=true from rfl,cond_true,QJ,e1,e4,U,Y,Z,Ab n _ zo,QJ,if_pos zo]
def zn:Ka:=⟨[],0,0,0⟩
theorem nL (n:Nat) (s:List UInt8) (hn:1000≤n):X3 n s=some (decide (1≤s.length∧s.length≤12)&&decide (∀ x ∈ s.head?,97≤Zv x∧Zv x≤122)&&s.all wP):=by
 unfold X3;simp only [Qb,Qp];cases s with
 | nil=>simp
 | cons x r =>
  rw [QP (show ¬ (((x :: r).length:Nat):Int) < 1 by simp only [Y9]; omega),cond_false];by_cases hl:(x :: r).length≤12;rotate_left
  ·rw [QZ (show (12:Int) < (((x :: r).length:Nat):Int) by omega),QP (show ¬ (1≤(x :: r).length∧(x :: r).length≤12) by omega)]; rfl
  rw [QP (show ¬ (12:Int) < (((x :: r).length:Nat):Int) by omega),cond_false,QZ (show 1≤(x :: r).length∧(x :: r).length≤12 by simp only [Y9] at hl ⊢; omega)];rw [show QY (x :: r) 0=some x from rfl]
  have J:Qo (fun G O=>Yt (x :: r) G O) n 1=some (r.all wP):=by
   have:=R7 (l:=x :: r) (B:=fun G O=>Yt (x :: r) G O) (F:=fun r=>r.all wP) zo ?_ ?_ (n:=n) 1 zq zo
   ·simpa using this
   ·intro rec; simp [Yt,Qp,Qb]
   ·intro rec i y q hd hx hi hw hr;unfold Yt;simp only [Qb,Zg,hx,QJ,hw,hr,Qp,leI,Qr,Qs];rw [QZ zo,cond_true,List.all_cons];rw [Qd2,wP];cases decide ((97≤Zv y∧Zv y≤122)∨(48≤Zv y∧Zv y≤57)∨Zv y=95) <;> simp
  rw [J];simp only [QJ,Qs,List.head?_cons,Option.mem_def,QN,forall_eq',Bool.true_and,List.all_cons];by_cases Z:Zv x < 97
  ·rw [QZ Z,QP (show ¬ (97≤Zv x∧Zv x≤122) by omega)]; rfl
  ·rw [QP Z,cond_false];by_cases Y:122 < Zv x
   ·rw [QZ Y,QP (show ¬ (97≤Zv x∧Zv x≤122) by omega)]; rfl
   ·have U:97≤Zv x∧Zv x≤122:=by omega
    have h4:wP x=true:=by unfold wP; rw [QZ]; exact Or.inl U
    rw [QP Y,QZ U,h4]; rfl
theorem cnz (b:Bool) (k r:Int) (G:k ≠ 0):(!Qr (bif b then k else r) 0)=(b||!Qr r 0):=by
 cases b
 ·rfl
 ·simp [Qr,G]
theorem wV (n:Nat) (s:List UInt8):UF n s=some (R6 s):=by
 unfold UF Vv Yr Kb YS;rw [Qbp];simp only [Qs,QJ,cse,cst,keyL,Nc,WL,YL,WM,Option.getD_some,List.cons_append,List.nil_append,List.contains_cons,List.contains_nil,Bool.or_false,Qt];rw [cnz _ 1 _ (by decide),cnz _ 2 _ (by decide),cnz _ 3 _ (by decide),cnz _ 4 _ (by decide),cnz _ 5 _ (by decide),cnz _ 6 _ (by decide),cnz _ 7 _ (by decide),show (!Qr 0 0)=false from rfl];simp only [Bool.or_assoc,Bool.or_false]
theorem N7 (n:Nat) (s:List UInt8) (G:1000≤n):Jv n s=some (Uj s):=by
 unfold Jv Uj;rw [nL n s G,QJ,wV,QJ,Qs];generalize decide (1≤s.length∧s.length≤12)=a;generalize decide (∀ x ∈ s.head?,97≤Zv x∧Zv x≤122)=b;generalize s.all wP=c;generalize R6 s=d;cases a <;> cases b <;> cases c <;> cases d <;> rfl
theorem Qbw (k:Int) (s:List UInt8) (m t:Int) (l:List (List PV)):GN.of (GN.cs ⟨k,s,m,t,l⟩)=some ⟨k,s,m,t,l⟩:=by
 unfold GN.cs GN.of;simp only [Wi,Tv,if_true]
theorem Qbx (n:Nat) (s:List UInt8) (O:1000≤n):WI n (⟨1,[],0,0,[GN.cs (⟨2,s,3,0,[]⟩:GN)]⟩:GN)=some (Uj s):=by
 obtain ⟨m,rfl⟩:∃ m,n=m+2:=⟨n - 2,by omega⟩
 have G:Vx (m+2) (⟨2,s,3,0,[]⟩:GN) 1498=some (Uj s,1498):=by
  unfold Vx;rw [N7 (m+2) s O];simp only [show (!Qr 2 2)=false from rfl,show Qp 3 1=false from rfl,show Qp 7 3=false from rfl,cond_false,QJ];cases Uj s
  ·rfl
  ·unfold Qo; rfl
 unfold WI;have U:((bif !Qr 1 1 then some true else bif !Qt [] [] then some true else bif !Qr 0 0 then some true else some (Qp (wi (1499 - Qb (List.map Zy [GN.cs (⟨2,s,3,0,[]⟩:GN)]))) 0)))=some false:=rfl;have J:wi (1499 - Qb (List.map Zy [GN.cs (⟨2,s,3,0,[]⟩:GN)]))=1498:=rfl;simp only;rw [U,QJ,cond_false,J];unfold Qo;simp only [Wp];rw [show Qp 0 (Qb (List.map Zy [GN.cs (⟨2,s,3,0,[]⟩:GN)]))=true from rfl,cond_true,show QY [GN.cs (⟨2,s,3,0,[]⟩:GN)] 0=some (GN.cs (⟨2,s,3,0,[]⟩:GN)) from rfl,QJ,Qbw,QJ,G,QJ];cases Uj s
 ·rfl
 ·unfold Qo; rfl
theorem Qby (n:Nat) (x a b:Int):YT n x a b=some (decide (a≤x∧x≤b)):=by
 unfold YT leI;by_cases h:a≤x <;> simp [h]
theorem Ad (n:Nat) (a:Q3):Kn n a=some (Da a):=by
 have bad:¬ Art a→some false=some (Da a):=by
  intro h;cases hb:Da a
  ·rfl
  ·exact absurd (R9 hb) h
 unfold Kn XE Xp;simp only [Qby,QJ];by_cases G:1≤a.Kind∧a.Kind≤6;rotate_left
 ·rw [QP G]; exact bad (fun h=>G h.kind)
 rw [QZ G];by_cases J:0≤a.From∧a.From≤1439;rotate_left
 ·rw [QP J]; exact bad (fun h=>J h.from_)
 rw [QZ J,QD (x:=a.From+1) zo zo];by_cases O:a.From+1≤a.To∧a.To≤1440;rotate_left
 ·rw [QP O]; exact bad (fun h=>by have:=h.to_; omega)
 rw [QZ O];by_cases c8:1≤a.Days∧a.Days≤7;rotate_left
 ·rw [QP c8]; exact bad (fun h=>c8 h.days)
 rw [QZ c8];unfold Da JE;simp only [zl,Qs,QJ,Option.getD_some,Zo,Bool.not_true,cond_false];rw [QN,Bool.eq_iff_iff];obtain ⟨k,d,f,t,p,u,v⟩:=a;simp only at G J O c8;simp only [Bool.cond_eq_ite];have U:k=1∨k=2∨k=3∨k=4∨k=5∨k=6:=by omega
 rcases U with rfl | rfl | rfl | rfl | rfl | rfl <;> simp [leI,Qp] <;> omega
theorem Qbz (n:Nat) (t:K5) (Z:1000≤n):UI n t=some (Ls t):=by
 unfold UI Ls;rw [Qbx n t.Name Z];simp only [QJ,Qs,Qb,List.length_map,Qp];cases hname:Uj t.Name
 ·rfl
 by_cases Y:t.Articles.length≤12;rotate_left
 ·rw [QZ (show (12:Int) < t.Articles.length by omega),QP Y]; rfl
 rw [QP (show ¬ (12:Int) < t.Articles.length by omega),QZ Y];simp only [Bool.not_true,cond_false,Bool.true_and];have:=FT (l:=t.Articles) (fun (a:Int) i=>(a,i)) (B:=fun G (v:Int × Int)=>Jy n t G v.1 v.2) (F:=IA) (fun i a=>0≤a∧a≤i) zo ?_ ?_ (n:=n) 0 0 zo zo zo
 ·exact this
 ·intro rec a ha;simp only [Jy,Qb,List.length_map,Qp,leI];rw [QP zo,cond_false];rfl
 ·intro rec a i x r ha hd hx hi hw U;simp only [Jy,Qb,List.length_map,Qp,Zg,hx,QJ,Ad,hw,Zo];rw [QZ zo,cond_true,IA];cases hb:Da x
  ·rfl
  ·have O:wi (a+1)=a+1:=QD zo zo;simp only [Bool.not_true,cond_false,Bool.true_and];by_cases J:x.Kind=6
   ·rw [QZ J,cond_true,if_pos J,O,U _ zo]
   ·rw [QP J,cond_false,if_neg J,U _ zo]
def nM:Int→List XC→Bool
 | _,[]=>true
 | a,x :: r=>decide (a < x.At∧x.At≤52560000)&&nM x.At r
def chO (l:List XC):Bool:=l.all (fun x=>decide (-1440≤x.Offset∧x.Offset≤1440))
theorem wW:∀ (l:List XC) (a:Int),wQ a l=(chO l&&nM a l)
 | [],_=>rfl
 | x :: r,a=>by
  unfold wQ nM;rw [wW r x.At,show chO (x :: r)=(decide (-1440≤x.Offset∧x.Offset≤1440)&&chO r) from List.all_cons];by_cases G:a < x.At∧x.At≤52560000
  ·by_cases J:-1440≤x.Offset∧x.Offset≤1440
   ·rw [QZ (show a < x.At∧x.At≤52560000∧-1440≤x.Offset∧x.Offset≤1440 by omega),QZ G,QZ J]; rfl
   ·rw [QP (show ¬ (a < x.At∧x.At≤52560000∧-1440≤x.Offset∧x.Offset≤1440) by omega),QP J]; rfl
  ·rw [QP (show ¬ (a < x.At∧x.At≤52560000∧-1440≤x.Offset∧x.Offset≤1440) by omega),QP G];simp
theorem MC (n:Nat) (x a b:Int):YC n x a b=some (decide (a≤x∧x≤b)):=by
 unfold YC leI;by_cases h:a≤x <;> simp [h]
theorem Qd6 (n:Nat) (l:List XC) (hn:1000≤n) (hl:l.length≤900):Wy n l 52560000=some (nM (-1) l):=by
 unfold Wy;have:=R8 (l:=l) (B:=fun G (v:Int × Int)=>KY n l 52560000 G v.1 v.2) (F:=nM) zo ?_ ?_ (n:=n) 0 (-1) zo zo
 ·exact this
 ·intro rec a; simp [KY,Qp,Qb,nM]
 ·intro rec a i x r hd Z hi Y U;simp only [KY,WJ,Qb,List.length_map,Zg,Z,QJ,Y,U,Qp,leI,nM,Qs];rw [QZ zo,cond_true];by_cases O:x.At≤a
  ·rw [QZ O,QP (show ¬ (a < x.At∧x.At≤52560000) by omega)]; rfl
  ·rw [QP O];by_cases J:52560000 < x.At
   ·rw [QZ J,QP (show ¬ (a < x.At∧x.At≤52560000) by omega)]; rfl
   ·rw [QP J,QZ (show a < x.At∧x.At≤52560000 by omega)]; rfl
theorem Qd7 (n:Nat) (l:List Int) (hn:1000≤n) (hl:l.length≤900):Bf n l 36500=some (Bn (-1) l):=by
 unfold Bf;have:=R8 (l:=l) (B:=fun G (v:Int × Int)=>XG n l 36500 G v.1 v.2) (F:=Bn) zo ?_ ?_ (n:=n) 0 (-1) zo zo
 ·exact this
 ·intro rec a; simp [XG,Qp,Qb,Bn]
 ·intro rec a i x r hd Z hi Y U;simp only [XG,WK,Qb,List.length_map,Zg,Z,QJ,Y,U,Qp,leI,Bn,Qs];rw [QZ zo,cond_true];by_cases O:x≤a
  ·rw [QZ O,QP (show ¬ (a < x∧x≤36500) by omega)]; rfl
  ·rw [QP O];by_cases J:36500 < x
   ·rw [QZ J,QP (show ¬ (a < x∧x≤36500) by omega)]; rfl
   ·rw [QP J,QZ (show a < x∧x≤36500 by omega)]; rfl
theorem QbA (n:Nat) (c:Kj) (Y:1000≤n) (h1:c.Changes.length≤900) (h2:c.Holidays.length≤900):Yz n c=some (L6 c):=by
 have key:Qo (fun G J=>Yu n c G J) n 0=some (chO c.Changes&&(nM (-1) c.Changes&&Bn (-1) c.Holidays)):=by
  have:=R7 (l:=c.Changes) (B:=fun G J=>Yu n c G J) (F:=fun r=>chO r&&(nM (-1) c.Changes&&Bn (-1) c.Holidays)) zo ?_ ?_ (n:=n) 0 zo zo
  ·exact this
  ·intro rec;simp only [Yu,Y3,Qb,List.length_map,Qp,Qd6 n _ Y h1,Qd7 n _ Y h2,QJ,Qs];rw [QP zo,cond_false];cases nM (-1) c.Changes <;> rfl
  ·intro rec i x r hd hx hi hw hr;simp only [Yu,Qb,List.length_map,Zg,hx,QJ,hw,hr,Qp,MC];rw [QZ zo,cond_true,show chO (x :: r)=(decide (-1440≤x.Offset∧x.Offset≤1440)&&chO r) from List.all_cons];cases decide (-1440≤x.Offset∧x.Offset≤1440) <;> rfl
 unfold Yz L6;rw [key,wW];simp only [MC,QJ,Qs,Qb,List.length_map,Qp];by_cases U:c.Changes.length≤16;rotate_left
 ·rw [QZ (show (16:Int) < c.Changes.length by omega),QP U]; simp
 rw [QP (show ¬ (16:Int) < c.Changes.length by omega),QZ U];by_cases O:c.Holidays.length≤32;rotate_left
 ·rw [QZ (show (32:Int) < c.Holidays.length by omega),QP O]; simp
 rw [QP (show ¬ (32:Int) < c.Holidays.length by omega),QZ O];generalize decide (-1440≤c.Offset∧c.Offset≤1440)=b0;generalize chO c.Changes=Z;generalize nM (-1) c.Changes=b2;generalize Bn (-1) c.Holidays=b3;cases b0 <;> cases Z <;> cases b2 <;> cases b3 <;> rfl
theorem QbB:∀ (l:List XC) (a:Int),nM a l=true→(∀ x ∈ l,a < x.At)∧l.Pairwise (fun x y=>x.At < y.At)
 | [],_,_=>⟨(fun x h=>by cases h),List.Pairwise.nil⟩
 | x :: r,a,h=>by
  simp only [nM,Ze,decide_eq_true_eq] at h;obtain ⟨J,O⟩:=QbB r x.At h.2;refine ⟨fun y G=>?_,List.pairwise_cons.2 ⟨J,O⟩⟩;rcases List.mem_cons.1 G with rfl | G
  ·exact h.1.1
  ·have:=J y G; omega
theorem wX:∀ (l:List Int) (a:Int),Bn a l=true→(∀ x ∈ l,a < x)∧l.Pairwise (fun x y=>x < y)
 | [],_,_=>⟨(fun x h=>by cases h),List.Pairwise.nil⟩
 | x :: r,a,h=>by
  simp only [Bn,Ze,decide_eq_true_eq] at h;obtain ⟨J,O⟩:=wX r x h.2;refine ⟨fun y G=>?_,List.pairwise_cons.2 ⟨J,O⟩⟩;rcases List.mem_cons.1 G with rfl | G
  ·exact h.1.1
  ·have:=J y G; omega
structure wY {α:Type} (key:α→Int) (l:List α) (m r:Int):Prop where
 lo:-1≤r
 hi:r < l.length
 le:∀ (i:Nat) (x:α),(i:Int)≤r→l[i]?=some x→key x≤m
 gt:∀ (i:Nat) (x:α),r < (i:Int)→l[i]?=some x→m < key x
theorem gu {key:α→Int} {l:List α} {m:Int} {B:(Int × Int→Option Int)→Int × Int→Option Int} (hl:l.length≤900) (hs:l.Pairwise (fun x y=>key x < key y))
  (hB:∀ rec lo hi,B rec (lo,hi)=cond (Qp lo hi) ((QY l (wi (lo+wi (Int.tdiv (wi (wi (hi - lo)+1)) 2)))).bind fun x=>cond (leI (key x) m) (rec (wi (lo+wi (Int.tdiv (wi (wi (hi - lo)+1)) 2)),hi)) (rec (lo,wi (wi (lo+wi (Int.tdiv (wi (wi (hi - lo)+1)) 2)) - 1)))) (some lo))
  (hn:1000≤n):Does (Qo B n (-1,(l.length:Int) - 1)) (wY key l m):=by
 have:=WN (B:=B) (Q:=fun _ r=>wY key l m r) (fun v=>(v.2 - v.1).toNat) (fun v=>-1≤v.1∧v.1≤v.2∧v.2 < l.length∧(∀ (i:Nat) (x:α),(i:Int)≤v.1→l[i]?=some x→key x≤m)∧(∀ (i:Nat) (x:α),v.2 < (i:Int)→l[i]?=some x→m < key x)) ?_ (n:=n) (v:=(-1,(l.length:Int) - 1)) ⟨by simp,by simp; omega,by simp; omega,fun i x h=>by simp only at h; omega,fun i x h O=>by
  have:=(List.getElem?_eq_some_iff.1 O).1;simp only at h;omega⟩ (by simp only; omega)
 ·exact this
 ·rintro rec ⟨lo,hi⟩ ⟨h1,h2,h3,h4,h5⟩ ih;simp only at h1 h2 h3 h4 h5 ih;rw [hB];by_cases hlt:lo < hi;rotate_left
  ·rw [show Qp lo hi=false from by simp only [Qp]; rw [QP hlt],cond_false];exact QK ⟨h1,by omega,h4,fun i x Y O=>h5 i x zo O⟩
  rw [show Qp lo hi=true from by simp only [Qp]; rw [QZ hlt],cond_true];rw [QD (x:=hi - lo) zo zo,QD (x:=hi - lo+1) zo zo,Int.tdiv_eq_ediv_of_nonneg zo,QD (x:=(hi - lo+1) / 2) zo zo,QD (x:=lo+(hi - lo+1) / 2) zo zo,QD (x:=lo+(hi - lo+1) / 2 - 1) zo zo];generalize ab:lo+(hi - lo+1) / 2=U;have hm:lo < U∧U≤hi:=by omega
  obtain ⟨j,rfl⟩:∃ j:Nat,U=(j:Int):=⟨U.toNat,by omega⟩;have O:l[j]?=some (l[j]'zo):=by rw [List.getElem?_eq_getElem]
  generalize l[j]'zo=x at O;rw [Zg,O,QJ];refine K3 (fun hc=>?_) (fun hc=>?_)
  ·simp only [leI,decide_eq_true_eq] at hc;refine ih (j,hi) ⟨by simp only; omega,by simp only; omega,h3,fun i y Y Z=>?_,h5⟩ (by simp only; omega);simp only at Y;by_cases e:i=j
   ·subst e;rw [O] at Z; cases Z;exact hc
   ·have aa:i < j:=by omega
    have J:=List.getElem?_eq_some_iff.1 Z;have G:=List.getElem?_eq_some_iff.1 O;have:=List.pairwise_iff_getElem.1 hs i j J.1 G.1 aa;rw [J.2,G.2] at this;omega
  ·simp only [leI,decide_eq_false_iff_not] at hc;refine ih (lo,(j:Int) - 1) ⟨h1,by simp only; omega,by simp only; omega,h4,fun i y Y Z=>?_⟩ (by simp only; omega);simp only at Y;by_cases e:i=j
   ·subst e;rw [O] at Z; cases Z;omega
   ·have aa:j < i:=by omega
    have J:=List.getElem?_eq_some_iff.1 Z;have G:=List.getElem?_eq_some_iff.1 O;have:=List.pairwise_iff_getElem.1 hs j i G.1 J.1 aa;rw [J.2,G.2] at this;omega
theorem Qd8 (n:Nat) (l:List XC) (m:Int) (J:1000≤n) (O:l.length≤900) (hs:nM (-1) l=true):Does (KE n l m) (wY XC.At l m):=by
 unfold KE;simp only [Qb,List.length_map];rw [QD (x:=(l.length:Int) - 1) zo zo];exact gu (B:=fun G (v:Int × Int)=>KQ n l m G v.1 v.2) O (QbB l _ hs).2 (fun rec lo hi=>rfl) J
theorem Qd9 (n:Nat) (l:List Int) (m:Int) (J:1000≤n) (O:l.length≤900) (hs:Bn (-1) l=true):Does (WA n l m) (wY (fun x=>x) l m):=by
 unfold WA;simp only [Qb,List.length_map];rw [QD (x:=(l.length:Int) - 1) zo zo];exact gu (key:=fun x=>x) (B:=fun G (v:Int × Int)=>Ws n l m G v.1 v.2) O (wX l _ hs).2 (fun rec lo hi=>rfl) J
theorem wZ (m:Int):∀ (l:List XC) (o:Int),(∀ x ∈ l,m < x.At)→Gi m o l=o
 | [],_,_=>rfl
 | x :: r,o,h=>by
  have:=h x List.mem_cons_self;unfold Gi;rw [if_neg zo];exact wZ m r o (fun y G=>h y (List.mem_cons_of_mem _ G))
theorem dM (m:Int):∀ (l:List XC) (o:Int) (k:Nat) (x:XC),l[k]?=some x→(∀ (i:Nat) (y:XC),i≤k→l[i]?=some y→y.At≤m)→(∀ (i:Nat) (y:XC),k < i→l[i]?=some y→m < y.At)→Gi m o l=x.Offset
 | [],_,_,_,h,_,_=>by simp at h
 | z :: r,o,0,x,h,O,J=>by
  simp at h;subst h;unfold Gi;rw [if_pos (O 0 z (Nat.le_refl _) rfl)]
  exact wZ m r _ (fun y G=>by
   obtain ⟨i,hi⟩:=List.mem_iff_getElem?.1 G;exact J (i+1) y zo (by simpa using hi))
 | z :: r,o,k+1,x,h,O,J=>by
  unfold Gi;exact dM m r _ k x (by simpa using h) (fun i y hi G=>O (i+1) y zo (by simpa using G)) (fun i y hi G=>J (i+1) y zo (by simpa using G))
theorem gy (d:Int):∀ (l:List Int),Bq d l=if d ∈ l then 2 else wkF d
 | []=>by simp [Bq]
 | x :: r=>by
  unfold Bq;rw [gy d r];by_cases h:x=d
  ·simp [h]
  ·simp [h,Ne.symm h]
theorem lK (x:Int) (b:Int) (h:x≤0):Int.tdiv x b=-((-x) / b)∧Int.tmod x b=-((-x) % b):=by
 obtain ⟨y,rfl⟩:∃ y:Int,x=-y:=⟨-x,by omega⟩;rw [Int.neg_tdiv,Int.neg_tmod,Int.neg_neg,Int.tdiv_eq_ediv_of_nonneg zo,Int.tmod_eq_emod_of_nonneg zo];exact ⟨rfl,rfl⟩
theorem gz (n:Nat) (x:Int) (h:-1440≤x∧x≤100000000):Vk n x 1440=some ((x+1440) / 1440 - 1,(x+1440) % 1440):=by
 unfold Vk;rw [show (!Qr 1440 0)=true from rfl,cond_true,cond_true];simp only [Qp];by_cases J:0≤x
 ·rw [Int.tdiv_eq_ediv_of_nonneg J,Int.tmod_eq_emod_of_nonneg J,QP zo,cond_false,QD (x:=x / 1440) zo zo];congr 2
  ·omega
  ·omega
 ·obtain ⟨U,O⟩:=lK x 1440 zo;rw [U,O];by_cases G:-((-x) % 1440) < 0
  ·rw [QZ G,cond_true,QD (x:=-((-x) / 1440)) zo zo,QD zo zo,QD zo zo];congr 2
   ·omega
   ·omega
  ·rw [QP G,cond_false,QD (x:=-((-x) / 1440)) zo zo];congr 2
   ·omega
   ·omega
theorem Qea (n:Nat) (c:Kj) (m:Int) (U:1000≤n) (Y:c.Changes.length≤900) (h2:c.Holidays.length≤900) (hc:L6 c=true) (hm:0≤m∧m≤52560000) :
  X6 n c m=some ((m+Gi m c.Offset c.Changes+1440) / 1440 - 1,(m+Gi m c.Offset c.Changes+1440) % 1440,0):=by
 have Z:=wR m hc;have hc':=hc;simp only [L6,Ze] at hc'
 have hK:nM (-1) c.Changes=true:=by
  have:=hc'.1.2;rw [wW,Ze] at this;exact this.2
 unfold X6;rw [QbA n c U Y h2,hc,MC,QZ hm];simp only [QJ,Bool.not_true,cond_false];obtain ⟨r,e,L⟩:=Qd8 n c.Changes m U Y hK;rw [e];simp only [QJ]
 have G:(bif leI 0 r then (QY c.Changes r).bind fun x7=>some x7.Offset else some c.Offset)=some (Gi m c.Offset c.Changes):=by
  by_cases h0:0≤r
  ·obtain ⟨k,rfl⟩:∃ k:Nat,r=(k:Int):=⟨r.toNat,by omega⟩;have hk:=L.hi;have J:c.Changes[k]?=some (c.Changes[k]'zo):=by rw [List.getElem?_eq_getElem]
   rw [show leI 0 (k:Int)=true from by simp only [leI]; rw [QZ h0],cond_true,Zg,J,QJ];rw [dM m c.Changes c.Offset k _ J (fun i y hi O=>L.le i y zo O) (fun i y hi O=>L.gt i y zo O)]
  ·rw [show leI 0 r=false from by simp only [leI]; rw [QP h0],cond_false]
   rw [wZ m c.Changes c.Offset (fun x J=>by
    obtain ⟨i,hi⟩:=List.mem_iff_getElem?.1 J;exact L.gt i x zo hi)]
 rw [G,QJ];generalize Gi m c.Offset c.Changes=o at Z;rw [QD (x:=m+o) zo zo,gz n (m+o) zo,QJ]
theorem QbC (n:Nat) (d:Int) (h:-1≤d∧d≤36501):Vk n d 7=some ((d+7) / 7 - 1,(d+7) % 7):=by
 unfold Vk;rw [show (!Qr 7 0)=true from rfl,cond_true,cond_true];simp only [Qp];by_cases G:0≤d
 ·rw [Int.tdiv_eq_ediv_of_nonneg G,Int.tmod_eq_emod_of_nonneg G,QP zo,cond_false,QD (x:=d / 7) zo zo];congr 2
  ·omega
  ·omega
 ·have:d=-1:=by omega
  subst this;rfl
theorem QgW (n:Nat) (c:Kj) (d:Int) (hn:1000≤n) (h1:c.Changes.length≤900) (h2:c.Holidays.length≤900) (hc:L6 c=true) (hd:-1≤d∧d≤36501):Hw n c d=some (Bq d c.Holidays,0):=by
 have hc':=hc;simp only [L6,Ze] at hc';unfold Hw;rw [QbA n c hn h1 h2,hc,MC,QZ hd];simp only [QJ,Bool.not_true,cond_false];obtain ⟨r,e,L⟩:=Qd9 n c.Holidays d hn h2 hc'.2;have Z:=(wX _ _ hc'.2).2;rw [e];simp only [QJ]
 have hj:(bif leI 0 r then (QY c.Holidays r).bind fun x8=>some (Qr x8 d) else some false)=some (decide (d ∈ c.Holidays)):=by
  by_cases h0:0≤r
  ·obtain ⟨k,rfl⟩:∃ k:Nat,r=(k:Int):=⟨r.toNat,by omega⟩;have hk:=L.hi;have O:c.Holidays[k]?=some (c.Holidays[k]'zo):=by rw [List.getElem?_eq_getElem]
   rw [show leI 0 (k:Int)=true from by simp only [leI]; rw [QZ h0],cond_true,Zg,O,QJ,Zo];generalize c.Holidays[k]'zo=x at O;by_cases J:x=d
   ·rw [QZ J,QZ];rw [← J];exact List.mem_of_getElem? O
   ·rw [QP J,QP];intro G;obtain ⟨i,hi⟩:=List.mem_iff_getElem?.1 G
    have aa:(i:Int)≤k:=by
     apply Classical.byContradiction;intro h;have:=L.gt i d zo hi;omega
    by_cases e:i=k
    ·subst e;rw [O] at hi; cases hi;exact J rfl
    ·have U:=List.getElem?_eq_some_iff.1 hi;have Y:=List.getElem?_eq_some_iff.1 O;have:=List.pairwise_iff_getElem.1 Z i k U.1 Y.1 zo;rw [U.2,Y.2] at this;have:=L.le k x (Int.le_refl _) O;omega
  ·rw [show leI 0 r=false from by simp only [leI]; rw [QP h0],cond_false,QP];intro G;obtain ⟨i,hi⟩:=List.mem_iff_getElem?.1 G;have:=L.gt i d zo hi;omega
 rw [hj,QJ,gy];by_cases G:d ∈ c.Holidays
 ·rw [QZ G,if_pos G]; rfl
 ·rw [QP G,if_neg G,cond_false,QbC n d hd];unfold Lm wkF;simp only [QJ];rw [QD (x:=d+7) zo zo,Int.tmod_eq_emod_of_nonneg (a:=d+7) zo];have hr:0≤(d+7) % 7∧(d+7) % 7 < 7:=by omega
  generalize (d+7) % 7=w at hr;have hw:w=0∨w=1∨w=2∨w=3∨w=4∨w=5∨w=6:=by omega
  rcases hw with rfl | rfl | rfl | rfl | rfl | rfl | rfl <;> rfl
theorem Ae (n:Nat) (c:Kj) (a:Q3) (m:Int) (O:1000≤n) (Y:c.Changes.length≤900) (U:c.Holidays.length≤900) (hc:L6 c=true) (ha:Da a=true) (hm:0≤m∧m≤52560000) :
  V6 n a c m=some (NZ c a m):=by
 have Z:=wR m hc;unfold V6 NZ;rw [Ad,ha,Qea n c m O Y U hc hm];simp only [QJ,Bool.not_true,cond_false,Zo,decide_true];generalize Gi m c.Offset c.Changes=o at Z;rw [QD (x:=m+o) zo zo,QD (x:=m+o+1440) zo zo];rw [Int.tdiv_eq_ediv_of_nonneg (a:=m+o+1440) zo,Int.tmod_eq_emod_of_nonneg (a:=m+o+1440) zo];rw [QD (x:=(m+o+1440) / 1440) zo zo,QD (x:=(m+o+1440) / 1440 - 1) zo zo];rw [QgW n c _ O Y U hc zo];have ht:=NY ((m+o+1440) / 1440 - 1) c.Holidays;simp only [QJ,Qs,leI,Qp,decide_true,cond_true];rw [QP (show ¬ Bq ((m+o+1440) / 1440 - 1) c.Holidays < 0 by omega)];generalize decide (PI .i64 a.Days (vv .i64 1 (Bq ((m+o+1440) / 1440 - 1) c.Holidays))=0)=b;generalize (m+o+1440) % 1440=w;by_cases J:a.From≤w
 ·by_cases G:w < a.To
  ·rw [QP (show ¬ w < a.From by omega),QP (show ¬ a.To≤w by omega),QZ J,QZ G];cases b <;> rfl
  ·rw [QP (show ¬ w < a.From by omega),QZ (show a.To≤w by omega),QP G];cases b <;> simp
 ·rw [QZ (show w < a.From by omega),QP J]; rfl
theorem JF (B:(V→Option R)→V→Option R) (n:Nat) (v:V):Qo B (n+1) v=B (Qo B n) v:=rfl
def Yn:Nat→GN→Prop
 | 0,_=>False
 | d+1,x=>(-9223372036854775808≤x.Kind∧x.Kind≤9223372036854775807)∧(-9223372036854775808≤x.N∧x.N≤9223372036854775807)∧(-9223372036854775808≤x.At∧x.At≤9223372036854775807)∧x.Name.length≤maxLen∧x.Kids.length≤maxLen∧∀ k ∈ x.Kids,∃ y,GN.of k=some y∧Yn d y
def YU (d:Nat) (l:List (List PV)):Prop:=∀ k ∈ l,∃ y,GN.of k=some y∧Yn d y
theorem YM (h:Yn d x):∃ e,d=e+1∧x.Kids.length≤9223372036854775807∧x.Name.length≤9223372036854775807∧YU e x.Kids:=by
 cases d with
 | zero=>exact h.elim
 | succ e=>exact ⟨e,rfl,by have:=h.2.2.2.2.1; simpa [maxLen] using this,by have:=h.2.2.2.1; simpa [maxLen] using this,h.2.2.2.2.2⟩
theorem w9 (h:YU d l) (hi:i < l.length):∃ y,Option.bind (QY l (i:Int)) GN.of=some y∧Yn d y∧(l.drop i=l[i]'hi :: l.drop (i+1)∧GN.of (l[i]'hi)=some y):=by
 obtain ⟨y,e,t⟩:=h (l[i]'hi) (List.getElem_mem hi);refine ⟨y,?_,t,List.drop_eq_getElem_cons hi,e⟩;rw [Zg,List.getElem?_eq_getElem hi];exact e
def Tot {α:Type} (m:Option α):Prop:=Does m fun _=>True
theorem lL:∀ (m n d:Nat) (x:GN) (G:Int),Yn d x→0≤G→G≤m→m≤1000000→m+3≤n→Does (Zm n x G) (fun r=>1≤r∧r≤G+1):=by
 intro m
 induction m with
 | zero =>
  intro n d x G Z h0 h1 h2 h3;obtain ⟨n,rfl⟩:∃ q,n=q+1+1:=⟨n - 2,by omega⟩;obtain rfl:G=0:=by omega
  refine ⟨1,?_,by omega,by omega⟩;unfold Zm ZV;rw [JF];unfold Zu;simp only [show leI 1 0=false from rfl,Qs,QJ];cases Qp 0 (Qb (List.map Zy x.Kids)) <;> rfl
 | succ m ih =>
  intro n d x G Z h0 h1 h2 h3;obtain ⟨n,rfl⟩:∃ q,n=q+1:=⟨n - 1,by omega⟩;obtain ⟨e,rfl,hl,_,hk⟩:=YM Z;unfold Zm ZV;refine WN (Q:=fun _ r=>1≤r∧r≤G+1) (fun v=>(G+1 - v.1).toNat) (fun v=>1≤v.1∧v.1≤G+1∧∃ i:Nat,v.2=(i:Int)∧i≤x.Kids.length) ?_ ⟨by omega,by omega,0,rfl,by omega⟩ (by simp only; omega);rintro rec ⟨J,IP⟩ ⟨g1,g2,i,hi,aa⟩ O;simp only at g1 g2 hi O ⊢;subst hi;unfold Zu;simp only [Qb,List.length_map,Qp,leI];by_cases Y:i < x.Kids.length;rotate_left
  ·rw [QP zo];exact QK ⟨g1,g2⟩
  rw [QZ zo];by_cases c2:J≤G;rotate_left
  ·rw [QP c2];exact QK ⟨g1,g2⟩
  rw [QZ c2];obtain ⟨y,hy,U,_⟩:=w9 hk Y;simp only [cond_true,QJ];rw [hy,QJ,QD (x:=G - J) zo zo];refine Kq (ih n e y (G - J) U zo zo zo zo) ?_;rintro r ⟨r1,r2⟩;rw [QD (x:=J+r) zo zo,QD (x:=(i:Int)+1) zo zo];exact O (J+r,(i:Int)+1) ⟨by simp only; omega,by simp only; omega,i+1,by simp,Y⟩ (by simp only; omega)
theorem drop1 (l:List (List PV)):List.drop (Int.toNat 1) (List.take (Int.toNat (Qb (List.map Zy l))) l)=l.drop 1:=by
 simp only [Qb,List.length_map,show Int.toNat 1=1 from rfl,Int.toNat_natCast,List.take_length]
theorem nN (h:l ≠ []):VJ 1 (Qb (List.map Zy l)) (Qb (List.map Zy l)) (List.length l)=true:=by
 have:0 < l.length:=List.length_pos_iff.2 h;unfold VJ Qb;rw [List.length_map];exact QZ zo
theorem Dc (h:YU e l):YU e (l.drop 1):=fun k G=>h k (List.mem_of_mem_drop G)
theorem QiZ (h:YU e l) (h0:l ≠ []):∃ y,Option.bind (QY l 0) GN.of=some y:=by
 obtain ⟨y,G,_⟩:=w9 (i:=0) h (List.length_pos_iff.2 h0);exact ⟨y,G⟩
theorem QgX (l:List (List PV)):Qr (Qb (List.map Zy l)) 0=decide (l=[]):=by
 rw [Zo,Qb,List.length_map];cases l
 ·rfl
 ·rw [QP (by simp only [Y9]; omega),QP (by intro h; cases h)]
theorem FU {r:GD} (h:YU e r.values):Does (Zc n r) (fun q=>YU e q.2.values∧q.2.values.length≤r.values.length):=by
 unfold Zc;rw [QgX];by_cases h0:r.values=[]
 ·rw [QZ h0];exact QK ⟨h,Nat.le_refl _⟩
 rw [QP h0];obtain ⟨y,G⟩:=QiZ h h0;rw [G,nN h0,drop1];simp only [QJ,cond_true,cond_false];exact K3 (fun _=>QK ⟨h,Nat.le_refl _⟩) fun _=>QK ⟨Dc h,by simp⟩
theorem gB {r:GD} (h:YU e r.values):Does (Zd n r) (fun s=>s ≠ []→r.values ≠ []):=by
 unfold Zd;rw [QgX];by_cases h0:r.values=[]
 ·rw [QZ h0];exact QK fun h=>absurd rfl h
 rw [QP h0];obtain ⟨y,G⟩:=QiZ h h0;rw [G];simp only [QJ,cond_false];exact K3 (fun _=>QK fun _=>h0) fun _=>QK fun _=>h0
theorem Qeb (n:Nat) (s:List UInt8):Does (Jw n s) (fun v=>v ≠ 0→s ≠ []):=by
 unfold Jw;simp only [Qs];refine QK fun h h0=>h ?_
 subst h0;rfl
theorem gD {r:GD} (h:YU e r.values) {k:Int→Option β} {Q:β→Prop} (G:∀ v,(v ≠ 0→r.values ≠ [])→Does (k v) Q):Does ((Zd n r).bind fun U=>(Jw n U).bind fun O=>k O) Q :=
 Kq (gB h) fun s hs=>Kq (Qeb n s) fun v J=>G v fun h=>hs (J h)
theorem QbD {r:GD} (h:YU e r.values) (hn:r.values.length < n):Does (KJ n r) (fun q=>YU e q.2.values∧q.2.values.length≤r.values.length):=by
 unfold KJ;refine Kq (Q:=fun q=>YU e q.2.1∧q.2.1.length≤r.values.length) ?_ ?_
 ·refine gD h fun v U=>?_
  have:=WN (n:=n) (v:=((0:Int),v,r.values,r.good)) (B:=fun J (v:Int × Int × (List (List PV)) × Bool)=>Q7 n r J v.1 v.2.1 v.2.2.1 v.2.2.2) (Q:=fun v q=>YU e q.2.1∧q.2.1.length≤r.values.length) (fun v=>v.2.2.1.length) (fun v=>YU e v.2.2.1∧v.2.2.1.length≤r.values.length∧(v.2.1 ≠ 0→v.2.2.1 ≠ [])) ?_ ⟨h,Nat.le_refl _,U⟩ hn
  ·exact this
  rintro rec ⟨bits,bit,O,g⟩ ⟨g1,g2,g3⟩ G;simp only at g1 g2 g3 G ⊢;unfold Q7;refine K3 (fun hb=>?_) fun _=>QK ⟨g1,g2⟩
  have Y:bit ≠ 0:=by simpa [Zo] using hb
  have hne:=g3 Y;have aa:0 < O.length:=List.length_pos_iff.2 hne;rw [nN hne,drop1];refine Kq (Q:=fun _=>True) (K3 (fun _=>QK trivial) fun _=>QK trivial) fun j _=>?_
  rw [cond_true];refine gD (r:=⟨r.article,O.drop 1,j⟩) (Dc g1) fun v U=>?_
  exact G (bOr .i64 bits bit,v,O.drop 1,j) ⟨Dc g1,by simp only [List.length_drop]; omega,U⟩ (by simp only [List.length_drop]; omega)
 ·rintro ⟨b,O,g⟩ ⟨Z,q2⟩;exact K3 (fun _=>QK ⟨Z,q2⟩) fun _=>QK ⟨Z,q2⟩
theorem QbE (ht:Yn d x) (hn:9223372036854776000≤n):Tot (X5 n x):=by
 obtain ⟨e,rfl,hl,_,hk⟩:=YM ht;unfold X5 FL Xp XE;simp only [Qs,QJ];refine Kq (FU (e:=e) (n:=n) hk) ?_;rintro ⟨v,a,O,g⟩ ⟨Y,q2⟩;simp only at Y q2 ⊢;refine WN (Q:=fun _ _=>True) (fun v=>v.2.2.2.2.2.2.2.2.1.length) (fun v=>YU e v.2.2.2.2.2.2.2.2.1∧v.2.2.2.2.2.2.2.2.1.length≤x.Kids.length) ?_ ⟨Y,q2⟩ (by simp only; omega);clear Y q2;rintro rec ⟨l1,l2,l3,l4,l5,l6,l7,l8,O,g,m1,m2,m3,m4⟩ ⟨Y,q2⟩ G;simp only at Y q2 G ⊢;unfold Vj;simp only [Qs,QJ];refine K3 (fun hc=>?_) fun _=>?_
 rotate_left
 ·unfold XF;simp only [Qs];exact QK trivial
 have hne:O ≠ []:=by
  rintro rfl;cases g
  ·cases hc
  ·simp [Qb,Qp] at hc
 have aa:0 < O.length:=List.length_pos_iff.2 hne;rw [nN hne,drop1];refine Kq (gB (r:=⟨⟨l2,l3,l4,l5,l6,l7,l8⟩,O,g⟩) Y) fun w _=>?_
 have hd:(O.drop 1).length < O.length:=by rw [List.length_drop]; omega
 have hq:=Dc Y;simp only [cond_true];refine K3 (fun _=>?_) fun _=>K3 (fun _=>?_) fun _=>K3 (fun _=>?_) fun _=>K3 (fun _=>?_) fun _=>QK trivial
 ·refine Kq (FU (n:=n) (r:=⟨⟨l2,l3,l4,l5,l6,l7,l8⟩,O.drop 1,g⟩) hq) ?_;rintro ⟨v,a,U,g'⟩ ⟨J,Z⟩;simp only at J Z ⊢;exact G _ ⟨J,by simp only; omega⟩ (by simp only; omega)
 ·refine Kq (FU (n:=n) (r:=⟨⟨l2,l3,l4,l5,l6,l7,l8⟩,O.drop 1,g⟩) hq) ?_;rintro ⟨v,a,U,g'⟩ ⟨J,Z⟩;simp only at J Z ⊢;exact G _ ⟨J,by simp only; omega⟩ (by simp only; omega)
 ·refine Kq (QbD (n:=n) (r:=⟨⟨l2,l3,l4,l5,l6,l7,l8⟩,O.drop 1,g⟩) hq (by simp only; omega)) ?_;rintro ⟨v,a,U,g'⟩ ⟨J,Z⟩;simp only at J Z ⊢;exact G _ ⟨J,by simp only; omega⟩ (by simp only; omega)
 ·refine Kq (FU (n:=n) (r:=⟨⟨l2,l3,l4,l5,l6,l7,l8⟩,O.drop 1,g⟩) hq) ?_;rintro ⟨v,a,U,g'⟩ ⟨J,Z⟩;simp only at J Z ⊢;refine Kq (FU (n:=n) (r:=⟨⟨a.Kind,a.Days,v,a.To,a.Price,a.Unit,a.Free⟩,U,g'⟩) J) ?_;rintro ⟨v2,a2,ab,g2⟩ ⟨p3,p4⟩;simp only at p3 p4 ⊢;exact G _ ⟨p3,by simp only; omega⟩ (by simp only; omega)
theorem gF {R:Type} {B:(Int→Option R)→Int→Option R} {L:Nat} (Q:Nat→R→Prop) (J:L≤9223372036854775807)
  (G:∀ (rec:Int→Option R) (i:Nat),i≤L→(i < L→wi ((i:Int)+1)=((i+1:Nat):Int)∧Does (rec ((i+1:Nat):Int)) (Q (i+1)))→Does (B rec (i:Int)) (Q i)) :
  ∀ {n:Nat} (i:Nat),i≤L→L - i < n→Does (Qo B n (i:Int)) (Q i)
 | 0,_,_,h=>absurd h (Nat.not_lt_zero _)
 | n+1,i,hi,h=>G _ i hi fun O=>⟨by rw [QD zo zo]; omega,gF Q J G (i+1) zo zo⟩
def Qm (l:List (List PV)):List GN:=l.filterMap GN.of
theorem ME (h:YU d l) (hi:i < l.length):∃ y,Option.bind (QY l (i:Int)) GN.of=some y∧Yn d y∧Qm (l.drop i)=y :: Qm (l.drop (i+1)):=by
 obtain ⟨y,O,J,U,G⟩:=w9 h hi;refine ⟨y,O,J,?_⟩;rw [U];unfold Qm;rw [List.filterMap_cons,G]
theorem Ta (l:List (List PV)) (hi:l.length≤i):Qm (l.drop i)=[]:=by
 rw [List.drop_eq_nil_of_le hi]; rfl
def Br (s:List UInt8):Bool:=((WL 0).getD []).contains s
def Bt (s:List UInt8):Bool:=((YL 0).getD []).contains s
def zt (s:List UInt8):Bool:=((WM 0).getD []).contains s
theorem Af (n:Nat) (s:List UInt8):Yr n s=some (Br s):=by
 unfold Yr Br WL;simp only [Qs,QJ,cse,cst,Option.getD_some,List.contains_cons,List.contains_nil,Bool.or_false,Qt]
theorem ja (n:Nat) (s:List UInt8):Kb n s=some (Bt s):=by
 unfold Kb Bt YL;simp only [Qs,QJ,cse,cst,Option.getD_some,List.contains_cons,List.contains_nil,Bool.or_false,Qt]
theorem yE (n:Nat) (s:List UInt8):YS n s=some (zt s):=by
 unfold YS zt WM;simp only [Qs,QJ,cse,cst,Option.getD_some,List.contains_cons,List.contains_nil,Bool.or_false,Qt]
def V7 (words:Bool) (x:GN):Bool :=
 decide (x.Kids=[])&&(bif decide (x.Kind=6) then decide (x.Name=[])&&(decide (0≤x.N)&&decide (x.N≤1000000)) else decide (x.Kind=5)&&(decide (x.N=0)&&(Uj x.Name||(words&&zt x.Name))))
theorem Qi0 (s:List UInt8):Qt s []=decide (s=[]):=by
 cases s <;> rfl
theorem Qec (J:1000≤n):Jl n x b=some (V7 b x):=by
 unfold Jl V7;rw [N7 n x.Name J,yE,QgX,Qi0];simp only [QJ,Qs,Zo,leI];by_cases G:x.Kind=5
 ·rw [G];simp only [decide_true,cond_true,show decide ((5:Int)=6)=false from rfl,cond_false];cases decide (x.Kids=[]) <;> cases decide (x.N=0) <;> cases Uj x.Name <;> cases b <;> cases zt x.Name <;> rfl
 ·rw [QP G];cases decide (x.Kids=[]) <;> cases decide (x.Kind=6) <;> cases decide (x.Name=[]) <;> cases decide (0≤x.N) <;> cases decide (x.N≤1000000) <;> rfl
def Ke (x:GN):Bool:=decide (x.N=0)&&((decide (x.Kind=3)&&Br x.Name||decide (x.Kind=4)&&Bt x.Name)&&(Qm x.Kids).all (V7 (decide (x.Kind=4))))
theorem QgY {left:Int} (ht:Yn d x) (hn:9223372036854776000≤n) (ab:(x.Kids.length:Int)≤left∧left≤1500):Does (Vw n x left) (fun r=>r.1=Ke x∧(Ke x=true→r.2=left - x.Kids.length)):=by
 obtain ⟨e,rfl,hl,_,hk⟩:=YM ht
 have Z:wi (left - Qb (List.map Zy x.Kids))=left - x.Kids.length:=by
  simp only [Qb,List.length_map]; exact QD zo zo
 have J:Qo (fun G O=>YI n x left G O) n 0=some ((Qm x.Kids).all (V7 (decide (x.Kind=4))),left - x.Kids.length):=by
  have:=gF (B:=fun G O=>YI n x left G O) (n:=n) (L:=x.Kids.length) (fun i r=>r=((Qm (x.Kids.drop i)).all (V7 (decide (x.Kind=4))),left - (x.Kids.length:Int))) hl (fun rec i hi hr=>?_) 0 zo zo
  ·obtain ⟨r,e,h⟩:=this;rw [show ((0:Nat):Int)=0 from rfl] at e;rw [e,h]; rfl
  unfold YI;rw [Z];simp only [Qb,List.length_map,Qp];by_cases U:i < x.Kids.length;rotate_left
  ·rw [QP zo,Ta _ zo]; exact QK rfl
  obtain ⟨y,hy,aa,hc⟩:=ME hk U;obtain ⟨w1,w2⟩:=hr U;rw [QZ zo,cond_true,hy,QJ,w1,Qec zo,QJ,hc,List.all_cons,Zo];cases V7 (decide (x.Kind=4)) y
  ·exact QK rfl
  ·simpa using w2
 unfold Vw;rw [J,Af,ja,Z,show Qp (left - (x.Kids.length:Int)) 0=false from jU zo];simp only [QJ,Qs,Zo];have hp:Ke x=(decide (x.N=0)&&((decide (x.Kind=3)&&Br x.Name||decide (x.Kind=4)&&Bt x.Name)&&(Qm x.Kids).all (V7 (decide (x.Kind=4))))):=rfl;rw [hp];generalize (Qm x.Kids).all (V7 (decide (x.Kind=4)))=z;by_cases Y:x.Kind=3
 ·rw [Y];cases decide (x.N=0) <;> cases Br x.Name <;> cases z <;> exact QK ⟨rfl,fun h=>by first | rfl | cases h⟩
 ·rw [QP Y];cases decide (x.N=0) <;> cases decide (x.Kind=4) <;> cases Bt x.Name <;> cases z <;> exact QK ⟨rfl,fun h=>by first | rfl | cases h⟩
def Tc (G:Bool):Bool→List GN→Bool
 | _,[]=>true
 | p,k :: r=>(Ke k&&!(decide (k.Kind=4)&&!G)&&!(decide (k.Kind=3)&&p))&&Tc G (decide (k.Kind=4)) r
def Nh (J:Bool):Bool→List GN→Bool
 | G,[]=>!G||J
 | G,k :: r=>bif decide (k.Kind=4) then Ke k&&Nh J true r else bif G then false else Ke k&&Nh J G r
theorem lM {k:GN} (h:Ke k=true) (G:decide (k.Kind=4)=false):decide (k.Kind=3)=true:=by
 unfold Ke at h;rw [G] at h;cases h3:decide (k.Kind=3)
 ·rw [h3] at h;simp at h
 ·rfl
theorem Ag (J:Bool):∀ (l:List GN) (G:Bool),Nh J G l=((!G||J)&&Tc J G l)
 | [],G=>by simp [Nh,Tc]
 | k :: r,G=>by
  unfold Nh Tc;rw [Ag J r true,Ag J r G];cases hp:Ke k
  ·cases decide (k.Kind=4) <;> cases G <;> simp
  cases h4:decide (k.Kind=4)
  ·rw [lM hp h4];cases G <;> cases J <;> simp
  ·have O:decide (k.Kind=3)=false:=by
    have:=of_decide_eq_true h4;rw [this]; rfl
   rw [O];cases G <;> cases J <;> simp
def MF (l:List GN):Int:=(l.map fun k=>(k.Kids.length:Int)).sum
def JH (x:GN):Bool:=decide (x.Kind=2)&&(decide (1≤x.N)&&(decide (x.N≤7)&&(Uj x.Name&&Tc (decide (x.N=7)) false (Qm x.Kids))))
def sz:Nat→GN→Int
 | 0,_=>1
 | k+1,x=>1+((Qm x.Kids).map (sz k)).sum
theorem Xu {f:GN→Int} (hf:∀ y,0≤f y):∀ l:List GN,0≤(l.map f).sum
 | []=>Int.le_refl _
 | a :: l=>by have:=Xu hf l; have:=hf a; simp only [List.map_cons,List.sum_cons]; omega
theorem jb:∀ (k:Nat) (x:GN),0≤sz k x
 | 0,_=>by simp [sz]
 | k+1,x=>by have:=Xu (jb k) (Qm x.Kids); unfold sz; omega
def jf (l:List GN):Int:=(l.map fun k=>(k.Kids.length:Int)+MF (Qm k.Kids)).sum
def N8 (x:GN):Bool:=decide (x.Kind=1)&&(decide (x.Name=[])&&(decide (x.N=0)&&(Qm x.Kids).all JH))
theorem JG (l:List GN):0≤MF l:=Xu (fun y=>by omega) l
theorem G5 (l:List GN):0≤jf l:=Xu (fun y=>by have:=JG (Qm y.Kids); omega) l
theorem QbF (ht:Yn d x) (hn:9223372036854776000≤n) :
  Does (KD n x) (fun r=>r.1.length≤12∧(r.2.Err=0→r.1.length=x.Kids.length∧IA 0 r.1=true)):=by
 obtain ⟨e,rfl,hl,_,hk⟩:=YM ht;unfold KD
 have:=WN (n:=n) (v:=(([]:List Q3),false,(0:Int))) (B:=fun Z (v:(List Q3) × Bool × Int)=>Zr n x Z v.1 v.2.1 v.2.2) (Q:=fun v r=>r.1.length≤12∧(r.2.Err=0→r.1.length=x.Kids.length∧IA 0 r.1=true)) (fun v=>x.Kids.length - v.2.2.toNat)
  (fun v=>v.1.length≤12∧v.2.2=(v.1.length:Int)∧v.1.length≤x.Kids.length∧∀ r,IA 0 (v.1++r)=IA (cond v.2.1 1 0) r) ?_ ⟨by simp,rfl,by simp,fun r=>rfl⟩ (by simp only; omega)
 ·exact this
 rintro rec ⟨out,J,IP⟩ ⟨g1,g2,g3,g4⟩ O;simp only at g1 g2 g3 g4 O ⊢;subst g2;unfold Zr;simp only [Qb,List.length_map,Qp];by_cases c1:out.length < x.Kids.length;rotate_left
 ·rw [QP zo,cond_false];refine QK ⟨g1,fun _=>⟨by simp only; omega,?_⟩⟩;have:=g4 [];rw [List.append_nil] at this;rw [this];cases J <;> rfl
 obtain ⟨y,hy,aa,_⟩:=w9 hk c1;rw [QZ zo,cond_true,hy,QJ];refine K3 (fun _=>QK ⟨by simp,fun h=>by cases h⟩) fun _=>K3 (fun _=>QK ⟨by simp,fun h=>by cases h⟩) fun U=>?_
 have U:out.length < 12:=by
  rw [Zo] at U;have:=of_decide_eq_false U;omega
 refine Kq (QbE aa hn) fun r _=>K3 (fun _=>QK ⟨by simp,fun h=>by cases h⟩) fun _=>?_
 rw [Ad,QJ];refine K3 (fun _=>QK ⟨by simp,fun h=>by cases h⟩) fun hA=>?_
 have hA:Da r.1=true:=by simpa using hA
 have Y:QM (out++[r.1]).length 56=true:=by unfold QM; rw [YY]; exact QZ (by simp; omega)
 rw [Y,QD (x:=(out.length:Int)+1) zo zo];simp only [Qs,QJ,cond_true]
 have G:∀ t':Bool,(cond t' 1 0=if r.1.Kind=6 then (cond J 1 0:Int)+1 else cond J 1 0)→Does (rec (out++[r.1],t',(out.length:Int)+1)) (fun r=>r.1.length≤12∧(r.2.Err=0→r.1.length=x.Kids.length∧IA 0 r.1=true)):=by
  intro t' ab;refine O _ ⟨by simp; omega,by simp,by simp; omega,fun q=>?_⟩ (by simp only; omega);simp only;rw [List.append_assoc,g4,List.singleton_append,IA,hA,Bool.true_and,← ab]
 cases J
 ·simp only [cond_false];rw [show (bif Qr r.1.Kind 6 then false else false)=false from by cases Qr r.1.Kind 6 <;> rfl,cond_false];refine G _ ?_;rw [Zo];by_cases h:r.1.Kind=6
  ·simp [h]
  ·simp [h]
 ·simp only [cond_true];by_cases h:r.1.Kind=6
  ·rw [show Qr r.1.Kind 6=true from by rw [Zo]; exact QZ h];exact QK ⟨by simp,fun h=>by cases h⟩
  ·rw [show Qr r.1.Kind 6=false from by rw [Zo]; exact QP h];exact G _ (by rw [if_neg h])
abbrev TSt:Type:=Bool × Int × Int × Int × Int × Int × Int × Int × (List (List PV)) × Bool × Bool × Bool × Bool × Bool
def tB (n:Nat) (rec:TSt→Option (Q3 × Bool)) (v:TSt):Option (Q3 × Bool) :=
 Vj n rec v.1 v.2.1 v.2.2.1 v.2.2.2.1 v.2.2.2.2.1 v.2.2.2.2.2.1 v.2.2.2.2.2.2.1 v.2.2.2.2.2.2.2.1 v.2.2.2.2.2.2.2.2.1 v.2.2.2.2.2.2.2.2.2.1 v.2.2.2.2.2.2.2.2.2.2.1 v.2.2.2.2.2.2.2.2.2.2.2.1 v.2.2.2.2.2.2.2.2.2.2.2.2.1 v.2.2.2.2.2.2.2.2.2.2.2.2.2
theorem QbG (s k:List UInt8):∀ m:List (List UInt8 × Bool),CZ YZ s false (FD YZ k true m)=(CZ YZ s false m||(s == k))
 | []=>by
  unfold FD CZ Eb Eb YZ Qt;by_cases h:s=k
  ·subst h; simp
  ·rw [show (s == k)=false from by simpa using h]; rfl
 | (q,w) :: m=>by
  have J:=QbG s k m;unfold CZ at J ⊢;unfold FD;unfold YZ Qt at J ⊢;by_cases h:k=q
  ·subst h;rw [beq_self_eq_true,cond_true];unfold Eb;by_cases G:s=k
   ·subst G; simp
   ·rw [show (s == k)=false from by simpa using G]; simp
  ·rw [show (k == q)=false from by simpa using h,cond_false];unfold Eb;by_cases G:s=q
   ·subst G;rw [beq_self_eq_true,cond_true,cond_true,show (s == k)=false from by simpa using fun e=>h e.symm,Bool.or_false]
   ·rw [show (s == q)=false from by simpa using G,cond_false,cond_false];exact J
section
variable {n d:Nat} {x:GN}
def tBu (n:Nat) (x:GN) (rec:(List K5) × (List ZH) × Int × Int × (List ((List UInt8) × Bool))→Option ((List K5) × (List ZH))) (v:(List K5) × (List ZH) × Int × Int × (List ((List UInt8) × Bool))):Option ((List K5) × (List ZH)) :=
 Wq n x rec v.1 v.2.1 v.2.2.1 v.2.2.2.1 v.2.2.2.2
end
def FW (A:GN→List Q3 × ZH) (G:List (List UInt8)) (y:GN):List Q3 × ZH :=
 bif G.contains y.Name then ([],⟨5,y.At⟩) else bif decide (8≤G.length) then ([],⟨2,y.At⟩) else A y
def IE (A:GN→List Q3 × ZH):List GN→List K5→List ZH→List (List UInt8)→List K5 × List ZH
 | [],out,dg,_=>(out,dg)
 | y :: r,out,dg,G =>
  bif decide ((FW A G y).2.Err=0) then IE A r (out++[⟨y.Name,(FW A G y).1⟩]) dg (G++[y.Name])
  else bif decide (dg.length=19) then (out,dg++[(FW A G y).2]) else IE A r (out++[⟨y.Name,(FW A G y).1⟩]) (dg++[(FW A G y).2]) (G++[y.Name])
def ZG (n:Nat) (y:GN):List Q3 × ZH:=(KD n y).getD ([],⟨0,0⟩)
def Uk (l:List GN):List GN:=l.filter fun y=>decide (y.N=7)
theorem lN (hk:YU d x.Kids) (ab:x.Kids.length≤1500) (hn:9223372036854776000≤n):∀ (m i k:Nat) (out:List K5) (dg:List ZH) (names:List (List UInt8)) (mp:List (List UInt8 × Bool)),i+m=x.Kids.length→m < k→out.length≤i→names.length≤i→dg.length≤19 →
  (∀ s,CZ YZ s false mp=names.contains s) →
  Qo (tBu n x) k (out,dg,(names.length:Int),(i:Int),mp)=some (IE (ZG n) (Uk (Qm (x.Kids.drop i))) out dg names):=by
 intro m
 induction m with
 | zero =>
  intro i k out dg names mp h1 h2 h3 h4 h5 h6;obtain ⟨k,rfl⟩:∃ q,k=q+1:=⟨k - 1,by omega⟩;rw [JF,Ta _ zo];unfold tBu Wq;simp only;rw [show Qp (i:Int) (Qb (List.map Zy x.Kids))=false from jU (by simp only [Qb,List.length_map]; omega)];rfl
 | succ m ih =>
  intro i k out dg names mp h1 h2 h3 h4 h5 h6;obtain ⟨k,rfl⟩:∃ q,k=q+1:=⟨k - 1,by omega⟩;rw [JF];have G:=fun out dg names mp=>ih (i+1) k out dg names mp zo zo
  generalize Qo (tBu n x) k=tr at G ⊢;obtain ⟨y,hy,aa,hc⟩:=ME hk (show i < x.Kids.length by omega);have w1:wi ((i:Int)+1)=((i+1:Nat):Int):=by rw [QD zo zo]; omega
  have w2:wi ((names.length:Int)+1)=((names++[y.Name]).length:Int):=by rw [QD zo zo,YY]; simp
  rw [hc];unfold tBu Wq;simp only [w1,w2];rw [show Qp (i:Int) (Qb (List.map Zy x.Kids))=true from OH (by simp only [Qb,List.length_map]; omega),hy];simp only [cond_true,QJ,Zo];by_cases hN:y.N=7;rotate_left
  ·rw [QP hN];have e:Uk (y :: Qm (x.Kids.drop (i+1)))=Uk (Qm (x.Kids.drop (i+1))):=by unfold Uk; rw [List.filter_cons,QP hN]; rfl
   rw [e];exact G out dg names mp zo zo h5 h6
  have e:Uk (y :: Qm (x.Kids.drop (i+1)))=y :: Uk (Qm (x.Kids.drop (i+1))):=by unfold Uk; rw [List.filter_cons,QZ hN]; rfl
  rw [e,QZ hN,h6];obtain ⟨r,er,_⟩:=QbF aa (n:=n) hn;have hA:ZG n y=r:=by unfold ZG; rw [er]; rfl
  have U:((bif names.contains y.Name then some ([],5,y.At) else bif leI 8 (names.length:Int) then some ([],2,y.At) else (KD n y).bind fun r6=>some (r6.1,r6.2.Err,r6.2.At)):Option (List Q3 × Int × Int))=some ((FW (ZG n) names y).1,(FW (ZG n) names y).2.Err,(FW (ZG n) names y).2.At):=by
   unfold FW;rw [hA,er,show leI 8 (names.length:Int)=decide (8≤names.length) from by unfold leI; by_cases h:8≤names.length <;> simp [h] <;> omega];cases names.contains y.Name <;> cases decide (8≤names.length) <;> rfl
  simp only [Bool.not_true,cond_false];rw [U];simp only [QJ];have ad:(names++[y.Name]).length=names.length+1:=by simp
  have O:∀ a:List Q3,QM (out++[(⟨y.Name,a⟩:K5)]).length 40=true:=fun a=>by unfold QM; rw [YY]; exact QZ (by simp; omega)
  have J:∀ a:ZH,QM (dg++[a]).length 16=true:=fun a=>by unfold QM; rw [YY]; exact QZ (by simp; omega)
  have Z:∀ s,CZ YZ s false (FD YZ y.Name true mp)=(names++[y.Name]).contains s:=by
   intro s;rw [QbG,h6,Bool.eq_iff_iff];simp
  unfold IE;generalize FW (ZG n) names y=q;obtain ⟨ac,err,at_⟩:=q;simp only;rw [O,J];by_cases he:err=0
  ·rw [QZ he];simp only [Bool.not_true,cond_true,cond_false,QJ,Qb,List.length_map];rw [QP zo,cond_false];exact G _ _ _ _ (by simp; omega) zo h5 Z
  ·rw [QP he];simp only [Bool.not_false,cond_true,cond_false,QJ,Qb,List.length_map];by_cases Y:dg.length=19
   ·rw [QZ (by simp; omega),QZ Y];rfl
   ·rw [QP (by simp; omega),QP Y];exact G _ _ _ _ (by simp; omega) zo (by simp; omega) Z
theorem gG (hk:YU d x.Kids) (O:x.Kids.length≤1500) (hn:9223372036854776000≤n) (hp:WI n x=some true) :
  YK n x=some (bif decide ((IE (ZG n) (Uk (Qm x.Kids)) [] [] []).2=[]) then (IE (ZG n) (Uk (Qm x.Kids)) [] [] []) else ([],(IE (ZG n) (Uk (Qm x.Kids)) [] [] []).2)):=by
 have e:=lN (n:=n) (x:=x) hk O hn x.Kids.length 0 n [] [] [] [] zo zo zq zq zq (fun s=>rfl);rw [List.drop_zero] at e;unfold YK;rw [hp];have e':Qo (fun G (v:(List K5) × (List ZH) × Int × Int × (List ((List UInt8) × Bool)))=>match v with | (Y,Z,U,J,aa)=>Wq n x G Y Z U J aa) n ([],[],0,0,[])=some (IE (ZG n) (Uk (Qm x.Kids)) [] [] []):=e;simp only [QJ,Bool.not_true,cond_false];rw [e'];generalize IE (ZG n) (Uk (Qm x.Kids)) [] [] []=r;obtain ⟨l,dg⟩:=r;simp only [QJ];cases dg with
 | nil=>rfl
 | cons a q =>
  rw [show Qp 0 (Qb (List.map ZH.cs (a :: q)))=true from OH (by simp only [Qb,List.length_map,Y9]; omega),QP (by intro h; cases h)];rfl
def zw (c:UInt8):Bool:=decide (Zv c=32∨Zv c=9∨Zv c=10)
def kz (c:UInt8):Bool:=decide (97≤Zv c∧Zv c≤122)
def Ul (c:UInt8):Bool:=decide (48≤Zv c∧Zv c≤57)
def MG (c:UInt8):Bool:=kz c||Ul c||decide (Zv c=95)
def gJ (c:UInt8):Bool:=decide (Zv c=59∨Zv c=123∨Zv c=125)
theorem QeX (n:Nat) (c:UInt8):GY n (Zv c)=some (zw c):=by
 unfold GY zw;simp only [Zo,Qs,QN];by_cases J:Zv c=32 <;> by_cases O:Zv c=9 <;> by_cases G:Zv c=10 <;> simp [J,O,G]
theorem dN (n:Nat) (c:UInt8):XD n (Zv c)=some (kz c):=by
 unfold XD kz;simp only [leI,Qs,QN];by_cases G:97≤Zv c <;> simp [G]
theorem jc (n:Nat) (c:UInt8):Jg n (Zv c)=some (Ul c):=by
 unfold Jg Ul;simp only [leI,Qs,QN];by_cases G:48≤Zv c <;> simp [G]
theorem Qed (n:Nat) (c:UInt8):Hq n (Zv c)=some (gJ c):=by
 unfold Hq gJ;simp only [Zo,Qs,QN];by_cases J:Zv c=59 <;> by_cases O:Zv c=123 <;> by_cases G:Zv c=125 <;> simp [J,O,G]
theorem QgZ (n:Nat) (c:UInt8):Jh n (Zv c)=some (MG c):=by
 unfold Jh MG;rw [dN,jc];simp only [QJ,Zo,Qs,QN];cases kz c <;> cases Ul c <;> simp
theorem Qg0 (n:Nat) (c:UInt8):RL n (Zv c)=some (!decide (Zv c=10)):=by
 unfold RL;rw [Zo]
def lU (c:UInt8):Int:=if zw c then 1 else if Zv c=35 then 2 else if kz c then 3 else if Ul c then 4 else if gJ c then 5 else 0
theorem Qg1 (n:Nat) (c:UInt8):FI n (Zv c)=some (lU c):=by
 unfold FI lU;rw [QeX,dN,jc,Qed];simp only [QJ,Zo,Qs,QN];cases zw c <;> by_cases h:Zv c=35 <;> cases kz c <;> cases Ul c <;> cases gJ c <;> simp [h]
theorem EO {p:UInt8→Bool} {B:(Int→Option Int)→Int→Option Int} (hs:s.length≤4611686018427387904)
  (G:∀ rec (i:Nat),B rec (i:Int)=(cond (Qp (i:Int) (Qb s)) ((QY s (i:Int)).bind fun x=>some (p x)) (some false)).bind fun j=>cond j (rec (wi ((i:Int)+1))) (some (i:Int))) (i:Nat) (hi:i≤s.length) (O:s.length - i < n) :
  Qo B n (i:Int)=some ((i+((s.drop i).takeWhile p).length:Nat):Int):=by
 have:=R7 (l:=s) (B:=B) (F:=fun r=>((s.length - r.length+(r.takeWhile p).length:Nat):Int)) hs ?_ ?_ (n:=n) i hi O
 ·rw [this,List.length_drop];congr 3;omega
 ·intro rec;rw [G];simp [Qp,Qb]
 ·intro rec i x r Z hx hi U J
  have Y:r.length=s.length - (i+1):=by
   have:=congrArg List.length Z;simp only [List.length_drop,Y9] at this;omega
  rw [G,Zg,hx,U,J];simp only [Qp,Qb,QJ,Y9];rw [QZ zo,cond_true,QJ,Y];cases hp:p x
  ·simp only [cond_false,List.takeWhile_cons,hp,Bool.false_eq_true,if_false,List.length_nil,QN];omega
  ·simp only [cond_true,List.takeWhile_cons,hp,if_true,Y9,QN];omega
section
variable {n:Nat} {s:List UInt8} {i:Nat}
theorem Qee (hs:s.length≤8100) (hi:i≤s.length) (G:10000≤n):Eo n s (i:Int)=some ((i+((s.drop i).takeWhile zw).length:Nat):Int) :=
 EO zo (fun rec i=>by unfold Ll; simp only [QeX,QJ]) i hi zo
theorem Qef (hs:s.length≤8100) (hi:i≤s.length) (G:10000≤n):TP n s (i:Int)=some ((i+((s.drop i).takeWhile (fun c=>!decide (Zv c=10))).length:Nat):Int) :=
 EO zo (fun rec i=>by unfold UY; simp only [Qg0,QJ]) i hi zo
theorem Qeg (hs:s.length≤8100) (hi:i≤s.length) (G:10000≤n):TQ n s (i:Int)=some ((i+((s.drop i).takeWhile MG).length:Nat):Int) :=
 EO zo (fun rec i=>by unfold UZ; simp only [QgZ,QJ]) i hi zo
theorem Qeh (hs:s.length≤8100) (hi:i≤s.length) (G:10000≤n):TR n s (i:Int)=some ((i+((s.drop i).takeWhile Ul).length:Nat):Int) :=
 EO zo (fun rec i=>by unfold U0; simp only [jc,QJ]) i hi zo
end
def Gj:Int→List UInt8→Option Int
 | a,[]=>some a
 | a,c :: r=>if 1000000 < 10 * a+(Zv c - 48) then none else Gj (10 * a+(Zv c - 48)) r
theorem QbH (h:Ul c=true):wi (w8 (Zv c - 48))=Zv c - 48∧0≤Zv c - 48∧Zv c - 48≤9:=by
 have h:=of_decide_eq_true h;refine ⟨?_,by omega,by omega⟩;simp only [w8,wi,IntKind.wrap,IntKind.signed,IntKind.bits];simp;omega
def WV:List UInt8→Except Int (Int × List UInt8 × Int)
 | []=>.error 7
 | c :: r=>if kz c then (if 12 < (c :: r).length then .error 3 else .ok (1,c :: r,0))
  else if Ul c then (if 1 < (c :: r).length∧Zv c=48 then .error 7 else match Gj 0 (c :: r) with | some v=>.ok (2,[],v) | none=>.error 3)
  else if gJ c then .ok (3,c :: r,0) else .error 7
def G6:List UInt8→List UInt8
 | []=>[]
 | c :: r=>if kz c then (c :: r).takeWhile MG else if Ul c then (c :: r).takeWhile Ul else if gJ c then [c] else []
end Go.Proofs
