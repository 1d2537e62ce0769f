/-
  A part of the proof of a statement of the seat YtkhhdppjbakngaaGreatDoor.
-/
import Derived.Test.YtkhhdppjbakngaaGreatDoorTpr04
set_option linter.unusedVariables false
namespace Go.Proofs
open Go Go.Abs
set_option maxRecDepth 100000
theorem zC (n:Nat) (O:Kn) (G:Int):∀ r,Ga n O G=some r→QC Tryz.prog 225 [ag (Kn.cs O),I G] (.ret (.tup [I r.1,I r.2])):=by
 refine Qj Tryz.func225 rfl Tryz.ntmps225 rfl ?_;unfold Ga;refine Qf Qd ⟨[(1,I G),qq 2],IW O⟩ (sS (KQ (fun j1=>⟨[(1,I G),qq 2,(19,B j1)],IW O⟩:Bool→St) ?_ ?_))
 ·refine sG (xR 1 ?_);refine xC [] (WN n O) QF (fun r2=>?_);refine xR 2 (xS (!r2) (fun h3=>xN (Qy h3) (xR 3 (xE (QS true)))) (fun h3=>xO (Qw h3) ?_));refine xC [] (JP n G (-1) 36501) QF (fun r4=>?_);exact xR 2 (xE (QS (!r4)))
 rintro j1;refine sC j1 (Qf Qd ⟨[(4,I 0),(5,I 1)],[]⟩ (sT (QB (qR (.id))))) (sK (Ql ⟨[(1,I G),qq 2],IW O⟩ (sS (sG (GD [] [] [] [] [] Tryz.func94 rfl Tryz.ntmps94 rfl (Qf Qd ⟨[],[]⟩ (Qf Qd ⟨Qhq,[]⟩ (sT (QD (.id) [] [] (.tup [.p (.val (.func (.func 162) #[] #[])), .p (.val (.func (.func 163) #[] #[]))]) (Wh (xR 5 (xE (Ql ⟨[(1,I G),qq 2,(6, .p (.val (.func (.func 162) #[] #[]))),(7, .p (.val (.func (.func 163) #[] #[])))],IW O⟩ (sS (sS (sG (xR 4 ?_)))))))))))))))));refine xC [] (Po n O.Holidays G) QF (fun r5=>?_);refine xR 1 (xE (Ql ⟨[(1,I G),qq 2,(6, .p (.val (.func (.func 162) #[] #[]))),(7, .p (.val (.func (.func 163) #[] #[]))),(8,I r5)],IW O⟩ (KQ (fun j6=>⟨[(1,I G),(6, .p (.val (.func (.func 162) #[] #[]))),(7, .p (.val (.func (.func 163) #[] #[]))),(39,B j6)],[]⟩:Bool→St) (sG (xR 3 (xS (leI 0 r5) (fun h7=>xO (Qv h7) (xR 2 (xG (ZA (e:=3) (S:=1) (enc:=ci) (l:=O.Holidays) (k:=.i64) (n:=r5) (sv:=.p (.sl 1 (List.map ci O.Holidays))) rfl Qc Qc Qc Qc Qc) (fun x8=>xR 4 (xE (QS (Qp x8 G))))))) (fun h7=>xN (Qx h7) (xR 7 (xE (QS false))))))) ?_)));rintro j6;refine sC j6 (Qf Qd ⟨[(4,I 2),(5,I 0)],[]⟩ (sT (QB (qR (.id))))) (sK (Ql ⟨[(1,I G),(6, .p (.val (.func (.func 162) #[] #[]))),(7, .p (.val (.func (.func 163) #[] #[])))],[]⟩ (sS (sG ?_))));refine xC [] (zB n) QF (fun J=>?_);refine xR 2 (xE (Ql ⟨[(1,I G),(6, .p (.val (.func (.func 162) #[] #[]))),(7, .p (.val (.func (.func 163) #[] #[]))),qq 9],[(9,(QeH J.1 J.2.1 J.2.2.1 J.2.2.2.1 J.2.2.2.2.1 J.2.2.2.2.2.1 J.2.2.2.2.2.2))]⟩ (sS (sG (xR 1 ?_)))));refine xC [] (DJ n G 7) QF (fun Y=>?_);exact xR 5 (xE (Ql ⟨[(6, .p (.val (.func (.func 162) #[] #[]))),(7, .p (.val (.func (.func 163) #[] #[]))),qq 9,(11,I Y.2)],[(9,(QeH J.1 J.2.1 J.2.2.1 J.2.2.2.1 J.2.2.2.2.1 J.2.2.2.2.2.1 J.2.2.2.2.2.2))]⟩ (sS (sG (xR 1 (QdD Qc Qc (Qa9 (b:=9) (k:=.i64) (n:=Y.2) (len:=7) (e:=3) (l:=[J.1,J.2.1,J.2.2.1,J.2.2.2.1,J.2.2.2.2.1,J.2.2.2.2.2.1,J.2.2.2.2.2.2]) rfl Qc Qc Qc Qc rfl) (fun aa Z=>(kF (QdG (g:=I) (l:=[J.1,J.2.1,J.2.2.1,J.2.2.2.1,J.2.2.2.2.1,J.2.2.2.2.2.1,J.2.2.2.2.2.2]) (tb:=299) (b:=9) (n:=Y.2) (v:=aa) rfl Qc Qc Qc (QdE Z)) (xR 2 (xE (Ql ⟨[(4,I aa),(5,I 0)],[]⟩ (sT (qR (.id))))))))))))))
def Wm (n:Nat) (J:QT) (O:Kn) (G:Int):Option Bool :=
 (K7 n J).bind fun r1 =>
 cond (!r1)
  (some false)
  ((Ue n O G).bind fun Y =>
  (cond (!Qp Y.2.2 0)
   (some true)
   (cond (Qs Y.2.1 J.From)
    (some true)
    (some (leI J.To Y.2.1)))).bind fun j3 =>
  cond j3
   (some false)
   ((Ga n O Y.1).bind fun Z =>
   cond (Qp Z.2 0)
    (cond (!Qs Z.1 0) (
     some (!Qp (Lm .i64 J.Days (wm .i64 1 Z.1)) 0)) none)
    (some false)))
def aD:=fun G J=>([(3, .box 183 (YE (QT.cs G))),(4, .box 52 (YE (Kn.cs J)))]:List (Nat × Blk))
abbrev cK (x:QT):Go.Abs.Blk:=.box 183 (YE (QT.cs x))
theorem Uf (n:Nat) (J:QT) (O:Kn) (G:Int):∀ r,Wm n J O G=some r→QC Tryz.prog 205 [ag (QT.cs J),ag (Kn.cs O),I G] (.ret (B r)):=by
 refine Qj Tryz.func205 rfl Tryz.ntmps205 rfl ?_;unfold Wm;refine Qf Qd ⟨[(2,I G),qq 3,qq 4,(6,B false)],aD J O⟩ (sS (sS (sG (xR 1 ?_))));refine xC [] (J2 n J) QF (fun r1=>?_);refine xR 1 (xE (Ql ⟨[(2,I G),qq 3,qq 4,(6,B false),(13,B (!r1))],aD J O⟩ (sC (!r1) (Qf Qd ⟨[(6,B false)],[]⟩ (sT (QB (qR (.id))))) (sK (Ql ⟨[(2,I G),qq 3,qq 4,(6,B false)],aD J O⟩ (sS (sG (xR 2 ?_))))))));refine xC [] (IX n O G) QF (fun Y=>?_);refine xR 7 (xE (Ql ⟨[qq 3,qq 4,(6,B false),(7,I Y.1),(8,I Y.2.1),(9,I Y.2.2)],aD J O⟩ (sS (KQ (fun j3=>⟨[qq 3,qq 4,(6,B false),(7,I Y.1),(34,B j3)],aD J O⟩:Bool→St) (sG (xR 3 (xS (!Qp Y.2.2 0) (fun h4=>xN (Qy h4) (xR 10 (xE (QS true)))) (fun h4=>xO (Qw h4) (xR 5 (xS (Qs Y.2.1 J.From) (fun h5=>xN (Qy h5) (xR 4 (xE (QS true)))) (fun h5=>xO (Qw h5) (xR 4 (xE (QS (leI J.To Y.2.1))))))))))) ?_))));rintro j3;refine sC j3 (Qf Qd ⟨[(6,B false)],[]⟩ (sT (QB (qR (.id))))) (sK (Ql ⟨[qq 3,qq 4,(6,B false),(7,I Y.1)],aD J O⟩ (sS (sG (xR 2 ?_)))));refine xC [] (zC n O Y.1) QF (fun Z=>?_);exact xR 5 (xE (Ql ⟨[qq 3,(6,B false),(7,I Y.1),(9,I Z.2),(10,I Z.1)],[(3,cK J)]⟩ (sS (Bh Qd rfl (xR 3 (xS (Qp Z.2 0) (fun h7=>xO (Qv h7) (xR 2 (xF (QdB (k:=.i64) (k':=.i64) (a:=1) (b:=Z.1) rfl Qc Qc) (xR 4 (MN (Ql ⟨[(6,B (!Qp (Lm .i64 J.Days (wm .i64 1 Z.1)) 0))],[]⟩ (sT (qR (.id))))))))) (fun h7=>xN (Qx h7) (xR 7 (MN (Ql ⟨[(6,B false)],[]⟩ (sT (qR (.id)))))))))))))
def Vs (n:Nat) (J:Gv) (G:Int):Option Bool :=
 (Wm n J.article J.calendar G).bind fun r1 =>
 some r1
theorem Gw (n:Nat) (J:Gv) (G:Int):∀ r,Vs n J G=some r→QC Tryz.prog 207 [.eptr (Gv.cs J),I G] (.ret (B r)):=by
 refine Qj Tryz.func207 rfl Tryz.ntmps207 rfl ?_;unfold Vs;refine Qf Qd ⟨[(0, .eptr (Gv.cs J)),(1,I G)],[]⟩ (sS (Bh Qd rfl (xR 9 ?_)));refine xC [] (Uf n J.article J.calendar G) QF (fun r1=>?_);exact xR 1 (MN (Ql ⟨[(4,B r1)],[]⟩ (sT (qR (.id)))))
def Kh (n:Nat) (O:Int) (J:Int) (G:Int):Option Bool :=
 cond (leI J O)
  (some (leI O G))
  (some false)
theorem Yt (n:Nat) (O:Int) (J:Int) (G:Int):∀ r,Kh n O J G=some r→QC Tryz.prog 159 [I O,I J,I G] (.ret (B r)):=by
 refine Qj Tryz.func159 rfl Tryz.ntmps159 rfl ?_;unfold Kh;exact Qf Qd ⟨[(0,I O),(1,I J),(2,I G),(6,B false)],[]⟩ (sS (sG (xR 4 (xS (leI J O) (fun Y=>xO (Qv Y) (xR 4 (xE (Ql ⟨[(6,B (leI O G))],[]⟩ (sT (qR (.id))))))) (fun Y=>xN (Qx Y) (xR 4 (xE (Ql ⟨[(6,B false)],[]⟩ (sT (qR (.id)))))))))))
def Kr (n:Nat) (G:Int):Option Bool :=
 (Kh n G 0 1000000000).bind fun r1 =>
 some r1
theorem VQ (n:Nat) (G:Int):∀ r,Kr n G=some r→QC Tryz.prog 158 [I G] (.ret (B r)):=by
 refine Qj Tryz.func158 rfl Tryz.ntmps158 rfl ?_;unfold Kr;refine Qf Qd ⟨[(0,I G)],[]⟩ (sS (sG (xR 1 ?_)));refine xC [] (Yt n G 0 1000000000) QF (fun r1=>?_);exact xR 1 (xE (Ql ⟨[(2,B r1)],[]⟩ (sT (qR (.id)))))
def Kj (n:Nat) (G:Bool) (J:Int):Option (Except Int Unit) :=
 cond (!G)
  (some (.error J))
  (some (.ok ()))
theorem Kk (n:Nat) (G:Bool) (J:Int):∀ r,Kj n G J=some r→QC Tryz.prog 157 [B G,I J] (kG (fun r:Unit=>(.tup []:AV)) (fun e:Int=>(.ifc 280 (.agg [I e]):AV)) r):=by
 refine Qj Tryz.func157 rfl Tryz.ntmps157 rfl ?_;unfold Kj;exact Qf Qd ⟨[(1,I J),(5,B (!G))],[]⟩ (sC (!G) (sG (xR 3 (xPa 280 (.agg [I J]) Qc rfl Qc (qU)))) (sK (Qkk (.id) Qc Qc Qc)))
def JR (n:Nat) (J:Int) (G:Int):Option Int :=
 cond (!Qp (wi (2 * G)) 0) (
  some (wi (Int.tdiv (wi ((wi (2 * J))+G)) (wi (2 * G))))) none
theorem DK (n:Nat) (J:Int) (G:Int):∀ r,JR n J G=some r→QC Tryz.prog 161 [I J,I G] (.ret (I r)):=by
 refine Qj Tryz.func161 rfl Tryz.ntmps161 rfl ?_;unfold JR;exact Qf Qd ⟨[(0,I J),(1,I G)],[]⟩ (sS (sG (xR 6 (xF (wP (k:=.i64) (a:=wi ((wi (2 * J))+G)) (b:=wi (2 * G)) rfl Qc Qc) (xR 1 (xE (Ql ⟨[(4,I (wi (Int.tdiv (wi ((wi (2 * J))+G)) (wi (2 * G)))))],[]⟩ (sT (qR (.id))))))))))
def KR (n:Nat) (G:Int):Option (Except Int Int) :=
 (Kr n G).bind fun r1 =>
 (Kj n r1 3).bind (Lr (fun O =>
  some (.ok G)) fun J=>some (.error J))
theorem XE (n:Nat) (G:Int):∀ r,KR n G=some r→QC Tryz.prog 160 [I G] (kG (fun r:Int=>(I r:AV)) (fun e:Int=>(.ifc 280 (.agg [I e]):AV)) r):=by
 refine Qj Tryz.func160 rfl Tryz.ntmps160 rfl ?_;unfold KR;refine Qf Qd ⟨[(0,I G)],[]⟩ (sS (sG (xR 1 ?_)));refine xC [] (VQ n G) QF (fun r1=>?_);refine JY [] (Kk n r1 3) QF QF (fun O=>?_) (fun J=>?_)
 ·exact xE (Ql ⟨[(0,I G)],[]⟩ (Qf Qd ⟨[(2,I G)],[]⟩ (sT (qR (.id)))))
 exact Un (qU)
def VY (n:Nat) (G:Int):Option Int :=
 some G
theorem Ug (n:Nat) (G:Int):∀ r,VY n G=some r→KD Tryz.prog 156 [.p (.val (.nilIface)),Rw] (Go.Abs.look [(1001, .box 29 [I G])]) (Yh (fun r:Int=>((.ret (.tup []),[(1001, .box 29 [I r])]):ZB × List (Nat × Blk))) r):=by
 refine Kq (M7 G) Tryz.func156 rfl Tryz.ntmps156 rfl ?_;unfold VY;exact sS (Qf Qd ⟨Qje,M7 G⟩ (ZQ (sT (QB (Kw (.id) [1001] [])))))
def Q6 (n:Nat) (G:Int) (J:Int):Option Int :=
 some G
def Qjf:=fun G=>([(0, .ifc 280 (.agg [I G])),(1, .ptr 1001 0),(6, .ifc 280 (.agg [I G])),(7,B false)]:List (Nat × AV))
theorem Za (n:Nat) (G:Int) (J:Int):∀ r,Q6 n G J=some r→KD Tryz.prog 156 [.ifc 280 (.agg [I G]),Rw] (Go.Abs.look [(1001, .box 29 [I J])]) (Yh (fun r:Int=>((.ret (.tup []),[(1001, .box 29 [I r])]):ZB × List (Nat × Blk))) r):=by
 refine Kq (M7 J) Tryz.func156 rfl Tryz.ntmps156 rfl ?_;unfold Q6;exact sS (Qf Qd ⟨Qjf G,M7 J⟩ (QZ (sK (Ql ⟨Qjf G,M7 J⟩ (Qf Qd ⟨[(0, .ifc 280 (.agg [I G])),(1,Rw),qq 4,(5,B true),(6, .ifc 280 (.agg [I G])),(7,B false)],[(4, .box 280 [I G])]++M7 J⟩ (sS (Qf Qd ⟨[(0, .ifc 280 (.agg [I G])),(1,Rw),qq 4,(6, .ifc 280 (.agg [I G])),(7,B false),(14,B false)],[(4, .box 280 [I G])]++M7 J⟩ (QZ (sK (Ql ⟨[(1,Rw),qq 4,(6, .ifc 280 (.agg [I G])),(7,B false)],[(4, .box 280 [I G])]++M7 J⟩ (sL Qd (lH (.id) [1001] []))))))))))))
def ZJ (n:Nat) (J:Int) (G:Int) (O:Int):Option (Int × Int) :=
 (JR n (wi (J * G)) O).bind fun Z =>
 (KR n Z).bind (Lr (fun Y =>
  (VY n 0).bind fun r5 =>
  some (Y,r5)) fun e4=>(Q6 n e4 0).bind fun r6 =>
 some (0,r6))
def VH (n:Nat) (J:Int) (G:Int) (O:Int):Option (Int × Int) :=
 (Kr n J).bind fun r7 =>
 cond r7
  ((Kh n G 0 1000000000).bind fun r9 =>
  cond r9
   ((Kh n O 1 1000000000).bind fun ab =>
   (Kj n ab 1).bind (Lr (fun ai =>
    ZJ n J G O) fun ae=>(Q6 n ae 0).bind fun aa =>
   some (0,aa)))
   ((Kj n false 1).bind (Lr (fun af =>
    ZJ n J G O) fun ac=>(Q6 n ac 0).bind fun Z =>
   some (0,Z))))
  ((Kj n false 1).bind (Lr (fun ah =>
   ZJ n J G O) fun ad=>(Q6 n ad 0).bind fun Y =>
  some (0,Y)))
def QeI:=fun J O G=>([(0,I J),(1,I O),(2,I G),(6,I 0),(7, .ptr 2000 0)]:List (Nat × AV))
def LU:=fun G=>([(2000, .box 29 [I G])]:List (Nat × Blk))
theorem ET (n:Nat) (J:Int) (G:Int) (O:Int):∀ r,VH n J G O=some r→KD Tryz.prog 202 [I J,I G,I O] (Go.Abs.look []) (Yh (fun r:Int × Int=>((.ret (.tup [I r.1,I r.2]),[]):ZB × List (Nat × Blk))) r):=by
 refine MP (X:=fun r:Int × Int=>((.ret (.tup [I r.1,I r.2]),[]):ZB × List (Nat × Blk))) [] (⟨Tryz.f223,_,_,_,1,_,_,Tryz.func223,rfl,rfl,rfl,rfl,rfl,rfl,by decide,by decide,rfl,by kernel_rfl⟩:LK Tryz.prog 223 156) (⟨_,_,_,_,_,7,8,_,rfl,rfl,rfl,rfl,rfl,rfl,rfl,by decide⟩:RO Tryz.f202 223) 7 Tryz.func202 Tryz.ntmps202 rfl Qc rfl Qd rfl Qc Qc Qc ?_;unfold VH;refine Pe ⟨QeI J G O,LU 0⟩ ?_;refine Yc (fun _=>⟨QeI J G O,LU 0⟩:Unit→St) (fun _=>ZJ n J G O) ?_ ?_
 ·rintro _;show QP (ZJ n J G O) _ _ _ _ _ _;unfold ZJ;refine sS ?_;refine sG ?_;refine xR 4 ?_;refine xC [] (DK n (wi (J * G)) O) QF (fun r2=>?_);refine JY [] (XE n r2) QF QF (fun r3=>?_) (fun e4=>?_)
  ·refine xR 2 ?_;refine xE ?_;refine Ql ⟨[(6,I r3),(7, .ptr 2000 0)],LU 0⟩ ?_;refine sT ?_;refine qV ?_;refine Zg [(1001,2000)] [] [] (Ug n 0) Qc Qc Qc QF QF (fun r5=>?_);exact Js (.id) [] []
  ·refine Un ?_;refine IC ?_;refine Zg [(1001,2000)] [] [] (Za n e4 0) Qc Qc Qc QF QF (fun r6=>?_);exact Js (.id) [] []
 ·refine sG ?_;refine xR 1 ?_;refine xC [] (VQ n J) QF (fun r7=>?_);refine xR 1 ?_;refine xS r7 (fun h8=>?_) (fun h8=>?_)
  ·refine xO (Qv h8) ?_;refine xC [] (Yt n G 0 1000000000) QF (fun r9=>?_);refine xR 2 ?_;refine xS r9 (fun Y=>?_) (fun Y=>?_)
   ·refine xO (Qv Y) ?_;refine xC [] (Yt n O 1 1000000000) QF (fun Z=>?_);refine xR 1 ?_;refine JY [] (Kk n Z 1) QF QF (fun af=>?_) (fun ac=>?_)
    ·refine xE ?_;exact KW (k:=fun _=>ZJ n J G O) ()
    ·refine Gu ?_;refine IC ?_;refine Zg [(1001,2000)] [] [] (Za n ac 0) Qc Qc Qc QF QF (fun ad=>?_);exact Js (.id) [] []
   ·refine xN (Qx Y) ?_;refine xR 2 ?_;refine JY [] (Kk n false 1) QF QF (fun aj=>?_) (fun aa=>?_)
    ·refine xE ?_;exact KW (k:=fun _=>ZJ n J G O) ()
    ·refine Gu ?_;refine IC ?_;refine Zg [(1001,2000)] [] [] (Za n aa 0) Qc Qc Qc QF QF (fun ai=>?_);exact Js (.id) [] []
  ·refine xN (Qx h8) ?_;refine xR 6 ?_;refine JY [] (Kk n false 1) QF QF (fun ae=>?_) (fun ab=>?_)
   ·refine xE ?_;exact KW (k:=fun _=>ZJ n J G O) ()
   ·refine Gu ?_;refine IC ?_;refine Zg [(1001,2000)] [] [] (Za n ab 0) Qc Qc Qc QF QF (fun ah=>?_);exact Js (.id) [] []
theorem Ti (n:Nat) (J:Int) (G:Int) (O:Int):∀ r,VH n J G O=some r→QC Tryz.prog 202 [I J,I G,I O] (.ret (.tup [I r.1,I r.2])):=fun r h=>Ew (ET n J G O r h) rfl
def JD (n:Nat) (G:Int) (J:Int):Option (Except Int Int) :=
 cond (!Qp J 0)
  (some (.error 3))
  (some (.ok G))
theorem F5 (n:Nat) (G:Int) (J:Int):∀ r,JD n G J=some r→QC Tryz.prog 98 [I G,I J] (kG (fun r:Int=>(I r:AV)) (fun e:Int=>(.ifc 196 (.agg [I e]):AV)) r):=by
 refine Qj Tryz.func98 rfl Tryz.ntmps98 rfl ?_;unfold JD;exact Qf Qd ⟨[(0,I G),(1,I J)],[]⟩ (sS (Qf Qd ⟨[(0,I G),(6,B (!Qp J 0))],[]⟩ (sC (!Qp J 0) (sG (xR 2 (xPa 196 (.agg [I 3]) Qc rfl Qc (Un (qU))))) (sK (Ql ⟨[(0,I G),(6,B (!Qp J 0))],[]⟩ (Qf Qd ⟨[(4,I G)],[]⟩ (sT (qR (.id)))))))))
def Zo (n:Nat) (O:Int) (J:Int) (G:Int):Option (Int × Int) :=
 cond (!Qp G 0) (
  (KR n (wi (O * (wi (Int.tdiv (wi ((wi (J+G)) - 1)) G))))).bind (Lr (fun r2 =>
   (VY n 0).bind fun Z =>
   some (r2,Z)) fun Y=>(Q6 n Y 0).bind fun r5 =>
  some (0,r5))) none
def YC (n:Nat) (J:Int) (G:Int) (O:Int):Option (Int × Int) :=
 (Kr n J).bind fun r6 =>
 cond r6
  ((Kh n G 0 1000000000).bind fun r8 =>
  cond r8
   ((Kh n O 1 1000000000).bind fun ac =>
   (Kj n ac 1).bind (Lr (fun ai =>
    Zo n J G O) fun Z=>(Q6 n Z 0).bind fun ab =>
   some (0,ab)))
   ((Kj n false 1).bind (Lr (fun ah =>
    Zo n J G O) fun ae=>(Q6 n ae 0).bind fun Y =>
   some (0,Y))))
  ((Kj n false 1).bind (Lr (fun af =>
   Zo n J G O) fun aa=>(Q6 n aa 0).bind fun ad =>
  some (0,ad)))
theorem M8 (n:Nat) (O:Int) (G:Int) (J:Int):∀ r,YC n O G J=some r→KD Tryz.prog 153 [I O,I G,I J] (Go.Abs.look []) (Yh (fun r:Int × Int=>((.ret (.tup [I r.1,I r.2]),[]):ZB × List (Nat × Blk))) r):=by
 refine MP (X:=fun r:Int × Int=>((.ret (.tup [I r.1,I r.2]),[]):ZB × List (Nat × Blk))) [] (⟨Tryz.f206,_,_,_,1,_,_,Tryz.func206,rfl,rfl,rfl,rfl,rfl,rfl,by decide,by decide,rfl,by kernel_rfl⟩:LK Tryz.prog 206 156) (⟨_,_,_,_,_,7,8,_,rfl,rfl,rfl,rfl,rfl,rfl,rfl,by decide⟩:RO Tryz.f153 206) 7 Tryz.func153 Tryz.ntmps153 rfl Qc rfl Qd rfl Qc Qc Qc ?_;unfold YC;refine Pe ⟨QeI O G J,LU 0⟩ ?_;refine Yc (fun _=>⟨QeI O G J,LU 0⟩:Unit→St) (fun _=>Zo n O G J) ?_ ?_
 ·rintro _;show QP (Zo n O G J) _ _ _ _ _ _;unfold Zo;refine sS ?_;refine sG ?_;refine xR 6 ?_;refine xF (wP (k:=.i64) (a:=wi ((wi (G+J)) - 1)) (b:=J) rfl Qc Qc) ?_;refine xR 1 ?_;refine JY [] (XE n (wi (O * (wi (Int.tdiv (wi ((wi (G+J)) - 1)) J))))) QF QF (fun r2=>?_) (fun e3=>?_)
  ·refine xR 2 ?_;refine xE ?_;refine Ql ⟨[(6,I r2),(7, .ptr 2000 0)],LU 0⟩ ?_;refine sT ?_;refine qV ?_;refine Zg [(1001,2000)] [] [] (Ug n 0) Qc Qc Qc QF QF (fun r4=>?_);exact Js (.id) [] []
  ·refine Un ?_;refine IC ?_;refine Zg [(1001,2000)] [] [] (Za n e3 0) Qc Qc Qc QF QF (fun r5=>?_);exact Js (.id) [] []
 ·refine sG ?_;refine xR 1 ?_;refine xC [] (VQ n O) QF (fun r6=>?_);refine xR 1 ?_;refine xS r6 (fun h7=>?_) (fun h7=>?_)
  ·refine xO (Qv h7) ?_;refine xC [] (Yt n G 0 1000000000) QF (fun r8=>?_);refine xR 2 ?_;refine xS r8 (fun h9=>?_) (fun h9=>?_)
   ·refine xO (Qv h9) ?_;refine xC [] (Yt n J 1 1000000000) QF (fun Z=>?_);refine xR 1 ?_;refine JY [] (Kk n Z 1) QF QF (fun ad=>?_) (fun aa=>?_)
    ·refine xE ?_;exact KW (k:=fun _=>Zo n O G J) ()
    ·refine Gu ?_;refine IC ?_;refine Zg [(1001,2000)] [] [] (Za n aa 0) Qc Qc Qc QF QF (fun ah=>?_);exact Js (.id) [] []
   ·refine xN (Qx h9) ?_;refine xR 2 ?_;refine JY [] (Kk n false 1) QF QF (fun ac=>?_) (fun ab=>?_)
    ·refine xE ?_;exact KW (k:=fun _=>Zo n O G J) ()
    ·refine Gu ?_;refine IC ?_;refine Zg [(1001,2000)] [] [] (Za n ab 0) Qc Qc Qc QF QF (fun ae=>?_);exact Js (.id) [] []
  ·refine xN (Qx h7) ?_;refine xR 6 ?_;refine JY [] (Kk n false 1) QF QF (fun af=>?_) (fun Y=>?_)
   ·refine xE ?_;exact KW (k:=fun _=>Zo n O G J) ()
   ·refine Gu ?_;refine IC ?_;refine Zg [(1001,2000)] [] [] (Za n Y 0) Qc Qc Qc QF QF (fun ai=>?_);exact Js (.id) [] []
theorem F6 (n:Nat) (J:Int) (G:Int) (O:Int):∀ r,YC n J G O=some r→QC Tryz.prog 153 [I J,I G,I O] (.ret (.tup [I r.1,I r.2])):=fun r h=>Ew (M8 n J G O r h) rfl
def KS (n:Nat) (Z:Gv) (Y:Int) (O:(Int × Int)→Option Int) (J:Int) (G:Int):Option Int :=
 cond (Qs J Y)
  (((Vs n Z J).bind fun r5 =>
  cond r5
   (some (wi (G+1)))
   (some G)).bind fun j4 =>
  O (wi (J+1),j4))
  (some G)
def JS (n:Nat) (G:Gv) (J:Int) (aa:Int):Option (Except Int Int) :=
 (Qn (fun O (Z,Y)=>KS n G aa O Z Y) n (J,0)).bind fun j1 =>
 (YC n G.article.Price (Jq 0 (wi (j1 - G.article.Free))) G.article.Unit).bind fun r7 =>
 (JD n r7.1 r7.2).bind (Lr (fun r8 =>
  some (.ok r8)) fun e9=>some (.error e9))
def QkG:=fun G=>([(0,G),(6,I 0),(7, .ptr 7 0),(11, .fn (.func 234) [] [.ptr 404 0, .ptr 405 0, .ptr 403 0])]:List (Nat × AV))
def Qjg:=fun G O J=>(⟨QkG G,[(7, .box 3 [I 0]),(403, .box 208 [G]),(404, .box 3 [I O]),(405, .box 3 [I J])]⟩:St)
def EU:=fun J Y G Z O=>([(1007, .box 3 [I J]),(1403, .box 208 [Y]),(1404, .box 3 [I G]),(1405, .box 3 [I Z]),(4000,O)]:List (Nat × Blk))
def kS:=fun G=>([(0,G),(6,I 0),(7, .ptr 1007 0),(11, .fn (.func 234) [] [.ptr 1404 0, .ptr 1405 0, .ptr 1403 0])]:List (Nat × AV))
def Qjh:=fun G J=>([(0,(.yv 4000)),(2, .ptr 1405 0),(3, .ptr 1403 0),(5,I G),(6,I J),(7,I G)]:List (Nat × AV))
theorem DL (n:Nat) (J:Gv) (G:Int) (O:Int):∀ r,JS n J G O=some r→QC Tryz.prog 208 [.eptr (Gv.cs J),I G,I O] (kG (fun r:Int=>(I r:AV)) (fun e:Int=>(.ifc 196 (.agg [I e]):AV)) r):=by
 refine Qj Tryz.func208 rfl Tryz.ntmps208 rfl ?_;unfold JS;refine Qf Qd ⟨[(0, .eptr (Gv.cs J)),(1,I G),(2,I O),(6,I 0)],[]⟩ (Qf Qd ⟨[(0, .eptr (Gv.cs J)),(1,I G),(2,I O),(6,I 0),qq 7],[(7, .box 3 [I 0])]⟩ (KQ (fun j1=>⟨[(0, .eptr (Gv.cs J)),(6,I 0),qq 7],[(7, .box 3 [I j1])]⟩:Int→St) ?_ ?_));rotate_left
 ·rintro j1;refine sS (Bh Qd rfl (xR 18 ?_));refine xC [] (F6 n J.article.Price (Jq 0 (wi (j1 - J.article.Free))) J.article.Unit) QF (fun r7=>?_);refine xR 2 (Eu rfl Qc Qc ?_);refine JY [] (F5 n r7.1 r7.2) QF QF (fun r8=>?_) (fun e9=>?_)
  ·exact xR 1 (xE (Ql ⟨[(6,I r8)],[]⟩ (sT (qR (.id)))))
  exact Un (qU)
 refine sS (sG (xR 3 (GD [] [.eptr (Gv.cs J),I G,I O] [(3,403),(4,404),(5,405)] [] [] Tryz.func226 rfl Tryz.ntmps226 rfl (Qf Qd ⟨[qq 3,qq 4,qq 5,(6, .p (.val (.nilFunc)))],[(3, .box 208 [.eptr (Gv.cs J)]),(4, .box 3 [I G]),(5, .box 3 [I O])]⟩ (Qf Qd ⟨[(6, .fn (.func 234) [] [.ptr 4 0, .ptr 5 0, .ptr 3 0])],[(3, .box 208 [.eptr (Gv.cs J)]),(4, .box 3 [I G]),(5, .box 3 [I O])]⟩ (sT (QD (.id) [3,4,5] [] (.fn (.func 234) [] [.ptr 4 0, .ptr 5 0, .ptr 3 0]) (Wh (xE (Ql (Qjg (.eptr (Gv.cs J)) G O) (sB (Pe (Qjg (.eptr (Gv.cs J)) G O) (RV 234 3000 [] [.ptr 404 0, .ptr 405 0, .ptr 403 0] Qc Qc (fun aa _ ac=>(QQ (hc:=(EU 0 (.eptr (Gv.cs J)) G O (.lp (kS (.eptr (Gv.cs J))) aa .ready none))) (args':=[.yv 4000, .ptr 1404 0, .ptr 1405 0, .ptr 1403 0]) [(1007,7),(1403,403),(1404,404),(1405,405),(4000,3000)] [] [] Tryz.func234 rfl Tryz.ntmps234 rfl Qc Qc Qc (Qf Qd ⟨[(0, .yv 4000),(2, .ptr 1405 0),(3, .ptr 1403 0),(5,I G),(6,I G)],EU 0 (.eptr (Gv.cs J)) G O (.lp (kS (.eptr (Gv.cs J))) aa .ready none)⟩ (sB (QG (fun (Y,Z)=>⟨[(0, .yv 4000),(2, .ptr 1405 0),(3, .ptr 1403 0),(5,I Y),(6,I G)],EU Z (.eptr (Gv.cs J)) G O (.lp (kS (.eptr (Gv.cs J))) aa .ready none)⟩:(Int × Int)→St) (Gm) ?_))))))))))))))))));rintro ab ⟨Y,Z⟩;show QP (KS n J O ab Y Z) _ _ _ _ _ _;unfold KS;refine sS (Qf Qd ⟨[(0, .yv 4000),(2, .ptr 1405 0),(3, .ptr 1403 0),(5,I Y),(6,I G),(7,I Y),(9,B (Qs Y O))],EU Z (.eptr (Gv.cs J)) G O (.lp (kS (.eptr (Gv.cs J))) aa .ready none)⟩ (sC (Qs Y O) ?_ ?_));rotate_left
 ·refine Qt (ZR (Yw (QM (DX .id [1007,1403,1404,1405,4000] [] (.tup []) ?_))));refine Qbb .ready ⟨[0,6,7],[7],[],[]⟩ ⟨[(0, .eptr (Gv.cs J)),(6,I 0),qq 7],[(7, .box 3 [I Z])]⟩ Qc (by intro h; cases h) Qc ?_;exact QR (QS Z)
 refine sK (Ql ⟨Qjh Y G,EU Z (.eptr (Gv.cs J)) G O (.lp (kS (.eptr (Gv.cs J))) aa .ready none)⟩ (sS (sB (KQ (fun j4=>⟨[(0, .yv 4000),(2, .ptr 1405 0),(3, .ptr 1403 0),(5,I Y),(6,I G),(7,I Y),(20,B false)],EU j4 (.eptr (Gv.cs J)) G O (.lp (kS (.eptr (Gv.cs J))) aa .ready none)⟩:Int→St) ?_ ?_))));rotate_left
 ·rintro j4;exact QZ (sK (QR (Ql ⟨Qjh Y G,EU j4 (.eptr (Gv.cs J)) G O (.lp (kS (.eptr (Gv.cs J))) aa .ready none)⟩ (sL Qd (KW (wi (Y+1),j4))))))
 refine sG (xR 2 ?_);refine xC [] (Gw n J Y) QF (fun r5=>?_);exact xR 1 (xS r5 (fun h6=>xO (Qv h6) (xR 1 (Bn [] (EU Z (.eptr (Gv.cs J)) G O (.lp (kS (.eptr (Gv.cs J))) aa .ready none)) 4000 (kS (.eptr (Gv.cs J))) [] [] [I Y] Qc ac Qc Qc Qc Qc Qc (fun _=>sK (Qbc ⟨[6,7],[1007,1403,1404,1405,4000],[],[]⟩ ⟨[(6,I 0),(7, .ptr 1007 0)],EU Z (.eptr (Gv.cs J)) G O (.lp (kS (.eptr (Gv.cs J))) aa .busy none)⟩ none Qc Qc (sB (sL Qd (QR (lK [1007,1403,1404,1405,4000] [] .busy none (Wh (xR 2 (xE (QS (wi (Z+1))))))))))))))) (fun h6=>xN (Qx h6) (xR 4 (xE (QS Z)))))
def Yl (n:Nat) (G:Int) (J:Int):Option (Int × Int) :=
 (JR n (wi (G * J)) 10000).bind fun r2 =>
 (KR n r2).bind (Lr (fun O =>
  (VY n 0).bind fun Y =>
  some (O,Y)) fun Z=>(Q6 n Z 0).bind fun r6 =>
 some (0,r6))
def JE (n:Nat) (G:Int) (J:Int):Option (Int × Int) :=
 (Kr n G).bind fun r7 =>
 cond r7
  ((Kh n J 0 100000).bind fun r9 =>
  (Kj n r9 1).bind (Lr (fun ac =>
   Yl n G J) fun Y=>(Q6 n Y 0).bind fun aa =>
  some (0,aa)))
  ((Kj n false 1).bind (Lr (fun ab =>
   Yl n G J) fun O=>(Q6 n O 0).bind fun Z =>
  some (0,Z)))
theorem IY (n:Nat) (G:Int) (J:Int):∀ r,JE n G J=some r→KD Tryz.prog 92 [I G,I J] (Go.Abs.look []) (Yh (fun r:Int × Int=>((.ret (.tup [I r.1,I r.2]),[]):ZB × List (Nat × Blk))) r):=by
 refine MP (X:=fun r:Int × Int=>((.ret (.tup [I r.1,I r.2]),[]):ZB × List (Nat × Blk))) [] (⟨Tryz.f155,_,_,_,1,_,_,Tryz.func155,rfl,rfl,rfl,rfl,rfl,rfl,by decide,by decide,rfl,by kernel_rfl⟩:LK Tryz.prog 155 156) (⟨_,_,_,_,_,5,6,_,rfl,rfl,rfl,rfl,rfl,rfl,rfl,by decide⟩:RO Tryz.f92 155) 5 Tryz.func92 Tryz.ntmps92 rfl Qc rfl Qd rfl Qc Qc Qc ?_;unfold JE;refine Pe ⟨[(0,I G),(1,I J),(4,I 0),(5, .ptr 2000 0)],LU 0⟩ ?_;refine Yc (fun _=>⟨[(0,I G),(1,I J),(4,I 0),(5, .ptr 2000 0)],LU 0⟩:Unit→St) (fun _=>Yl n G J) ?_ ?_
 ·rintro _;show QP (Yl n G J) _ _ _ _ _ _;unfold Yl;refine sS ?_;refine sG ?_;refine xR 3 ?_;refine xC [] (DK n (wi (G * J)) 10000) QF (fun r2=>?_);refine JY [] (XE n r2) QF QF (fun r3=>?_) (fun e4=>?_)
  ·refine xR 2 ?_;refine xE ?_;refine Ql ⟨[(4,I r3),(5, .ptr 2000 0)],LU 0⟩ ?_;refine sT ?_;refine qV ?_;refine Zg [(1001,2000)] [] [] (Ug n 0) Qc Qc Qc QF QF (fun r5=>?_);exact Js (.id) [] []
  ·refine Un ?_;refine IC ?_;refine Zg [(1001,2000)] [] [] (Za n e4 0) Qc Qc Qc QF QF (fun r6=>?_);exact Js (.id) [] []
 ·refine sG ?_;refine xR 1 ?_;refine xC [] (VQ n G) QF (fun r7=>?_);refine xR 1 ?_;refine xS r7 (fun Y=>?_) (fun Y=>?_)
  ·refine xO (Qv Y) ?_;refine xC [] (Yt n J 0 100000) QF (fun r9=>?_);refine xR 1 ?_;refine JY [] (Kk n r9 1) QF QF (fun ab=>?_) (fun Z=>?_)
   ·refine xE ?_;exact KW (k:=fun _=>Yl n G J) ()
   ·refine Gu ?_;refine IC ?_;refine Zg [(1001,2000)] [] [] (Za n Z 0) Qc Qc Qc QF QF (fun aa=>?_);exact Js (.id) [] []
  ·refine xN (Qx Y) ?_;refine xR 2 ?_;refine JY [] (Kk n false 1) QF QF (fun ad=>?_) (fun O=>?_)
   ·refine xE ?_;exact KW (k:=fun _=>Yl n G J) ()
   ·refine Gu ?_;refine IC ?_;refine Zg [(1001,2000)] [] [] (Za n O 0) Qc Qc Qc QF QF (fun ac=>?_);exact Js (.id) [] []
theorem BG (n:Nat) (G:Int) (J:Int):∀ r,JE n G J=some r→QC Tryz.prog 92 [I G,I J] (.ret (.tup [I r.1,I r.2])):=fun r h=>Ew (IY n G J r h) rfl
def VJ (n:Nat) (O:Int) (G:Int) (Y:List Ka) (J:Int):Option (Except Int Ke) :=
 (cond (leI 0 G)
  (some (Ls J G))
  (some J)).bind fun Z =>
 (JE n Z O).bind fun r3 =>
 (JD n r3.1 r3.2).bind (Lr (fun r4 =>
  cond (Qs 1000000000 (wi (Z+r4)))
   (some (.error 3))
   (some (.ok (⟨Y,Z,r4,wi (Z+r4)⟩:Ke)))) fun e5=>some (.error e5))
def Q3 (aa:Int) (ab:Int) (G:Int) (J:List Ka) (Z:Int) (O:(Int × Int × Int × (List Ka) × Int)→Option (Except Int Ke)) (Y:Int):Option (Except Int Ke) :=
 cond (QK (List.length (J++[(⟨G,Y⟩:Ka)])) 16) (
  O (aa,ab,wi (G+1),J++[(⟨G,Y⟩:Ka)],wi (Z+Y))) none
def KJ (n:Nat) (ab:Kn) (Y:YN) (x7:QT) (O:(Int × Int)→Option Int) (J:Int) (G:Int):Option Int :=
 cond (Qs G (Qb (List.map HZ.cs Y.Slices)))
  ((QU Y.Slices G).bind fun Z =>
  (Vs n (⟨x7,ab,Y⟩:Gv) Z.Minute).bind fun aa =>
  cond aa
   (O (wi (J+Z.Energy),wi (G+1)))
   (O (J,wi (G+1))))
  (some J)
def YK (n:Nat) (ah:Ky) (ad:Kn) (ab:YN) (G:(Int × Int × Int × (List Ka) × Int)→Option (Except Int Ke)) (aa:Int) (J:Int) (O:Int) (Z:List Ka) (Y:Int):Option (Except Int Ke) :=
 cond (Qs O (Qb (List.map QT.cs ah.Articles)))
  ((QU ah.Articles O).bind fun x7 =>
  cond (Qp x7.Kind 5)
   ((cond (Qs J 0)
    (some true)
    (some (Qs x7.Price J))).bind fun j8 =>
   cond j8
    (G (aa,x7.Price,wi (O+1),Z,Y))
    (G (aa,J,wi (O+1),Z,Y)))
   (cond (Qp x7.Kind 6)
    (G (x7.Price,J,wi (O+1),Z,Y))
    (cond (Qp x7.Kind 1)
     ((Vs n (⟨x7,ad,ab⟩:Gv) ab.From).bind fun ak =>
     cond ak
      (Q3 aa J O Z Y G x7.Price)
      (Q3 aa J O Z Y G 0))
     (cond (Qp x7.Kind 2)
      ((Qn (fun ac (ae,af)=>KJ n ad ab x7 ac ae af) n (0,0)).bind fun ao =>
      (VH n x7.Price ao 1000).bind fun ai =>
      (JD n ai.1 ai.2).bind (Lr (fun an =>
       Q3 aa J O Z Y G an) fun aj=>some (.error aj)))
      (cond (Qp x7.Kind 3)
       ((JS n (⟨x7,ad,ab⟩:Gv) ab.From ab.To).bind (Lr (fun ar =>
        Q3 aa J O Z Y G ar) fun al=>some (.error al)))
       (cond (Qp x7.Kind 4)
        ((JS n (⟨x7,ad,ab⟩:Gv) ab.End ab.To).bind (Lr (fun aq =>
         Q3 aa J O Z Y G aq) fun am=>some (.error am)))
        (Q3 aa J O Z Y G 0)))))))
  (VJ n aa J Z Y)
def F7 (n:Nat) (ab:Ky) (ad:Kn) (ac:YN):Option (Except Int Ke) :=
 Qn (fun G (aa,O,Y,Z,J)=>YK n ab ad ac G aa O Y Z J) n (0,(-1),0,[],0)
def kT:Blk:=.box 62 [.p (.val (.slice none 0 0)),I 0,I 0,I 0]
def cO:=fun J O G=>([(3, .box 59 (YE (Ky.cs J))),(4, .box 52 (YE (Kn.cs O))),(5, .box 55 (YE (YN.cs G))),(6,kT)]:List (Nat × Blk))
def Qfk:=fun J O G=>([(3, .box 59 (YE (Ky.cs J))),(4, .box 52 (YE (Kn.cs O))),(5, .box 55 (YE (YN.cs G))),(6,kT),(7,kT)]:List (Nat × Blk))
def QbK:=fun J O G Y=>(.box 62 [.tsl 2 (List.map Ka.cs J) 38,I O,I G,I Y]:Blk)
def QbL:=fun G=>(.arr 137 2 (List.map Ka.cs G).length:Blk)
def gK:=fun G O J Y=>([(6,kT),(7,(QbK G O J Y)),(38,(QbL G))]:List (Nat × Blk))
def Qhz:=fun J O G Y=>(⟨[(6, .ptr 6 0),(7, .ptr 7 0)],gK J O G Y⟩:St)
def aF:=fun J O G Y=>([(4, .ptr 4 0),(5, .ptr 5 0),(6, .ptr 6 0),(7, .ptr 7 0),(8,I J),(9,I O),(15, .p (.sl 7 (List.map QT.cs (Ky.Articles G)))),(16,I (Qb (List.map QT.cs (Ky.Articles G)))),(17,I Y)]:List (Nat × AV))
def Qfl:=fun G J=>([(4, .box 52 (YE (Kn.cs G))),(5, .box 55 (YE (YN.cs J))),(6,kT),(7,kT)]:List (Nat × Blk))
def EW:=fun J O G Y=>([(4, .box 52 (YE (Kn.cs J))),(5, .box 55 (YE (YN.cs O))),(6,kT),(7,(QbK G Y 0 0)),(38,(QbL G))]:List (Nat × Blk))
def gL:=fun J Y G Z O=>([(4, .box 52 (YE (Kn.cs J))),(5, .box 55 (YE (YN.cs Y))),(6,kT),(7,(QbK G Z 0 0)),(11, .box 183 (YE (QT.cs O))),(38,(QbL G))]:List (Nat × Blk))
def Qji:=fun G=>(.box 210 (YE (Gv.cs G)):Blk)
def YL:=fun G=>([(1000,(Qji G))]:List (Nat × Blk))
def QbM:=fun G=>(⟨[(0, .ptr 1000 0)],YL G⟩:St)
def Qjj:=fun G J=>(⟨[(0, .ptr 1000 0),(6, .ptr 1000 0),(7,I (QT.Kind G))],YL J⟩:St)
def QbN:=fun G J=>(⟨[(2, .fn G [.ptr 1000 0] [])],YL J⟩:St)
def QbO:=fun O G J=>([(0, .ptr 1000 0),(3,I O),(6, .ptr 1000 0),(7, .ptr 1000 0),(10, .p (.sl 2 (List.map HZ.cs (YN.Slices G)))),(11,I (Qb (List.map HZ.cs (YN.Slices G)))),(12,I J)]:List (Nat × AV))
abbrev cZ (x:HZ):Go.Abs.Blk:=.box 207 (YE (HZ.cs x))
theorem kU (n:Nat) (ac:Ky) (J:Kn) (G:YN):∀ r,F7 n ac J G=some r→QC Tryz.prog 47 [ag (Ky.cs ac),ag (Kn.cs J),ag (YN.cs G)] (kG (fun r:Ke=>(ag (Ke.cs r):AV)) (fun e:Int=>(.ifc 196 (.agg [I e]):AV)) r):=by
 refine Qj Tryz.func47 rfl Tryz.ntmps47 rfl ?_;unfold F7;refine Qf Qd ⟨[qq 3,qq 4,qq 5,qq 6],cO ac J G⟩ (Qf Qd ⟨[qq 3,qq 4,qq 5,qq 6,qq 7],Qfk ac J G⟩ (Qf Qd ⟨[qq 3,qq 4,qq 5,qq 6,qq 7,(8,I 0),(9,I (-1))],Qfk ac J G⟩ (Yc (fun (ak,aj,ah,al)=>⟨[qq 6,qq 7,(8,I ak),(9,I aj)],gK ah al 0 0⟩:(Int × Int × (List Ka) × Int)→St) (fun (ak,aj,ah,al)=>VJ n ak aj ah al) ?_ ?_)))
 ·rintro ⟨ak,aj,ah,al⟩;show QP (VJ n ak aj ah al) _ _ _ _ _ _;unfold VJ;refine KQ (fun j2=>⟨[qq 6,qq 7,(8,I ak)],gK ah j2 0 0⟩:Int→St) (Qf Qd ⟨[qq 6,qq 7,(8,I ak),(9,I aj),(63,B (leI 0 aj))],gK ah al 0 0⟩ (sC (leI 0 aj) (sL Qd (QS (Ls al aj))) (sK (QS al)))) ?_;rintro j2;refine sS (sG (xR 3 ?_));refine xC [] (BG n j2 ak) QF (fun r3=>?_);refine xR 2 ?_;refine JY [] (F5 n r3.1 r3.2) QF QF (fun r4=>?_) (fun e5=>?_);rotate_left
  ·exact Un (qU)
  exact xR 2 (xE (Ql (Qhz ah j2 r4 0) (Qf Qd (Qhz ah j2 r4 (wi (j2+r4))) (sS (Qf Qd ⟨[qq 6,qq 7,(85,B (Qs 1000000000 (wi (j2+r4))))],gK ah j2 r4 (wi (j2+r4))⟩ (sC (Qs 1000000000 (wi (j2+r4))) (sG (xR 2 (xPa 196 (.agg [I 3]) Qc rfl Qc (Un (qU))))) (sK (Ql (Qhz ah j2 r4 (wi (j2+r4))) (Qf Qd ⟨[qq 6],[(6,(QbK ah j2 r4 (wi (j2+r4)))),(38,(QbL ah))]⟩ (sT (qR (.agg [.sl 2, .id, .id, .id]))))))))))))
 refine Qf Qd ⟨aF 0 (-1) ac 0,Qfl J G⟩ (sB (Pe ⟨aF 0 (-1) ac 0,Qfl J G⟩ (KF (Yr 137 2 38 [] [(7,0)]) (QG (fun (ab,aa,O,Y,Z)=>⟨aF ab aa ac O,EW J G Y Z⟩:(Int × Int × Int × (List Ka) × Int)→St) (Gm) ?_))));rintro ai ⟨ab,aa,O,Y,Z⟩;show QP (YK n ac J G ai ab aa O Y Z) _ _ _ _ _ _;unfold YK;refine Qf Qd ⟨[qq 4,qq 5,qq 6,qq 7,(8,I ab),(9,I aa),(15, .p (.sl 7 (Y3 ac.Articles))),(16,I (Qb (Y3 ac.Articles))),(17,I O),(18,B (Qs O (Qb (Y3 ac.Articles))))],EW J G Y Z⟩ (sS (sC (Qs O (Qb (Y3 ac.Articles))) (sK (Ql ⟨aF ab aa ac O,EW J G Y Z⟩ (sS (sB (sS (sG (xR 1 (xG (ZA (e:=183) (S:=7) (enc:=QT.cs) (l:=ac.Articles) (k:=.i64) (n:=O) (sv:=.p (.sl 7 (Y3 ac.Articles))) rfl Qc Qc Qc Qc Qc) (fun x7=>xR 4 (xE (Ql ⟨[qq 4,qq 5,qq 6,qq 7,(8,I ab),(9,I aa),(10,I O),qq 11,(15, .p (.sl 7 (Y3 ac.Articles))),(16,I (Qb (Y3 ac.Articles))),(17,I O)],gL J G Y Z x7⟩ (Qf Qd ⟨[qq 4,qq 5,qq 6,qq 7,(8,I ab),(9,I aa),(10,I O),qq 11,(15, .p (.sl 7 (Y3 ac.Articles))),(16,I (Qb (Y3 ac.Articles))),(17,I O),(23,I x7.Kind)],gL J G Y Z x7⟩ (sB (Qf Qd ⟨[qq 4,qq 5,qq 6,qq 7,(8,I ab),(9,I aa),(10,I O),qq 11,(15, .p (.sl 7 (Y3 ac.Articles))),(16,I (Qb (Y3 ac.Articles))),(17,I O),(23,I x7.Kind),(45,B (Qp x7.Kind 5))],gL J G Y Z x7⟩ (sC (Qp x7.Kind 5) ?_ ?_))))))))))))))) (Qt (ZR (Yw (QM (KW (k:=fun (ak,aj,ah,al)=>VJ n ak aj ah al) (ab,aa,Y,Z))))))))
 ·refine KQ (fun j8=>⟨[qq 4,qq 5,qq 6,qq 7,(8,I ab),(9,I aa),qq 11,(15, .p (.sl 7 (Y3 ac.Articles))),(16,I (Qb (Y3 ac.Articles))),(17,I O),(54,B j8)],gL J G Y Z x7⟩:Bool→St) (sG (xR 3 (xS (Qs aa 0) (fun h9=>xN (Qy h9) (xR 4 (xE (QS true)))) (fun h9=>xO (Qw h9) (xR 4 (xE (QS (Qs x7.Price aa)))))))) ?_;rintro j8;exact sC j8 (sL Qd (QR (QR (Ql ⟨[qq 4,qq 5,qq 6,qq 7,(8,I ab),(9,I x7.Price),(15, .p (.sl 7 (Y3 ac.Articles))),(16,I (Qb (Y3 ac.Articles))),(17,I O)],EW J G Y Z⟩ (sL Qd (KW (ab,x7.Price,wi (O+1),Y,Z))))))) (sK (QR (QR (Ql ⟨aF ab aa ac O,EW J G Y Z⟩ (sL Qd (KW (ab,aa,wi (O+1),Y,Z)))))))
 refine Qf Qd ⟨[qq 4,qq 5,qq 6,qq 7,(8,I ab),(9,I aa),(10,I O),qq 11,(15, .p (.sl 7 (Y3 ac.Articles))),(16,I (Qb (Y3 ac.Articles))),(17,I O),(57,B (Qp x7.Kind 6))],gL J G Y Z x7⟩ (sC (Qp x7.Kind 6) (sL Qd (QR (QR (Ql ⟨[qq 4,qq 5,qq 6,qq 7,(8,I x7.Price),(9,I aa),(15, .p (.sl 7 (Y3 ac.Articles))),(16,I (Qb (Y3 ac.Articles))),(17,I O)],EW J G Y Z⟩ (sL Qd (KW (x7.Price,aa,wi (O+1),Y,Z))))))) (Qf Qd ⟨[qq 4,qq 5,qq 6,qq 7,(8,I ab),(9,I aa),(10,I O),(12, .ptr 28 0),(15, .p (.sl 7 (Y3 ac.Articles))),(16,I (Qb (Y3 ac.Articles))),(17,I O)],[(4,zx J),(5,Pn G),(6,kT),(7,(QbK Y Z 0 0)),(28,(Qji ⟨x7,J,G⟩)),(38,(QbL Y))]⟩ (Yc (fun ae=>⟨[qq 4,qq 5,qq 6,qq 7,(8,I ab),(9,I aa),(10,I O),(13,I ae),(15, .p (.sl 7 (Y3 ac.Articles))),(16,I (Qb (Y3 ac.Articles))),(17,I O)],EW J G Y Z⟩:Int→St) (fun ae=>Q3 ab aa O Y Z ai ae) ?_ ?_)))
 ·rintro ae;show QP (Q3 ab aa O Y Z ai ae) _ _ _ _ _ _;unfold Q3;exact sS (sG (xR 6 (xF (Y1 (e:=137) (S:=2) (by_:=16) (enc:=Ka.cs) (tk:=38) (l:=Y) (l2:=[(⟨O,ae⟩:Ka)]) (xv:=.tsl 2 (EH [(⟨O,ae⟩:Ka)]) 37) rfl Qc Qc rfl Qc Qc Qc rfl Qc) (xR 2 (xE (Ql ⟨[qq 4,qq 5,qq 6,qq 7,(8,I ab),(9,I aa),(13,I ae),(15, .p (.sl 7 (Y3 ac.Articles))),(16,I (Qb (Y3 ac.Articles))),(17,I O)],EW J G (Y++[(⟨O,ae⟩:Ka)]) Z⟩ (sL Qd (QR (QR (Ql ⟨aF ab aa ac O,EW J G (Y++[(⟨O,ae⟩:Ka)]) (wi (Z+ae))⟩ (sL Qd (KW (ab,aa,wi (O+1),Y++[(⟨O,ae⟩:Ka)],wi (Z+ae))))))))))))))
 refine sG (xR 1 (GD (YL ⟨x7,J,G⟩) [Zj] [(1000,28)] [] [] Tryz.func97 rfl Tryz.ntmps97 rfl (Qf Qd (QbM ⟨x7,J,G⟩) (sS (Qf Qd (Qjj x7 ⟨x7,J,G⟩) (sB (Qf Qd ⟨[(0,Zj),(6,Zj),(7,I x7.Kind),(8,B (Qp x7.Kind 1))],YL ⟨x7,J,G⟩⟩ (sC (Qp x7.Kind 1) ?_ ?_))))))))
 ·refine Qf Qd (QbN (.func 164) ⟨x7,J,G⟩) (sT (Q4 (QB (QD (.id) [1000] [] (.fn (.func 164) [Zj] []) (Wh (GD (YL ⟨x7,J,G⟩) [Zj] [(1000,28)] [] [] Tryz.func164 rfl Tryz.ntmps164 rfl (Qf Qd (QbM ⟨x7,J,G⟩) (sS (sS (sG (xR 6 ?_)))))))))));refine XK [.ro [], .cv (.id)] (Gw n (⟨x7,J,G⟩:Gv) G.From) QF (fun aw=>?_);exact xE (Ql ⟨[(0,Zj),(6, .ptr 1000 10),(7, .ptr 1000 10),(9,B aw)],YL ⟨x7,J,G⟩⟩ (sC aw (Qf Qd ⟨[(2,I x7.Price)],YL ⟨x7,J,G⟩⟩ (sT (QB (QD (.id) [1000] [] (I x7.Price) (Wh (xR 1 (xE (KW (k:=fun ae=>Q3 ab aa O Y Z ai ae) x7.Price)))))))) (sK (Ql ⟨[(6, .ptr 1000 10),(7, .ptr 1000 10)],YL ⟨x7,J,G⟩⟩ (Qf Qd ⟨[(2,I 0)],YL ⟨x7,J,G⟩⟩ (sT (QD (.id) [1000] [] (I 0) (Wh (xR 1 (xE (KW (k:=fun ae=>Q3 ab aa O Y Z ai ae) 0)))))))))))
 refine Qf Qd ⟨[(0,Zj),(6,Zj),(7,I x7.Kind),(12,B (Qp x7.Kind 2))],YL ⟨x7,J,G⟩⟩ (sC (Qp x7.Kind 2) ?_ ?_)
 ·refine Qf Qd (QbN (.func 165) ⟨x7,J,G⟩) (sT (Q4 (QB (QD (.id) [1000] [] (.fn (.func 165) [Zj] []) (Wh (GD (YL ⟨x7,J,G⟩) [Zj] [(1000,28)] [] [] Tryz.func165 rfl Tryz.ntmps165 rfl (Qf Qd (QbM ⟨x7,J,G⟩) (Qf Qd ⟨[(0,Zj),(3,I 0)],YL ⟨x7,J,G⟩⟩ (KQ (fun ar=>⟨[(0,Zj),(3,I ar),(6,Zj),(7,Zj)],YL ⟨x7,J,G⟩⟩:Int→St) ?_ ?_)))))))));rotate_left
  ·rintro ar;refine sS (sG (xR 6 ?_));refine xC [] (Ti n x7.Price ar 1000) QF (fun ax=>?_);refine xR 2 ?_;refine JY [] (F5 n ax.1 ax.2) QF QF (fun ao=>?_) (fun ay=>?_)
   ·exact xR 1 (xE (Ql ⟨[(2,I ao)],YL ⟨x7,J,G⟩⟩ (sT (QD (.id) [1000] [] (I ao) (Wh (xR 1 (xE (KW (k:=fun ae=>Q3 ab aa O Y Z ai ae) ao))))))))
   exact Un (NT [1000] [] (Gu (Ab (Ab (Un (Gu (Ab (Gu (qU)))))))))
  refine Qf Qd ⟨QbO 0 G 0,YL ⟨x7,J,G⟩⟩ (sB (QG (fun (af,ad)=>⟨QbO af G ad,YL ⟨x7,J,G⟩⟩:(Int × Int)→St) (Gm) ?_));rintro an ⟨af,ad⟩;show QP (KJ n J G x7 an af ad) _ _ _ _ _ _;unfold KJ;refine Qf Qd ⟨[(0,Zj),(3,I af),(6,Zj),(7,Zj),(10, .p (.sl 2 (Nr G.Slices))),(11,I (Qb (Nr G.Slices))),(12,I ad),(13,B (Qs ad (Qb (Nr G.Slices))))],YL ⟨x7,J,G⟩⟩ (sS (sC (Qs ad (Qb (Nr G.Slices))) (sK (Ql ⟨QbO af G ad,YL ⟨x7,J,G⟩⟩ (sS (sB (sS (sG (xG (ZA (e:=207) (S:=2) (enc:=HZ.cs) (l:=G.Slices) (k:=.i64) (n:=ad) (sv:=.p (.sl 2 (Nr G.Slices))) rfl Qc Qc Qc Qc Qc) (fun am=>xR 3 (xE (Ql ⟨[(0,Zj),(3,I af),qq 5,(6,Zj),(7,Zj),(10, .p (.sl 2 (Nr G.Slices))),(11,I (Qb (Nr G.Slices))),(12,I ad)],[(5,cZ am)]++YL ⟨x7,J,G⟩⟩ (sS (sG (xR 3 ?_))))))))))))) (Qt (ZR (Yw (QM (QS af)))))));refine XK [.ro [], .cv (.id)] (Gw n (⟨x7,J,G⟩:Gv) am.Minute) QF (fun av=>?_);exact xE (Ql ⟨[(0,Zj),(3,I af),qq 5,(6,Zj),(7,Zj),(10, .p (.sl 2 (Nr G.Slices))),(11,I (Qb (Nr G.Slices))),(12,I ad),(19,B av)],[(5,cZ am)]++YL ⟨x7,J,G⟩⟩ (sC av (sL Qd (QR (Ql ⟨QbO (wi (af+am.Energy)) G ad,YL ⟨x7,J,G⟩⟩ (sL Qd (KW (wi (af+am.Energy),wi (ad+1))))))) (sK (QR (Ql ⟨QbO af G ad,YL ⟨x7,J,G⟩⟩ (sL Qd (KW (af,wi (ad+1)))))))))
 refine Qf Qd ⟨[(0,Zj),(6,Zj),(7,I x7.Kind),(16,B (Qp x7.Kind 3))],YL ⟨x7,J,G⟩⟩ (sC (Qp x7.Kind 3) ?_ ?_)
 ·refine Qf Qd (QbN (.func 166) ⟨x7,J,G⟩) (sT (Q4 (QB (QD (.id) [1000] [] (.fn (.func 166) [Zj] []) (Wh (GD (YL ⟨x7,J,G⟩) [Zj] [(1000,28)] [] [] Tryz.func166 rfl Tryz.ntmps166 rfl (Qf Qd (QbM ⟨x7,J,G⟩) (sS (Bh Qd rfl (xR 11 (Eu rfl Qc Qc ?_)))))))))));refine Bl [.ro [], .cv (.id), .cv (.id)] (DL n (⟨x7,J,G⟩:Gv) G.From G.To) QF QF (fun aq=>?_) (fun az=>?_)
  ·exact xR 1 (xE (Ql ⟨[(2,I aq)],YL ⟨x7,J,G⟩⟩ (sT (QD (.id) [1000] [] (I aq) (Wh (xR 1 (xE (KW (k:=fun ae=>Q3 ab aa O Y Z ai ae) aq))))))))
  exact Un (NT [1000] [] (Gu (Ab (Ab (Un (Gu (Ab (Gu (qU)))))))))
 refine Qf Qd ⟨[(0,Zj),(6,Zj),(7,I x7.Kind),(20,B (Qp x7.Kind 4))],YL ⟨x7,J,G⟩⟩ (sC (Qp x7.Kind 4) (Qf Qd (QbN (.func 167) ⟨x7,J,G⟩) (sT (Q4 (QB (QD (.id) [1000] [] (.fn (.func 167) [Zj] []) (Wh (GD (YL ⟨x7,J,G⟩) [Zj] [(1000,28)] [] [] Tryz.func167 rfl Tryz.ntmps167 rfl (Qf Qd (QbM ⟨x7,J,G⟩) (sS (Bh Qd rfl (xR 11 (Eu rfl Qc Qc ?_)))))))))))) (sK (QR (Ql (Qjj x7 ⟨x7,J,G⟩) (Qf Qd (QbN (.func 168) ⟨x7,J,G⟩) (sT (QD (.id) [1000] [] (.fn (.func 168) [Zj] []) (Wh (GD (YL ⟨x7,J,G⟩) [Zj] [(1000,28)] [] [] Tryz.func168 rfl Tryz.ntmps168 rfl (Qf Qd ⟨[],YL ⟨x7,J,G⟩⟩ (Qf Qd ⟨[(2,I 0)],YL ⟨x7,J,G⟩⟩ (sT (QD (.id) [1000] [] (I 0) (Wh (xR 1 (xE (KW (k:=fun ae=>Q3 ab aa O Y Z ai ae) 0)))))))))))))))));refine Bl [.ro [], .cv (.id), .cv (.id)] (DL n (⟨x7,J,G⟩:Gv) G.End G.To) QF QF (fun au=>?_) (fun a6=>?_)
 ·exact xR 1 (xE (Ql ⟨[(2,I au)],YL ⟨x7,J,G⟩⟩ (sT (QD (.id) [1000] [] (I au) (Wh (xR 1 (xE (KW (k:=fun ae=>Q3 ab aa O Y Z ai ae) au))))))))
 exact Un (NT [1000] [] (Gu (Ab (Ab (Un (Gu (Ab (Gu (qU)))))))))
def Gx (n:Nat) (G:Int) (J:Int):Option Int :=
 some G
def Qjk:=fun G=>([(0, .ifc 196 (.agg [I G])),(1, .ptr 1001 0),(6, .ifc 196 (.agg [I G])),(7,B false)]:List (Nat × AV))
theorem Pq (n:Nat) (G:Int) (J:Int):∀ r,Gx n G J=some r→KD Tryz.prog 43 [.ifc 196 (.agg [I G]),Rw] (Go.Abs.look [(1001, .box 29 [I J])]) (Yh (fun r:Int=>((.ret (.tup []),[(1001, .box 29 [I r])]):ZB × List (Nat × Blk))) r):=by
 refine Kq (M7 J) Tryz.func43 rfl Tryz.ntmps43 rfl ?_;unfold Gx;exact sS (Qf Qd ⟨Qjk G,M7 J⟩ (QZ (sK (Ql ⟨Qjk G,M7 J⟩ (Qf Qd ⟨[(0, .ifc 196 (.agg [I G])),(1,Rw),qq 4,(5,B true),(6, .ifc 196 (.agg [I G])),(7,B false)],[(4, .box 196 [I G])]++M7 J⟩ (sS (Qf Qd ⟨[(0, .ifc 196 (.agg [I G])),(1,Rw),qq 4,(6, .ifc 196 (.agg [I G])),(7,B false),(14,B false)],[(4, .box 196 [I G])]++M7 J⟩ (QZ (sK (Ql ⟨[(1,Rw),qq 4,(6, .ifc 196 (.agg [I G])),(7,B false)],[(4, .box 196 [I G])]++M7 J⟩ (sL Qd (lH (.id) [1001] []))))))))))))
def Vt (n:Nat) (G:Ky) (O:Kn) (J:YN):Option (Ke × Int) :=
 ((UR n G).bind fun r2 =>
 cond (!r2)
  (some true)
  ((YG n O).bind fun r4 =>
  cond (!r4)
   (some true)
   ((JQ n J).bind fun r6 =>
   some (!r6)))).bind fun j1 =>
 cond j1
  ((Hg n 1).bind fun r7 =>
  some ((⟨[],0,0,0⟩:Ke),r7))
  ((F7 n G O J).bind (Lr (fun r8 =>
   (Hg n 0).bind fun Z =>
   some (r8,Z)) fun e9=>(Gx n e9 0).bind fun Y =>
  some ((⟨[],0,0,0⟩:Ke),Y)))
def Qjl:List (Nat × AV):=[(3, .ptr 3 0),(4, .ptr 4 0),(5, .ptr 5 0),(6, .ptr 6 0),(7, .ptr 2000 0)]
theorem IZ (n:Nat) (G:Ky) (O:Kn) (J:YN):∀ r,Vt n G O J=some r→KD Tryz.prog 18 [ag (Ky.cs G),ag (Kn.cs O),ag (YN.cs J)] (Go.Abs.look []) (Yh (fun r:Ke × Int=>((.ret (.tup [ag (Ke.cs r.1),I r.2]),[]):ZB × List (Nat × Blk))) r):=by
 refine MP (X:=fun r:Ke × Int=>((.ret (.tup [ag (Ke.cs r.1),I r.2]),[]):ZB × List (Nat × Blk))) [] (⟨Tryz.f42,_,_,_,1,_,_,Tryz.func42,rfl,rfl,rfl,rfl,rfl,rfl,by decide,by decide,rfl,by kernel_rfl⟩:LK Tryz.prog 42 43) (⟨_,_,_,_,_,7,8,_,rfl,rfl,rfl,rfl,rfl,rfl,rfl,by decide⟩:RO Tryz.f18 42) 7 Tryz.func18 Tryz.ntmps18 rfl Qc rfl Qd rfl Qc Qc Qc ?_;unfold Vt;refine Pe ⟨Qjl,cO G O J++LU 0⟩ ?_;refine sS ?_;refine KQ (fun Z=>⟨[(3, .ptr 3 0),(4, .ptr 4 0),(5, .ptr 5 0),(6, .ptr 6 0),(7, .ptr 2000 0),(21,B Z)],cO G O J++LU 0⟩:Bool→St) ?_ ?_
 ·refine sG ?_;refine xR 1 ?_;refine xC [] (Dp n G) QF (fun r2=>?_);refine xR 2 ?_;refine xS (!r2) (fun Y=>?_) (fun Y=>?_)
  ·refine xN (Qy Y) ?_;refine xR 8 ?_;refine xE ?_;exact QS true
  ·refine xO (Qw Y) ?_;refine xC [] (WN n O) QF (fun r4=>?_);refine xR 3 ?_;refine xS (!r4) (fun h5=>?_) (fun h5=>?_)
   ·refine xN (Qy h5) ?_;refine xR 3 ?_;refine xE ?_;exact QS true
   ·refine xO (Qw h5) ?_;refine xC [] (DI n J) QF (fun r6=>?_);refine xR 2 ?_;refine xE ?_;exact QS (!r6)
 ·rintro Z;refine sC Z ?_ ?_
  ·refine Qf Qd ⟨[(6, .ptr 6 0),(7, .ptr 2000 0)],[(6,kT)]++LU 1⟩ ?_;refine sT ?_;refine QB ?_;refine qV ?_;refine Zg [(1001,2000)] [] [] (Tf n 1) Qc Qc Qc QF QF (fun r7=>?_);exact Js (.agg [.agg [.sl 2, .id, .id, .id], .id]) [] []
  ·refine sK ?_;refine Ql ⟨Qjl,cO G O J++LU 0⟩ ?_;refine sS ?_;refine sG ?_;refine xR 3 ?_;refine JY [] (kU n G O J) QF QF (fun r8=>?_) (fun e9=>?_)
   ·refine xR 2 ?_;refine xE ?_;refine Ql ⟨[(6, .ptr 6 0),(7, .ptr 2000 0)],[(6, .box 62 (YE (Ke.cs r8)))]++LU 0⟩ ?_;refine sT ?_;refine qV ?_;refine Zg [(1001,2000)] [] [] (Tf n 0) Qc Qc Qc QF QF (fun aa=>?_);exact Js (.id) [] []
   ·refine Un ?_;refine IC ?_;refine Zg [(1001,2000)] [] [] (Pq n e9 0) Qc Qc Qc QF QF (fun ab=>?_);exact Js (.agg [.agg [.sl 2, .id, .id, .id], .id]) [] []
theorem F8 (n:Nat) (G:Ky) (J:Kn) (O:YN):∀ r,Vt n G J O=some r→QC Tryz.prog 18 [ag (Ky.cs G),ag (Kn.cs J),ag (YN.cs O)] (.ret (.tup [ag (Ke.cs r.1),I r.2])):=fun r h=>Ew (IZ n G J O r h) rfl
def Uh (G:Int):Option (Int × Int) :=
 cond (Qs 1000000000 G)
  (some (0,3))
  (some (G,0))
def Dq (n:Nat) (ac:Ky) (ad:Kn) (aa:YN) (G:List Int) (Y:(Int × Int × Int)→Option (Int × Int)) (O:Int) (ab:Int) (J:Int):Option (Int × Int) :=
 cond (Qs J (wi ((Qb (List.map ci G))+1)))
  ((cond (Qs J (Qb (List.map ci G)))
   ((QU G J).bind fun x8 =>
   some x8)
   (some aa.To)).bind fun j7 =>
  (zz n aa ab j7).bind fun r9 =>
  (Vt n ac ad r9).bind fun Z =>
  cond (!Qp Z.2 0)
   (some (0,Z.2))
   (Y (wi (O+Z.1.Total),j7,wi (J+1))))
  (Uh O)
def MW (n:Nat) (Y:Ky) (ab:Kn) (J:YN) (G:List Int):Option (Int × Int) :=
 ((Ao n Y ab J).bind fun r2 =>
 cond (!r2)
  (some true)
  ((Rm n J G).bind fun r4 =>
  some (!r4))).bind fun j1 =>
 cond j1
  (some (0,1))
  (Qn (fun O (ac,Z,aa)=>Dq n Y ab J G O ac Z aa) n (0,J.From,0))
def Qjm:=fun G=>([(3, .p (.sl 1 (List.map ci G))),(4, .ptr 4 0),(5, .ptr 5 0),(6, .ptr 6 0)]:List (Nat × AV))
def Tj:=fun J O G=>([(4, .box 59 (YE (Ky.cs J))),(5, .box 52 (YE (Kn.cs O))),(6, .box 55 (YE (YN.cs G)))]:List (Nat × Blk))
def QhA:=fun J Y G Z O=>([(3, .p (.sl 1 (List.map ci J))),(4, .ptr 4 0),(5, .ptr 5 0),(6, .ptr 6 0),(10,I Y),(11,I G),(31,I Z),(32,I O)]:List (Nat × AV))
def QbP:=fun J O G Y=>([(4, .box 59 (YE (Ky.cs J))),(5, .box 52 (YE (Kn.cs O))),(6, .box 55 (YE (YN.cs G))),(14, .box 62 (YE (Ke.cs Y)))]:List (Nat × Blk))
theorem EX (n:Nat) (Z:Ky) (aa:Kn) (O:YN) (G:List Int):∀ r,MW n Z aa O G=some r→QC Tryz.prog 39 [ag (Ky.cs Z),ag (Kn.cs aa),ag (YN.cs O), .p (.sl 1 (List.map ci G))] (.ret (.tup [I r.1,I r.2])):=by
 refine Qj Tryz.func39 rfl Tryz.ntmps39 rfl ?_;unfold MW;refine Qf Qd ⟨Qjm G,Tj Z aa O⟩ (sS (KQ (fun j1=>⟨[(3, .p (.sl 1 (List.map ci G))),qq 4,qq 5,qq 6,(26,B j1)],Tj Z aa O⟩:Bool→St) ?_ ?_))
 ·refine sG (xR 3 ?_);refine xC [] (jo n Z aa O) QF (fun r2=>?_);refine xR 2 (xS (!r2) (fun h3=>xN (Qy h3) (xR 4 (xE (QS true)))) (fun h3=>xO (Qw h3) (xR 1 ?_)));refine xC [] (Ap n O G) QF (fun r4=>?_);exact xR 2 (xE (QS (!r4)))
 rintro j1;refine sC j1 (Qf Qd ⟨[(8,I 0),(9,I 1)],[]⟩ (sT (QB (qR (.id))))) (sK (Ql ⟨Qjm G,Tj Z aa O⟩ (Qf Qd ⟨[(3, .p (.sl 1 (List.map ci G))),qq 4,qq 5,qq 6,(10,I 0),(11,I O.From)],Tj Z aa O⟩ (Yc (fun j5=>⟨[(10,I j5)],[]⟩:Int→St) (fun j5=>Uh j5) ?_ ?_))))
 ·rintro j5;show QP (Uh j5) _ _ _ _ _ _;unfold Uh;exact sS (Qf Qd ⟨[(10,I j5),(65,B (Qs 1000000000 j5))],[]⟩ (sC (Qs 1000000000 j5) (Qf Qd ⟨[(8,I 0),(9,I 3)],[]⟩ (sT (QB (qR (.id))))) (sK (Ql ⟨[(10,I j5)],[]⟩ (Qf Qd ⟨[(8,I j5),(9,I 0)],[]⟩ (sT (qR (.id))))))))
 refine Qf Qd ⟨[(3, .p (.sl 1 (List.map ci G))),qq 4,qq 5,qq 6,(10,I 0),(11,I O.From),(31,I (wi ((Qb (List.map ci G))+1))),(32,I 0)],Tj Z aa O⟩ (sB (QG (fun (Y,ab,J)=>⟨QhA G Y ab (wi ((Qb (List.map ci G))+1)) J,Tj Z aa O⟩:(Int × Int × Int)→St) (Gm) ?_));rintro ad ⟨Y,ab,J⟩;show QP (Dq n Z aa O G ad Y ab J) _ _ _ _ _ _;unfold Dq;refine Qf Qd ⟨[(3, .p (.sl 1 (List.map ci G))),qq 4,qq 5,qq 6,(10,I Y),(11,I ab),(31,I (wi ((Qb (List.map ci G))+1))),(32,I J),(33,B (Qs J (wi ((Qb (List.map ci G))+1))))],Tj Z aa O⟩ (sS (sC (Qs J (wi ((Qb (List.map ci G))+1))) (sK (Ql ⟨QhA G Y ab (wi ((Qb (List.map ci G))+1)) J,Tj Z aa O⟩ (sS (sB (Qf Qd ⟨[(3, .p (.sl 1 (List.map ci G))),qq 4,qq 5,qq 6,(10,I Y),(11,I ab),(12,I J),(31,I (wi ((Qb (List.map ci G))+1))),(32,I J)],Tj Z aa O⟩ (Qf Qd ⟨[(3, .p (.sl 1 (List.map ci G))),qq 4,qq 5,qq 6,(10,I Y),(11,I ab),(12,I J),(13,I O.To),(31,I (wi ((Qb (List.map ci G))+1))),(32,I J)],Tj Z aa O⟩ (KQ (fun j7=>⟨[(3, .p (.sl 1 (List.map ci G))),qq 4,qq 5,qq 6,(10,I Y),(11,I ab),(13,I j7),(31,I (wi ((Qb (List.map ci G))+1))),(32,I J)],Tj Z aa O⟩:Int→St) (Qf Qd ⟨[(3, .p (.sl 1 (List.map ci G))),qq 4,qq 5,qq 6,(10,I Y),(11,I ab),(12,I J),(13,I O.To),(31,I (wi ((Qb (List.map ci G))+1))),(32,I J),(40,B (Qs J (Qb (List.map ci G))))],Tj Z aa O⟩ (sC (Qs J (Qb (List.map ci G))) (sG (xR 2 (xG (ZA (e:=3) (S:=1) (enc:=ci) (l:=G) (k:=.i64) (n:=J) (sv:=.p (.sl 1 (List.map ci G))) rfl Qc Qc Qc Qc Qc) (fun x8=>xR 2 (xE (QS x8)))))) (sK (QS O.To)))) ?_))))))) (Qt (ZR (Yw (QM (KW (k:=fun j5=>Uh j5) Y)))))));rintro j7;refine sS (Bh Qd rfl (xR 5 ?_));refine xC [] (gJ n O ab j7) QF (fun r9=>?_);refine xC [] (F8 n Z aa r9) QF (fun ac=>?_);exact xR 6 (MN (Ql ⟨[(3, .p (.sl 1 (List.map ci G))),qq 4,qq 5,qq 6,(10,I Y),(13,I j7),qq 14,(15,I ac.2),(31,I (wi ((Qb (List.map ci G))+1))),(32,I J)],QbP Z aa O ac.1⟩ (sS (Qf Qd ⟨[(3, .p (.sl 1 (List.map ci G))),qq 4,qq 5,qq 6,(10,I Y),(13,I j7),qq 14,(15,I ac.2),(31,I (wi ((Qb (List.map ci G))+1))),(32,I J),(56,B (!Qp ac.2 0))],QbP Z aa O ac.1⟩ (sC (!Qp ac.2 0) (Qf Qd ⟨[(8,I 0),(9,I ac.2)],[]⟩ (sT (QB (Q4 (QB (V9 (Q4 (V9 (qR (.id)))))))))) (sK (Ql ⟨[(3, .p (.sl 1 (List.map ci G))),qq 4,qq 5,qq 6,(10,I Y),(13,I j7),qq 14,(31,I (wi ((Qb (List.map ci G))+1))),(32,I J)],QbP Z aa O ac.1⟩ (sL Qd (QR (Ql ⟨QhA G (wi (Y+ac.1.Total)) j7 (wi ((Qb (List.map ci G))+1)) J,Tj Z aa O⟩ (sL Qd (KW (wi (Y+ac.1.Total),j7,wi (J+1))))))))))))))
def J3 (n:Nat) (J:Int) (O:Int) (G:Int):Option Bool :=
 (cond (leI 0 J)
  (cond (Qs J O)
   (cond (leI (wi (O - J)) 2880)
    (cond (leI O 52560000)
     (cond (leI 0 G)
      (some (leI G 480000))
      (some false))
     (some false))
    (some false))
   (some false))
  (some false)).bind fun Y =>
 some Y
theorem Dr (n:Nat) (J:Int) (O:Int) (G:Int):∀ r,J3 n J O G=some r→QC Tryz.prog 90 [I J,I O,I G] (.ret (B r)):=by
 refine Qj Tryz.func90 rfl Tryz.ntmps90 rfl ?_;unfold J3;refine Qf Qd (Qhi J O G) (KQ (fun j1=>⟨[(6,B j1)],[]⟩:Bool→St) ?_ ?_);rotate_left
 ·rintro j1;exact sT (qR (.id))
 exact sG (xR 3 (xS (leI 0 J) (fun h2=>xO (Qv h2) (xR 4 (xS (Qs J O) (fun Y=>xO (Qv Y) (xR 5 (xS (leI (wi (O - J)) 2880) (fun Z=>xO (Qv Z) (xR 3 (xS (leI O 52560000) (fun h5=>xO (Qv h5) (xR 3 (xS (leI 0 G) (fun h6=>xO (Qv h6) (xR 3 (xE (QS (leI G 480000))))) (fun h6=>xN (Qx h6) (xR 3 (xE (QS false))))))) (fun h5=>xN (Qx h5) (xR 7 (xE (QS false))))))) (fun Z=>xN (Qx Z) (xR 11 (xE (QS false))))))) (fun Y=>xN (Qx Y) (xR 17 (xE (QS false))))))) (fun h2=>xN (Qx h2) (xR 22 (xE (QS false))))))
def VZ (n:Nat) (Y:Qa) (Z:QT) (O:(Int × Int)→Option Int) (G:Int) (J:Int):Option Int :=
 cond (Qs G Y.to_)
  (((Wm n Z Y.calendar G).bind fun r4 =>
  cond r4
   (some (wi (J+1)))
   (some J)).bind fun j3 =>
  O (wi (G+1),j3))
  (some J)
def Vu (n:Nat) (Y:Qa) (Z:QT):Option Int :=
 Qn (fun G (J,O)=>VZ n Y Z G J O) n (Y.from_,0)
def Qfm:=fun G J=>([(2, .box 190 [G]),(3, .box 183 (YE (QT.cs J))),(5, .box 3 [I 0])]:List (Nat × Blk))
def rf:=fun G J=>([(2, .box 3 [I G]),(3, .box 3 [I J])]:List (Nat × Blk))
def QhB:=fun G J=>(⟨[(2, .ptr 2 0),(3, .ptr 3 0)],rf G J⟩:St)
def QbQ:=fun G=>([(4, .fn G [] [.ptr 2 0, .ptr 3 0])]:List (Nat × AV))
def Qjn:List (Nat × AV):=[(2, .ptr 2 0),(3, .ptr 3 0),(5, .ptr 5 0),(15, .fn (.func 203) [] [.ptr 402 0, .ptr 403 0])]
def Qjo:=fun J O G Y=>(⟨Qjn,Qfm J O++[(402, .box 3 [I G]),(403, .box 3 [I Y])]⟩:St)
def Nv:=fun J Z G x3 Y O=>([(1002, .box 190 [J]),(1003, .box 183 (YE (QT.cs Z))),(1005, .box 3 [I G]),(1402, .box 3 [I x3]),(1403, .box 3 [I Y]),(4000,O)]:List (Nat × Blk))
def BH:List (Nat × AV):=[(2, .ptr 1002 0),(3, .ptr 1003 0),(5, .ptr 1005 0),(15, .fn (.func 203) [] [.ptr 1402 0, .ptr 1403 0])]
def rq:=fun G=>([(0,(.yv 4000)),(2, .ptr 1403 0),(4,I G)]:List (Nat × AV))
def QbR:=fun G=>([(5, .box 3 [I G])]:List (Nat × Blk))
theorem XQ (n:Nat) (G:Qa) (Y:QT):∀ r,Vu n G Y=some r→QC Tryz.prog 154 [.eptr (Qa.cs G),ag (QT.cs Y)] (.ret (I r)):=by
 refine Qj Tryz.func154 rfl Tryz.ntmps154 rfl ?_;unfold Vu;refine Qf Qd ⟨[qq 2,qq 3],[(2, .box 190 [.eptr (Qa.cs G)]),(3,cK Y)]⟩ (Qf Qd ⟨[qq 2,qq 3,qq 5],Qfm (.eptr (Qa.cs G)) Y⟩ (sS (sS (Bh Qd rfl (xR 8 (FT [] [I G.from_,I G.to_] [(2,402),(3,403)] [] [] Qc Tryz.func151 rfl Tryz.ntmps151 rfl Qc Qc Qc (Qf Qd (QhB G.from_ G.to_) (Qf Qd ⟨QbQ (.func 203),rf G.from_ G.to_⟩ (sT (QD (.id) [2,3] [] (.fn (.func 203) [] [.ptr 2 0, .ptr 3 0]) (kqn (Ql (Qjo (.eptr (Qa.cs G)) Y G.from_ G.to_) (sB (Pe (Qjo (.eptr (Qa.cs G)) Y G.from_ G.to_) (RV 203 3000 [] [.ptr 402 0, .ptr 403 0] Qc Qc (fun Z _ ab=>(QQ (hc:=(Nv (.eptr (Qa.cs G)) Y 0 G.from_ G.to_ (.lp BH Z .ready none))) (args':=[.yv 4000, .ptr 1402 0, .ptr 1403 0]) [(1002,2),(1003,3),(1005,5),(1402,402),(1403,403),(4000,3000)] [] [] Tryz.func203 rfl Tryz.ntmps203 rfl Qc Qc Qc (Qf Qd ⟨rq G.from_,Nv (.eptr (Qa.cs G)) Y 0 G.from_ G.to_ (.lp BH Z .ready none)⟩ (sB (QG (fun (J,O)=>⟨rq J,Nv (.eptr (Qa.cs G)) Y O G.from_ G.to_ (.lp BH Z .ready none)⟩:(Int × Int)→St) (Gm) ?_))))))))))))))))))));rintro aa ⟨J,O⟩;show QP (VZ n G Y aa J O) _ _ _ _ _ _;unfold VZ;refine sS (Qf Qd ⟨[(0, .yv 4000),(2, .ptr 1403 0),(4,I J),(8,B (Qs J G.to_))],Nv (.eptr (Qa.cs G)) Y O G.from_ G.to_ (.lp BH Z .ready none)⟩ (sC (Qs J G.to_) ?_ ?_));rotate_left
 ·refine Qt (ZR (Yw (QM (DX .id [1002,1003,1005,1402,1403,4000] [] (.tup []) ?_))));refine Qbb .ready ⟨[5],[5],[],[]⟩ ⟨[qq 5],QbR O⟩ Qc (by intro h; cases h) Qc ?_;exact QR (Ql ⟨[qq 5],QbR O⟩ (Qf Qd ⟨[(4,I O)],[]⟩ (sT (qR (.id)))))
 refine sK (Ql ⟨rq J,Nv (.eptr (Qa.cs G)) Y O G.from_ G.to_ (.lp BH Z .ready none)⟩ (sS (sB (KQ (fun j3=>⟨[(0, .yv 4000),(2, .ptr 1403 0),(4,I J),(14,B false)],Nv (.eptr (Qa.cs G)) Y j3 G.from_ G.to_ (.lp BH Z .ready none)⟩:Int→St) ?_ ?_))));rotate_left
 ·rintro j3;exact QZ (sK (QR (Ql ⟨rq J,Nv (.eptr (Qa.cs G)) Y j3 G.from_ G.to_ (.lp BH Z .ready none)⟩ (sL Qd (KW (wi (J+1),j3))))))
 refine sG (xR 2 (Bn [] (Nv (.eptr (Qa.cs G)) Y O G.from_ G.to_ (.lp BH Z .ready none)) 4000 BH [] [] [I J] Qc ab Qc Qc Qc Qc Qc (fun _=>sL Qd (Qbc ⟨[2,3,5,6],[1002,1003,1005,1402,1403,4000],[],[]⟩ ⟨[(2,IG),(3,dZ),(5, .ptr 1005 0),(6,I J)],Nv (.eptr (Qa.cs G)) Y O G.from_ G.to_ (.lp BH Z .busy none)⟩ none Qc Qc (sB (sS (Bh Qd rfl (xR 6 ?_))))))));refine xC [] (Uf n Y G.calendar J) QF (fun r4=>?_);exact MN (Ql ⟨[(5, .ptr 1005 0),(23,B r4)],Nv (.eptr (Qa.cs G)) Y O G.from_ G.to_ (.lp BH Z .busy none)⟩ (sC r4 (sL Qd (QR (lK [1002,1003,1005,1402,1403,4000] [] .busy none (Wh (xR 1 (xE (QS (wi (O+1))))))))) (sK (QR (lK [1002,1003,1005,1402,1403,4000] [] .busy none (Wh (xR 1 (xE (QS O)))))))))
def VK (n:Nat) (Y:Qa) (Z:Int) (J:(Int × Int)→Option Int) (O:Int) (G:Int):Option Int :=
 cond (Qs G (Qb (List.map QT.cs Y.Tariff.Articles)))
  ((QU Y.Tariff.Articles G).bind fun x6 =>
  (cond (Qp x6.Kind 2)
   ((Wm n x6 Y.calendar Z).bind fun r9 =>
   some r9)
   (some false)).bind fun j7 =>
  cond j7
   (J (wi (O+x6.Price),wi (G+1)))
   (J (O,wi (G+1))))
  (some O)
def VL (n:Nat) (ab:Qa) (O:(Int × Int)→Option Int) (G:Int) (J:Int):Option Int :=
 cond (Qs G ab.to_)
  ((Qn (fun Y (aa,Z)=>VK n ab G Y aa Z) n (0,0)).bind fun j4 =>
  O (wi (G+1),Jq J j4))
  (some J)
def Y5 (n:Nat) (Y:Qa) (O:(Int × Int)→Option Int) (J:Int) (G:Int):Option Int :=
 cond (Qs G (Qb (List.map QT.cs Y.Tariff.Articles)))
  ((QU Y.Tariff.Articles G).bind fun Z =>
  (cond (Qp Z.Kind 2)
   ((Vu n Y Z).bind fun aa =>
   some (Qs 0 aa))
   (some false)).bind fun ab =>
  cond ab
   (O (wi (J+1),wi (G+1)))
   (O (J,wi (G+1))))
  (some J)
def Jb (n:Nat) (aa:Qa) (G:Int):Option (Int × Int) :=
 cond (Qp G 0)
  (some (0,0))
  ((Qn (fun Y (ac,ab)=>VL n aa Y ac ab) n (aa.from_,0)).bind fun j1 =>
  (VH n j1 G 1000).bind fun ae =>
  cond (!Qp ae.2 0)
   (some (0,3))
   ((Qn (fun J (O,Z)=>Y5 n aa J O Z) n (ae.1,0)).bind fun ad =>
   cond (Qs 1000000000 ad)
    (some (0,3))
    (some (ad,0))))
def ru:=fun G J=>([(2, .box 190 [G]),(3, .box 3 [I J])]:List (Nat × Blk))
def Nw:=fun J O G Y=>([(1000, .box 3 [I J]),(1001, .box 3 [I O]),(1002, .box 190 [G]),(1003, .box 3 [I Y])]:List (Nat × Blk))
def nq6:List (Nat × Nat):=[(1000,402),(1001,403),(1002,439),(1003,440)]
def Qfn:List (Nat × AV):=[(0, .fn (.func 203) [] [.ptr 1000 0, .ptr 1001 0]),(3, .ptr 3 0)]
def QhC:Blk:=.box 201 [.fn (.func 204) [] [.ptr 1002 0, .ptr 1003 0]]
def Qfo:List (Nat × AV):=[(0, .fn (.func 203) [] [.ptr 1000 0, .ptr 1001 0]),(3, .ptr 3 0),(5, .ptr 5 0)]
def QbS:List (Nat × Blk):=[(3,QhC),(5, .box 3 [I 0])]
def QeJ:=fun J Y G Z O=>(⟨[(5, .ptr 5 0)],QbR J++Nw Y G Z O⟩:St)
def gP:=fun J O G Y=>([(0,J),(7,I O),(37, .p (.sl 7 (List.map QT.cs G))),(38,I (Qb (List.map QT.cs G))),(39,I Y)]:List (Nat × AV))
def ry:=fun G=>([(10, .box 183 (YE (QT.cs G)))]:List (Nat × Blk))
def Qjp:List (Nat × AV):=[(3, .ptr 3 0),(5, .ptr 5 0),(7, .fn (.func 203) [] [.ptr 1000 0, .ptr 1001 0])]
def QeK:=fun J O G Y=>(⟨Qjp,QbS++Nw J O G Y⟩:St)
def QkH:Blk:=.box 201 [.fn (.func 204) [] [.ptr 2002 0, .ptr 2003 0]]
def Uu:=fun J Z G x3 Y O=>([(1003,QkH),(1005, .box 3 [I J]),(2000, .box 3 [I Z]),(2001, .box 3 [I G]),(2002, .box 190 [x3]),(2003, .box 3 [I Y]),(4000,O)]:List (Nat × Blk))
def XT:List (Nat × AV):=[(3, .ptr 1003 0),(5, .ptr 1005 0),(7, .fn (.func 203) [] [.ptr 2000 0, .ptr 2001 0])]
def nq7:List (Nat × Nat):=[(1003,3),(1005,5),(2000,1000),(2001,1001),(2002,1002),(2003,1003),(4000,3000)]
def Iq:=fun G=>([(0,(.yv 4000)),(2, .ptr 2001 0),(4,I G)]:List (Nat × AV))
def Qfp:=fun G=>([(3, .ptr 1003 0),(5, .ptr 1005 0),(6,I G)]:List (Nat × AV))
def Gf:=fun G J=>([(1000, .box 190 [G]),(1001, .box 3 [I J])]:List (Nat × Blk))
def Qfq:=fun G=>([(0,I G),(1, .ptr 1000 0),(2, .ptr 1001 0)]:List (Nat × AV))
def Qfr:=fun G=>([(0,I G),(1, .ptr 1000 0),(2, .ptr 1001 0),(5,I 0)]:List (Nat × AV))
def Qjq:=fun J O G Y=>([(0,I J),(1, .ptr 1000 0),(2, .ptr 1001 0),(5,I O),(12, .p (.sl 7 (List.map QT.cs G))),(13,I (Qb (List.map QT.cs G))),(14,I Y)]:List (Nat × AV))
def kV:=fun J Z G x3 Y O=>(⟨Qjq J Z G x3,Gf Y O⟩:St)
def Qfs:=fun J Y G Z O=>([(0,I J),(1, .ptr 1000 0),(2, .ptr 1001 0),(5,I Y),(12, .p (.sl 7 (List.map QT.cs G))),(13,I (Qb (List.map QT.cs G))),(14,I Z),(15,B O)]:List (Nat × AV))
def Qft:=fun J O G Y=>([(0,I J),(1, .ptr 1000 0),(2, .ptr 1001 0),(5,I O),(7, .ptr 7 0),(12, .p (.sl 7 (List.map QT.cs G))),(13,I (Qb (List.map QT.cs G))),(14,I Y)]:List (Nat × AV))
def rz:=fun G=>([(7, .box 183 (YE (QT.cs G)))]:List (Nat × Blk))
def Qfu:=fun J Y G Z O=>([(0,I J),(1, .ptr 1000 0),(2, .ptr 1001 0),(5,I Y),(7, .ptr 7 0),(12, .p (.sl 7 (List.map QT.cs G))),(13,I (Qb (List.map QT.cs G))),(14,I Z),(30,B O)]:List (Nat × AV))
theorem Rn (n:Nat) (G:Qa) (O:Int):∀ r,Jb n G O=some r→QC Tryz.prog 149 [.eptr (Qa.cs G),I O] (.ret (.tup [I r.1,I r.2])):=by
 refine Qj Tryz.func149 rfl Tryz.ntmps149 rfl ?_;unfold Jb;refine Qf Qd ⟨[(0, .eptr (Qa.cs G)),(1,I O)],[]⟩ (sS (Qf Qd ⟨[(0, .eptr (Qa.cs G)),(1,I O),(12,B (Qp O 0))],[]⟩ (sC (Qp O 0) (Qf Qd ⟨[(4,I 0),(5,I 0)],[]⟩ (sT (QB (qR (.id))))) (sK (Ql ⟨[(0, .eptr (Qa.cs G)),(1,I O)],[]⟩ (sS (Qby 9 Qd rfl Qc (xR 9 (Eu rfl Qc Qc (GD [] [I G.from_,I G.to_] [(2,402),(3,403)] [] [] Tryz.func151 rfl Tryz.ntmps151 rfl (Qf Qd (QhB G.from_ G.to_) (Qf Qd ⟨QbQ (.func 203),rf G.from_ G.to_⟩ (sT (QD (.id) [2,3] [] (.fn (.func 203) [] [.ptr 2 0, .ptr 3 0]) (Wh (GD [] [.eptr (Qa.cs G),I 2] [(2,439),(3,440)] [] [] Tryz.func152 rfl Tryz.ntmps152 rfl (Qf Qd ⟨[qq 2,qq 3],ru (.eptr (Qa.cs G)) 2⟩ (Qf Qd ⟨QbQ (.func 204),ru (.eptr (Qa.cs G)) 2⟩ (sT (QD (.id) [2,3] [] (.fn (.func 204) [] [.ptr 2 0, .ptr 3 0]) (Wh (GD (Nw G.from_ G.to_ (.eptr (Qa.cs G)) 2) [.fn (.func 203) [] [Zj,Rw], .fn (.func 204) [] [IG,dZ]] nq6 [] [] Tryz.func150 rfl Tryz.ntmps150 rfl (Qf Qd ⟨Qfn,[(3,QhC)]++Nw G.from_ G.to_ (.eptr (Qa.cs G)) 2⟩ (Qf Qd ⟨Qfo,QbS++Nw G.from_ G.to_ (.eptr (Qa.cs G)) 2⟩ (KQ (fun j1=>(QeJ j1 G.from_ G.to_ (.eptr (Qa.cs G)) 2):Int→St) ?_ ?_)))))))))))))))))))))))));rotate_left
 ·rintro j1;refine Qf Qd ⟨[(4,I j1)],Nw G.from_ G.to_ (.eptr (Qa.cs G)) 2⟩ (sT (QD (.id) [1000,1001,1002,1003] [] (I j1) (Wh (xR 1 (xE (Qkq (Ql ⟨[(0, .eptr (Qa.cs G)),(1,I O),(6,I j1)],[]⟩ (sS (sG (xR 2 ?_))))))))));refine xC [] (Ti n j1 O 1000) QF (fun ae=>?_);refine xR 5 (xE (Ql ⟨[(0, .eptr (Qa.cs G)),(7,I ae.1),(8,I ae.2)],[]⟩ (sS (Qf Qd ⟨[(0, .eptr (Qa.cs G)),(7,I ae.1),(32,B (!Qp ae.2 0))],[]⟩ (sC (!Qp ae.2 0) (Qf Qd ⟨[(4,I 0),(5,I 3)],[]⟩ (sT (QB (qR (.id))))) (sK (Ql ⟨[(0, .eptr (Qa.cs G)),(7,I ae.1)],[]⟩ (KQ (fun af=>⟨[(7,I af)],[]⟩:Int→St) ?_ ?_))))))));rotate_left
  ·rintro af;exact sS (Qf Qd ⟨[(7,I af),(56,B (Qs 1000000000 af))],[]⟩ (sC (Qs 1000000000 af) (Qf Qd ⟨[(4,I 0),(5,I 3)],[]⟩ (sT (QB (qR (.id))))) (sK (Ql ⟨[(7,I af)],[]⟩ (Qf Qd ⟨[(4,I af),(5,I 0)],[]⟩ (sT (qR (.id))))))))
  refine Qf Qd ⟨gP (.eptr (Qa.cs G)) ae.1 G.Tariff.Articles 0,[]⟩ (sB (QG (fun (Z,Y)=>⟨gP (.eptr (Qa.cs G)) Z G.Tariff.Articles Y,[]⟩:(Int × Int)→St) (Gm) ?_));rintro ah ⟨Z,Y⟩;show QP (Y5 n G ah Z Y) _ _ _ _ _ _;unfold Y5;refine Qf Qd ⟨[(0, .eptr (Qa.cs G)),(7,I Z),(37, .p (.sl 7 (Y3 G.Tariff.Articles))),(38,I (Qb (Y3 G.Tariff.Articles))),(39,I Y),(40,B (Qs Y (Qb (Y3 G.Tariff.Articles))))],[]⟩ (sS (sC (Qs Y (Qb (Y3 G.Tariff.Articles))) (sK (Ql ⟨gP (.eptr (Qa.cs G)) Z G.Tariff.Articles Y,[]⟩ (sS (sB (sS (sG (xG (ZA (e:=183) (S:=7) (enc:=QT.cs) (l:=G.Tariff.Articles) (k:=.i64) (n:=Y) (sv:=.p (.sl 7 (Y3 G.Tariff.Articles))) rfl Qc Qc Qc Qc Qc) (fun am=>xR 3 (xE (Ql ⟨[(0, .eptr (Qa.cs G)),(7,I Z),qq 10,(37, .p (.sl 7 (Y3 G.Tariff.Articles))),(38,I (Qb (Y3 G.Tariff.Articles))),(39,I Y)],ry am⟩ (KQ (fun al=>⟨[(0, .eptr (Qa.cs G)),(7,I Z),(37, .p (.sl 7 (Y3 G.Tariff.Articles))),(38,I (Qb (Y3 G.Tariff.Articles))),(39,I Y),(51,B al)],[]⟩:Bool→St) ?_ ?_))))))))))) (Qt (ZR (Yw (QM (QS Z)))))))
  ·refine sG (xR 4 (xS (Qp am.Kind 2) (fun aj=>?_) (fun aj=>?_)))
   ·refine xO (Qv aj) (xR 1 ?_);refine xC [] (XQ n G am) QF (fun ao=>?_);exact xR 2 (xE (QS (Qs 0 ao)))
   exact xN (Qx aj) (xR 4 (xE (QS false)))
  rintro al;exact sC al (sL Qd (QR (Ql ⟨gP (.eptr (Qa.cs G)) (wi (Z+1)) G.Tariff.Articles Y,[]⟩ (sL Qd (KW (wi (Z+1),wi (Y+1))))))) (sK (QR (Ql ⟨gP (.eptr (Qa.cs G)) Z G.Tariff.Articles Y,[]⟩ (sL Qd (KW (Z,wi (Y+1)))))))
 refine Qf Qd (QeK G.from_ G.to_ (.eptr (Qa.cs G)) 2) (sB (Pe (QeK G.from_ G.to_ (.eptr (Qa.cs G)) 2) (RV 203 3000 [] [Zj,Rw] Qc Qc (fun ad _ an=>(QQ (hc:=(Uu 0 G.from_ G.to_ (.eptr (Qa.cs G)) 2 (.lp XT ad .ready none))) (args':=[.yv 4000, .ptr 2000 0, .ptr 2001 0]) nq7 [] [] Tryz.func203 rfl Tryz.ntmps203 rfl Qc Qc Qc (Qf Qd ⟨Iq G.from_,Uu 0 G.from_ G.to_ (.eptr (Qa.cs G)) 2 (.lp XT ad .ready none)⟩ (sB (QG (fun (J,ab)=>⟨Iq J,Uu ab G.from_ G.to_ (.eptr (Qa.cs G)) 2 (.lp XT ad .ready none)⟩:(Int × Int)→St) (Gm) ?_))))))));rintro ai ⟨J,ab⟩;show QP (VL n G ai J ab) _ _ _ _ _ _;unfold VL;refine sS (Qf Qd ⟨[(0, .yv 4000),(2, .ptr 2001 0),(4,I J),(8,B (Qs J G.to_))],Uu ab G.from_ G.to_ (.eptr (Qa.cs G)) 2 (.lp XT ad .ready none)⟩ (sC (Qs J G.to_) ?_ ?_));rotate_left
 ·refine Qt (ZR (Yw (QM (DX .id [1003,1005,2000,2001,2002,2003,4000] [] (.tup []) ?_))));refine Qbb .ready ⟨[5],[5,1000,1001,1002,1003],[],[]⟩ (QeJ ab G.from_ G.to_ (.eptr (Qa.cs G)) 2) Qc (by intro h; cases h) Qc ?_;exact QR (QS ab)
 refine sK (Ql ⟨Iq J,Uu ab G.from_ G.to_ (.eptr (Qa.cs G)) 2 (.lp XT ad .ready none)⟩ (sS (sB (sS (sG (xR 2 (Bn [] (Uu ab G.from_ G.to_ (.eptr (Qa.cs G)) 2 (.lp XT ad .ready none)) 4000 XT [] [] [I J] Qc an Qc Qc Qc Qc Qc (fun _=>sL Qd (Qbc ⟨[3,5,6],[1003,1005,2000,2001,2002,2003,4000],[],[]⟩ ⟨Qfp J,Uu ab G.from_ G.to_ (.eptr (Qa.cs G)) 2 (.lp XT ad .busy none)⟩ none Qc Qc (sB (KG [0,1,2] [0] [(3,[]),(4,[]),(5,[])] Qd rfl (ZH (f:=204) (args:=[I J, .ptr 2002 0, .ptr 2003 0]) (dst:=some 12) (QQ (hc:=(Gf (.eptr (Qa.cs G)) 2)) (args':=[I J,Zj,Rw]) [(1000,2002),(1001,2003)] [] [] Tryz.func204 rfl Tryz.ntmps204 rfl Qc Qc Qc (Qf Qd ⟨Qfq J,Gf (.eptr (Qa.cs G)) 2⟩ (Qf Qd ⟨Qfr J,Gf (.eptr (Qa.cs G)) 2⟩ (KQ (fun j4=>⟨[(5,I j4)],Gf (.eptr (Qa.cs G)) 2⟩:Int→St) ?_ ?_))))))))))))))));rotate_left
 ·rintro j4;exact Qf Qd ⟨[(4,I j4)],Gf (.eptr (Qa.cs G)) 2⟩ (sT (QD (.id) [1000,1001] [] (I j4) (kh [0] (Qo (QA (I ab) rfl) (Qg)) (Yx [] (Qg) (Yx [] (Qg) (WK (QR (lK [1003,1005,2000,2001,2002,2003,4000] [] .busy none (Wh (xR 1 (xE (Ql ⟨[(0, .yv 4000),(2, .ptr 2001 0),(4,I J),(14,B false)],Uu (Jq ab j4) G.from_ G.to_ (.eptr (Qa.cs G)) 2 (.lp XT ad .ready none)⟩ (QZ (sK (QR (Ql ⟨Iq J,Uu (Jq ab j4) G.from_ G.to_ (.eptr (Qa.cs G)) 2 (.lp XT ad .ready none)⟩ (sL Qd (KW (wi (J+1),Jq ab j4)))))))))))))))))))
 refine Qf Qd (kV J 0 G.Tariff.Articles 0 (.eptr (Qa.cs G)) 2) (sB (QG (fun (ac,aa)=>(kV J ac G.Tariff.Articles aa (.eptr (Qa.cs G)) 2):(Int × Int)→St) (Gm) ?_));rintro ak ⟨ac,aa⟩;show QP (VK n G J ak ac aa) _ _ _ _ _ _;unfold VK;refine Qf Qd ⟨Qfs J ac G.Tariff.Articles aa (Qs aa (Qb (Y3 G.Tariff.Articles))),Gf (.eptr (Qa.cs G)) 2⟩ (sS (sC (Qs aa (Qb (Y3 G.Tariff.Articles))) (sK (Ql (kV J ac G.Tariff.Articles aa (.eptr (Qa.cs G)) 2) (sS (sB (sS (sG (xG (ZA (e:=183) (S:=7) (enc:=QT.cs) (l:=G.Tariff.Articles) (k:=.i64) (n:=aa) (sv:=.p (.sl 7 (Y3 G.Tariff.Articles))) rfl Qc Qc Qc Qc Qc) (fun x6=>xR 3 (xE (Ql ⟨Qft J ac G.Tariff.Articles aa,rz x6++Gf (.eptr (Qa.cs G)) 2⟩ (KQ (fun j7=>⟨Qfu J ac G.Tariff.Articles aa j7,rz x6++Gf (.eptr (Qa.cs G)) 2⟩:Bool→St) ?_ ?_))))))))))) (Qt (ZR (Yw (QM (QS ac)))))))
 ·refine Bh Qd rfl (xR 5 (xS (Qp x6.Kind 2) (fun h8=>?_) (fun h8=>?_)))
  ·refine xO (Qv h8) (xR 5 ?_);refine xC [] (Uf n x6 G.calendar J) QF (fun r9=>?_);exact xR 1 (MN (QS r9))
  exact xN (Qx h8) (xR 7 (MN (QS false)))
 rintro j7;exact sC j7 (sL Qd (QR (Ql (kV J (wi (ac+x6.Price)) G.Tariff.Articles aa (.eptr (Qa.cs G)) 2) (sL Qd (KW (wi (ac+x6.Price),wi (aa+1))))))) (sK (QR (Ql (kV J ac G.Tariff.Articles aa (.eptr (Qa.cs G)) 2) (sL Qd (KW (ac,wi (aa+1)))))))
def Jc (n:Nat) (Y:Qa) (Z:Int) (J:(Int × Int)→Option Int) (O:Int) (G:Int):Option Int :=
 cond (Qs G (Qb (List.map QT.cs Y.Tariff.Articles)))
  ((QU Y.Tariff.Articles G).bind fun x7 =>
  (cond (Qp x7.Kind 1)
   ((Wm n x7 Y.calendar Z).bind fun aa =>
   some aa)
   (some false)).bind fun j8 =>
  cond j8
   (J (wi (O+x7.Price),wi (G+1)))
   (J (O,wi (G+1))))
  (some O)
def Jd (n:Nat) (ab:Qa) (O:(Int × Int)→Option Int) (G:Int) (J:Int):Option Int :=
 cond (Qs G ab.to_)
  ((Qn (fun Y (aa,Z)=>Jc n ab G Y aa Z) n (0,0)).bind fun j5 =>
  O (wi (G+1),Jq J j5))
  (some J)
def KL (G:Int):Option (Int × Int) :=
 cond (Qs 1000000000 G)
  (some (0,3))
  (some (G,0))
def WC (n:Nat) (Z:Qa) (O:(Int × Int)→Option (Int × Int)) (J:Int) (G:Int):Option (Int × Int) :=
 cond (Qs G (Qb (List.map QT.cs Z.Tariff.Articles)))
  ((QU Z.Tariff.Articles G).bind fun Y =>
  (cond (!Qp Y.Kind 3)
   (some (!Qp Y.Kind 4))
   (some false)).bind fun ac =>
  cond ac
   (O (J,wi (G+1)))
   ((Vu n Z Y).bind fun ab =>
   (YC n Y.Price (Jq 0 (wi (ab - Y.Free))) Y.Unit).bind fun aa =>
   cond (!Qp aa.2 0)
    (some (0,3))
    (O (wi (J+aa.1),wi (G+1)))))
  (KL J)
def XF (n:Nat) (O:Qa) (G:Int):Option (Int × Int) :=
 (Jb n O G).bind fun r1 =>
 cond (!Qp r1.2 0)
  (some (0,r1.2))
  ((Qn (fun Z (ac,ab)=>Jd n O Z ac ab) n (O.from_,0)).bind fun j2 =>
  Qn (fun J (Y,aa)=>WC n O J Y aa) n (wi (r1.1+j2),0))
def gQ:=fun J O G Y=>([(0,J),(8,I O),(40, .p (.sl 7 (List.map QT.cs G))),(41,I (Qb (List.map QT.cs G))),(42,I Y)]:List (Nat × AV))
def Qfv:=fun J O G Y=>([(0,J),(8,I O),(10, .ptr 10 0),(40, .p (.sl 7 (List.map QT.cs G))),(41,I (Qb (List.map QT.cs G))),(42,I Y)]:List (Nat × AV))
theorem D6 (n:Nat) (G:Qa) (ac:Int):∀ r,XF n G ac=some r→QC Tryz.prog 91 [.eptr (Qa.cs G),I ac] (.ret (.tup [I r.1,I r.2])):=by
 refine Qj Tryz.func91 rfl Tryz.ntmps91 rfl ?_;unfold XF;refine Qf Qd ⟨[(0, .eptr (Qa.cs G)),(1,I ac)],[]⟩ (sS (sG (xR 2 ?_)));refine xC [] (Rn n G ac) QF (fun r1=>?_);refine xR 5 (xE (Ql ⟨[(0, .eptr (Qa.cs G)),(6,I r1.1),(7,I r1.2)],[]⟩ (sS (Qf Qd ⟨[(0, .eptr (Qa.cs G)),(6,I r1.1),(7,I r1.2),(20,B (!Qp r1.2 0))],[]⟩ (sC (!Qp r1.2 0) (Qf Qd ⟨[(4,I 0),(5,I r1.2)],[]⟩ (sT (QB (qR (.id))))) (sK (Ql ⟨[(0, .eptr (Qa.cs G)),(6,I r1.1)],[]⟩ (sS (KG [0,1,2,3,4,5,6,7,8,10] [0,10] [(9,[]),(11,[]),(12,[]),(13,[]),(14,[])] Qd rfl (ZH (f:=151) (args:=[I G.from_,I G.to_]) (dst:=some 31) (QQ (hc:=[]) (args':=[I G.from_,I G.to_]) [(2,402),(3,403)] [] [] Tryz.func151 rfl Tryz.ntmps151 rfl Qc Qc Qc (Qf Qd (QhB G.from_ G.to_) (Qf Qd ⟨QbQ (.func 203),rf G.from_ G.to_⟩ (sT (QD (.id) [2,3] [] (.fn (.func 203) [] [.ptr 2 0, .ptr 3 0]) (kh [0,10] (Qo (MR Qc) (Qo (MR Qc) (Qg))) (ZH (f:=152) (args:=[.eptr (Qa.cs G),I 1]) (dst:=some 33) (QQ (hc:=[]) (args':=[.eptr (Qa.cs G),I 1]) [(2,439),(3,440)] [] [] Tryz.func152 rfl Tryz.ntmps152 rfl Qc Qc Qc (Qf Qd ⟨[qq 2,qq 3],ru (.eptr (Qa.cs G)) 1⟩ (Qf Qd ⟨QbQ (.func 204),ru (.eptr (Qa.cs G)) 1⟩ (sT (QD (.id) [2,3] [] (.fn (.func 204) [] [.ptr 2 0, .ptr 3 0]) (kh [0] (Qo (MR Qc) (Qg)) (ZH (f:=150) (args:=[.fn (.func 203) [] [.ptr 402 0, .ptr 403 0], .fn (.func 204) [] [.ptr 439 0, .ptr 440 0]]) (dst:=some 34) (QQ (hc:=(Nw G.from_ G.to_ (.eptr (Qa.cs G)) 1)) (args':=[.fn (.func 203) [] [Zj,Rw], .fn (.func 204) [] [IG,dZ]]) nq6 [] [] Tryz.func150 rfl Tryz.ntmps150 rfl Qc Qc Qc (Qf Qd ⟨Qfn,[(3,QhC)]++Nw G.from_ G.to_ (.eptr (Qa.cs G)) 1⟩ (Qf Qd ⟨Qfo,QbS++Nw G.from_ G.to_ (.eptr (Qa.cs G)) 1⟩ (KQ (fun j2=>(QeJ j2 G.from_ G.to_ (.eptr (Qa.cs G)) 1):Int→St) ?_ ?_))))))))))))))))))))))))))));rotate_left
 ·rintro j2;refine Qf Qd ⟨[(4,I j2)],Nw G.from_ G.to_ (.eptr (Qa.cs G)) 1⟩ (sT (QD (.id) [1000,1001,1002,1003] [] (I j2) (kh [0] (Qo (MR Qc) (Qg)) (Yx [] (Qg) (Yx [] (Qg) (WK (Ql ⟨[(0, .eptr (Qa.cs G)),(8,I (wi (r1.1+j2)))],[]⟩ (Yc (fun ad=>⟨[(8,I ad)],[]⟩:Int→St) (fun ad=>KL ad) ?_ ?_))))))))
  ·rintro ad;show QP (KL ad) _ _ _ _ _ _;unfold KL;exact sS (Qf Qd ⟨[(8,I ad),(76,B (Qs 1000000000 ad))],[]⟩ (sC (Qs 1000000000 ad) (Qf Qd ⟨[(4,I 0),(5,I 3)],[]⟩ (sT (QB (qR (.id))))) (sK (Ql ⟨[(8,I ad)],[]⟩ (Qf Qd ⟨[(4,I ad),(5,I 0)],[]⟩ (sT (qR (.id))))))))
  refine Qf Qd ⟨gQ (.eptr (Qa.cs G)) (wi (r1.1+j2)) G.Tariff.Articles 0,[]⟩ (sB (QG (fun (Y,O)=>⟨gQ (.eptr (Qa.cs G)) Y G.Tariff.Articles O,[]⟩:(Int × Int)→St) (Gm) ?_));rintro ai ⟨Y,O⟩;show QP (WC n G ai Y O) _ _ _ _ _ _;unfold WC;refine Qf Qd ⟨[(0, .eptr (Qa.cs G)),(8,I Y),(40, .p (.sl 7 (Y3 G.Tariff.Articles))),(41,I (Qb (Y3 G.Tariff.Articles))),(42,I O),(43,B (Qs O (Qb (Y3 G.Tariff.Articles))))],[]⟩ (sS (sC (Qs O (Qb (Y3 G.Tariff.Articles))) (sK (Ql ⟨gQ (.eptr (Qa.cs G)) Y G.Tariff.Articles O,[]⟩ (sS (sB (sS (sG (xG (ZA (e:=183) (S:=7) (enc:=QT.cs) (l:=G.Tariff.Articles) (k:=.i64) (n:=O) (sv:=.p (.sl 7 (Y3 G.Tariff.Articles))) rfl Qc Qc Qc Qc Qc) (fun af=>xR 3 (xE (Ql ⟨Qfv (.eptr (Qa.cs G)) Y G.Tariff.Articles O,ry af⟩ (sS (KQ (fun am=>⟨[(0, .eptr (Qa.cs G)),(8,I Y),qq 10,(40, .p (.sl 7 (Y3 G.Tariff.Articles))),(41,I (Qb (Y3 G.Tariff.Articles))),(42,I O),(53,B am)],ry af⟩:Bool→St) (sG (xR 4 (xS (!Qp af.Kind 3) (fun ak=>xO (Qv ak) (xR 3 (xE (QS (!Qp af.Kind 4))))) (fun ak=>xN (Qx ak) (xR 3 (xE (QS false))))))) ?_)))))))))))) (Qt (ZR (Yw (QM (KW (k:=fun ad=>KL ad) Y)))))));rintro am;refine sC am (Qt (ZR (QM (Ql ⟨gQ (.eptr (Qa.cs G)) Y G.Tariff.Articles O,[]⟩ (sL Qd (KW (Y,wi (O+1)))))))) (sK (Ql ⟨Qfv (.eptr (Qa.cs G)) Y G.Tariff.Articles O,ry af⟩ (sS (Bh Qd rfl (xR 4 ?_)))));refine xC [] (XQ n G af) QF (fun aq=>?_);refine xR 6 ?_;refine xC [] (F6 n af.Price (Jq 0 (wi (aq - af.Free))) af.Unit) QF (fun ah=>?_);exact xR 5 (MN (Ql ⟨[(0, .eptr (Qa.cs G)),(8,I Y),(11,I ah.1),(12,I ah.2),(40, .p (.sl 7 (Y3 G.Tariff.Articles))),(41,I (Qb (Y3 G.Tariff.Articles))),(42,I O)],[]⟩ (sS (Qf Qd ⟨[(0, .eptr (Qa.cs G)),(8,I Y),(11,I ah.1),(40, .p (.sl 7 (Y3 G.Tariff.Articles))),(41,I (Qb (Y3 G.Tariff.Articles))),(42,I O),(70,B (!Qp ah.2 0))],[]⟩ (sC (!Qp ah.2 0) (Qf Qd ⟨[(4,I 0),(5,I 3)],[]⟩ (sT (QB (Q4 (QB (V9 (Q4 (V9 (qR (.id)))))))))) (sK (Ql ⟨[(0, .eptr (Qa.cs G)),(8,I Y),(11,I ah.1),(40, .p (.sl 7 (Y3 G.Tariff.Articles))),(41,I (Qb (Y3 G.Tariff.Articles))),(42,I O)],[]⟩ (sL Qd (QR (Ql ⟨gQ (.eptr (Qa.cs G)) (wi (Y+ah.1)) G.Tariff.Articles O,[]⟩ (sL Qd (KW (wi (Y+ah.1),wi (O+1))))))))))))))
 refine Qf Qd (QeK G.from_ G.to_ (.eptr (Qa.cs G)) 1) (sB (Pe (QeK G.from_ G.to_ (.eptr (Qa.cs G)) 1) (RV 203 3000 [] [Zj,Rw] Qc Qc (fun ae _ an=>(QQ (hc:=(Uu 0 G.from_ G.to_ (.eptr (Qa.cs G)) 1 (.lp XT ae .ready none))) (args':=[.yv 4000, .ptr 2000 0, .ptr 2001 0]) nq7 [] [] Tryz.func203 rfl Tryz.ntmps203 rfl Qc Qc Qc (Qf Qd ⟨Iq G.from_,Uu 0 G.from_ G.to_ (.eptr (Qa.cs G)) 1 (.lp XT ae .ready none)⟩ (sB (QG (fun (J,aa)=>⟨Iq J,Uu aa G.from_ G.to_ (.eptr (Qa.cs G)) 1 (.lp XT ae .ready none)⟩:(Int × Int)→St) (Gm) ?_))))))));rintro aj ⟨J,aa⟩;show QP (Jd n G aj J aa) _ _ _ _ _ _;unfold Jd;refine sS (Qf Qd ⟨[(0, .yv 4000),(2, .ptr 2001 0),(4,I J),(8,B (Qs J G.to_))],Uu aa G.from_ G.to_ (.eptr (Qa.cs G)) 1 (.lp XT ae .ready none)⟩ (sC (Qs J G.to_) ?_ ?_));rotate_left
 ·refine Qt (ZR (Yw (QM (DX .id [1003,1005,2000,2001,2002,2003,4000] [] (.tup []) ?_))));refine Qbb .ready ⟨[5],[5,1000,1001,1002,1003],[],[]⟩ (QeJ aa G.from_ G.to_ (.eptr (Qa.cs G)) 1) Qc (by intro h; cases h) Qc ?_;exact QR (QS aa)
 refine sK (Ql ⟨Iq J,Uu aa G.from_ G.to_ (.eptr (Qa.cs G)) 1 (.lp XT ae .ready none)⟩ (sS (sB (sS (sG (xR 2 (Bn [] (Uu aa G.from_ G.to_ (.eptr (Qa.cs G)) 1 (.lp XT ae .ready none)) 4000 XT [] [] [I J] Qc an Qc Qc Qc Qc Qc (fun _=>sL Qd (Qbc ⟨[3,5,6],[1003,1005,2000,2001,2002,2003,4000],[],[]⟩ ⟨Qfp J,Uu aa G.from_ G.to_ (.eptr (Qa.cs G)) 1 (.lp XT ae .busy none)⟩ none Qc Qc (sB (KG [0,1,2] [0] [(3,[]),(4,[]),(5,[])] Qd rfl (ZH (f:=204) (args:=[I J, .ptr 2002 0, .ptr 2003 0]) (dst:=some 12) (QQ (hc:=(Gf (.eptr (Qa.cs G)) 1)) (args':=[I J,Zj,Rw]) [(1000,2002),(1001,2003)] [] [] Tryz.func204 rfl Tryz.ntmps204 rfl Qc Qc Qc (Qf Qd ⟨Qfq J,Gf (.eptr (Qa.cs G)) 1⟩ (Qf Qd ⟨Qfr J,Gf (.eptr (Qa.cs G)) 1⟩ (KQ (fun j5=>⟨[(5,I j5)],Gf (.eptr (Qa.cs G)) 1⟩:Int→St) ?_ ?_))))))))))))))));rotate_left
 ·rintro j5;exact Qf Qd ⟨[(4,I j5)],Gf (.eptr (Qa.cs G)) 1⟩ (sT (QD (.id) [1000,1001] [] (I j5) (kh [0] (Qo (QA (I aa) rfl) (Qg)) (Yx [] (Qg) (Yx [] (Qg) (WK (QR (lK [1003,1005,2000,2001,2002,2003,4000] [] .busy none (Wh (xR 1 (xE (Ql ⟨[(0, .yv 4000),(2, .ptr 2001 0),(4,I J),(14,B false)],Uu (Jq aa j5) G.from_ G.to_ (.eptr (Qa.cs G)) 1 (.lp XT ae .ready none)⟩ (QZ (sK (QR (Ql ⟨Iq J,Uu (Jq aa j5) G.from_ G.to_ (.eptr (Qa.cs G)) 1 (.lp XT ae .ready none)⟩ (sL Qd (KW (wi (J+1),Jq aa j5)))))))))))))))))))
 refine Qf Qd (kV J 0 G.Tariff.Articles 0 (.eptr (Qa.cs G)) 1) (sB (QG (fun (ab,Z)=>(kV J ab G.Tariff.Articles Z (.eptr (Qa.cs G)) 1):(Int × Int)→St) (Gm) ?_));rintro al ⟨ab,Z⟩;show QP (Jc n G J al ab Z) _ _ _ _ _ _;unfold Jc;refine Qf Qd ⟨Qfs J ab G.Tariff.Articles Z (Qs Z (Qb (Y3 G.Tariff.Articles))),Gf (.eptr (Qa.cs G)) 1⟩ (sS (sC (Qs Z (Qb (Y3 G.Tariff.Articles))) (sK (Ql (kV J ab G.Tariff.Articles Z (.eptr (Qa.cs G)) 1) (sS (sB (sS (sG (xG (ZA (e:=183) (S:=7) (enc:=QT.cs) (l:=G.Tariff.Articles) (k:=.i64) (n:=Z) (sv:=.p (.sl 7 (Y3 G.Tariff.Articles))) rfl Qc Qc Qc Qc Qc) (fun x7=>xR 3 (xE (Ql ⟨Qft J ab G.Tariff.Articles Z,rz x7++Gf (.eptr (Qa.cs G)) 1⟩ (KQ (fun j8=>⟨Qfu J ab G.Tariff.Articles Z j8,rz x7++Gf (.eptr (Qa.cs G)) 1⟩:Bool→St) ?_ ?_))))))))))) (Qt (ZR (Yw (QM (QS ab)))))))
 ·refine Bh Qd rfl (xR 5 (xS (Qp x7.Kind 1) (fun h9=>?_) (fun h9=>?_)))
  ·refine xO (Qv h9) (xR 5 ?_);refine xC [] (Uf n x7 G.calendar J) QF (fun ao=>?_);exact xR 1 (MN (QS ao))
  exact xN (Qx h9) (xR 7 (MN (QS false)))
 rintro j8;exact sC j8 (sL Qd (QR (Ql (kV J (wi (ab+x7.Price)) G.Tariff.Articles Z (.eptr (Qa.cs G)) 1) (sL Qd (KW (wi (ab+x7.Price),wi (Z+1))))))) (sK (QR (Ql (kV J ab G.Tariff.Articles Z (.eptr (Qa.cs G)) 1) (sL Qd (KW (ab,wi (Z+1)))))))
def UW (aa:Ky) (J:(Int × Int × Int)→Option (Int × Int)) (O:Int) (Y:Int) (G:Int):Option (Int × Int) :=
 cond (Qs G (Qb (List.map QT.cs aa.Articles)))
  ((QU aa.Articles G).bind fun Z =>
  cond (Qp Z.Kind 5)
   (J (Ls O Z.Price,Y,wi (G+1)))
   (cond (Qp Z.Kind 6)
    (J (O,Z.Price,wi (G+1)))
    (J (O,Y,wi (G+1)))))
  (some (O,Y))
def Ro (n:Nat) (Z:Ky) (ae:Kn) (J:Int) (Y:Int) (G:Int):Option (Int × Int) :=
 ((UR n Z).bind fun r2 =>
 cond (!r2)
  (some true)
  ((YG n ae).bind fun r4 =>
  cond (!r4)
   (some true)
   ((J3 n J Y G).bind fun r6 =>
   some (!r6)))).bind fun j1 =>
 cond j1
  (some (0,1))
  ((XF n (⟨Z,ae,J,Y⟩:Qa) G).bind fun r7 =>
  cond (!Qp r7.2 0)
   (some (0,r7.2))
   ((Qn (fun aa (ad,ah,af)=>UW Z aa ad ah af) n (r7.1,0,0)).bind fun (O,ac) =>
   (JE n O ac).bind fun ab =>
   (cond (!Qp ab.2 0)
    (some true)
    (some (Qs 1000000000 (wi (O+ab.1))))).bind fun ai =>
   cond ai
    (some (0,3))
    (some (wi (O+ab.1),0))))
def Qfw:=fun J O G=>([(2,I J),(3,I O),(4,I G),(5, .ptr 5 0),(6, .ptr 6 0)]:List (Nat × AV))
def QbT:=fun G J=>([(5, .box 59 (YE (Ky.cs G))),(6, .box 52 (YE (Kn.cs J)))]:List (Nat × Blk))
def rA:=fun G=>([(5, .box 59 (YE (Ky.cs G)))]:List (Nat × Blk))
def yY:=fun J O G Y=>([(13,I J),(15,I O),(50, .p (.sl 7 (List.map QT.cs (Ky.Articles G)))),(51,I (Qb (List.map QT.cs (Ky.Articles G)))),(52,I Y)]:List (Nat × AV))
def rC:=fun G=>([(17, .box 183 (YE (QT.cs G)))]:List (Nat × Blk))
theorem Aq (n:Nat) (G:Ky) (ae:Kn) (Z:Int) (ad:Int) (J:Int):∀ r,Ro n G ae Z ad J=some r→QC Tryz.prog 40 [ag (Ky.cs G),ag (Kn.cs ae),I Z,I ad,I J] (.ret (.tup [I r.1,I r.2])):=by
 refine Qj Tryz.func40 rfl Tryz.ntmps40 rfl ?_;unfold Ro;refine Qf Qd ⟨Qfw Z ad J,QbT G ae⟩ (sS (KQ (fun j1=>⟨[(2,I Z),(3,I ad),(4,I J),qq 5,qq 6,(33,B j1)],QbT G ae⟩:Bool→St) ?_ ?_))
 ·refine sG (xR 1 ?_);refine xC [] (Dp n G) QF (fun r2=>?_);refine xR 2 (xS (!r2) (fun h3=>xN (Qy h3) (xR 10 (xE (QS true)))) (fun h3=>xO (Qw h3) ?_));refine xC [] (WN n ae) QF (fun r4=>?_);refine xR 3 (xS (!r4) (fun h5=>xN (Qy h5) (xR 5 (xE (QS true)))) (fun h5=>xO (Qw h5) (xR 2 ?_)));refine xC [] (Dr n Z ad J) QF (fun r6=>?_);exact xR 2 (xE (QS (!r6)))
 rintro j1;refine sC j1 (Qf Qd ⟨[(10,I 0),(11,I 1)],[]⟩ (sT (QB (qR (.id))))) (sK (Ql ⟨Qfw Z ad J,QbT G ae⟩ (Qf Qd ⟨[(4,I J),qq 5,(12, .ptr 39 0)],[(5,pR G),(39, .box 192 (YE (Qa.cs ⟨G,ae,Z,ad⟩)))]⟩ (sS (sG (xR 2 ?_))))));refine XK [.ro [], .cv (.id)] (D6 n (⟨G,ae,Z,ad⟩:Qa) J) QF (fun r7=>?_);refine xR 5 (xE (Ql ⟨[qq 5,(13,I r7.1),(14,I r7.2)],rA G⟩ (sS (Qf Qd ⟨[qq 5,(13,I r7.1),(14,I r7.2),(47,B (!Qp r7.2 0))],rA G⟩ (sC (!Qp r7.2 0) (Qf Qd ⟨[(10,I 0),(11,I r7.2)],[]⟩ (sT (QB (qR (.id))))) (sK (Ql ⟨[qq 5,(13,I r7.1)],rA G⟩ (Qf Qd ⟨[qq 5,(13,I r7.1),(15,I 0)],rA G⟩ (KQ (fun (ac,ah)=>⟨[(13,I ac),(15,I ah)],[]⟩:(Int × Int)→St) ?_ ?_)))))))));rotate_left
 ·rintro ⟨ac,ah⟩;refine sS (sG (xR 2 ?_));refine xC [] (BG n ac ah) QF (fun af=>?_);refine xR 5 (xE (Ql ⟨[(13,I ac),(14,I af.2),(18,I af.1)],[]⟩ (sS (KQ (fun ak=>⟨[(13,I ac),(18,I af.1),(82,B ak)],[]⟩:Bool→St) (sG (xR 3 (xS (!Qp af.2 0) (fun aj=>xN (Qy aj) (xR 4 (xE (QS true)))) (fun aj=>xO (Qw aj) (xR 4 (xE (QS (Qs 1000000000 (wi (ac+af.1)))))))))) ?_))));rintro ak;exact sC ak (Qf Qd ⟨[(10,I 0),(11,I 3)],[]⟩ (sT (QB (qR (.id))))) (sK (Ql ⟨[(13,I ac),(18,I af.1)],[]⟩ (Qf Qd ⟨[(10,I (wi (ac+af.1))),(11,I 0)],[]⟩ (sT (qR (.id))))))
 refine Qf Qd ⟨yY r7.1 0 G 0,[]⟩ (sB (QG (fun (Y,aa,O)=>⟨yY Y aa G O,[]⟩:(Int × Int × Int)→St) (Gm) ?_));rintro ai ⟨Y,aa,O⟩;show QP (UW G ai Y aa O) _ _ _ _ _ _;unfold UW;exact Qf Qd ⟨[(13,I Y),(15,I aa),(50, .p (.sl 7 (Y3 G.Articles))),(51,I (Qb (Y3 G.Articles))),(52,I O),(53,B (Qs O (Qb (Y3 G.Articles))))],[]⟩ (sS (sC (Qs O (Qb (Y3 G.Articles))) (sK (Ql ⟨yY Y aa G O,[]⟩ (sS (sB (sS (sG (xG (ZA (e:=183) (S:=7) (enc:=QT.cs) (l:=G.Articles) (k:=.i64) (n:=O) (sv:=.p (.sl 7 (Y3 G.Articles))) rfl Qc Qc Qc Qc Qc) (fun ab=>xR 3 (xE (Ql ⟨[(13,I Y),(15,I aa),qq 17,(50, .p (.sl 7 (Y3 G.Articles))),(51,I (Qb (Y3 G.Articles))),(52,I O)],rC ab⟩ (Qf Qd ⟨[(13,I Y),(15,I aa),qq 17,(50, .p (.sl 7 (Y3 G.Articles))),(51,I (Qb (Y3 G.Articles))),(52,I O),(57,I ab.Kind)],rC ab⟩ (sB (Qf Qd ⟨[(13,I Y),(15,I aa),qq 17,(50, .p (.sl 7 (Y3 G.Articles))),(51,I (Qb (Y3 G.Articles))),(52,I O),(57,I ab.Kind),(58,B (Qp ab.Kind 5))],rC ab⟩ (sC (Qp ab.Kind 5) (sL Qd (QR (QR (Ql ⟨yY (Ls Y ab.Price) aa G O,[]⟩ (sL Qd (KW (Ls Y ab.Price,aa,wi (O+1)))))))) (Qf Qd ⟨[(13,I Y),(15,I aa),qq 17,(50, .p (.sl 7 (Y3 G.Articles))),(51,I (Qb (Y3 G.Articles))),(52,I O),(64,B (Qp ab.Kind 6))],rC ab⟩ (sC (Qp ab.Kind 6) (sL Qd (QR (QR (Ql ⟨yY Y ab.Price G O,[]⟩ (sL Qd (KW (Y,ab.Price,wi (O+1)))))))) (sK (QR (QR (Ql ⟨yY Y aa G O,[]⟩ (sL Qd (KW (Y,aa,wi (O+1)))))))))))))))))))))))) (Qt (ZR (Yw (QM (QS (Y,aa))))))))
def ZF (n:Nat):Option Bool :=
 (YO n [116,97,114,105,102,102,32,116,32,123,32,116,105,109,101,32,49,48,48,32,112,101,114,32,49,32,102,114,101,101,32,49,48,59,32,125]).bind fun r1 =>
 (YR n r1.1).bind fun J =>
 (cond (Qs 0 (wi ((Qb (List.map Zw.cs r1.2))+(Qb (List.map Zw.cs J.2)))))
  (some true)
  (some (!Qp (Qb (List.map Ky.cs J.1)) 1))).bind fun j3 =>
 cond j3
  (some false)
  ((QU J.1 0).bind fun x5 =>
  (MW n x5 (⟨0,[],[]⟩:Kn) (⟨0,25,20,[]⟩:YN) []).bind fun Z =>
  (QU J.1 0).bind fun x7 =>
  (MW n x7 (⟨0,[],[]⟩:Kn) (⟨0,25,20,[]⟩:YN) [10]).bind fun Y =>
  (QU J.1 0).bind fun x9 =>
  (Ro n x9 (⟨0,[],[]⟩:Kn) 0 25 0).bind fun G =>
  (cond (Qp Z.2 0)
   (cond (Qp Y.2 0)
    (cond (Qp G.2 0)
     (cond (Qp Z.1 1500)
      (cond (Qp Y.1 500)
       (some (Qp G.1 1500))
       (some false))
      (some false))
     (some false))
    (some false))
   (some false)).bind fun O =>
  some O)
theorem Ui (n:Nat):∀ r,ZF n=some r→QC Tryz.prog 16 [] (.ret (B r)):=by
 refine Qj Tryz.func16 rfl Tryz.ntmps16 rfl ?_;unfold ZF;refine Qf Qd ⟨[],[]⟩ (sS (sG ?_));refine xC [] (Dk n [116,97,114,105,102,102,32,116,32,123,32,116,105,109,101,32,49,48,48,32,112,101,114,32,49,32,102,114,101,101,32,49,48,59,32,125]) QF (fun r1=>?_);refine xR 6 (xE (Ql ⟨[qq 1,(2, .p (.sl 2 (Um r1.2)))],IP r1.1⟩ (sS (sG (xR 1 ?_)))));refine xC [] (Dn n r1.1) QF (fun G=>?_);refine xR 5 (xE (Ql ⟨[(2, .p (.sl 2 (Um r1.2))),(3, .p (.sl 2 (XX G.1))),(4, .p (.sl 2 (Um G.2)))],[]⟩ (sS (KQ (fun j3=>⟨[(3, .p (.sl 2 (XX G.1))),(31,B j3)],[]⟩:Bool→St) (sG (xR 7 (xS (Qs 0 (wi ((Qb (Um r1.2))+(Qb (Um G.2))))) (fun h4=>xN (Qy h4) (xR 3 (xE (QS true)))) (fun h4=>xO (Qw h4) (xR 3 (xE (QS (!Qp (Qb (XX G.1)) 1)))))))) ?_))));rintro j3;refine sC j3 (Qf Qd ⟨[(0,B false)],[]⟩ (sT (QB (qR (.id))))) (sK (Ql ⟨[(3, .p (.sl 2 (XX G.1)))],[]⟩ (Qf Qd ⟨[(3, .p (.sl 2 (XX G.1))),qq 5],[(5,(zA 0 25 20))]⟩ (sS (Bh Qd rfl (xR 1 (xG (ZA (e:=59) (S:=2) (enc:=Ky.cs) (l:=G.1) (k:=.i64) (n:=0) (sv:=.p (.sl 2 (XX G.1))) rfl Qc Qc Qc Qc Qc) (fun x5=>xR 3 ?_))))))));refine xC [.id, .agg [.id, .sl 2, .sl 1], .agg [.id, .id, .id, .sl 2], .sl 1] (EX n x5 (⟨0,[],[]⟩:Kn) (⟨0,25,20,[]⟩:YN) []) QF (fun O=>?_);refine xR 5 (MN (Ql ⟨[(3, .p (.sl 2 (XX G.1))),qq 5,(6,I O.1),(7,I O.2)],[(5,(zA 0 25 20))]⟩ (sS (Bh Qd rfl (xR 1 (xG (ZA (e:=59) (S:=2) (enc:=Ky.cs) (l:=G.1) (k:=.i64) (n:=0) (sv:=.p (.sl 2 (XX G.1))) rfl Qc Qc Qc Qc Qc) (fun x7=>xR 4 ?_)))))));refine xC [.id, .agg [.id, .sl 2, .sl 1], .agg [.id, .id, .id, .sl 2], .sl 1] (EX n x7 (⟨0,[],[]⟩:Kn) (⟨0,25,20,[]⟩:YN) [10]) QF (fun r8=>?_);refine xR 5 (MN (Ql ⟨[(3, .p (.sl 2 (XX G.1))),(6,I O.1),(7,I O.2),(8,I r8.1),(9,I r8.2)],[]⟩ (sS (sG (xR 1 (xG (ZA (e:=59) (S:=2) (enc:=Ky.cs) (l:=G.1) (k:=.i64) (n:=0) (sv:=.p (.sl 2 (XX G.1))) rfl Qc Qc Qc Qc Qc) (fun x9=>xR 2 ?_)))))));refine xC [.id, .agg [.id, .sl 2, .sl 1], .id, .id, .id] (Aq n x9 (⟨0,[],[]⟩:Kn) 0 25 0) QF (fun J=>?_);refine xR 5 (xE (Ql ⟨[(6,I O.1),(7,I O.2),(8,I r8.1),(9,I r8.2),(10,I J.1),(11,I J.2)],[]⟩ (KQ (fun ad=>⟨[(0,B ad)],[]⟩:Bool→St) ?_ ?_)));rotate_left
 ·rintro ad;exact sT (qR (.id))
 exact sG (xR 3 (xS (Qp O.2 0) (fun Z=>xO (Qv Z) (xR 3 (xS (Qp r8.2 0) (fun aa=>xO (Qv aa) (xR 3 (xS (Qp J.2 0) (fun ac=>xO (Qv ac) (xR 3 (xS (Qp O.1 1500) (fun ab=>xO (Qv ab) (xR 3 (xS (Qp r8.1 500) (fun Y=>xO (Qv Y) (xR 3 (xE (QS (Qp J.1 1500))))) (fun Y=>xN (Qx Y) (xR 3 (xE (QS false))))))) (fun ab=>xN (Qx ab) (xR 7 (xE (QS false))))))) (fun ac=>xN (Qx ac) (xR 11 (xE (QS false))))))) (fun aa=>xN (Qx aa) (xR 15 (xE (QS false))))))) (fun Z=>xN (Qx Z) (xR 19 (xE (QS false))))))
def LV (n:Nat) (G:Kn):Option Bool :=
 cond (leI (Qb (List.map XN.cs G.Changes)) 30)
  (some (leI (Qb (List.map ci G.Holidays)) 60))
  (some false)
theorem zD (n:Nat) (G:Kn):∀ r,LV n G=some r→QC Tryz.prog 41 [ag (Kn.cs G)] (.ret (B r)):=by
 refine Qj Tryz.func41 rfl Tryz.ntmps41 rfl ?_;unfold LV;exact Qf Qd ⟨[qq 1],IU G⟩ (sS (sG (xR 5 (xS (leI (Qb (Bz G.Changes)) 30) (fun J=>xO (Qv J) (xR 5 (xE (Ql ⟨[(2,B (leI (Qb (List.map ci G.Holidays)) 60))],[]⟩ (sT (qR (.id))))))) (fun J=>xN (Qx J) (xR 5 (xE (Ql ⟨[(2,B false)],[]⟩ (sT (qR (.id)))))))))))
def Gg (n:Nat) (G:Ky) (J:Kn) (O:YN):Option Bool :=
 (LV n J).bind fun r1 =>
 cond r1
  (cond (leI (Qb G.Name) 50)
   (cond (leI (Qb (List.map QT.cs G.Articles)) 20)
    (some (leI (Qb (List.map HZ.cs O.Slices)) 60))
    (some false))
   (some false))
  (some false)
theorem zF (n:Nat) (G:Ky) (O:Kn) (J:YN):∀ r,Gg n G O J=some r→QC Tryz.prog 17 [ag (Ky.cs G),ag (Kn.cs O),ag (YN.cs J)] (.ret (B r)):=by
 refine Qj Tryz.func17 rfl Tryz.ntmps17 rfl ?_;unfold Gg;refine Qf Qd ⟨Qja,Qjb G O J⟩ (sS (sG (xR 1 ?_)));refine xC [] (zD n O) QF (fun r1=>?_);exact xR 1 (xE (Ql ⟨[qq 3,qq 5,(7,B r1)],[(3,pR G),(5,Pn J)]⟩ (sS (sG (xR 2 (xS r1 (fun h2=>xO (Qv h2) (xR 5 (xS (leI (Qb G.Name) 50) (fun Y=>xO (Qv Y) (xR 5 (xS (leI (Qb (Y3 G.Articles)) 20) (fun Z=>xO (Qv Z) (xR 5 (xE (Ql ⟨[(6,B (leI (Qb (Nr J.Slices)) 60))],[]⟩ (sT (qR (.id))))))) (fun Z=>xN (Qx Z) (xR 5 (xE (Ql ⟨[(6,B false)],[]⟩ (sT (qR (.id)))))))))) (fun Y=>xN (Qx Y) (xR 11 (xE (Ql ⟨[(6,B false)],[]⟩ (sT (qR (.id)))))))))) (fun h2=>xN (Qx h2) (xR 17 (xE (Ql ⟨[(6,B false)],[]⟩ (sT (qR (.id)))))))))))))
def JF (n:Nat) (G:Int):Option (List UInt8) :=
 cond (leI (-9223372036854775808) G&&leI G 9223372036854775807) (some (Lib.itoa G)) none
theorem EY (n:Nat) (G:Int):∀ r,JF n G=some r→QC Tryz.prog 196 [I G] (.ret (S r)):=by
 intro r J;unfold JF at J;cases h:leI (-9223372036854775808) G&&leI G 9223372036854775807
 ·rw [h] at J; cases J
 rw [h] at J; cases J;simp only [leI,Zf,decide_eq_true_eq] at h;exact Qd0 h.1 h.2
def Fv (n:Nat) (J:DY) (G:GN):Option DY :=
 cond (QK (List.length (J.text++[32])) 1) (
  cond (Qp G.Kind 6)
   ((JF n G.N).bind fun O =>
   cond (QK (List.length ((J.text++[32])++O)) 1&&!List.isEmpty O) (
    some (⟨(J.text++[32])++O⟩:DY)) none)
   (cond (QK (List.length ((J.text++[32])++G.Name)) 1&&!List.isEmpty G.Name) (
    some (⟨(J.text++[32])++G.Name⟩:DY)) none)) none
def Qjr:=fun G=>(.box 97 [(.sfp 1000), .tsl 1 (List.map c8b G) 1101]:Blk)
def Ny:=fun G=>([(1000,(Qjr G)),(1101, .arr 5 1 (List.map c8b G).length)]:List (Nat × Blk))
def rD:=fun G=>([(3, .box 25 (YE (GN.cs G)))]:List (Nat × Blk))
def QbU:=fun G J=>(⟨[(0, .ptr 1000 0),(3, .ptr 3 0)],rD G++Ny J⟩:St)
def QbV:=fun G=>(.box 97 [(.sfp 1000), .tsl 1 (List.map c8b G) 1001]:Blk)
def Gh:=fun G=>([(1000,(QbV G)),(1001, .arr 5 1 (List.map c8b G).length)]:List (Nat × Blk))
def QeL:=fun G=>(.arr 5 1 (List.map c8b G).length:Blk)
def BI:=fun G=>([(1000,(QbV G)),(1001,(QeL G))]:List (Nat × Blk))
def zG:=fun G=>([(1000,(Qjr G)),(1101,(QeL G))]:List (Nat × Blk))
def QeM:=fun G J=>(⟨[(0, .ptr 1000 0),(3, .ptr 3 0)],rD G++zG J⟩:St)
def Qjs:=fun G=>([(4,I (G)),(5, .p (.val (.nilIface)))]:List (Nat × AV))
def jq:=fun G J=>(⟨Qjs (G),BI J⟩:St)
def gU:=fun G J=>(⟨[(1,S G)],BI J⟩:St)
abbrev gV (x:List UInt8):Go.Abs.Blk:=.arr 5 1 (mb x).length
theorem EZ (n:Nat) (G:DY) (J:GN):∀ r,Fv n G J=some r→KD Tryz.prog 132 [Zj,ag (GN.cs J)] (Go.Abs.look [(1000, .box 97 [.sfp 1000, .tsl 1 (mb G.text) 1101]),(1101,gV G.text)]) (Yh (fun r:DY=>((.ret (.tup []),[(1000, .box 97 [.sfp 1000, .tsl 1 (mb r.text) 1101]),(1101,gV r.text)]):ZB × List (Nat × Blk))) r):=by
 refine Kq (Ny G.text) Tryz.func132 rfl Tryz.ntmps132 rfl ?_;unfold Fv;refine Qf Qd (QbU J G.text) (sS (sG (xR 3 (GD (Gh G.text) [Zj,B8 32] [(1000,1000),(1001,1101)] [] [] Tryz.func195 rfl Tryz.ntmps195 rfl (Qf Qd ⟨[(0,Zj),(1,B8 32)],Gh G.text⟩ (sS (sG (xR 1 (U5 (Kc (f:=131) (args:=[Zj]) Qc Qc Qc ?_))))))))));refine Wu 1000 1 1001 5 1 (mb G.text).length (mb G.text) ⟨[0,1,5],[1000],[],[]⟩ rfl (fun _ _ _=>by kernel_rfl) (fun ae af Y=>?_);refine Zg [(1000,1000)] [] [] (U6 ae af Y) Qc Qc Qc QF QF (fun _=>?_);refine Xz _ rfl (Wh (xE (Ql ⟨[(0,Zj),(1,B8 32)],Gh G.text⟩ (sS (sG (xR 7 (xF (Y1 (e:=5) (S:=1) (by_:=1) (enc:=c8b) (tk:=1001) (l:=G.text) (l2:=[32]) (xv:=.tsl 1 (List.map c8 [32]) 13) rfl Qc Qc rfl Qc Qc Qc rfl Qc) (xR 3 (xE (Ql ⟨[],BI (G.text++[32])⟩ (Qf Qd ⟨[(4, .p (.val (.nilIface)))],BI (G.text++[32])⟩ (sT (QD (.id) [1000,1001] [] (.p (.val (.nilIface))) (Wh (xE (Ql (QeM J (G.text++[32])) (sS (Qf Qd ⟨[(0,Zj),qq 3,(10,B (Qp J.Kind 6))],rD J++zG (G.text++[32])⟩ (sC (Qp J.Kind 6) ?_ ?_)))))))))))))))))));rotate_left
 ·refine sK (Ql (QeM J (G.text++[32])) (Bh Qd rfl (xR 5 (FT (BI (G.text++[32])) [Zj,S J.Name] [(1000,1000),(1001,1101)] [] [] Qc Tryz.func62 rfl Tryz.ntmps62 rfl Qc Qc Qc (Qf Qd ⟨[(0,Zj),(1,S J.Name)],BI (G.text++[32])⟩ (sS (sG (xR 1 (U5 (Kc (f:=131) (args:=[Zj]) Qc Qc Qc ?_))))))))));refine Wu 1000 1 1001 5 1 (mb (G.text++[32])).length (mb (G.text++[32])) ⟨[0,1,6],[1000],[],[]⟩ rfl (fun _ _ _=>by kernel_rfl) (fun ab ah ac=>?_);refine Zg [(1000,1000)] [] [] (U6 ab ah ac) Qc Qc Qc QF QF (fun _=>?_);exact Xz _ rfl (Wh (xE (Ql ⟨[(0,Zj),(1,S J.Name)],BI (G.text++[32])⟩ (sS (sG (xR 6 (xS (QK (List.length ((G.text++[32])++J.Name)) 1&&!List.isEmpty J.Name) (fun h6=>G5 (t:=93) (u:=9) (ty:=5) (bs:=G.text++[32]) (b:=J.Name) (tk:=1001) rfl Tryz.underlying93 Tryz.underlying9 h6 (xR 3 (xE (Ql ⟨[(1,S J.Name)],BI ((G.text++[32])++J.Name)⟩ (Qf Qd (jq (Qb J.Name) ((G.text++[32])++J.Name)) (sT (QD (.id) [1000,1001] [] (.tup [I (Qb J.Name), .p (.val (.nilIface))]) (kqn (lH (.id) [1000,1101] []))))))))) (fun _=>GZ))))))))
 refine sS (Bh Qd rfl (xR 5 ?_));refine xC [] (EY n J.N) QF (fun O=>?_);refine FT (BI (G.text++[32])) [Zj,S O] [(1000,1000),(1001,1101)] [] [] Qc Tryz.func62 rfl Tryz.ntmps62 rfl Qc Qc Qc (Qf Qd ⟨[(0,Zj),(1,S O)],BI (G.text++[32])⟩ (sS (sG (xR 1 (U5 (Kc (f:=131) (args:=[Zj]) Qc Qc Qc ?_))))));refine Wu 1000 1 1001 5 1 (mb (G.text++[32])).length (mb (G.text++[32])) ⟨[0,1,6],[1000],[],[]⟩ rfl (fun _ _ _=>by kernel_rfl) (fun Z ad aa=>?_);refine Zg [(1000,1000)] [] [] (U6 Z ad aa) Qc Qc Qc QF QF (fun _=>?_);exact Xz _ rfl (Wh (xE (Ql ⟨[(0,Zj),(1,S O)],BI (G.text++[32])⟩ (sS (sG (xR 6 (xS (QK (List.length ((G.text++[32])++O)) 1&&!List.isEmpty O) (fun h4=>G5 (t:=93) (u:=9) (ty:=5) (bs:=G.text++[32]) (b:=O) (tk:=1001) rfl Tryz.underlying93 Tryz.underlying9 h4 (xR 3 (xE (Ql (gU O ((G.text++[32])++O)) (Qf Qd (jq (Qb O) ((G.text++[32])++O)) (sT (QD (.id) [1000,1001] [] (.tup [I (Qb O), .p (.val (.nilIface))]) (kqn (Ql ⟨[],zG ((G.text++[32])++O)⟩ (sT (QB (Kw (.id) [1000,1101] [])))))))))))) (fun _=>GZ))))))))
def Vv (n:Nat) (Y:GN) (O:(Int × (List UInt8))→Option (List UInt8)) (G:Int) (J:List UInt8):Option (List UInt8) :=
 cond (Qs G (Qb (List.map Zq Y.Kids)))
  ((Option.bind (QU Y.Kids G) GN.of).bind fun Z =>
  (Fv n (⟨J⟩:DY) Z).bind fun r6 =>
  O (wi (G+1),r6.text))
  (some J)
def Tm (n:Nat) (J:DY) (G:GN):Option DY :=
 cond (!Qp G.Kind 3)
  (some (⟨J.text⟩:DY))
  (cond (IE [32] G.Name) (
   cond (QK (List.length (J.text++([32]++G.Name))) 1&&!List.isEmpty ([32]++G.Name)) (
    (Qn (fun O (Z,Y)=>Vv n G O Z Y) n (0,J.text++([32]++G.Name))).bind fun j3 =>
    some (⟨j3⟩:DY)) none) none)
def Qjt:=fun J O G=>(⟨[(0, .ptr 1000 0),(3, .ptr 3 0),(6,B J)],rD O++Ny G⟩:St)
def QbW:=fun G=>([(0, .ptr 1000 0),(1,S G)]:List (Nat × AV))
def aG:=fun G J=>(⟨QbW G,Gh J⟩:St)
def Qju:=fun G=>(.box 101 [.fn G [.ptr 1000 0] []]:Blk)
def Gi:=fun G J=>([(1000,(QbV G)),(1001,(QeL G)),(1002,(Qju J))]:List (Nat × Blk))
def nq8:List (Nat × Nat):=[(1002,19),(1000,1000),(1001,1101)]
def Tn:=fun G J=>([(1, .p (.sl 5 (List.map Zq (GN.Kids G)))),(10,(.bsl 1002 1)),(11,I 1),(12,I J)]:List (Nat × AV))
def gW:=fun J O G=>(⟨Tn J 0,Gi O G⟩:St)
def Nz:=fun J O G=>([(1, .p (.sl 5 (List.map Zq (GN.Kids J)))),(10,(.bsl 1002 1)),(11,I 1),(12,I O),(13,B G)]:List (Nat × AV))
def V3:=fun G J=>([(1000,(QbV G)),(1001, .arr 5 1 (List.map c8b G).length),(1002,(Qju J))]:List (Nat × Blk))
def gX:=fun G J=>([(1, .p (.sl 5 (List.map Zq (GN.Kids G)))),(7, .fn J [.ptr 1000 0] []),(10,(.bsl 1002 1)),(11,I 1),(12,I 0)]:List (Nat × AV))
def gY:=fun G O J=>([(1, .p (.sl 5 (List.map Zq (GN.Kids G)))),(7, .fn O [.ptr 1000 0] []),(10,(.bsl 1002 1)),(11,I 1),(12,I 0),(16, .p (.sl 5 (List.map Zq (GN.Kids G)))),(17,I (Qb (List.map Zq (GN.Kids G)))),(18,I J)]:List (Nat × AV))
def M9:=fun J Y G Z O=>(⟨gY J Y G,V3 Z O⟩:St)
def gZ:=fun G O J Y=>([(1, .p (.sl 5 (List.map Zq (GN.Kids G)))),(7, .fn O [.ptr 1000 0] []),(10,(.bsl 1002 1)),(11,I 1),(12,I 0),(16, .p (.sl 5 (List.map Zq (GN.Kids G)))),(17,I (Qb (List.map Zq (GN.Kids G)))),(18,I J),(19,B Y)]:List (Nat × AV))
def Qjv:=fun G O J=>([(1, .p (.sl 5 (List.map Zq (GN.Kids G)))),(7, .fn O [.ptr 1000 0] []),(9, .ptr 9 0),(10,(.bsl 1002 1)),(11,I 1),(12,I 0),(16, .p (.sl 5 (List.map Zq (GN.Kids G)))),(17,I (Qb (List.map Zq (GN.Kids G)))),(18,I J)]:List (Nat × AV))
def Qfx:=fun G=>([(9, .box 25 (YE (GN.cs G)))]:List (Nat × Blk))
def QbX:=fun J Z G x3 Y O=>(⟨Qjv J Z G,Qfx x3++V3 Y O⟩:St)
theorem Ir (n:Nat) (J:DY) (G:GN):∀ r,Tm n J G=some r→KD Tryz.prog 64 [Zj,ag (GN.cs G)] (Go.Abs.look [(1000, .box 97 [.sfp 1000, .tsl 1 (mb J.text) 1101]),(1101,gV J.text)]) (Yh (fun r:DY=>((.ret (.tup []),[(1000, .box 97 [.sfp 1000, .tsl 1 (mb r.text) 1101]),(1101,gV r.text)]):ZB × List (Nat × Blk))) r):=by
 refine Kq (Ny J.text) Tryz.func64 rfl Tryz.ntmps64 rfl ?_;unfold Tm;refine Qf Qd (QbU G J.text) (sS (Qf Qd (Qjt (!Qp G.Kind 3) G J.text) (sC (!Qp G.Kind 3) (sT (QB (Kw (.id) [1000,1101] []))) (sK (Ql (QbU G J.text) (sS (Bh Qd rfl (xR 5 (xF (EF (a:=[32]) (b:=G.Name) rfl Qc Qc) (FT (Gh J.text) [Zj,S ([32]++G.Name)] [(1000,1000),(1001,1101)] [] [] Qc Tryz.func62 rfl Tryz.ntmps62 rfl Qc Qc Qc (Qf Qd (aG ([32]++G.Name) J.text) (sS (sG (xR 1 (U5 (Kc (f:=131) (args:=[Zj]) Qc Qc Qc ?_))))))))))))))));refine Wu 1000 1 1001 5 1 (mb J.text).length (mb J.text) ⟨[0,1,6],[1000],[],[]⟩ rfl (fun _ _ _=>by kernel_rfl) (fun ab ac aa=>?_);refine Zg [(1000,1000)] [] [] (U6 ab ac aa) Qc Qc Qc QF QF (fun _=>?_);refine Xz _ rfl (Wh (xE (Ql (aG ([32]++G.Name) J.text) (sS (sG (xR 6 (xS (QK (List.length (J.text++([32]++G.Name))) 1&&!List.isEmpty ([32]++G.Name)) (fun h2=>G5 (t:=93) (u:=9) (ty:=5) (bs:=J.text) (b:=[32]++G.Name) (tk:=1001) rfl Tryz.underlying93 Tryz.underlying9 h2 (xR 3 (xE (Ql (gU ([32]++G.Name) (J.text++([32]++G.Name))) (Qf Qd (jq (Qb ([32]++G.Name)) (J.text++([32]++G.Name))) (sT (QD (.id) [1000,1001] [] (.tup [I (Qb ([32]++G.Name)), .p (.val (.nilIface))]) (kqn (Ql (QeM G (J.text++([32]++G.Name))) (sG (xR 6 (GD (Gi (J.text++([32]++G.Name)) (.func 132)) [Zj, .p (.sl 5 (mI G.Kids)), .bsl 1002 1] nq8 [] [] Tryz.func63 rfl Tryz.ntmps63 rfl (Qf Qd (gW G (J.text++([32]++G.Name)) (.func 132)) (sB (Z7 1 (Qf Qd ⟨Nz G 0 true,Gi (J.text++([32]++G.Name)) (.func 132)⟩ (sS (ZQ (sK (Ql (gW G (J.text++([32]++G.Name)) (.func 132)) (KQ (fun j3=>⟨Tn G 0,V3 j3 (.func 132)⟩:(List UInt8)→St) ?_ ?_))))))))))))))))))))) (fun _=>GZ))))))));rotate_left
 ·rintro j3;exact sL Qd (N8 ⟨[1,10,11,12],[1000,1001,1002],[],[]⟩ ⟨Tn G 1,V3 j3 (.func 132)⟩ (Qf Qd ⟨Nz G 1 false,V3 j3 (.func 132)⟩ (sS (QZ (Qt (ZR (M5 (QM (DX (.id) [1000,1001,1002] [] (.tup []) (Wh (xE (lH (.id) [1000,1101] []))))))))))))
 refine sB (Qf Qd ⟨gX G (.func 132),Gi (J.text++([32]++G.Name)) (.func 132)⟩ (Qf Qd ⟨gY G (.func 132) 0,Gi (J.text++([32]++G.Name)) (.func 132)⟩ (sB (QG (fun (O,Y)=>(M9 G (.func 132) O Y (.func 132)):(Int × (List UInt8))→St) (Gm) ?_))));rintro Z ⟨O,Y⟩;show QP (Vv n G Z O Y) _ _ _ _ _ _;unfold Vv;refine Qf Qd ⟨gZ G (.func 132) O (Qs O (Qb (mI G.Kids))),V3 Y (.func 132)⟩ (sS (sC (Qs O (Qb (mI G.Kids))) (sK (Ql (M9 G (.func 132) O Y (.func 132)) (sS (sB (sS (sG (xG (Yg (e:=25) (S:=5) (enc:=GN.cs) (dec:=GN.of) (l:=G.Kids) (k:=.i64) (n:=O) (sv:=.p (.sl 5 (mI G.Kids))) GN.of_cs rfl Qc Qc Qc Qc Qc) (fun x5=>xR 3 (xE (Ql (QbX G (.func 132) O x5 Y (.func 132)) (sG (xR 2 ?_)))))))))))) (Qt (ZR (Yw (QM (QR (QS Y))))))));refine U2 [(1000,1000),(1101,1001)] [] [] (EZ n (⟨Y⟩:DY) x5) QF QF (fun r6=>?_);exact xE (QR (Ql (M9 G (.func 132) O r6.text (.func 132)) (sL Qd (KW (wi (O+1),r6.text)))))
def KM (n:Nat) (Y:GN) (O:(Int × (List UInt8))→Option (List UInt8)) (G:Int) (J:List UInt8):Option (List UInt8) :=
 cond (Qs G (Qb (List.map Zq Y.Kids)))
  ((Option.bind (QU Y.Kids G) GN.of).bind fun Z =>
  (Fv n (⟨J⟩:DY) Z).bind fun r6 =>
  O (wi (G+1),r6.text))
  (some J)
def Gj (n:Nat) (J:DY) (G:GN):Option DY :=
 cond (!Qp G.Kind 4)
  (some (⟨J.text⟩:DY))
  (cond (IE [32,32] G.Name) (
   cond (QK (List.length (J.text++([32,32]++G.Name))) 1&&!List.isEmpty ([32,32]++G.Name)) (
    (Qn (fun O (Z,Y)=>KM n G O Z Y) n (0,J.text++([32,32]++G.Name))).bind fun j3 =>
    cond (QK (List.length (j3++[59,10])) 1&&!List.isEmpty [59,10]) (
     some (⟨j3++[59,10]⟩:DY)) none) none) none)
def aH:=fun G J=>(⟨[(0, .ptr 1000 0),(1,S G)],Gh J⟩:St)
theorem zH (n:Nat) (J:DY) (G:GN):∀ r,Gj n J G=some r→KD Tryz.prog 66 [Zj,ag (GN.cs G)] (Go.Abs.look [(1000, .box 97 [.sfp 1000, .tsl 1 (mb J.text) 1101]),(1101,gV J.text)]) (Yh (fun r:DY=>((.ret (.tup []),[(1000, .box 97 [.sfp 1000, .tsl 1 (mb r.text) 1101]),(1101,gV r.text)]):ZB × List (Nat × Blk))) r):=by
 refine Kq (Ny J.text) Tryz.func66 rfl Tryz.ntmps66 rfl ?_;unfold Gj;refine Qf Qd (QbU G J.text) (sS (Qf Qd (Qjt (!Qp G.Kind 4) G J.text) (sC (!Qp G.Kind 4) (sT (QB (Kw (.id) [1000,1101] []))) (sK (Ql (QbU G J.text) (sS (Bh Qd rfl (xR 5 (xF (EF (a:=[32,32]) (b:=G.Name) rfl Qc Qc) (FT (Gh J.text) [Zj,S ([32,32]++G.Name)] [(1000,1000),(1001,1101)] [] [] Qc Tryz.func62 rfl Tryz.ntmps62 rfl Qc Qc Qc (Qf Qd (aG ([32,32]++G.Name) J.text) (sS (sG (xR 1 (U5 (Kc (f:=131) (args:=[Zj]) Qc Qc Qc ?_))))))))))))))));refine Wu 1000 1 1001 5 1 (mb J.text).length (mb J.text) ⟨[0,1,6],[1000],[],[]⟩ rfl (fun _ _ _=>by kernel_rfl) (fun ae ah ab=>?_);refine Zg [(1000,1000)] [] [] (U6 ae ah ab) Qc Qc Qc QF QF (fun _=>?_);refine Xz _ rfl (Wh (xE (Ql (aG ([32,32]++G.Name) J.text) (sS (sG (xR 6 (xS (QK (List.length (J.text++([32,32]++G.Name))) 1&&!List.isEmpty ([32,32]++G.Name)) (fun h2=>G5 (t:=93) (u:=9) (ty:=5) (bs:=J.text) (b:=[32,32]++G.Name) (tk:=1001) rfl Tryz.underlying93 Tryz.underlying9 h2 (xR 3 (xE (Ql (gU ([32,32]++G.Name) (J.text++([32,32]++G.Name))) (Qf Qd (jq (Qb ([32,32]++G.Name)) (J.text++([32,32]++G.Name))) (sT (QD (.id) [1000,1001] [] (.tup [I (Qb ([32,32]++G.Name)), .p (.val (.nilIface))]) (kqn (Ql (QeM G (J.text++([32,32]++G.Name))) (sS (sG (xR 6 (GD (Gi (J.text++([32,32]++G.Name)) (.func 132)) [Zj, .p (.sl 5 (mI G.Kids)), .bsl 1002 1] nq8 [] [] Tryz.func63 rfl Tryz.ntmps63 rfl (Qf Qd (gW G (J.text++([32,32]++G.Name)) (.func 132)) (sB (Z7 1 (Qf Qd ⟨Nz G 0 true,Gi (J.text++([32,32]++G.Name)) (.func 132)⟩ (sS (ZQ (sK (Ql (gW G (J.text++([32,32]++G.Name)) (.func 132)) (KQ (fun Z=>⟨Tn G 0,V3 Z (.func 132)⟩:(List UInt8)→St) ?_ ?_)))))))))))))))))))))) (fun _=>GZ))))))))
 ·refine sB (Qf Qd ⟨gX G (.func 132),Gi (J.text++([32,32]++G.Name)) (.func 132)⟩ (Qf Qd ⟨gY G (.func 132) 0,Gi (J.text++([32,32]++G.Name)) (.func 132)⟩ (sB (QG (fun (O,Y)=>(M9 G (.func 132) O Y (.func 132)):(Int × (List UInt8))→St) (Gm) ?_))));rintro aa ⟨O,Y⟩;show QP (KM n G aa O Y) _ _ _ _ _ _;unfold KM;refine Qf Qd ⟨gZ G (.func 132) O (Qs O (Qb (mI G.Kids))),V3 Y (.func 132)⟩ (sS (sC (Qs O (Qb (mI G.Kids))) (sK (Ql (M9 G (.func 132) O Y (.func 132)) (sS (sB (sS (sG (xG (Yg (e:=25) (S:=5) (enc:=GN.cs) (dec:=GN.of) (l:=G.Kids) (k:=.i64) (n:=O) (sv:=.p (.sl 5 (mI G.Kids))) GN.of_cs rfl Qc Qc Qc Qc Qc) (fun x5=>xR 3 (xE (Ql (QbX G (.func 132) O x5 Y (.func 132)) (sG (xR 2 ?_)))))))))))) (Qt (ZR (Yw (QM (QR (QS Y))))))));refine U2 [(1000,1000),(1101,1001)] [] [] (EZ n (⟨Y⟩:DY) x5) QF QF (fun r6=>?_);exact xE (QR (Ql (M9 G (.func 132) O r6.text (.func 132)) (sL Qd (KW (wi (O+1),r6.text)))))
 rintro Z;refine sL Qd (N8 ⟨[1,10,11,12],[1000,1001,1002],[],[]⟩ ⟨Tn G 1,V3 Z (.func 132)⟩ (Qf Qd ⟨Nz G 1 false,V3 Z (.func 132)⟩ (sS (QZ (Qt (ZR (M5 (QM (DX (.id) [1000,1001,1002] [] (.tup []) (Wh (xE (Ql ⟨[(0,Zj)],Ny Z⟩ (sG (xR 3 (GD (Gh Z) [Zj,S [59,10]] [(1000,1000),(1001,1101)] [] [] Tryz.func62 rfl Tryz.ntmps62 rfl (Qf Qd (aH [59,10] Z) (sS (sG (xR 1 (U5 (Kc (f:=131) (args:=[Zj]) Qc Qc Qc ?_)))))))))))))))))))));refine Wu 1000 1 1001 5 1 (mb Z).length (mb Z) ⟨[0,1,6],[1000],[],[]⟩ rfl (fun _ _ _=>by kernel_rfl) (fun ac af ad=>?_);refine Zg [(1000,1000)] [] [] (U6 ac af ad) Qc Qc Qc QF QF (fun _=>?_);exact Xz _ rfl (Wh (xE (Ql (aH [59,10] Z) (sS (sG (xR 6 (xS (QK (List.length (Z++[59,10])) 1&&!List.isEmpty [59,10]) (fun h8=>G5 (t:=93) (u:=9) (ty:=5) (bs:=Z) (b:=[59,10]) (tk:=1001) rfl Tryz.underlying93 Tryz.underlying9 h8 (xR 3 (xE (Ql (gU [59,10] (Z++[59,10])) (Qf Qd (jq (Qb [59,10]) (Z++[59,10])) (sT (QD (.id) [1000,1001] [] (.tup [I (Qb [59,10]), .p (.val (.nilIface))]) (Wh (xE (lH (.id) [1000,1101] [])))))))))) (fun _=>GZ))))))))
def Vw (n:Nat) (Y:GN) (O:(Int × (List UInt8))→Option (List UInt8)) (G:Int) (J:List UInt8):Option (List UInt8) :=
 cond (Qs G (Qb (List.map Zq Y.Kids)))
  ((Option.bind (QU Y.Kids G) GN.of).bind fun Z =>
  (Tm n (⟨J⟩:DY) Z).bind fun r7 =>
  O (wi (G+1),r7.text))
  (some J)
def YH (n:Nat) (Y:GN) (O:(Int × (List UInt8))→Option (List UInt8)) (G:Int) (J:List UInt8):Option (List UInt8) :=
 cond (Qs G (Qb (List.map Zq Y.Kids)))
  ((Option.bind (QU Y.Kids G) GN.of).bind fun Z =>
  (Tm n (⟨J⟩:DY) Z).bind fun aa =>
  O (wi (G+1),aa.text))
  (some J)
def WE (Y:GN) (O:(Int × (List UInt8))→Option (List UInt8)) (G:Int) (J:List UInt8):Option (List UInt8) :=
 cond (Qs G (Qb (List.map Zq [GN.cs Y])))
  ((Option.bind (QU [GN.cs Y] G) GN.of).bind fun Z =>
  cond (QK (List.length (J++[32,123,10])) 1&&!List.isEmpty [32,123,10]) (
   O (wi (G+1),J++[32,123,10])) none)
  (some J)
def YI (n:Nat) (Y:GN) (O:(Int × (List UInt8))→Option (List UInt8)) (G:Int) (J:List UInt8):Option (List UInt8) :=
 cond (Qs G (Qb (List.map Zq Y.Kids)))
  ((Option.bind (QU Y.Kids G) GN.of).bind fun Z =>
  (Gj n (⟨J⟩:DY) Z).bind fun aa =>
  O (wi (G+1),aa.text))
  (some J)
def BJ (n:Nat) (Z:DY) (G:GN):Option DY :=
 (QU kindsTab G.N).bind fun x1 =>
 cond (IE x1 [32]) (
  cond (IE (x1++[32]) G.Name) (
   cond (QK (List.length (Z.text++((x1++[32])++G.Name))) 1&&!List.isEmpty ((x1++[32])++G.Name)) (
    cond (!Qp G.N 7)
     ((Qn (fun aa (ak,ai)=>Vw n G aa ak ai) n (0,Z.text++((x1++[32])++G.Name))).bind fun j4 =>
     cond (QK (List.length (j4++[59,10])) 1&&!List.isEmpty [59,10]) (
      some (⟨j4++[59,10]⟩:DY)) none)
     ((Qn (fun Y (ae,ab)=>YH n G Y ae ab) n (0,Z.text++((x1++[32])++G.Name))).bind fun al =>
     (Qn (fun J (af,ah)=>WE G J af ah) n (0,al)).bind fun am =>
     (Qn (fun O (ad,ac)=>YI n G O ad ac) n (0,am)).bind fun aj =>
     cond (QK (List.length (aj++[125,10])) 1&&!List.isEmpty [125,10]) (
      some (⟨aj++[125,10]⟩:DY)) none)) none) none) none
def fe:=fun G=>([(2, .box 91 [.ptr 1000 0]),(3, .box 25 (YE (GN.cs G)))]:List (Nat × Blk))
def Qjw:=fun G J=>(⟨[(2, .ptr 2 0),(3, .ptr 3 0)],fe G++Ny J⟩:St)
def Qjx:=fun G J=>(⟨[(2, .ptr 2 0),(3, .ptr 3 0)],fe G++zG J⟩:St)
def Qjy:=fun G=>(⟨[(2, .ptr 2 0)],[(2, .box 91 [.ptr 1000 0])]++Ny G⟩:St)
def Qfy:List (Nat × AV):=[(2, .ptr 2 0),(3, .ptr 3 0),(4, .fn (.func 65) [] [.ptr 2 0])]
def Qjz:=fun G=>(.arr 25 5 (List.map Zq [GN.cs G]).length:Blk)
def QjA:=fun G=>(.box 97 [(.sfp 1001), .tsl 1 (List.map c8b G) 1002]:Blk)
def QjB:Blk:=.box 101 [.fn (.func 65) [] [.ptr 1003 0]]
def Tp:=fun J G=>([(1000,(Qjz J)),(1001,(QjA G)),(1002, .arr 5 1 (List.map c8b G).length),(1003, .box 91 [.ptr 1001 0]),(1004,QjB)]:List (Nat × Blk))
def rE:=fun G J=>([(1, .tsl 5 (List.map Zq [GN.cs G]) 1000),(10,(.bsl 1004 1)),(11,I 1),(12,I J)]:List (Nat × AV))
def Qfz:=fun J O G=>([(1, .tsl 5 (List.map Zq [GN.cs J]) 1000),(10,(.bsl 1004 1)),(11,I 1),(12,I O),(13,B G)]:List (Nat × AV))
def rF:=fun G J=>([(1, .tsl 5 (List.map Zq [GN.cs G]) 1000),(7, .fn (.func 65) [] [.ptr 1003 0]),(10,(.bsl 1004 1)),(11,I 1),(12,I 0),(16, .tsl 5 (List.map Zq [GN.cs G]) 1000),(17,I (Qb (List.map Zq [GN.cs G]))),(18,I J)]:List (Nat × AV))
def QfA:=fun G=>([(1000,(QbV G)),(1001, .arr 5 1 (List.map c8b G).length),(1002, .box 91 [.ptr 1000 0])]:List (Nat × Blk))
theorem fo (n:Nat) (O:DY) (G:GN):∀ r,BJ n O G=some r→KD Tryz.prog 30 [Zj,ag (GN.cs G)] (Go.Abs.look [(1000, .box 97 [.sfp 1000, .tsl 1 (mb O.text) 1101]),(1101,gV O.text)]) (Yh (fun r:DY=>((.ret (.tup []),[(1000, .box 97 [.sfp 1000, .tsl 1 (mb r.text) 1101]),(1101,gV r.text)]):ZB × List (Nat × Blk))) r):=by
 refine Kq (Ny O.text) Tryz.func30 rfl Tryz.ntmps30 rfl ?_;unfold BJ;refine Qf Qd (Qjw G O.text) (sS (KG [0,1,2,3,4,8,9] [0,1,2,8,9] [(5,[]),(6,[]),(7,[]),(10,[]),(11,[])] Qd rfl (QgP [0,1,2,8,9] (k:=.i64) (n:=G.N) rfl rfl Qc Tryz.underlying161 Qc Qc Qc Qc gq (fun x1 _=>Qo (QA Zj rfl) (Qo (QA Zj rfl) (Qo (QA Zj rfl) (Qo (QA (.ptr 3 1) rfl) (Qo (QA (S G.Name) rfl) (Qg)))))) (fun x1=>Yx [0,1,2,8,9] (Qo (QA Zj rfl) (Qo (QA Zj rfl) (Qo (QA Zj rfl) (Qo (QA (.ptr 3 1) rfl) (Qo (QA (S G.Name) rfl) (Qg)))))) (Af [0,1,2,8,9] rfl (EF (a:=x1) (b:=[32]) rfl Qc Qc) (fun _=>Qo (QA Zj rfl) (Qo (QA Zj rfl) (Qo (QA Zj rfl) (Qo (QA (.ptr 3 1) rfl) (Qo (QA (S G.Name) rfl) (Qg)))))) (Af [0,1,2] rfl (EF (a:=x1++[32]) (b:=G.Name) rfl Qc Qc) (fun _=>Qo (QA Zj rfl) (Qo (QA Zj rfl) (Qo (QA Zj rfl) (Qg)))) (ZH (f:=62) (args:=[Zj,S ((x1++[32])++G.Name)]) (dst:=some 16) (QQ (hc:=(Gh O.text)) (args':=[Zj,S ((x1++[32])++G.Name)]) [(1000,1000),(1001,1101)] [] [] Tryz.func62 rfl Tryz.ntmps62 rfl Qc Qc Qc (Qf Qd (aG ((x1++[32])++G.Name) O.text) (sS (sG (xR 1 (U5 (Kc (f:=131) (args:=[Zj]) Qc Qc Qc ?_))))))))))))));refine Wu 1000 1 1001 5 1 (mb O.text).length (mb O.text) ⟨[0,1,6],[1000],[],[]⟩ rfl (fun _ _ _=>by kernel_rfl) (fun az bc bb=>?_);refine Zg [(1000,1000)] [] [] (U6 az bc bb) Qc Qc Qc QF QF (fun _=>?_);refine Xz _ rfl (Wh (xE (Ql (aG ((x1++[32])++G.Name) O.text) (sS (sG (xR 6 (xS (QK (List.length (O.text++((x1++[32])++G.Name))) 1&&!List.isEmpty ((x1++[32])++G.Name)) (fun h3=>G5 (t:=93) (u:=9) (ty:=5) (bs:=O.text) (b:=(x1++[32])++G.Name) (tk:=1001) rfl Tryz.underlying93 Tryz.underlying9 h3 (xR 3 (xE (Ql (gU ((x1++[32])++G.Name) (O.text++((x1++[32])++G.Name))) (Qf Qd (jq (Qb ((x1++[32])++G.Name)) (O.text++((x1++[32])++G.Name))) (sT (QD (.id) [1000,1001] [] (.tup [I (Qb ((x1++[32])++G.Name)), .p (.val (.nilIface))]) (kh [] (Qg) (WK (Ql (Qjx G (O.text++((x1++[32])++G.Name))) (sS (Qf Qd ⟨[qq 2,qq 3,(19,B (!Qp G.N 7))],fe G++zG (O.text++((x1++[32])++G.Name))⟩ (sC (!Qp G.N 7) ?_ ?_))))))))))))) (fun _=>GZ))))))))
 ·refine sS (sG (xR 6 (GD (Gi (O.text++((x1++[32])++G.Name)) (.func 64)) [Zj, .p (.sl 5 (mI G.Kids)), .bsl 1002 1] [(1002,25),(1000,1000),(1001,1101)] [] [] Tryz.func63 rfl Tryz.ntmps63 rfl (Qf Qd (gW G (O.text++((x1++[32])++G.Name)) (.func 64)) (sB (Z7 1 (Qf Qd ⟨Nz G 0 true,Gi (O.text++((x1++[32])++G.Name)) (.func 64)⟩ (sS (ZQ (sK (Ql (gW G (O.text++((x1++[32])++G.Name)) (.func 64)) (KQ (fun j4=>⟨Tn G 0,V3 j4 (.func 64)⟩:(List UInt8)→St) ?_ ?_))))))))))))
  ·refine sB (Qf Qd ⟨gX G (.func 64),Gi (O.text++((x1++[32])++G.Name)) (.func 64)⟩ (Qf Qd ⟨gY G (.func 64) 0,Gi (O.text++((x1++[32])++G.Name)) (.func 64)⟩ (sB (QG (fun (ad,af)=>(M9 G (.func 64) ad af (.func 64)):(Int × (List UInt8))→St) (Gm) ?_))));rintro ao ⟨ad,af⟩;show QP (Vw n G ao ad af) _ _ _ _ _ _;unfold Vw;refine Qf Qd ⟨gZ G (.func 64) ad (Qs ad (Qb (mI G.Kids))),V3 af (.func 64)⟩ (sS (sC (Qs ad (Qb (mI G.Kids))) (sK (Ql (M9 G (.func 64) ad af (.func 64)) (sS (sB (sS (sG (xG (Yg (e:=25) (S:=5) (enc:=GN.cs) (dec:=GN.of) (l:=G.Kids) (k:=.i64) (n:=ad) (sv:=.p (.sl 5 (mI G.Kids))) GN.of_cs rfl Qc Qc Qc Qc Qc) (fun x6=>xR 3 (xE (Ql (QbX G (.func 64) ad x6 af (.func 64)) (sG (xR 2 ?_)))))))))))) (Qt (ZR (Yw (QM (QR (QS af))))))));refine U2 [(1000,1000),(1101,1001)] [] [] (Ir n (⟨af⟩:DY) x6) QF QF (fun r7=>?_);exact xE (QR (Ql (M9 G (.func 64) ad r7.text (.func 64)) (sL Qd (KW (wi (ad+1),r7.text)))))
  rintro j4;refine sL Qd (N8 ⟨[1,10,11,12],[1000,1001,1002],[],[]⟩ ⟨Tn G 1,V3 j4 (.func 64)⟩ (Qf Qd ⟨Nz G 1 false,V3 j4 (.func 64)⟩ (sS (QZ (Qt (ZR (M5 (QM (DX (.id) [1000,1001,1002] [] (.tup []) (Wh (xE (Ql (Qjy j4) (sS (sG (xR 3 (GD (Gh j4) [Zj,S [59,10]] [(1000,1000),(1001,1101)] [] [] Tryz.func62 rfl Tryz.ntmps62 rfl (Qf Qd (aH [59,10] j4) (sS (sG (xR 1 (U5 (Kc (f:=131) (args:=[Zj]) Qc Qc Qc ?_))))))))))))))))))))));refine Wu 1000 1 1001 5 1 (mb j4).length (mb j4) ⟨[0,1,6],[1000],[],[]⟩ rfl (fun _ _ _=>by kernel_rfl) (fun a6 bd ay=>?_);refine Zg [(1000,1000)] [] [] (U6 a6 bd ay) Qc Qc Qc QF QF (fun _=>?_);exact Xz _ rfl (Wh (xE (Ql (aH [59,10] j4) (sS (sG (xR 6 (xS (QK (List.length (j4++[59,10])) 1&&!List.isEmpty [59,10]) (fun h9=>G5 (t:=93) (u:=9) (ty:=5) (bs:=j4) (b:=[59,10]) (tk:=1001) rfl Tryz.underlying93 Tryz.underlying9 h9 (xR 3 (xE (Ql (gU [59,10] (j4++[59,10])) (Qf Qd (jq (Qb [59,10]) (j4++[59,10])) (sT (QD (.id) [1000,1001] [] (.tup [I (Qb [59,10]), .p (.val (.nilIface))]) (Wh (xE (Ql ⟨[],zG (j4++[59,10])⟩ (sT (QB (Kw (.id) [1000,1101] []))))))))))))) (fun _=>GZ))))))))
 refine sK (Ql (Qjx G (O.text++((x1++[32])++G.Name))) (Qf Qd ⟨Qfy,fe G++zG (O.text++((x1++[32])++G.Name))⟩ (sS (sG (xR 6 (GD (Gi (O.text++((x1++[32])++G.Name)) (.func 64)) [Zj, .p (.sl 5 (mI G.Kids)), .bsl 1002 1] [(1002,37),(1000,1000),(1001,1101)] [] [] Tryz.func63 rfl Tryz.ntmps63 rfl (Qf Qd (gW G (O.text++((x1++[32])++G.Name)) (.func 64)) (sB (Z7 1 (Qf Qd ⟨Nz G 0 true,Gi (O.text++((x1++[32])++G.Name)) (.func 64)⟩ (sS (ZQ (sK (Ql (gW G (O.text++((x1++[32])++G.Name)) (.func 64)) (KQ (fun ah=>⟨Tn G 0,V3 ah (.func 64)⟩:(List UInt8)→St) ?_ ?_)))))))))))))))
 ·refine sB (Qf Qd ⟨gX G (.func 64),Gi (O.text++((x1++[32])++G.Name)) (.func 64)⟩ (Qf Qd ⟨gY G (.func 64) 0,Gi (O.text++((x1++[32])++G.Name)) (.func 64)⟩ (sB (QG (fun (Y,ac)=>(M9 G (.func 64) Y ac (.func 64)):(Int × (List UInt8))→St) (Gm) ?_))));rintro am ⟨Y,ac⟩;show QP (YH n G am Y ac) _ _ _ _ _ _;unfold YH;refine Qf Qd ⟨gZ G (.func 64) Y (Qs Y (Qb (mI G.Kids))),V3 ac (.func 64)⟩ (sS (sC (Qs Y (Qb (mI G.Kids))) (sK (Ql (M9 G (.func 64) Y ac (.func 64)) (sS (sB (sS (sG (xG (Yg (e:=25) (S:=5) (enc:=GN.cs) (dec:=GN.of) (l:=G.Kids) (k:=.i64) (n:=Y) (sv:=.p (.sl 5 (mI G.Kids))) GN.of_cs rfl Qc Qc Qc Qc Qc) (fun a8=>xR 3 (xE (Ql (QbX G (.func 64) Y a8 ac (.func 64)) (sG (xR 2 ?_)))))))))))) (Qt (ZR (Yw (QM (QR (QS ac))))))));refine U2 [(1000,1000),(1101,1001)] [] [] (Ir n (⟨ac⟩:DY) a8) QF QF (fun ba=>?_);exact xE (QR (Ql (M9 G (.func 64) Y ba.text (.func 64)) (sL Qd (KW (wi (Y+1),ba.text)))))
 rintro ah;refine sL Qd (N8 ⟨[1,10,11,12],[1000,1001,1002],[],[]⟩ ⟨Tn G 1,V3 ah (.func 64)⟩ (Qf Qd ⟨Nz G 1 false,V3 ah (.func 64)⟩ (sS (QZ (Qt (ZR (M5 (QM (DX (.id) [1000,1001,1002] [] (.tup []) (Wh (xE (Ql ⟨Qfy,fe G++Ny ah⟩ (sS (sG (xR 5 (GD (Tp G ah) [Rw, .tsl 5 (mI [GN.cs G]) 1000, .bsl 1004 1] [(1003,2),(1000,41),(1004,43),(1001,1000),(1002,1101)] [] [] Tryz.func63 rfl Tryz.ntmps63 rfl (Qf Qd ⟨rE G 0,Tp G ah⟩ (sB (Z7 1 (Qf Qd ⟨Qfz G 0 true,Tp G ah⟩ (sS (ZQ (sK (Ql ⟨rE G 0,Tp G ah⟩ (KQ (fun ai=>⟨rE G 0,Tp G ai⟩:(List UInt8)→St) ?_ ?_)))))))))))))))))))))))))
 ·refine sB (Qf Qd ⟨[(1, .tsl 5 (mI [GN.cs G]) 1000),(7, .fn (.func 65) [] [dZ]),(10, .bsl 1004 1),(11,I 1),(12,I 0)],Tp G ah⟩ (Qf Qd ⟨rF G 0,Tp G ah⟩ (sB (QG (fun (aa,J)=>⟨rF G aa,Tp G J⟩:(Int × (List UInt8))→St) (Gm) ?_))));rintro ak ⟨aa,J⟩;show QP (WE G ak aa J) _ _ _ _ _ _;unfold WE;refine Qf Qd ⟨[(1, .tsl 5 (mI [GN.cs G]) 1000),(7, .fn (.func 65) [] [dZ]),(10, .bsl 1004 1),(11,I 1),(12,I 0),(16, .tsl 5 (mI [GN.cs G]) 1000),(17,I (Qb (mI [GN.cs G]))),(18,I aa),(19,B (Qs aa (Qb (mI [GN.cs G]))))],Tp G J⟩ (sS (sC (Qs aa (Qb (mI [GN.cs G]))) (sK (Ql ⟨rF G aa,Tp G J⟩ (sS (sB (sS (sG (xG (Yg (e:=25) (S:=5) (enc:=GN.cs) (dec:=GN.of) (l:=[GN.cs G]) (k:=.i64) (n:=aa) (sv:=.tsl 5 (mI [GN.cs G]) 1000) GN.of_cs rfl Qc Qc Qc Qc Qc) (fun aj=>xR 3 (xE (Ql ⟨[(1, .tsl 5 (mI [GN.cs G]) 1000),(7, .fn (.func 65) [] [dZ]),qq 9,(10, .bsl 1004 1),(11,I 1),(12,I 0),(16, .tsl 5 (mI [GN.cs G]) 1000),(17,I (Qb (mI [GN.cs G]))),(18,I aa)],Qfx aj++Tp G J⟩ (sG (xR 2 (GD (QfA J) [.agg [I aj.Kind,S aj.Name,I aj.N,I aj.At, .p (.sl 5 (mI aj.Kids))],IG] [(1000,1001),(1001,1002),(1002,1003)] [] [] Tryz.func65 rfl Tryz.ntmps65 rfl (Qf Qd ⟨[(1,IG)],QfA J⟩ (sG (xR 3 (GD (Gh J) [Zj,S [32,123,10]] [(1000,1000),(1001,1001)] [] [] Tryz.func62 rfl Tryz.ntmps62 rfl (Qf Qd ⟨QbW [32,123,10],Gh J⟩ (sS (sG (xR 1 (U5 (Kc (f:=131) (args:=[Zj]) Qc Qc Qc ?_))))))))))))))))))))))) (Qt (ZR (Yw (QM (QR (QS J))))))));refine Wu 1000 1 1001 5 1 (mb J).length (mb J) ⟨[0,1,6],[1000],[],[]⟩ rfl (fun _ _ _=>by kernel_rfl) (fun aw aq au=>?_);refine Zg [(1000,1000)] [] [] (U6 aw aq au) Qc Qc Qc QF QF (fun _=>?_);exact Xz _ rfl (Wh (xE (Ql ⟨QbW [32,123,10],Gh J⟩ (sS (sG (xR 6 (xS (QK (List.length (J++[32,123,10])) 1&&!List.isEmpty [32,123,10]) (fun be=>G5 (t:=93) (u:=9) (ty:=5) (bs:=J) (b:=[32,123,10]) (tk:=1001) rfl Tryz.underlying93 Tryz.underlying9 be (xR 3 (xE (Ql (gU [32,123,10] (J++[32,123,10])) (Qf Qd (jq (Qb [32,123,10]) (J++[32,123,10])) (sT (QD (.id) [1000,1001] [] (.tup [I (Qb [32,123,10]), .p (.val (.nilIface))]) (Wh (xE (DX (.id) [1000,1001,1002] [] (.tup []) (Wh (xE (QR (Ql ⟨rF G aa,[(1000,(Qjz G)),(1001,(QjA (J++[32,123,10]))),(1002,(QeL (J++[32,123,10]))),(1003, .box 91 [Rw]),(1004,QjB)]⟩ (sL Qd (KW (wi (aa+1),J++[32,123,10]))))))))))))))))) (fun _=>GZ))))))))
 rintro ai;refine sL Qd (N8 ⟨[1,10,11,12],[1000,1001,1002,1003,1004],[],[]⟩ ⟨rE G 1,Tp G ai⟩ (Qf Qd ⟨Qfz G 1 false,Tp G ai⟩ (sS (QZ (Qt (ZR (M5 (QM (DX (.id) [1000,1001,1002,1003,1004] [] (.tup []) (Wh (xE (Ql (Qjw G ai) (sS (sG (xR 6 (GD (V3 ai (.func 66)) [Zj, .p (.sl 5 (mI G.Kids)), .bsl 1002 1] [(1002,50),(1000,1000),(1001,1101)] [] [] Tryz.func63 rfl Tryz.ntmps63 rfl (Qf Qd ⟨Tn G 0,V3 ai (.func 66)⟩ (sB (Z7 1 (Qf Qd ⟨Nz G 0 true,V3 ai (.func 66)⟩ (sS (ZQ (sK (Ql ⟨Tn G 0,V3 ai (.func 66)⟩ (KQ (fun ae=>⟨Tn G 0,V3 ae (.func 66)⟩:(List UInt8)→St) ?_ ?_)))))))))))))))))))))))))
 ·refine sB (Qf Qd ⟨gX G (.func 66),V3 ai (.func 66)⟩ (Qf Qd (M9 G (.func 66) 0 ai (.func 66)) (sB (QG (fun (Z,ab)=>(M9 G (.func 66) Z ab (.func 66)):(Int × (List UInt8))→St) (Gm) ?_))));rintro al ⟨Z,ab⟩;show QP (YI n G al Z ab) _ _ _ _ _ _;unfold YI;refine Qf Qd ⟨gZ G (.func 66) Z (Qs Z (Qb (mI G.Kids))),V3 ab (.func 66)⟩ (sS (sC (Qs Z (Qb (mI G.Kids))) (sK (Ql (M9 G (.func 66) Z ab (.func 66)) (sS (sB (sS (sG (xG (Yg (e:=25) (S:=5) (enc:=GN.cs) (dec:=GN.of) (l:=G.Kids) (k:=.i64) (n:=Z) (sv:=.p (.sl 5 (mI G.Kids))) GN.of_cs rfl Qc Qc Qc Qc Qc) (fun a7=>xR 3 (xE (Ql (QbX G (.func 66) Z a7 ab (.func 66)) (sG (xR 2 ?_)))))))))))) (Qt (ZR (Yw (QM (QR (QS ab))))))));refine U2 [(1000,1000),(1101,1001)] [] [] (zH n (⟨ab⟩:DY) a7) QF QF (fun ax=>?_);exact xE (QR (Ql (M9 G (.func 66) Z ax.text (.func 66)) (sL Qd (KW (wi (Z+1),ax.text)))))
 rintro ae;refine sL Qd (N8 ⟨[1,10,11,12],[1000,1001,1002],[],[]⟩ ⟨Tn G 1,V3 ae (.func 66)⟩ (Qf Qd ⟨Nz G 1 false,V3 ae (.func 66)⟩ (sS (QZ (Qt (ZR (M5 (QM (DX (.id) [1000,1001,1002] [] (.tup []) (Wh (xE (Ql (Qjy ae) (sG (xR 3 (GD (Gh ae) [Zj,S [125,10]] [(1000,1000),(1001,1101)] [] [] Tryz.func62 rfl Tryz.ntmps62 rfl (Qf Qd (aH [125,10] ae) (sS (sG (xR 1 (U5 (Kc (f:=131) (args:=[Zj]) Qc Qc Qc ?_)))))))))))))))))))));refine Wu 1000 1 1001 5 1 (mb ae).length (mb ae) ⟨[0,1,6],[1000],[],[]⟩ rfl (fun _ _ _=>by kernel_rfl) (fun ar av an=>?_);refine Zg [(1000,1000)] [] [] (U6 ar av an) Qc Qc Qc QF QF (fun _=>?_);exact Xz _ rfl (Wh (xE (Ql (aH [125,10] ae) (sS (sG (xR 6 (xS (QK (List.length (ae++[125,10])) 1&&!List.isEmpty [125,10]) (fun bf=>G5 (t:=93) (u:=9) (ty:=5) (bs:=ae) (b:=[125,10]) (tk:=1001) rfl Tryz.underlying93 Tryz.underlying9 bf (xR 3 (xE (Ql (gU [125,10] (ae++[125,10])) (Qf Qd (jq (Qb [125,10]) (ae++[125,10])) (sT (QD (.id) [1000,1001] [] (.tup [I (Qb [125,10]), .p (.val (.nilIface))]) (Wh (xE (lH (.id) [1000,1101] [])))))))))) (fun _=>GZ))))))))
def Zu (n:Nat) (Y:GN) (O:(Int × (List UInt8))→Option (List UInt8)) (G:Int) (J:List UInt8):Option (List UInt8) :=
 cond (Qs G (Qb (List.map Zq Y.Kids)))
  ((Option.bind (QU Y.Kids G) GN.of).bind fun Z =>
  (BJ n (⟨J⟩:DY) Z).bind fun r6 =>
  O (wi (G+1),r6.text))
  (some J)
def V4 (n:Nat) (O:GN):Option ((List UInt8) × Int) :=
 (WV n O).bind fun r1 =>
 cond (!r1)
  (some ([],1))
  ((Qn (fun G (Y,J)=>Zu n O G Y J) n (0,[])).bind fun Z =>
  cond (Qs 8000 (Qb (List.map c8b Z)))
   (some ([],2))
   (some (Z,0)))
def QfB:=fun G=>([(1, .box 25 (YE (GN.cs G))),(4, .box 91 [.ptr 10 0]),(10, .box 97 [.p (.val (.pointer none)), .p (.val (.slice none 0 0))])]:List (Nat × Blk))
def QkI:=fun G=>(.box 97 [(.sfp 10), .tsl 1 (List.map c8b G) 300]:Blk)
def fq:=fun G=>([(4, .box 91 [.ptr 10 0]),(10,(QkI G))]:List (Nat × Blk))
def rG:=fun G=>([(300, .arr 5 1 (List.map c8b G).length)]:List (Nat × Blk))
def QjC:=fun G=>([(300, .arr 5 1 (List.map c8b []).length),(401, .box 25 (YE (GN.cs G)))]:List (Nat × Blk))
def QjD:=fun G=>(⟨[(4, .ptr 4 0),(12, .fn (.func 61) [] [.ptr 401 0])],fq []++QjC G⟩:St)
def QjE:=fun G=>(.box 97 [(.sfp 1010), .tsl 1 (List.map c8b G) 1300]:Blk)
def QfC:=fun G J=>([(1004, .box 91 [.ptr 1010 0]),(1010,(QjE [])),(1300, .arr 5 1 (List.map c8b []).length),(1401, .box 25 (YE (GN.cs G))),(4000,J)]:List (Nat × Blk))
def E8:List (Nat × AV):=[(4, .ptr 1004 0),(12, .fn (.func 61) [] [.ptr 1401 0])]
def rH:=fun G J=>([(0,(.yv 4000)),(6, .p (.sl 5 (List.map Zq (GN.Kids G)))),(7,I (Qb (List.map Zq (GN.Kids G)))),(8,I J)]:List (Nat × AV))
def Iu:=fun G O J=>([(1004, .box 91 [.ptr 1010 0]),(1010,(QjE G)),(1300, .arr 5 1 (List.map c8b G).length),(1401, .box 25 (YE (GN.cs O))),(4000,J)]:List (Nat × Blk))
theorem Na (n:Nat) (G:GN):∀ r,V4 n G=some r→QC Tryz.prog 9 [ag (GN.cs G)] (.ret (.tup [S r.1,I r.2])):=by
 refine Qj Tryz.func9 rfl Tryz.ntmps9 rfl ?_;unfold V4;refine Qf Qd ⟨[qq 1],IP G⟩ (sS (sS (sG (xR 1 ?_))));refine xC [] (Dm n G) QF (fun r1=>?_);refine xR 1 (xE (Ql ⟨[qq 1,(8,B (!r1))],IP G⟩ (sC (!r1) (Qf Qd ⟨[(2,S []),(3,I 1)],[]⟩ (sT (QB (qR (.id))))) (sK (Ql ⟨[qq 1],IP G⟩ (Qf Qd ⟨[qq 1,qq 4],QfB G⟩ (KQ (fun Z=>⟨[qq 4],fq Z++rG Z⟩:(List UInt8)→St) ?_ ?_)))))));rotate_left
 ·rintro Z;exact sS (sS (sG (xR 3 (GD (Gh Z) [Zj] [(1000,10),(1001,300)] [] [] Tryz.func31 rfl Tryz.ntmps31 rfl (Qf Qd ⟨[(0,Zj)],Gh Z⟩ (Qf Qd ⟨[(2,I (Qb (mb Z)))],Gh Z⟩ (sT (QD (.id) [1000,1001] [] (I (Qb (mb Z))) (Wh (xR 1 (xE (Ql ⟨[qq 4,(21,B (Qs 8000 (Qb (mb Z))))],fq Z++rG Z⟩ (sC (Qs 8000 (Qb (mb Z))) (Qf Qd ⟨[(2,S []),(3,I 2)],[]⟩ (sT (QB (qR (.id))))) (sK (Ql ⟨[qq 4],fq Z++rG Z⟩ (sS (sG (xR 3 (QdW (b:=10) (t:=300) (bs:=Z) (s':=⟨[],[]⟩) Qkr ⟨[],[],[],[]⟩ Qc Qc Qc Qc Qc Qc Qc Qc (xR 2 (xE (Ql ⟨[(2,S Z),(3,I 0)],[]⟩ (sT (qR (.id)))))))))))))))))))))))))
 refine Pe ⟨[qq 1,qq 4],QfB G⟩ (KF (Qbz 10 0 Qc) (KF (Yr 5 1 300 [] [(10,1)]) (sS (sG (xR 1 (GD [] [.agg [I G.Kind,S G.Name,I G.N,I G.At, .p (.sl 5 (mI G.Kids))]] [(1,401)] [] [] Tryz.func29 rfl Tryz.ntmps29 rfl (Qf Qd ⟨[qq 1],IP G⟩ (Qf Qd ⟨[(2, .fn (.func 61) [] [.ptr 1 0])],IP G⟩ (sT (QD (.id) [1] [] (.fn (.func 61) [] [.ptr 1 0]) (Wh (xE (Ql (QjD G) (sB (Pe (QjD G) (RV 61 3000 [] [.ptr 401 0] Qc Qc (fun Y _ ab=>(QQ (hc:=(QfC G (.lp E8 Y .ready none))) (args':=[.yv 4000, .ptr 1401 0]) [(1004,4),(1010,10),(1300,300),(1401,401),(4000,3000)] [] [] Tryz.func61 rfl Tryz.ntmps61 rfl Qc Qc Qc (Qf Qd ⟨rH G 0,QfC G (.lp E8 Y .ready none)⟩ (sB (QG (fun (O,J)=>⟨rH G O,Iu J G (.lp E8 Y .ready none)⟩:(Int × (List UInt8))→St) (Gm) ?_)))))))))))))))))))));rintro aa ⟨O,J⟩;show QP (Zu n G aa O J) _ _ _ _ _ _;unfold Zu;refine Qf Qd ⟨[(0, .yv 4000),(6, .p (.sl 5 (mI G.Kids))),(7,I (Qb (mI G.Kids))),(8,I O),(9,B (Qs O (Qb (mI G.Kids))))],Iu J G (.lp E8 Y .ready none)⟩ (sS (sC (Qs O (Qb (mI G.Kids))) ?_ ?_));rotate_left
 ·refine Qt (ZR (Yw (QM (DX .id [1004,1010,1300,1401,4000] [] (.tup []) ?_))));refine Qbb .ready ⟨[4],[4,10,300],[],[]⟩ ⟨[qq 4],fq J++rG J⟩ Qc (by intro h; cases h) Qc ?_;exact QR (QS J)
 refine sK (Ql ⟨rH G O,Iu J G (.lp E8 Y .ready none)⟩ (sS (sB (sS (sG (xG (Yg (e:=25) (S:=5) (enc:=GN.cs) (dec:=GN.of) (l:=G.Kids) (k:=.i64) (n:=O) (sv:=.p (.sl 5 (mI G.Kids))) GN.of_cs rfl Qc Qc Qc Qc Qc) (fun x5=>xR 3 (xE (Ql ⟨[(0, .yv 4000),qq 4,(6, .p (.sl 5 (mI G.Kids))),(7,I (Qb (mI G.Kids))),(8,I O)],[(4,yX x5)]++Iu J G (.lp [(4, .ptr 1004 0),(12, .fn (.func 61) [] [.ptr 1401 0])] Y .ready none)⟩ (sS (sG (xR 2 (Bn [] (Iu J G (.lp E8 Y .ready none)) 4000 E8 [] [] [.agg [I x5.Kind,S x5.Name,I x5.N,I x5.At, .p (.sl 5 (mI x5.Kids))]] Qc ab Qc Qc Qc Qc Qc (fun _=>sL Qd (Qbc ⟨[4,5],[5,1004,1010,1300,1401,4000],[],[]⟩ ⟨[(4, .ptr 1004 0),qq 5],[(5,yX x5)]++Iu J G (.lp [(4, .ptr 1004 0),(12, .fn (.func 61) [] [.ptr 1401 0])] Y .busy none)⟩ none Qc Qc (sB (sG (xR 2 ?_))))))))))))))))));refine U2 [(1000,1010),(1101,1300)] [] [] (fo n (⟨J⟩:DY) x5) QF QF (fun r6=>?_);exact xE (QR (lK [1004,1010,1300,1401,4000] [] .busy none (Wh (xR 1 (xE (Ql ⟨[(0, .yv 4000),(6, .p (.sl 5 (mI G.Kids))),(7,I (Qb (mI G.Kids))),(8,I O),(15,B false)],Iu r6.text G (.lp E8 Y .ready none)⟩ (QZ (sK (QR (Ql ⟨rH G O,Iu r6.text G (.lp E8 Y .ready none)⟩ (sL Qd (KW (wi (O+1),r6.text)))))))))))))
def Vb (G:Ke) (J:Ke):Option Bool :=
 cond (Qp G.Net J.Net)
  (cond (Qp G.Tax J.Tax)
   (some (Qp G.Total J.Total))
   (some false))
  (some false)
def WP (G:Ke) (O:Ke) (J:Int→Option Bool) (Y:Int):Option Bool :=
 cond (Qs Y (Qb (List.map Ka.cs G.Lines)))
  ((QU G.Lines Y).bind fun Z =>
  (QU O.Lines Y).bind fun x6 =>
  cond (!opq ((Qp Z.Article x6.Article)&&((Qp Z.Amount x6.Amount)&&true)))
   (some false)
   (J (wi (Y+1))))
  (Vb G O)
def Uj (n:Nat) (J:Ke) (O:Ke):Option Bool :=
 cond (!Qp (Qb (List.map Ka.cs J.Lines)) (Qb (List.map Ka.cs O.Lines)))
  (some false)
  (Qn (fun G Y=>WP J O G Y) n 0)
def Iw:=fun G J=>([(2, .box 62 (YE (Ke.cs G))),(3, .box 62 (YE (Ke.cs J)))]:List (Nat × Blk))
def QhD:=fun G J=>(⟨[(2, .ptr 2 0),(3, .ptr 3 0)],Iw G J⟩:St)
def rJ:=fun G=>([(2, .ptr 2 0),(3, .ptr 3 0),(5,I G)]:List (Nat × AV))
theorem I1 (n:Nat) (G:Ke) (J:Ke):∀ r,Uj n G J=some r→QC Tryz.prog 19 [ag (Ke.cs G),ag (Ke.cs J)] (.ret (B r)):=by
 refine Qj Tryz.func19 rfl Tryz.ntmps19 rfl ?_;unfold Uj;refine Qf Qd (QhD G J) (sS (Qf Qd ⟨[qq 2,qq 3,(12,B (!Qp (Qb (EH G.Lines)) (Qb (EH J.Lines))))],Iw G J⟩ (sC (!Qp (Qb (EH G.Lines)) (Qb (EH J.Lines))) (Qf Qd ⟨[(4,B false)],[]⟩ (sT (QB (qR (.id))))) (sK (Ql (QhD G J) (Yc (fun _=>(QhD G J):Unit→St) (fun _=>Vb G J) ?_ ?_))))))
 ·rintro _;show QP (Vb G J) _ _ _ _ _ _;unfold Vb;exact sS (sG (xR 6 (xS (Qp G.Net J.Net) (fun h2=>xO (Qv h2) (xR 6 (xS (Qp G.Tax J.Tax) (fun h3=>xO (Qv h3) (xR 6 (xE (Ql ⟨[(4,B (Qp G.Total J.Total))],[]⟩ (sT (qR (.id))))))) (fun h3=>xN (Qx h3) (xR 6 (xE (Ql ⟨[(4,B false)],[]⟩ (sT (qR (.id)))))))))) (fun h2=>xN (Qx h2) (xR 13 (xE (Ql ⟨[(4,B false)],[]⟩ (sT (qR (.id))))))))))
 refine Qf Qd ⟨rJ 0,Iw G J⟩ (sB (QG (fun O=>⟨rJ O,Iw G J⟩:Int→St) (Gm) ?_));rintro aa O;show QP (WP G J aa O) _ _ _ _ _ _;unfold WP;exact sS (Qf Qd ⟨[qq 2,qq 3,(5,I O),(17,B (Qs O (Qb (EH G.Lines))))],Iw G J⟩ (sC (Qs O (Qb (EH G.Lines))) (sK (Ql ⟨rJ O,Iw G J⟩ (sS (sB (sS (Bh Qd rfl (xR 3 (xG (ZA (e:=137) (S:=2) (enc:=Ka.cs) (l:=G.Lines) (k:=.i64) (n:=O) (sv:=.p (.sl 2 (EH G.Lines))) rfl Qc Qc Qc Qc Qc) (fun Z=>xR 4 (xG (ZA (e:=137) (S:=2) (enc:=Ka.cs) (l:=J.Lines) (k:=.i64) (n:=O) (sv:=.p (.sl 2 (EH J.Lines))) rfl Qc Qc Qc Qc Qc) (fun Y=>xR 1 (kF (QdC (xs:=[I Z.Article,I Z.Amount]) (ys:=[I Y.Article,I Y.Amount]) (vx:=[.int .i64 Z.Article, .int .i64 Z.Amount]) (vy:=[.int .i64 Y.Article, .int .i64 Y.Amount]) (b:=(Qp Z.Article Y.Article)&&((Qp Z.Amount Y.Amount)&&true)) rfl Qc Qc Qc Qc Qc Qc) (MN (Ql ⟨[qq 2,qq 3,(5,I O),(30,B (!opq ((Qp Z.Article Y.Article)&&((Qp Z.Amount Y.Amount)&&true))))],Iw G J⟩ (sC (!opq ((Qp Z.Article Y.Article)&&((Qp Z.Amount Y.Amount)&&true))) (Qf Qd ⟨[(4,B false)],[]⟩ (sT (Q4 (QB (V9 (Q4 (V9 (qR (.id))))))))) (sK (QR (Ql ⟨rJ O,Iw G J⟩ (sL Qd (KW (wi (O+1)))))))))))))))))))))) (Qt (ZR (Yw (QM (KW (k:=fun _=>Vb G J) ())))))))
def Zb (n:Nat) (ab:Kn) (Y:YN) (r1:Bool) (r6:(List Ky) × (List Zw)) (Z:(List Ky) × (List Zw)) (J:Int→Option Bool) (G:Int):Option Bool :=
 cond (Qs G (Qb (List.map Ky.cs r6.1)))
  ((QU r6.1 G).bind fun af =>
  (Vt n af ab Y).bind fun O =>
  (QU Z.1 G).bind fun ac =>
  (Vt n ac ab Y).bind fun aa =>
  ((QU r6.1 G).bind fun ad =>
  (QU Z.1 G).bind fun ai =>
  cond (!Qr ad.Name ai.Name)
   (some true)
   (cond (!Qp O.2 aa.2)
    (some true)
    ((Uj n O.1 aa.1).bind fun ae =>
    some (!ae)))).bind fun ah =>
  cond ah
   (some false)
   (J (wi (G+1))))
  (some r1)
def Zn (n:Nat) (O:List UInt8) (Z:Kn) (Y:YN):Option Bool :=
 (ZF n).bind fun r1 =>
 (cond (Qs 8000 (Qb O))
  (some true)
  ((Gg n (⟨[],[]⟩:Ky) Z Y).bind fun r4 =>
  some (!r4))).bind fun j2 =>
 cond j2
  (some r1)
  ((YO n O).bind fun r5 =>
  (YR n r5.1).bind fun r6 =>
  cond (Qs 0 (wi ((Qb (List.map Zw.cs r5.2))+(Qb (List.map Zw.cs r6.2)))))
   (some r1)
   ((V4 n r5.1).bind fun r7 =>
   cond (!Qp r7.2 0)
    ((cond r1
     (some (Qp r7.2 2))
     (some false)).bind fun j8 =>
    some j8)
    ((YO n r7.1).bind fun aa =>
    (YR n aa.1).bind fun J =>
    (cond (Qs 0 (wi ((Qb (List.map Zw.cs aa.2))+(Qb (List.map Zw.cs J.2)))))
     (some true)
     (some (!Qp (Qb (List.map Ky.cs r6.1)) (Qb (List.map Ky.cs J.1))))).bind fun ab =>
    cond ab
     (some false)
     (Qn (fun G ac=>Zb n Z Y r1 r6 J G ac) n 0))))
def GI:=fun G J=>([(4, .box 52 (YE (Kn.cs G))),(5, .box 55 (YE (YN.cs J)))]:List (Nat × Blk))
def QjF:=fun J O G Y=>(⟨[(0,S J),(4, .ptr 4 0),(5, .ptr 5 0),(7,B O)],GI G Y⟩:St)
def rM:=fun J O G=>([(4, .box 52 (YE (Kn.cs J))),(5, .box 55 (YE (YN.cs O))),(8, .box 25 (YE (GN.cs G)))]:List (Nat × Blk))
def rO:=fun O G J Y=>([(4, .ptr 4 0),(5, .ptr 5 0),(7,B O),(10, .p (.sl 2 (List.map Ky.cs G))),(16, .p (.sl 2 (List.map Ky.cs J))),(88,I (Qb (List.map Ky.cs G))),(89,I Y)]:List (Nat × AV))
abbrev zI (x:Ke):Go.Abs.Blk:=.box 62 (YE (Ke.cs x))
theorem Xd (n:Nat) (aa:List UInt8) (J:Kn) (G:YN):∀ r,Zn n aa J G=some r→QC Tryz.prog 5 [S aa,ag (Kn.cs J),ag (YN.cs G)] (.ret (B r)):=by
 refine Qj Tryz.func5 rfl Tryz.ntmps5 rfl ?_;unfold Zn;refine Qf Qd ⟨[(0,S aa),qq 4,qq 5],GI J G⟩ (sS (sG ?_));refine xC [] (Ui n) QF (fun r1=>?_);refine xR 1 (xE (Ql (QjF aa r1 J G) (sS (KQ (fun j2=>⟨[(0,S aa),qq 4,qq 5,(7,B r1),(33,B j2)],GI J G⟩:Bool→St) ?_ ?_))))
 ·refine sG (xR 4 (xS (Qs 8000 (Qb aa)) (fun h3=>xN (Qy h3) (xR 5 (xE (QS true)))) (fun h3=>xO (Qw h3) (xR 2 ?_))));refine xC [.agg [.id, .sl 7], .id, .id] (zF n (⟨[],[]⟩:Ky) J G) QF (fun r4=>?_);exact xR 2 (xE (QS (!r4)))
 rintro j2;refine sC j2 (Qf Qd ⟨[(6,B r1)],[]⟩ (sT (QB (qR (.id))))) (sK (Ql (QjF aa r1 J G) (sS (sG (xR 1 ?_)))));refine xC [] (Dk n aa) QF (fun r5=>?_);refine xR 6 (xE (Ql ⟨[qq 4,qq 5,(7,B r1),qq 8,(9, .p (.sl 2 (Um r5.2)))],rM J G r5.1⟩ (sS (sG (xR 1 ?_)))));refine xC [] (Dn n r5.1) QF (fun Z=>?_);refine xR 5 (xE (Ql ⟨[qq 4,qq 5,(7,B r1),qq 8,(9, .p (.sl 2 (Um r5.2))),(10, .p (.sl 2 (XX Z.1))),(11, .p (.sl 2 (Um Z.2)))],rM J G r5.1⟩ (sS (Qf Qd ⟨[qq 4,qq 5,(7,B r1),qq 8,(10, .p (.sl 2 (XX Z.1))),(50,B (Qs 0 (wi ((Qb (Um r5.2))+(Qb (Um Z.2))))))],rM J G r5.1⟩ (sC (Qs 0 (wi ((Qb (Um r5.2))+(Qb (Um Z.2))))) (Qf Qd ⟨[(6,B r1)],[]⟩ (sT (QB (qR (.id))))) (sK (Ql ⟨[qq 4,qq 5,(7,B r1),qq 8,(10, .p (.sl 2 (XX Z.1)))],rM J G r5.1⟩ (sS (sG (xR 1 ?_))))))))));refine xC [] (Na n r5.1) QF (fun r7=>?_);refine xR 5 (xE (Ql ⟨[qq 4,qq 5,(7,B r1),(10, .p (.sl 2 (XX Z.1))),(12,S r7.1),(13,I r7.2)],GI J G⟩ (sS (Qf Qd ⟨[qq 4,qq 5,(7,B r1),(10, .p (.sl 2 (XX Z.1))),(12,S r7.1),(13,I r7.2),(58,B (!Qp r7.2 0))],GI J G⟩ (sC (!Qp r7.2 0) ?_ ?_)))))
 ·refine KQ (fun j8=>⟨[(6,B j8)],[]⟩:Bool→St) (sG (xR 2 (xS r1 (fun h9=>xO (Qv h9) (xR 3 (xE (QS (Qp r7.2 2))))) (fun h9=>xN (Qx h9) (xR 3 (xE (QS false))))))) ?_;rintro j8;exact sT (QB (qR (.id)))
 refine sK (Ql ⟨[qq 4,qq 5,(7,B r1),(10, .p (.sl 2 (XX Z.1))),(12,S r7.1)],GI J G⟩ (sS (sG (xR 1 ?_))));refine xC [] (Dk n r7.1) QF (fun ac=>?_);refine xR 6 (xE (Ql ⟨[qq 4,qq 5,(7,B r1),(10, .p (.sl 2 (XX Z.1))),qq 14,(15, .p (.sl 2 (Um ac.2)))],[(4,zx J),(5,Pn G),(14,yX ac.1)]⟩ (sS (sG (xR 1 ?_)))));refine xC [] (Dn n ac.1) QF (fun O=>?_);refine xR 5 (xE (Ql ⟨[qq 4,qq 5,(7,B r1),(10, .p (.sl 2 (XX Z.1))),(15, .p (.sl 2 (Um ac.2))),(16, .p (.sl 2 (XX O.1))),(17, .p (.sl 2 (Um O.2)))],GI J G⟩ (sS (KQ (fun ai=>⟨[qq 4,qq 5,(7,B r1),(10, .p (.sl 2 (XX Z.1))),(16, .p (.sl 2 (XX O.1))),(86,B ai)],GI J G⟩:Bool→St) (sG (xR 7 (xS (Qs 0 (wi ((Qb (Um ac.2))+(Qb (Um O.2))))) (fun ak=>xN (Qy ak) (xR 5 (xE (QS true)))) (fun ak=>xO (Qw ak) (xR 5 (xE (QS (!Qp (Qb (XX Z.1)) (Qb (XX O.1)))))))))) ?_))));rintro ai;refine sC ai (Qf Qd ⟨[(6,B false)],[]⟩ (sT (QB (qR (.id))))) (sK (Ql ⟨[qq 4,qq 5,(7,B r1),(10, .p (.sl 2 (XX Z.1))),(16, .p (.sl 2 (XX O.1)))],GI J G⟩ (sS (Qf Qd ⟨rO r1 Z.1 O.1 0,GI J G⟩ (sB (QG (fun Y=>⟨rO r1 Z.1 O.1 Y,GI J G⟩:Int→St) (Gm) ?_))))));rintro ae Y;show QP (Zb n J G r1 Z O ae Y) _ _ _ _ _ _;unfold Zb;refine Qf Qd ⟨[qq 4,qq 5,(7,B r1),(10, .p (.sl 2 (XX Z.1))),(16, .p (.sl 2 (XX O.1))),(88,I (Qb (XX Z.1))),(89,I Y),(90,B (Qs Y (Qb (XX Z.1))))],GI J G⟩ (sS (sC (Qs Y (Qb (XX Z.1))) (sK (Ql ⟨rO r1 Z.1 O.1 Y,GI J G⟩ (sS (sB (Qf Qd ⟨[qq 4,qq 5,(7,B r1),(10, .p (.sl 2 (XX Z.1))),(16, .p (.sl 2 (XX O.1))),(18,I Y),(88,I (Qb (XX Z.1))),(89,I Y)],GI J G⟩ (sS (Bh Qd rfl (xR 2 (xG (ZA (e:=59) (S:=2) (enc:=Ky.cs) (l:=Z.1) (k:=.i64) (n:=Y) (sv:=.p (.sl 2 (XX Z.1))) rfl Qc Qc Qc Qc Qc) (fun aq=>xR 3 ?_)))))))))) (Qt (ZR (Yw (QM (Ql ⟨[(7,B r1)],[]⟩ (Qf Qd ⟨[(6,B r1)],[]⟩ (sT (qR (.id)))))))))));refine xC [] (F8 n aq J G) QF (fun ab=>?_);refine xR 6 (MN (Ql ⟨[qq 4,qq 5,(7,B r1),(10, .p (.sl 2 (XX Z.1))),(16, .p (.sl 2 (XX O.1))),(18,I Y),qq 19,(20,I ab.2),(88,I (Qb (XX Z.1))),(89,I Y)],[(4,zx J),(5,Pn G),(19,zI ab.1)]⟩ (sS (Bh Qd rfl (xR 2 (xG (ZA (e:=59) (S:=2) (enc:=Ky.cs) (l:=O.1) (k:=.i64) (n:=Y) (sv:=.p (.sl 2 (XX O.1))) rfl Qc Qc Qc Qc Qc) (fun al=>xR 3 ?_)))))));refine xC [] (F8 n al J G) QF (fun ad=>?_);refine xR 6 (MN (Ql ⟨[qq 4,qq 5,(7,B r1),(10, .p (.sl 2 (XX Z.1))),(16, .p (.sl 2 (XX O.1))),(18,I Y),qq 19,(20,I ab.2),qq 21,(22,I ad.2),(88,I (Qb (XX Z.1))),(89,I Y)],[(4,zx J),(5,Pn G),(19,zI ab.1),(21,zI ad.1)]⟩ (KQ (fun aj=>⟨[qq 4,qq 5,(7,B r1),(10, .p (.sl 2 (XX Z.1))),(16, .p (.sl 2 (XX O.1))),(88,I (Qb (XX Z.1))),(89,I Y),(133,B aj)],GI J G⟩:Bool→St) ?_ ?_)));rotate_left
 ·rintro aj;exact sC aj (Qf Qd ⟨[(6,B false)],[]⟩ (sT (Q4 (QB (V9 (Q4 (QB (qR (.id))))))))) (sK (QR (Ql ⟨rO r1 Z.1 O.1 Y,GI J G⟩ (sL Qd (KW (wi (Y+1)))))))
 refine Bh Qd rfl (xR 2 (xG (ZA (e:=59) (S:=2) (enc:=Ky.cs) (l:=Z.1) (k:=.i64) (n:=Y) (sv:=.p (.sl 2 (XX Z.1))) rfl Qc Qc Qc Qc Qc) (fun am=>xR 4 (xG (ZA (e:=59) (S:=2) (enc:=Ky.cs) (l:=O.1) (k:=.i64) (n:=Y) (sv:=.p (.sl 2 (XX O.1))) rfl Qc Qc Qc Qc Qc) (fun ao=>xR 4 (xS (!Qr am.Name ao.Name) (fun af=>xN (Qy af) (xR 9 (MN (QS true)))) (fun af=>xO (Qw af) (xR 4 (xS (!Qp ab.2 ad.2) (fun ah=>xN (Qy ah) (xR 4 (MN (QS true)))) (fun ah=>xO (Qw ah) (xR 1 ?_)))))))))));refine xC [] (I1 n ab.1 ad.1) QF (fun an=>?_);exact xR 2 (MN (QS (!an)))
structure QbY where
 Rated:Int
 Heat:Int
deriving DecidableEq
def QbY.cs (x:QbY):List PV:=[VI x.Rated,VI x.Heat]
structure jr where
 Ambient:Int
 Most:Int
 Gain:Int
 Loss:Int
 Den:Int
deriving DecidableEq
def jr.cs (x:jr):List PV:=[VI x.Ambient,VI x.Most,VI x.Gain,VI x.Loss,VI x.Den]
structure GCo where
 Name:List UInt8
 Up:Int
 Limit:Int
 Neutral:Int
 Fuse:QbY
 Cable:jr
deriving DecidableEq
def GCo.cs (x:GCo):List PV:=[VS x.Name,VI x.Up,VI x.Limit,VI x.Neutral,VI x.Fuse.Rated,VI x.Fuse.Heat,VI x.Cable.Ambient,VI x.Cable.Most,VI x.Cable.Gain,VI x.Cable.Loss,VI x.Cable.Den]
structure jv where
 Name:List UInt8
deriving DecidableEq
def jv.cs (x:jv):List PV:=[VS x.Name]
structure GCt where
 Name:List UInt8
 Owner:Int
 Rank:Int
 Card:Int
deriving DecidableEq
def GCt.cs (x:GCt):List PV:=[VS x.Name,VI x.Owner,VI x.Rank,VI x.Card]
structure GCg where
 Name:List UInt8
 At:Int
 Phases:Int
 Min:Int
 Max:Int
 Step:Int
 Fallback:Int
 Owner:Int
deriving DecidableEq
def GCg.cs (x:GCg):List PV:=[VS x.Name,VI x.At,VI x.Phases,VI x.Min,VI x.Max,VI x.Step,VI x.Fallback,VI x.Owner]
structure QeN where
 Name:List UInt8
 Charger:Int
deriving DecidableEq
def QeN.cs (x:QeN):List PV:=[VS x.Name,VI x.Charger]
structure QfD where
 Conductors:List GCo
 Owners:List jv
 Contracts:List GCt
 Chargers:List GCg
 Bays:List QeN
deriving DecidableEq
def QfD.cs (x:QfD):List PV:=[.sl 11 (List.map GCo.cs x.Conductors), .sl 1 (List.map jv.cs x.Owners), .sl 4 (List.map GCt.cs x.Contracts), .sl 8 (List.map GCg.cs x.Chargers), .sl 2 (List.map QeN.cs x.Bays)]
structure GTh where
 kind:Int
 index:Int
deriving DecidableEq
def GTh.cs (x:GTh):List PV:=[VI x.kind,VI x.index]
structure GSp where
 from_:Int
 to_:Int
deriving DecidableEq
def GSp.cs (x:GSp):List PV:=[VI x.from_,VI x.to_]
structure yZ where
 diag:Zw
deriving DecidableEq
def yZ.cs (x:yZ):List PV:=[VI x.diag.Err,VI x.diag.At]
def Zx (aa:GN) (J:Int) (G:GN→Int→Option Int) (Z:(Int × Int)→Option Int) (O:Int) (Y:Int):Option Int :=
 (cond (Qs Y (Qb (List.map Zq aa.Kids)))
  (some (leI O J))
  (some false)).bind fun j2 =>
 cond j2
  ((Option.bind (QU aa.Kids Y) GN.of).bind fun x4 =>
  (G x4 (wi (J - O))).bind fun r5 =>
  Z (wi (O+r5),wi (Y+1)))
  (some O)
def ZV (n:Nat) (G:GN→Int→Option Int) (aa:GN) (J:Int):Option Int :=
 Qn (fun O (Y,Z)=>Zx aa J G O Y Z) n (1,0)
def Zp:Nat→GN→Int→Option Int
 | 0,_,_=>none
 | n+1,J,G=>ZV n (Zp n) J G
def aI (x:Int × Int × Int):List PV:=[VI x.1,VI x.2.1,VI x.2.2]
structure zJ where
 Conductor:Int
 Phase:Int
 Amps:Int
deriving DecidableEq
def zJ.cs (x:zJ):List PV:=[VI x.Conductor,VI x.Phase,VI x.Amps]
structure zK where
 Cable:jr
 now:Int
deriving DecidableEq
def zK.cs (x:zK):List PV:=[VI x.Cable.Ambient,VI x.Cable.Most,VI x.Cable.Gain,VI x.Cable.Loss,VI x.Cable.Den,VI x.now]
structure E9 where
 conductor:Int
 phase:Int
deriving DecidableEq
def E9.cs (x:E9):List PV:=[VI x.conductor,VI x.phase]
structure QbZ where
 Sums:List (Int × Int × Int)
deriving DecidableEq
def QbZ.cs (x:QbZ):List PV:=[.sl 3 (List.map aI x.Sums)]
def NA (n:Nat):Option (List (List UInt8)) :=
 some [[102,101,101,100,101,114],[99,97,98,108,101],[111,119,110,101,114],[99,111,110,116,114,97,99,116],[99,104,97,114,103,101,114],[98,97,121],[116,97,114,105,102,102]]
def kW (J:List (List UInt8)) (Y:List UInt8) (G:Int→Option Int) (O:Int):Option Int :=
 cond (Qs O (Qb (List.map Qks J)))
  ((QU J O).bind fun Z =>
  cond (Qr Z Y)
   (some O)
   (G (wi (O+1))))
  (some (-1))
def Pv (n:Nat) (J:List (List UInt8)) (O:List UInt8):Option Int :=
 Qn (fun G Y=>kW J O G Y) n 0
def WY (n:Nat):Option (List (List UInt8)) :=
 some [[108,105,109,105,116],[110,101,117,116,114,97,108],[102,117,115,101],[116,104,101,114,109,97,108],[102,114,111,109],[97,116],[112,104,97,115,101,115],[97,109,112,115],[102,97,108,108,98,97,99,107],[111,119,110,101,114],[99,97,114,100],[114,97,110,107],[99,104,97,114,103,101,114]]
def Q7 (n:Nat):Option (List (List UInt8)) :=
 some [[115,116,97,114,116],[101,110,101,114,103,121],[116,105,109,101],[105,100,108,101],[99,97,112],[116,97,120]]
def WZ (n:Nat):Option (List (List UInt8)) :=
 some [[111,110],[119,111,114,107],[115,97,116,117,114,100,97,121],[115,117,110,100,97,121],[98,101,116,119,101,101,110],[112,101,114],[102,114,101,101]]
def KN (n:Nat) (J:List (List PV)) (G:Int):Option (Int × Bool) :=
 (cond (leI (Qb (List.map Zq J)) G)
  (some true)
  ((Option.bind (QU J G) GN.of).bind fun Z =>
  some (!Qp Z.Kind 6))).bind fun Y =>
 cond Y
  (some (0,false))
  ((Option.bind (QU J G) GN.of).bind fun O =>
  some (O.N,true))
def WF (n:Nat) (J:List (List PV)) (G:Int):Option (List UInt8) :=
 (cond (leI (Qb (List.map Zq J)) G)
  (some true)
  ((Option.bind (QU J G) GN.of).bind fun Z =>
  some (!Qp Z.Kind 5))).bind fun Y =>
 cond Y
  (some [])
  ((Option.bind (QU J G) GN.of).bind fun O =>
  some O.Name)
def Kt (n:Nat) (aa:List (List PV)) (O:(Int × Int)→Option (Int × Int)) (G:Int) (J:Int):Option (Int × Int) :=
 ((WF n aa G).bind fun Z =>
 cond (Qr Z [119,111,114,107])
  (some 1)
  (cond (Qr Z [115,97,116,117,114,100,97,121])
   (some 2)
   (cond (Qr Z [115,117,110,100,97,121])
    (some 4)
    (some 0)))).bind fun Y =>
 cond (Qp Y 0)
  (some (J,G))
  (cond (!Qp Y 0) (
   cond (Qp (Int.tmod (wi (Int.tdiv J Y)) 2) 1)
    (some (0,G))
    (O (wi (G+1),wi (J+Y)))) none)
def W9 (n:Nat) (Z:List (List PV)) (O:Int):Option (Int × Int) :=
 Qn (fun G (J,Y)=>Kt n Z G J Y) n (O,0)
def DN (r2:Int) (r3:Int × Bool) (j4:Bool) (aa:Bool) (Z:Int) (G:Int) (Y:Int) (J:Int) (O:Int):Option (QT × Bool) :=
 cond (!j4)
  (some ((⟨wi (r2+1),Z,G,Y,r3.1,J,O⟩:QT),true))
  (some ((⟨wi (r2+1),Z,G,Y,r3.1,J,O⟩:QT),aa))
def K9 (n:Nat) (ai:GN) (r2:Int) (r3:Int × Bool) (j4:Bool) (j6:Bool) (ab:(Bool × Bool × Bool × Bool × Int × Int × Int × Int × Int × Int)→Option (QT × Bool)) (ac:Bool) (ae:Bool) (ad:Bool) (af:Bool) (J:Int) (aa:Int) (O:Int) (Z:Int) (Y:Int) (G:Int):Option (QT × Bool) :=
 cond (Qs J (Qb (List.map Zq ai.Kids)))
  ((KN n ai.Kids (wi (J+1))).bind fun ah =>
  (WF n ai.Kids J).bind fun ak =>
  (cond (Qr ak [112,101,114])
   (cond j4
    (cond (!ac)
     (some ah.2)
     (some false))
    (some false))
   (some false)).bind fun ao =>
  cond ao
   (ab (true,ae,ad,af,wi (J+2),aa,O,Z,ah.1,G))
   ((cond (Qr ak [102,114,101,101])
    (cond j4
     (cond (!ae)
      (some ah.2)
      (some false))
     (some false))
    (some false)).bind fun aq =>
   cond aq
    (ab (ac,true,ad,af,wi (J+2),aa,O,Z,Y,ah.1))
    ((cond (Qr ak [111,110])
     (cond (!j6)
      (some (!ad))
      (some false))
     (some false)).bind fun am =>
    cond am
     ((W9 n ai.Kids (wi (J+1))).bind fun aj =>
     cond (Qp aj.1 0)
      (some ((⟨wi (r2+1),aj.1,O,Z,r3.1,Y,G⟩:QT),false))
      (ab (ac,ae,true,af,aj.2,aj.1,O,Z,Y,G)))
     ((cond (Qr ak [98,101,116,119,101,101,110])
      (cond (!j6)
       (cond (!af)
        (some ah.2)
        (some false))
       (some false))
      (some false)).bind fun an =>
     cond an
      ((KN n ai.Kids (wi (J+2))).bind fun al =>
      cond (!al.2)
       (some ((⟨wi (r2+1),aa,O,Z,r3.1,Y,G⟩:QT),false))
       (ab (ac,ae,ad,true,wi (J+3),aa,ah.1,al.1,Y,G)))
      (some ((⟨wi (r2+1),aa,O,Z,r3.1,Y,G⟩:QT),false))))))
  (DN r2 r3 j4 ac aa O Z Y G)
def Vx (n:Nat) (af:GN):Option (QT × Bool) :=
 (Q7 n).bind fun r1 =>
 (Pv n r1 af.Name).bind fun r2 =>
 (KN n af.Kids 0).bind fun r3 =>
 cond (!r3.2)
  (some ((⟨wi (r2+1),7,0,1440,0,0,0⟩:QT),false))
  ((cond (Qp (wi (r2+1)) 3)
   (some true)
   (some (Qp (wi (r2+1)) 4))).bind fun j4 =>
  (cond (Qp (wi (r2+1)) 5)
   (some true)
   (some (Qp (wi (r2+1)) 6))).bind fun j6 =>
  Qn (fun J (O,Y,Z,ac,aa,ah,ab,ae,ad,G)=>K9 n af r2 r3 j4 j6 J O Y Z ac aa ah ab ae ad G) n (false,false,false,false,1,7,0,1440,0,0))
def Vd (n:Nat) (G:QT):Option Bool :=
 (cond (Qs G.Price 0)
  (some true)
  (cond (Qs 1000000 G.Price)
   (some true)
   (cond (Qs G.From 0)
    (some true)
    (cond (Qs 1439 G.From)
     (some true)
     (cond (leI G.To G.From)
      (some true)
      (cond (Qs 1440 G.To)
       (some true)
       (cond (Qs G.Days 1)
        (some true)
        (some (Qs 7 G.Days))))))))).bind fun j1 =>
 cond j1
  (some false)
  ((cond (Qp G.Kind 3)
   (some true)
   (some (Qp G.Kind 4))).bind fun j9 =>
  cond j9
   ((cond (leI 1 G.Unit)
    (cond (leI G.Unit 1440)
     (cond (leI 0 G.Free)
      (some (leI G.Free 1440))
      (some false))
     (some false))
    (some false)).bind fun Z =>
   some Z)
   ((cond (!Qp G.Unit 0)
    (some true)
    (some (!Qp G.Free 0))).bind fun O =>
   cond O
    (some false)
    ((cond (Qp G.From 0)
     (cond (Qp G.To 1440)
      (some (Qp G.Days 7))
      (some false))
     (some false)).bind fun J =>
    cond (Qp G.Kind 6)
     ((cond J
      (some (leI G.Price 10000))
      (some false)).bind fun Y =>
     some Y)
     (cond (Qp G.Kind 5)
      (some J)
      (cond (Qp G.Kind 1)
       (some true)
       (some (Qp G.Kind 2)))))))
def Zi (n:Nat) (J:GN) (Y:(Bool × Int × (List QT))→Option (Ky × Zw)) (aa:Bool) (O:Int) (G:List QT):Option (Ky × Zw) :=
 cond (Qs O (Qb (List.map Zq J.Kids)))
  ((Option.bind (QU J.Kids O) GN.of).bind fun x2 =>
  cond (Qp x2.Kind 3)
   (some ((⟨J.Name,G⟩:Ky),(⟨9,x2.At⟩:Zw)))
   (cond (Qp (Qb (List.map QT.cs G)) 12)
    (some ((⟨J.Name,G⟩:Ky),(⟨2,x2.At⟩:Zw)))
    ((Vx n x2).bind fun Z =>
    cond (!Z.2)
     (some ((⟨J.Name,G⟩:Ky),(⟨9,x2.At⟩:Zw)))
     ((Vd n Z.1).bind fun r4 =>
     cond (!r4)
      (some ((⟨J.Name,G⟩:Ky),(⟨3,x2.At⟩:Zw)))
      ((cond (Qp Z.1.Kind 6)
       (some aa)
       (some false)).bind fun j5 =>
      cond j5
       (some ((⟨J.Name,G⟩:Ky),(⟨5,x2.At⟩:Zw)))
       (cond aa
        (cond (QK (List.length (G++[Z.1])) 56) (
         Y (true,wi (O+1),G++[Z.1])) none)
        (cond (QK (List.length (G++[Z.1])) 56) (
         Y (Qp Z.1.Kind 6,wi (O+1),G++[Z.1])) none)))))))
  (some ((⟨J.Name,G⟩:Ky),(⟨0,0⟩:Zw)))
def Hl (n:Nat) (Z:GN):Option (Ky × Zw) :=
 Qn (fun G (J,Y,O)=>Zi n Z G J Y O) n (false,0,[])
def Uk (n:Nat) (G:Int):Option Bool :=
 cond (leI (-1440) G)
  (some (leI G 1440))
  (some false)
def JU (J:Kn) (G:Int→Option Bool) (O:Int):Option Bool :=
 cond (Qs O (Qb (List.map ci J.Holidays)))
  ((QU J.Holidays O).bind fun Z =>
  (cond (Qs Z 0)
   (some true)
   (cond (Qs 36500 Z)
    (some true)
    (cond (Qs 0 O)
     ((QU J.Holidays (wi (O - 1))).bind fun Y =>
     some (leI Z Y))
     (some false)))).bind fun j8 =>
  cond j8
   (some false)
   (G (wi (O+1))))
  (some true)
def UX (n:Nat) (J:Kn):Option Bool :=
 Qn (fun G O=>JU J G O) n 0
def Vy (n:Nat) (O:Kn) (Y:Int→Option Bool) (G:Int):Option Bool :=
 cond (Qs G (Qb (List.map XN.cs O.Changes)))
  ((QU O.Changes G).bind fun J =>
  ((Uk n J.Offset).bind fun Z =>
  cond (!Z)
   (some true)
   (cond (Qs J.At 0)
    (some true)
    (cond (Qs 52560000 J.At)
     (some true)
     (cond (Qs 0 G)
      ((QU O.Changes (wi (G - 1))).bind fun ab =>
      some (leI J.At ab.At))
      (some false))))).bind fun aa =>
  cond aa
   (some false)
   (Y (wi (G+1))))
  (UX n O)
def Xe (n:Nat) (G:Kn):Option Bool :=
 ((Uk n G.Offset).bind fun Y =>
 cond (!Y)
  (some true)
  (cond (Qs 16 (Qb (List.map XN.cs G.Changes)))
   (some true)
   (some (Qs 32 (Qb (List.map ci G.Holidays)))))).bind fun Z =>
 cond Z
  (some false)
  (Qn (fun J O=>Vy n G J O) n 0)
def Jh (Z:Kn) (J:Int) (O:(Int × Int)→Option Int) (Y:Int) (G:Int):Option Int :=
 cond (Qs G (Qb (List.map XN.cs Z.Changes)))
  ((QU Z.Changes G).bind fun x2 =>
  cond (leI x2.At J)
   ((QU Z.Changes G).bind fun x3 =>
   O (x3.Offset,wi (G+1)))
   (O (Y,wi (G+1))))
  (some Y)
def F9 (n:Nat) (Y:Kn) (G:Int):Option Int :=
 Qn (fun J (O,Z)=>Jh Y G J O Z) n (Y.Offset,0)
def Rq (n:Nat) (O:Kn) (G:Int):Option (Int × Int × Int) :=
 ((Xe n O).bind fun Y =>
 cond (!Y)
  (some true)
  (cond (Qs G 0)
   (some true)
   (some (Qs 52560000 G)))).bind fun Z =>
 cond Z
  (some (0,0,1))
  ((F9 n O G).bind fun J =>
  cond (Qs (wi (G+J)) 0)
   (some ((-1),wi ((wi (G+J)) - (-1440)),0))
   (some (wi (Int.tdiv (wi (G+J)) 1440),wi ((wi (G+J)) - (wi (1440 * (wi (Int.tdiv (wi (G+J)) 1440))))),0)))
def DR (G:Int):Option (Int × Int) :=
 cond (Qp (Int.tmod (wi (G+7)) 7) 6)
  (some (2,0))
  (cond (Qp (Int.tmod (wi (G+7)) 7) 5)
   (some (1,0))
   (some (0,0)))
def Xn (O:Kn) (G:Int) (J:Int→Option (Int × Int)) (Y:Int):Option (Int × Int) :=
 cond (Qs Y (Qb (List.map ci O.Holidays)))
  ((QU O.Holidays Y).bind fun Z =>
  cond (Qp Z G)
   (some (2,0))
   (J (wi (Y+1))))
  (DR G)
def Dt (n:Nat) (O:Kn) (G:Int):Option (Int × Int) :=
 ((Xe n O).bind fun Y =>
 cond (!Y)
  (some true)
  (cond (Qs G (-1))
   (some true)
   (some (Qs 36501 G)))).bind fun Z =>
 cond Z
  (some (0,1))
  (Qn (fun J l6=>Xn O G J l6) n 0)
def Xo (n:Nat) (G:QT) (O:Kn) (J:Int):Option Bool :=
 (Vd n G).bind fun r1 =>
 cond (!r1)
  (some false)
  ((Rq n O J).bind fun Y =>
  cond (!Qp Y.2.2 0)
   (some false)
   ((Dt n O Y.1).bind fun Z =>
   (cond (Qp Z.1 1)
    (some (Qp (Int.tmod (wi (Int.tdiv G.Days 2)) 2) 1))
    (some (Qp (Int.tmod G.Days 2) 1))).bind fun j4 =>
   (cond (Qp Z.1 2)
    (some (Qp (Int.tmod (wi (Int.tdiv G.Days 4)) 2) 1))
    (some j4)).bind fun j5 =>
   cond j5
    (cond (leI G.From Y.2.1)
     (some (Qs Y.2.1 G.To))
     (some false))
    (some false)))
def Ym (n:Nat) (G:Int):Option Bool :=
 cond (leI 0 G)
  (some (leI G 1000000000))
  (some false)
def KT (n:Nat) (G:Int):Option (Int × Int) :=
 (Ym n G).bind fun r1 =>
 cond (!r1)
  (some (0,3))
  (some (G,0))
def KU (n:Nat) (O:Int) (J:Int) (G:Int):Option (Int × Int) :=
 ((Ym n O).bind fun r2 =>
 cond (!r2)
  (some true)
  ((Ym n J).bind fun Z =>
  cond (!Z)
   (some true)
   (cond (Qs G 1)
    (some true)
    (some (Qs 1000000000 G))))).bind fun j1 =>
 cond j1
  (some (0,1))
  (cond (!Qp G 0) (
   (KT n (wi (O * (wi (Int.tdiv (wi ((wi (J+G)) - 1)) G))))).bind fun Y =>
   some (Y.1,Y.2)) none)
def Ve (n:Nat) (J:Int) (G:Int):Option Int :=
 cond (!Qp (wi (2 * G)) 0) (
  some (wi (Int.tdiv (wi ((wi (2 * J))+G)) (wi (2 * G))))) none
def Xf (n:Nat) (J:Int) (G:Int) (O:Int):Option (Int × Int) :=
 ((Ym n J).bind fun r2 =>
 cond (!r2)
  (some true)
  ((Ym n G).bind fun Z =>
  cond (!Z)
   (some true)
   (cond (Qs O 1)
    (some true)
    (some (Qs 1000000000 O))))).bind fun j1 =>
 cond j1
  (some (0,1))
  ((Ve n (wi (J * G)) O).bind fun r7 =>
  (KT n r7).bind fun Y =>
  some (Y.1,Y.2))
def XU (n:Nat) (J:Int) (G:Int):Option (Int × Int) :=
 ((Ym n J).bind fun Z =>
 cond (!Z)
  (some true)
  (cond (Qs G 0)
   (some true)
   (some (Qs 100000 G)))).bind fun j1 =>
 cond j1
  (some (0,1))
  ((Ve n (wi (J * G)) 10000).bind fun Y =>
  (KT n Y).bind fun O =>
  some (O.1,O.2))
structure Xg where
 Serial:Int
 Number:Int
 Minute:Int
 Register:Int
 Link:Int
deriving DecidableEq
def Xg.cs (x:Xg):List PV:=[VI x.Serial,VI x.Number,VI x.Minute,VI x.Register,VU x.Link]
structure pU where
 Tariff:Ky
 Calendar:Kn
 Readings:List Xg
 Seed:Int
 Session:YN
 Bill:Ke
deriving DecidableEq
def pU.cs (x:pU):List PV:=[VS x.Tariff.Name, .sl 7 (List.map QT.cs x.Tariff.Articles),VI x.Calendar.Offset, .sl 2 (List.map XN.cs x.Calendar.Changes), .sl 1 (List.map ci x.Calendar.Holidays), .sl 5 (List.map Xg.cs x.Readings),VU x.Seed,VI x.Session.From,VI x.Session.To,VI x.Session.End, .sl 2 (List.map HZ.cs x.Session.Slices), .sl 2 (List.map Ka.cs x.Bill.Lines),VI x.Bill.Net,VI x.Bill.Tax,VI x.Bill.Total]
structure GAE where
 Claim:pU
 follows:YN
 bill:Ke
 rate:Int
deriving DecidableEq
def GAE.cs (x:GAE):List PV:=[VS x.Claim.Tariff.Name, .sl 7 (List.map QT.cs x.Claim.Tariff.Articles),VI x.Claim.Calendar.Offset, .sl 2 (List.map XN.cs x.Claim.Calendar.Changes), .sl 1 (List.map ci x.Claim.Calendar.Holidays), .sl 5 (List.map Xg.cs x.Claim.Readings),VU x.Claim.Seed,VI x.Claim.Session.From,VI x.Claim.Session.To,VI x.Claim.Session.End, .sl 2 (List.map HZ.cs x.Claim.Session.Slices), .sl 2 (List.map Ka.cs x.Claim.Bill.Lines),VI x.Claim.Bill.Net,VI x.Claim.Bill.Tax,VI x.Claim.Bill.Total,VI x.follows.From,VI x.follows.To,VI x.follows.End, .sl 2 (List.map HZ.cs x.follows.Slices), .sl 2 (List.map Ka.cs x.bill.Lines),VI x.bill.Net,VI x.bill.Tax,VI x.bill.Total,VI x.rate]
def WG (n:Nat) (O:Int) (J:Int) (G:Int):Option Bool :=
 cond (leI J O)
  (some (leI O G))
  (some false)
def y5 (n:Nat) (G:List UInt8):Option Bool :=
 (cond (Qr G [102,101,101,100,101,114])
  (some (Qr G [102,101,101,100,101,114]))
  (cond (Qr G [99,97,98,108,101])
   (some (Qr G [99,97,98,108,101]))
   (cond (Qr G [111,119,110,101,114])
    (some (Qr G [111,119,110,101,114]))
    (cond (Qr G [99,111,110,116,114,97,99,116])
     (some (Qr G [99,111,110,116,114,97,99,116]))
     (cond (Qr G [99,104,97,114,103,101,114])
      (some (Qr G [99,104,97,114,103,101,114]))
      (cond (Qr G [98,97,121])
       (some (Qr G [98,97,121]))
       (some (Qr G [116,97,114,105,102,102])))))))).bind fun Z =>
 cond Z
  (some true)
  ((cond (Qr G [108,105,109,105,116])
   (some (Qr G [108,105,109,105,116]))
   (cond (Qr G [110,101,117,116,114,97,108])
    (some (Qr G [110,101,117,116,114,97,108]))
    (cond (Qr G [102,117,115,101])
     (some (Qr G [102,117,115,101]))
     (cond (Qr G [116,104,101,114,109,97,108])
      (some (Qr G [116,104,101,114,109,97,108]))
      (cond (Qr G [102,114,111,109])
       (some (Qr G [102,114,111,109]))
       (cond (Qr G [97,116])
        (some (Qr G [97,116]))
        (cond (Qr G [112,104,97,115,101,115])
         (some (Qr G [112,104,97,115,101,115]))
         (cond (Qr G [97,109,112,115])
          (some (Qr G [97,109,112,115]))
          (cond (Qr G [102,97,108,108,98,97,99,107])
           (some (Qr G [102,97,108,108,98,97,99,107]))
           (cond (Qr G [99,97,114,100])
            (some (Qr G [99,97,114,100]))
            (some (Qr G [114,97,110,107])))))))))))).bind fun O =>
  cond O
   (some true)
   ((cond (Qr G [115,116,97,114,116])
    (some (Qr G [115,116,97,114,116]))
    (cond (Qr G [101,110,101,114,103,121])
     (some (Qr G [101,110,101,114,103,121]))
     (cond (Qr G [116,105,109,101])
      (some (Qr G [116,105,109,101]))
      (cond (Qr G [105,100,108,101])
       (some (Qr G [105,100,108,101]))
       (cond (Qr G [99,97,112])
        (some (Qr G [99,97,112]))
        (some (Qr G [116,97,120]))))))).bind fun Y =>
   cond Y
    (some true)
    ((cond (Qr G [111,110])
     (some (Qr G [111,110]))
     (cond (Qr G [119,111,114,107])
      (some (Qr G [119,111,114,107]))
      (cond (Qr G [115,97,116,117,114,100,97,121])
       (some (Qr G [115,97,116,117,114,100,97,121]))
       (cond (Qr G [115,117,110,100,97,121])
        (some (Qr G [115,117,110,100,97,121]))
        (cond (Qr G [98,101,116,119,101,101,110])
         (some (Qr G [98,101,116,119,101,101,110]))
         (cond (Qr G [112,101,114])
          (some (Qr G [112,101,114]))
          (some (Qr G [102,114,101,101])))))))).bind fun J =>
    cond J
     (some true)
     (some false))))
def JV (n:Nat) (G:QT):Option Bool :=
 ((WG n G.Kind 1 6).bind fun r2 =>
 cond (!r2)
  (some true)
  ((WG n G.Days 1 7).bind fun r4 =>
  some (!r4))).bind fun j1 =>
 cond j1
  (some false)
  (((WG n G.From 0 1439).bind fun r6 =>
  cond (!r6)
   (some true)
   (cond (leI G.To G.From)
    (some true)
    (some (Qs 1440 G.To)))).bind fun j5 =>
  cond j5
   (some false)
   ((cond (Qp G.From 0)
    (cond (Qp G.To 1440)
     (some (Qp G.Days 7))
     (some false))
    (some false)).bind fun j9 =>
   (cond (Qp G.Unit 0)
    (some (Qp G.Free 0))
    (some false)).bind fun O =>
   (WG n G.Price 0 1000000).bind fun J =>
   (cond (Qp G.Kind 3)
    (some (Qp G.Kind 3))
    (some (Qp G.Kind 4))).bind fun ab =>
   cond ab
    ((cond J
     ((WG n G.Unit 1 1440).bind fun ac =>
     cond ac
      ((WG n G.Free 0 1440).bind fun Y =>
      some Y)
      (some false))
     (some false)).bind fun aa =>
    some aa)
    (cond (Qp G.Kind 5)
     ((cond J
      (cond O
       (some j9)
       (some false))
      (some false)).bind fun ad =>
     some ad)
     (cond (Qp G.Kind 6)
      (((WG n G.Price 0 10000).bind fun Z =>
      cond Z
       (cond O
        (some j9)
        (some false))
       (some false)).bind fun ae =>
      some ae)
      (cond J
       (some O)
       (some false))))))
def V5 (G:YN) (J:Int→Option Bool) (O:Int):Option Bool :=
 cond (Qs O (Qb (List.map HZ.cs G.Slices)))
  ((QU G.Slices O).bind fun Y =>
  (cond (Qs Y.Minute G.From)
   (some true)
   (cond (leI G.End Y.Minute)
    (some true)
    (cond (Qs Y.Energy 0)
     (some true)
     (cond (Qs 10000 Y.Energy)
      (some true)
      (cond (Qs 0 O)
       ((QU G.Slices (wi (O - 1))).bind fun aa =>
       some (leI Y.Minute aa.Minute))
       (some false)))))).bind fun Z =>
  cond Z
   (some false)
   (J (wi (O+1))))
  (some true)
def Rt (n:Nat) (G:YN):Option Bool :=
 (cond (Qs G.From 0)
  (some true)
  (cond (leI G.To G.From)
   (some true)
   (cond (Qs 52560000 G.To)
    (some true)
    (cond (Qs 2880 (wi (G.To - G.From)))
     (some true)
     (cond (Qs G.End G.From)
      (some true)
      (cond (Qs G.To G.End)
       (some true)
       (some (Qs 48 (Qb (List.map HZ.cs G.Slices)))))))))).bind fun O =>
 cond O
  (some false)
  (Qn (fun J Y=>V5 G J Y) n 0)
def Ya (n:Nat) (Z:QT) (aa:Kn) (Y:Int) (J:(Int × Int)→Option Int) (O:Int) (G:Int):Option Int :=
 cond (Qs G Y)
  ((Xo n Z aa G).bind fun r2 =>
  cond r2
   (J (wi (O+1),wi (G+1)))
   (J (O,wi (G+1))))
  (some O)
def Vf (n:Nat) (aa:QT) (ab:Kn) (G:Int) (Y:Int):Option Int :=
 Qn (fun J (O,Z)=>Ya n aa ab Y J O Z) n (0,G)
def Yu (n:Nat) (Z:QT) (aa:Kn) (Y:YN) (J:(Int × Int)→Option Int) (O:Int) (G:Int):Option Int :=
 cond (Qs G (Qb (List.map HZ.cs Y.Slices)))
  ((QU Y.Slices G).bind fun x2 =>
  (Xo n Z aa x2.Minute).bind fun r3 =>
  cond r3
   ((QU Y.Slices G).bind fun x4 =>
   J (wi (O+x4.Energy),wi (G+1)))
   (J (O,wi (G+1))))
  (some O)
def La (n:Nat) (Y:QT) (Z:Kn) (aa:YN):Option Int :=
 Qn (fun G (J,O)=>Yu n Y Z aa G J O) n (0,0)
def Sd (n:Nat) (G:QT) (O:Kn) (J:YN):Option (Int × Int) :=
 (Vd n G).bind fun r1 =>
 (Xe n O).bind fun r2 =>
 (Rt n J).bind fun r3 =>
 (cond (!r1)
  (some true)
  (cond (!r2)
   (some true)
   (some (!r3)))).bind fun j4 =>
 cond j4
  (some (0,1))
  (cond (Qp G.Kind 1)
   ((Vf n G O J.From (wi (J.From+1))).bind fun r7 =>
   some (wi (G.Price * r7),0))
   (cond (Qp G.Kind 2)
    ((La n G O J).bind fun r8 =>
    (Xf n G.Price r8 1000).bind fun r9 =>
    some (r9.1,r9.2))
    (cond (Qp G.Kind 3)
     ((Vf n G O J.From J.To).bind fun ab =>
     (KU n G.Price (Jq 0 (wi (ab - G.Free))) G.Unit).bind fun Z =>
     some (Z.1,Z.2))
     (cond (Qp G.Kind 4)
      ((Vf n G O J.End J.To).bind fun aa =>
      (KU n G.Price (Jq 0 (wi (aa - G.Free))) G.Unit).bind fun Y =>
      some (Y.1,Y.2))
      (some (0,0))))))
structure GLs where
 from_:Int
 to_:Int
deriving DecidableEq
def GLs.cs (x:GLs):List PV:=[VI x.from_,VI x.to_]
end Go.Proofs
namespace Go.Proofs
open Go Go.Abs Go.ChangeShapes Go.WideShapes Go.ChangeAt Go.RowKit Go.Proofs.YtkhhdppjbakngaaGreatDoor
set_option maxRecDepth 100000
variable {d:Nat}
structure XN.wf (x:XN):Prop where
 At:R4 x.At
 Offset:R4 x.Offset
theorem QhE {cs:List PV} (h:Sh Tryz.prog (d+2) 199 cs):∃ r:XN,cs=XN.cs r∧XN.wf r:=by
 have h:=MV Tryz.underlying199 h;obtain ⟨_,_,rfl,h0,_,_,rfl,J,rfl⟩:=h;obtain ⟨G,rfl,w0⟩:=Db Tryz.underlying3 h0;obtain ⟨O,rfl,Y⟩:=Db Tryz.underlying3 J;exact ⟨⟨G,O⟩,rfl,⟨w0,Y⟩⟩
structure Kn.wf (x:Kn):Prop where
 Offset:R4 x.Offset
 Changes:(dY XN.wf) x.Changes
 Holidays:(dY R4) x.Holidays
theorem QhF {cs:List PV} (h:Sh Tryz.prog (d+4) 52 cs):∃ r:Kn,cs=Kn.cs r∧Kn.wf r:=by
 have h:=MV Tryz.underlying52 h;obtain ⟨_,_,rfl,h0,_,_,rfl,O,_,_,rfl,h2,rfl⟩:=h;obtain ⟨J,rfl,w0⟩:=Db Tryz.underlying3 h0;obtain ⟨Y,rfl,Z⟩:=wY (S:=2) (f:=XN.cs) (W:=XN.wf) Tryz.underlying49 Qc (fun c h=>QhE h) O;obtain ⟨G,rfl,w2⟩:=wY (S:=1) (f:=ci) (W:=R4) Tryz.underlying50 Qc (fun c h=>Db Tryz.underlying3 h) h2;exact ⟨⟨J,Y,G⟩,rfl,⟨w0,Z,w2⟩⟩
structure HZ.wf (x:HZ):Prop where
 Minute:R4 x.Minute
 Energy:R4 x.Energy
theorem QhG {cs:List PV} (h:Sh Tryz.prog (d+2) 207 cs):∃ r:HZ,cs=HZ.cs r∧HZ.wf r:=by
 have h:=MV Tryz.underlying207 h;obtain ⟨_,_,rfl,h0,_,_,rfl,J,rfl⟩:=h;obtain ⟨G,rfl,w0⟩:=Db Tryz.underlying3 h0;obtain ⟨O,rfl,Y⟩:=Db Tryz.underlying3 J;exact ⟨⟨G,O⟩,rfl,⟨w0,Y⟩⟩
structure YN.wf (x:YN):Prop where
 From:R4 x.From
 To:R4 x.To
 End:R4 x.End
 Slices:(dY HZ.wf) x.Slices
theorem QhH {cs:List PV} (h:Sh Tryz.prog (d+4) 55 cs):∃ r:YN,cs=YN.cs r∧YN.wf r:=by
 have h:=MV Tryz.underlying55 h;obtain ⟨_,_,rfl,h0,_,_,rfl,J,_,_,rfl,h2,_,_,rfl,h3,rfl⟩:=h;obtain ⟨G,rfl,w0⟩:=Db Tryz.underlying3 h0;obtain ⟨x1,rfl,w1⟩:=Db Tryz.underlying3 J;obtain ⟨Z,rfl,Y⟩:=Db Tryz.underlying3 h2;obtain ⟨O,rfl,w3⟩:=wY (S:=2) (f:=HZ.cs) (W:=HZ.wf) Tryz.underlying53 Qc (fun c h=>QhG h) h3;exact ⟨⟨G,x1,Z,O⟩,rfl,⟨w0,w1,Y,w3⟩⟩
def Y2:Prop:=∀ (G:List UInt8) (a1:Kn) (a2:YN),Qit G→Kn.wf a1→YN.wf a2→∃ n,Zn n G a1 a2=some true
theorem D7 (h:Y2):∀ xs,zm Tryz.prog 9 Tryz.f5.params.toList xs→QC Tryz.prog 5 xs (.ret (.p (.val (.bool true)))):=by
 intro xs J;rw [Tryz.params5] at J;obtain ⟨_,_,rfl,h0,_,_,rfl,O,_,_,rfl,Z,rfl⟩:=J;obtain ⟨G,rfl,w0⟩:=QgN Tryz.underlying9 h0;obtain ⟨a1,rfl,Y⟩:=QhF O;obtain ⟨a2,rfl,w2⟩:=QhH Z;obtain ⟨n,hn⟩:=h G a1 a2 w0 Y w2;simp only [Qbv Tryz.underlying9,Ij Tryz.underlying52,Ij Tryz.underlying55];exact Xd n G a1 a2 true hn
theorem QeO {W:World} (h:laidMetH Tryz.prog Rows.topTariffPrintedRow.laid W):mX W:=by
 have h2:=MakeChecks.laidMetH_plain Tryz.prog Rows.topTariffPrintedRow.laid W Qc;have h3:laidMet Tryz.prog Rows.topTariffPrintedRow.laid W:=h2 ▸ h;obtain ⟨ps,⟨_,_,_,_,_,_,_,_,_,_,⟨_,_,_,_,_,_,_,_,_,_,⟨g,t,cs,Y,p,q,hg,ht,hv,Z,⟨g2,t2,aa,J,p2,q2,hg2,O,G,hd2,_,_⟩,_⟩,_⟩,_⟩,_,_⟩:=h3;obtain rfl:=Option.some.inj ((show Tryz.prog.globalNamed "internal/strconv.uint64pow10"=some 1 by kernel_rfl).symm.trans hg);obtain rfl:=Option.some.inj ((show Tryz.prog.globalNamed "chargepark/printer.kinds"=some 0 by kernel_rfl).symm.trans hg2);refine QgR ?_ ?_
 ·have e:(Rows.laid_chargepark_printer_kinds:DataW Unit)=.agg (kindsTab.map fun z=>.lit (.string z)):=by kernel_rfl
  rw [e] at hd2;obtain rfl:=Option.some.inj ((show (Tryz.prog.globals[0]?).map (·.type)=some 161 by kernel_rfl).symm.trans O);have h5:=Lib.cells_of_stab Tryz.underlying161 Tryz.underlying9 Qc Qc hd2;unfold World.var? at G;rw [show Tryz.prog.globalNamed "chargepark/printer.kinds"=some 0 by kernel_rfl] at G;simp only [QE] at G;split at G
  ·rename_i c ty fz hc;simp only [QO] at G;subst G;rw [← h5];exact ⟨ty,fz,hc⟩
  ·cases G
 ·unfold Lib.TabIs;have e:(Rows.laid_internal_strconv_uint64pow10:DataW Unit)=Lib.tabData .u64 Lib.pow10Tab:=by kernel_rfl
  rw [e] at Z;obtain rfl:=Option.some.inj ((show (Tryz.prog.globals[1]?).map (·.type)=some 308 by kernel_rfl).symm.trans ht);rw [hv,← Lib.cells_of_tab Tryz.underlying308 Tryz.underlying302 Qc Qc Z]
set_option maxRecDepth 100000 in
theorem Tq (h:Y2) (os:Os) (started:os.Started) (H:Type) (enc:TypeId × Value→H) :
  ReturnsInHanded {} Tryz.checked os 5 .any (fun w args=>(Rows.topTariffPrintedSpec.pre enc Tryz.prog Tryz.f5 Rows.topTariffPrintedRow.domain false w args∧laidMetH Tryz.prog Rows.topTariffPrintedRow.laid w)∧sizedMet enc Tryz.prog Tryz.f5 (OpenSpec.ofChange Rows.topTariffPrintedSpec) false w args) (Rows.topTariffPrintedSpec.post enc Tryz.prog Tryz.f5 false true false false):=by
 refine returnsInHanded_of_change_and (C:=Tryz.checked) (X:=fun w _=>laidMetH Tryz.prog Rows.topTariffPrintedRow.laid w) (fun _ _ _ Y h=>h.of_heap Y) Qc started Qc Tryz.func5
  (ChangeSpec.witness_shaped (enc:=enc) (C:=Tryz.checked) (os:=os) (X:=fun w _=>laidMetH Tryz.prog Rows.topTariffPrintedRow.laid w) false (World.laidAll Tryz.prog os Rows.topTariffPrintedRow.laid) #[.string ⟨#[]⟩, .agg #[.int .i64 0, .slice none 0 0, .slice none 0 0], .agg #[.int .i64 0, .int .i64 0, .int .i64 0, .slice none 0 0]] 8 (World.laidAll_os _ _ _)
   (World.shaped_of_ZipB Qc Qc) Qc Qc Qc
   (by rw [MakeChecks.laidMetH_plain _ _ _ Qc]; exact laidMet_laidAll _ Qc Qc)) ?_
 intro W base args ds gs before G O _ _ Z _
 exact wX (P:=Tryz.prog) (f:=5) (fn:=Tryz.f5) (s:=Rows.topTariffPrintedSpec) (tb:=4) (d:=9) Qc Qc Qc Qc Tryz.underlying4 rfl
  (fun ds J=>by
   have J:ds.length=3:=by rw [J,show Tryz.f5.params.size=3 from by kernel_rfl]
   match ds,J with
   | [d0,d1,d2],_=>rfl)
  (D7 h) G O (QeO Z)
theorem D8 (h:Y2):Rows.TopTariffPrintedSaid :=
 OpenClaim.holds_of_wide 5 Tryz.f5 rfl rfl rfl rfl rfl rfl rfl ⟨rfl,rfl,rfl,rfl,rfl⟩ rfl rfl rfl rfl rfl Qc Tryz.func5 Qc
  (of_decide_eq_true Qc) (by unfold Func.isWrapper; first | (rw [if_pos (by decide +kernel)]; kernel_rfl) | (rw [if_neg (by decide +kernel)]; exact ⟨rfl,rfl⟩))
  (fun os started H enc _=>Tq h os started H enc)
theorem D9 (h:Y2):Rows.TopTariffPrintedCardSaid :=
 Claim7.holds_tied_plain_at .later [] [.data, .data, .data, .data] true (true,"f2aa9020095c129a4e33b028fe15800a6a1530f7b693bd8eaf770e8f26b6203c") true
  (D8 h) (fun _ h=>by cases h) Qc (fun _ h=>by cases h) topTariffPrinted_row_tie rfl ⟨rfl,rfl⟩ Qc rfl
  (fun f fn hf J=>by
   obtain rfl:f=5:=Option.some.inj ((show Tryz.prog.funcNamed Rows.topTariffPrintedRow.func=some 5 by kernel_rfl).symm.trans hf) |>.symm;obtain rfl:fn=Tryz.f5:=(Option.some.inj (Tryz.func5.symm.trans J)).symm
   exact ⟨by kernel_rfl,fun j t G=>by
    rw [Tryz.params5] at G
    have O:t=9∨t=52∨t=55:=by
     rcases j with _ | _ | _ | j
     ·left; simpa using G.symm
     ·right; left; simpa using G.symm
     ·right; right; simpa using G.symm
     ·simp at G
    rcases O with rfl | rfl | rfl
    ·exact (show Tryz.prog.wantsStandIn 9=false by kernel_rfl)
    ·exact (show Tryz.prog.wantsStandIn 52=false by kernel_rfl)
    ·exact (show Tryz.prog.wantsStandIn 55=false by kernel_rfl)⟩)
  Qc
end Go.Proofs
namespace Go.Proofs
open Go Go.Abs
set_option maxRecDepth 100000
variable {R V:Type}{b:Bool}{d e i:Nat}{l:List (List PV)}{n:Nat}{v:Int}{x:GN}{α β:Type}
def Does {α:Type} (m:Option α) (Q:α→Prop):Prop:=∃ r,m=some r∧Q r
section
variable {α β V R E:Type}
theorem QL {x:α} {Q:α→Prop} (h:Q x):Does (some x) Q:=⟨x,rfl,h⟩
theorem Tt {m:Option α} {Q Q':α→Prop} (h:Does m Q) (G:∀ x,Q x→Q' x):Does m Q':=by obtain ⟨x,e,h⟩:=h; exact ⟨x,e,G x h⟩
theorem Ku {m:Option α} {k:α→Option β} {Q:α→Prop} {Q':β→Prop} (h:Does m Q) (G:∀ x,Q x→Does (k x) Q'):Does (m.bind k) Q':=by
 obtain ⟨x,rfl,h⟩:=h;exact G x h
theorem Yb {x y:Option α} {Q:α→Prop} (J:b=true→Does x Q) (G:b=false→Does y Q):Does (cond b x y) Q:=by
 cases b
 ·exact G rfl
 ·exact J rfl
theorem Ja {B:(V→Option R)→V→Option R} {Q:V→R→Prop} (J:V→Nat) (Inv:V→Prop)
  (O:∀ rec v,Inv v→(∀ G,Inv G→J G < J v→Does (rec G) (Q G))→Does (B rec v) (Q v)):∀ {n:Nat} {v:V},Inv v→J v < n→Does (Qn B n v) (Q v)
 | 0,_,_,h=>absurd h (Nat.not_lt_zero _)
 | n+1,v,Z,h=>O _ v Z (fun G Y h2=>Ja J Inv O Y zo)
end
theorem Zh {l:List α}:QU l (i:Int)=l[i]?:=by
 unfold QU; rw [if_neg zo]; simp
theorem Qz {x:Int} (G:-9223372036854775808≤x) (J:x≤9223372036854775807):wi x=x:=by
 simp [wi,IntKind.wrap,IntKind.signed,IntKind.bits]; omega
theorem zL (n:Nat) (x a b:Int):WG n x a b=some (decide (a≤x∧x≤b)):=by
 unfold WG leI;by_cases h:a≤x <;> simp [h]
def QfE (b:Bool) (p:Int):Except Int Unit:=if b then .ok () else .error p
def QkJ (a r:Xg):Bool:=if r.Serial=a.Serial then decide (a.Minute≤r.Minute∧a.Register≤r.Register) else decide (r.Minute=a.Minute)
def QkK (s x k:Int):Int:=wu ((Qdb .u64 s (Lm .u64 (Qgr .u64 (wu x) k) 255)) * 1099511628211)
def QkL (s x:Int):Int:=[56,48,40,32,24,16,8,0].foldl (fun s k=>QkK s x k) s
def QjG (s:Int) (r:Xg):Int:=[r.Serial,r.Number,r.Minute,r.Register].foldl QkL s
theorem Sg {k:Unit→Option R} {e:Int→Option R} {p:Int}:Lr k e (QfE b p)=cond b (k ()) (e p):=by cases b <;> rfl
def Qb0 (G:Int) (l:List Xg) (i:Nat):Int:=if i=0 then G else ((l[i - 1]?).map (·.Link)).getD 0
def QeP (G:Int) (l:List Xg) (i:Nat):Prop:=∀ r ∈ l[i]?,(1≤r.Serial∧r.Serial≤1000000)∧r.Number=i+1∧(0≤r.Minute∧r.Minute≤52560000)∧(0≤r.Register∧r.Register≤1000000000) ∧
 (i ≠ 0→∀ a ∈ l[i - 1]?,QkJ a r=true)∧r.Link=QjG (Qb0 G l i) r
def chainOk (G:Int) (l:List Xg):Prop:=(1≤l.length∧l.length≤64)∧∀ i,i < l.length→QeP G l i
theorem Q5 (x y:Int):Qp x y=decide (x=y):=by unfold Qp; by_cases h:x=y <;> simp [h]
theorem Qq {x y:α}:cond b (some x) (some y)=some (cond b x y):=by cases b <;> rfl
def Tu (w:List UInt8):Bool:=(y5 0 w).getD false
def Tv (a:QT):Bool:=(JV 0 a).getD false
def jw (x:UInt8):Bool:=decide ((97≤Zy x∧Zy x≤122)∨(48≤Zy x∧Zy x≤57)∨Zy x=95)
def Uw (s:List UInt8):Bool:=decide (1≤s.length∧s.length≤12)&&decide (∀ x ∈ s.head?,97≤Zy x∧Zy x≤122)&&!Tu s&&s.all jw
theorem Tz {α R:Type} {l:List α} {B:(Int→Option R)→Int→Option R} {F:List α→R} (O:l.length≤4611686018427387904)
  (J:∀ rec,B rec (l.length:Int)=some (F []))
  (G:∀ (rec:Int→Option R) (i:Nat) (x:α) (r:List α),l.drop i=x :: r→l[i]?=some x→i < l.length→wi ((i:Int)+1)=((i+1:Nat):Int)→(rec ((i+1:Nat):Int)=some (F r))→B rec (i:Int)=some (F (x :: r))) :
  ∀ {n:Nat} (i:Nat),i≤l.length→l.length - i < n→Qn B n (i:Int)=some (F (l.drop i))
 | 0,_,_,h=>absurd h (Nat.not_lt_zero _)
 | n+1,i,hi,h=>by
  unfold Qn;by_cases Z:i=l.length
  ·subst Z; rw [J]; simp
  ·have hlt:i < l.length:=by omega
   have Y:l.drop i=l[i] :: l.drop (i+1):=by rw [List.drop_eq_getElem_cons hlt]
   rw [Y];exact G _ i _ _ Y (by simp [hlt]) hlt (by rw [Qz] <;> omega) (Tz O J G (i+1) zo zo)
theorem QeQ (c:Int):(bif decide (97≤c) then bif decide (c≤122) then false else bif decide (48≤c) then bif decide (c≤57) then false else !(c == 95) else !(c == 95)
  else bif decide (48≤c) then bif decide (c≤57) then false else !(c == 95) else !(c == 95))=!decide ((97≤c∧c≤122)∨(48≤c∧c≤57)∨c=95):=by
 by_cases J:97≤c <;> by_cases G:c≤122 <;> by_cases O:48≤c <;> by_cases Y:c≤57 <;> by_cases Z:c=95 <;> simp [J,G,O,Y,Z] <;> omega
theorem TA {α R A:Type} {l:List α} {B:(A × Int→Option R)→A × Int→Option R} {F:A→List α→R} (O:l.length≤4611686018427387904)
  (J:∀ rec a,B rec (a,(l.length:Int))=some (F a []))
  (G:∀ (rec:A × Int→Option R) (a:A) (i:Nat) (x:α) (r:List α),l.drop i=x :: r→l[i]?=some x→i < l.length→wi ((i:Int)+1)=((i+1:Nat):Int)→(∀ a,rec (a,((i+1:Nat):Int))=some (F a r))→B rec (a,(i:Int))=some (F a (x :: r))) :
  ∀ {n:Nat} (i:Nat) (a:A),i≤l.length→l.length - i < n→Qn B n (a,(i:Int))=some (F a (l.drop i))
 | 0,_,_,_,h=>absurd h (Nat.not_lt_zero _)
 | n+1,i,a,hi,h=>by
  unfold Qn;by_cases Z:i=l.length
  ·subst Z; rw [J]; simp
  ·have hlt:i < l.length:=by omega
   have Y:l.drop i=l[i] :: l.drop (i+1):=by rw [List.drop_eq_getElem_cons hlt]
   rw [Y];exact G _ a i _ _ Y (by simp [hlt]) hlt (by rw [Qz] <;> omega) (fun a=>TA O J G (i+1) a zo zo)
def BK:Int→List Int→Bool
 | _,[]=>true
 | a,x :: r=>decide (a < x∧x≤36500)&&BK x r
def jy:Int→List XN→Bool
 | _,[]=>true
 | a,x :: r=>decide (a < x.At∧x.At≤52560000∧-1440≤x.Offset∧x.Offset≤1440)&&jy x.At r
def Ru (c:Kn):Bool:=decide (-1440≤c.Offset∧c.Offset≤1440)&&decide (c.Changes.length≤16)&&decide (c.Holidays.length≤32)&&jy (-1) c.Changes&&BK (-1) c.Holidays
theorem Lc {α R A V:Type} {l:List α} (S:A→Int→V) {B:(V→Option R)→V→Option R} {F:A→List α→R} (Inv:Nat→A→Prop) (O:l.length≤4611686018427387904)
  (J:∀ rec a,Inv l.length a→B rec (S a (l.length:Int))=some (F a []))
  (G:∀ (rec:V→Option R) (a:A) (i:Nat) (x:α) (r:List α),Inv i a→l.drop i=x :: r→l[i]?=some x→i < l.length→wi ((i:Int)+1)=((i+1:Nat):Int)→(∀ a,Inv (i+1) a→rec (S a ((i+1:Nat):Int))=some (F a r))→B rec (S a (i:Int))=some (F a (x :: r))) :
  ∀ {n:Nat} (i:Nat) (a:A),Inv i a→i≤l.length→l.length - i < n→Qn B n (S a (i:Int))=some (F a (l.drop i))
 | 0,_,_,_,_,h=>absurd h (Nat.not_lt_zero _)
 | n+1,i,a,Y,hi,h=>by
  unfold Qn;by_cases he:i=l.length
  ·subst he; rw [J _ _ Y]; simp
  ·have hlt:i < l.length:=by omega
   have Z:l.drop i=l[i] :: l.drop (i+1):=by rw [List.drop_eq_getElem_cons hlt]
   rw [Z];exact G _ a i _ _ Y Z (by simp [hlt]) hlt (by rw [Qz] <;> omega) (fun a Y=>Lc S Inv O J G (i+1) a Y zo zo)
def I4:Int→List QT→Bool
 | k,[]=>decide (k≤1)
 | k,a :: r=>Tv a&&I4 (if a.Kind=6 then k+1 else k) r
def BL:Int→List QT→Int
 | z,[]=>z
 | z,a :: r=>BL (if a.Kind=6 then a.Price else z) r
def LW (t:Ky):Bool:=Uw t.Name&&decide (t.Articles.length≤12)&&I4 0 t.Articles
def Gy (m:Int):Int→List XN→Int
 | o,[]=>o
 | o,x :: r=>Gy m (if x.At≤m then x.Offset else o) r
def wkF (d:Int):Int:=if Int.tmod (wi (d+7)) 7=5 then 1 else if Int.tmod (wi (d+7)) 7=6 then 2 else 0
def BM (d:Int):List Int→Int
 | []=>wkF d
 | x :: r=>if x=d then 2 else BM d r
theorem Px (d:Int):∀ l,0≤BM d l∧BM d l≤2
 | []=>by
  unfold BM wkF;split
  ·omega
  ·split <;> omega
 | x :: r=>by
  have:=Px d r;unfold BM; split <;> omega
def Py (c:Kn) (a:QT) (m:Int):Bool :=
 let w:=wi (wi (m+Gy m c.Offset c.Changes)+1440)
 decide (a.From≤Int.tmod w 1440)&&decide (Int.tmod w 1440 < a.To)&&!decide (Lm .i64 a.Days (wm .i64 1 (BM (wi (wi (Int.tdiv w 1440) - 1)) c.Holidays))=0)
def cntF (c:Kn) (a:QT):Nat→Int→Int→Int
 | 0,_,z=>z
 | k+1,m,z=>cntF c a k (m+1) (if Py c a m then wi (z+1) else z)
def Ar (c:Kn) (a:QT) (f t:Int):Int :=
 wi (a.Price * wi (Int.tdiv (wi (wi (Jq 0 (cntF c a (t - f).toNat f (wi (0 - a.Free)))+a.Unit) - 1)) a.Unit))
def Nb (c:Kn) (a:QT):Int→List HZ→Int
 | z,[]=>z
 | z,x :: r=>Nb c a (if Py c a x.Minute then wi (z+x.Energy) else z) r
def Si (c:Kn) (s:YN) (a:QT):Int :=
 if a.Kind=1 then (if Py c a s.From then a.Price else 0)
 else if a.Kind=2 then wi (Int.tdiv (wi (wi (wi (2 * a.Price) * Nb c a 0 s.Slices)+1000)) 2000)
 else if a.Kind=3 then Ar c a s.From s.To
 else if a.Kind=4 then Ar c a s.End s.To
 else 0
def G7 (c:Kn) (s:YN):Nat→List QT→List Ka
 | _,[]=>[]
 | i,a :: r=>if a.Kind=5∨a.Kind=6 then G7 c s (i+1) r else ⟨i,Si c s a⟩ :: G7 c s (i+1) r
def kX (l:List Ka):Bool:=l.all (fun x=>decide (x.Amount≤1000000000))
def sumF:Int→List Ka→Int
 | z,[]=>z
 | z,x :: r=>sumF (wi (z+x.Amount)) r
def QeR:Int→List QT→Int
 | z,[]=>z
 | z,a :: r=>QeR (if a.Kind=5 then Ls z a.Price else z) r
def I5 (G rate:Int):Int:=wi (Int.tdiv (wi (wi (wi (2 * G) * rate)+10000)) 20000)
def Qb1 (t:Ky) (z:Int) (l:List Ka):Int:=QeR (sumF z l) t.Articles
def aJ (t:Ky) (rate z:Int) (l:List Ka):Ke:=⟨l,Qb1 t z l,I5 (Qb1 t z l) rate,wi (Qb1 t z l+I5 (Qb1 t z l) rate)⟩
def QeS (b:Ke):Bool:=decide (b.Net≤1000000000)&&decide (b.Total≤1000000000)
theorem fu:∀ {l:List QT} {k:Int},I4 k l=true→∀ a ∈ l,Tv a=true
 | [],_,_,a,G=>by cases G
 | x :: r,k,h,a,G=>by
  simp only [I4,Zf] at h;rcases List.mem_cons.1 G with rfl | G
  ·exact h.1
  ·exact fu h.2 a G
def ks:List Nat:=[56,48,40,32,24,16,8,0]
def keyL:List (List UInt8):=((NA 0).getD [])++(((WY 0).getD [])++(((Q7 0).getD [])++((WZ 0).getD [])))
theorem cse (b c:Bool):(bif b then b else c)=(b||c):=by cases b <;> rfl
theorem cst (b c:Bool):(bif b then true else c)=(b||c):=by cases b <;> rfl
def keyA:List (List UInt8):=[[102,101,101,100,101,114],[99,97,98,108,101],[111,119,110,101,114],[99,111,110,116,114,97,99,116],[99,104,97,114,103,101,114],[98,97,121],[116,97,114,105,102,102],[108,105,109,105,116],[110,101,117,116,114,97,108],[102,117,115,101],[116,104,101,114,109,97,108],[102,114,111,109],[97,116],[112,104,97,115,101,115],[97,109,112,115],[102,97,108,108,98,97,99,107],[99,97,114,100],[114,97,110,107],[115,116,97,114,116],[101,110,101,114,103,121],[116,105,109,101],[105,100,108,101],[99,97,112],[116,97,120],[111,110],[119,111,114,107],[115,97,116,117,114,100,97,121],[115,117,110,100,97,121],[98,101,116,119,101,101,110],[112,101,114],[102,114,101,101]]
theorem Qb2 (s:List UInt8):Tu s=keyA.contains s:=by
 unfold Tu y5 keyA;simp only [Qq,QE,Option.getD_some,cse,cst,Qr,List.contains_cons,List.contains_nil,Bool.or_assoc,Bool.or_false]
theorem Qb3 (s:List UInt8):Tu s=keyL.contains s:=by
 rw [Qb2,Bool.eq_iff_iff,List.contains_iff_mem,List.contains_iff_mem];have J:∀ x ∈ keyA,x ∈ keyL:=by decide
 have G:∀ x ∈ keyL,x ∈ keyA:=by decide
 exact ⟨J s,G s⟩
theorem Au (n:Nat) (a:QT):Vd n a=some (Tv a):=by
 unfold Vd Tv JV;simp only [zL,Qq,QE,Option.getD_some,Q5,Qs,leI];rw [QO,Bool.eq_iff_iff];obtain ⟨k,d,f,t,p,u,v⟩:=a;simp only [Bool.cond_eq_ite];by_cases k1:k=1
 ·subst k1; simp; omega
 by_cases Z:k=2
 ·subst Z; simp; omega
 by_cases Y:k=3
 ·subst Y; simp; omega
 by_cases O:k=4
 ·subst O; simp; omega
 by_cases J:k=5
 ·subst J; simp; omega
 by_cases G:k=6
 ·subst G; simp; omega
 simp [k1,Z,Y,O,J,G];omega
theorem QfF (n:Nat) (x:Int):Uk n x=some (decide (-1440≤x∧x≤1440)):=by
 unfold Uk;by_cases h:-1440≤x <;> simp [leI,h]
theorem QhI (n:Nat) (c:Kn) (hn:1000≤n) (hl:c.Holidays.length≤900):UX n c=some (BK (-1) c.Holidays):=by
 unfold UX;have:=Lc (l:=c.Holidays) (fun (_:Int) i=>i) (B:=fun G l6=>JU c G l6) (F:=BK) (fun i a=>-1≤a∧(i=0→a=-1)∧(i ≠ 0→c.Holidays[i - 1]?=some a)) zo ?_ ?_ (n:=n) 0 (-1) zq zo zo
 ·exact this
 ·intro rec a O;simp only [JU,Qb,List.length_map,Qs];rw [QN zo,cond_false];rfl
 ·intro rec a i x r O hd hx hi hw hr;simp only [JU,Qb,List.length_map,Qs,leI,Zh,hx,QE,hw];rw [QV zo,cond_true,BK];by_cases Y:x < 0
  ·rw [QV Y];simp only [cond_true,QE];rw [QN (show ¬ (a < x∧x≤36500) by omega)]; rfl
  rw [QN Y,cond_false];by_cases Z:36500 < x
  ·rw [QV Z];simp only [cond_true,QE];rw [QN (show ¬ (a < x∧x≤36500) by omega)]; rfl
  rw [QN Z,cond_false];have J:=hr x ⟨by omega,by omega,fun _=>by simpa using hx⟩;by_cases c3:i=0
  ·rw [QN (show ¬ (0:Int) < i by omega)];simp only [cond_false,QE];rw [J,QV (show a < x∧x≤36500 by have:=O.2.1 c3; omega)]; rfl
  ·rw [QV (show (0:Int) < i by omega),cond_true,show wi ((i:Int) - 1)=((i - 1:Nat):Int) from by rw [Qz] <;> omega,Zh,O.2.2 c3];simp only [QE];by_cases c4:x≤a
   ·rw [QV c4,cond_true,QN (show ¬ (a < x∧x≤36500) by omega)]; rfl
   ·rw [QN c4,cond_false,J,QV (show a < x∧x≤36500 by omega)]; rfl
theorem Qb4 (n:Nat) (c:Kn) (hn:1000≤n) (h1:c.Changes.length≤900) (h2:c.Holidays.length≤900):Xe n c=some (Ru c):=by
 have key:Qn (fun G J=>Vy n c G J) n 0=some (jy (-1) c.Changes&&BK (-1) c.Holidays):=by
  have:=Lc (l:=c.Changes) (fun (_:Int) i=>i) (B:=fun G J=>Vy n c G J) (F:=fun a r=>jy a r&&BK (-1) c.Holidays) (fun i a=>-1≤a∧(i=0→a=-1)∧(i ≠ 0→∃ x,c.Changes[i - 1]?=some x∧x.At=a)) zo ?_ ?_ (n:=n) 0 (-1) zq zo zo
  ·exact this
  ·intro rec a ha;simp only [Vy,Qb,List.length_map,Qs];rw [QN zo,cond_false,QhI n c hn h2];rfl
  ·intro rec a i x r ha hd hx hi hw hr;simp only [Vy,Qb,List.length_map,Qs,leI,Zh,hx,QE,hw,QfF];rw [QV zo,cond_true,jy];by_cases c0:-1440≤x.Offset∧x.Offset≤1440;rotate_left
   ·rw [QN c0];simp only [Bool.not_false,cond_true,QE];rw [QN (show ¬ (a < x.At∧x.At≤52560000∧-1440≤x.Offset∧x.Offset≤1440) by omega)]; rfl
   rw [QV c0,Bool.not_true,cond_false];by_cases O:x.At < 0
   ·rw [QV O];simp only [cond_true,QE];rw [QN (show ¬ (a < x.At∧x.At≤52560000∧-1440≤x.Offset∧x.Offset≤1440) by omega)]; rfl
   rw [QN O,cond_false];by_cases Y:52560000 < x.At
   ·rw [QV Y];simp only [cond_true,QE];rw [QN (show ¬ (a < x.At∧x.At≤52560000∧-1440≤x.Offset∧x.Offset≤1440) by omega)]; rfl
   rw [QN Y,cond_false];have Z:=hr x.At ⟨by omega,by omega,fun _=>⟨x,by simpa using hx,rfl⟩⟩;by_cases c3:i=0
   ·rw [QN (show ¬ (0:Int) < i by omega)];simp only [cond_false,QE];rw [Z,QV (show a < x.At∧x.At≤52560000∧-1440≤x.Offset∧x.Offset≤1440 by have:=ha.2.1 c3; omega)]; rfl
   ·obtain ⟨y,hy,aa⟩:=ha.2.2 c3;rw [QV (show (0:Int) < i by omega),cond_true,show wi ((i:Int) - 1)=((i - 1:Nat):Int) from by rw [Qz] <;> omega,Zh,hy];simp only [QE,aa];by_cases c4:x.At≤a
    ·rw [QV c4,cond_true,QN (show ¬ (a < x.At∧x.At≤52560000∧-1440≤x.Offset∧x.Offset≤1440) by omega)]; rfl
    ·rw [QN c4,cond_false,Z,QV (show a < x.At∧x.At≤52560000∧-1440≤x.Offset∧x.Offset≤1440 by omega)]; rfl
 unfold Xe Ru;rw [key];simp only [QfF,QE,Qq,Qb,List.length_map,Qs];by_cases c0:-1440≤c.Offset∧c.Offset≤1440;rotate_left
 ·rw [QN c0]; rfl
 rw [QV c0];by_cases O:c.Changes.length≤16;rotate_left
 ·rw [QV (show (16:Int) < c.Changes.length by omega),QN O]; rfl
 rw [QN (show ¬ (16:Int) < c.Changes.length by omega),QV O];by_cases Y:c.Holidays.length≤32;rotate_left
 ·rw [QV (show (32:Int) < c.Holidays.length by omega),QN Y]; rfl
 rw [QN (show ¬ (32:Int) < c.Holidays.length by omega),QV Y];rfl
structure Art (a:QT):Prop where
 days:1≤a.Days∧a.Days≤7
 from_:0≤a.From∧a.From≤1439
 to_:a.From < a.To∧a.To≤1440
 price:0≤a.Price∧a.Price≤1000000
 kind:1≤a.Kind∧a.Kind≤6
 unit:a.Kind=3∨a.Kind=4→1≤a.Unit∧a.Unit≤1440∧0≤a.Free∧a.Free≤1440
 rate:a.Kind=6→a.Price≤10000
theorem TB {a:QT} (h:Tv a=true):Art a:=by
 unfold Tv JV at h;simp only [zL,Qq,QE,Option.getD_some,Q5,Qs,leI] at h;obtain ⟨k,d,f,t,p,u,v⟩:=a;simp only [Bool.cond_eq_ite] at h;by_cases k1:k=1
 ·subst k1; simp at h; constructor <;> simp <;> omega
 by_cases Z:k=2
 ·subst Z; simp at h; constructor <;> simp <;> omega
 by_cases Y:k=3
 ·subst Y; simp at h; constructor <;> simp <;> omega
 by_cases O:k=4
 ·subst O; simp at h; constructor <;> simp <;> omega
 by_cases J:k=5
 ·subst J; simp at h; constructor <;> simp <;> omega
 by_cases G:k=6
 ·subst G; simp at h; constructor <;> simp <;> omega
 exfalso;simp [Y,O,J,G] at h;omega
theorem zM (m:Int):∀ (l:List XN) (p o:Int),jy p l=true→(-1440≤o∧o≤1440)→-1440≤Gy m o l∧Gy m o l≤1440
 | [],_,o,_,h=>h
 | x :: r,p,o,hc,h=>by
  simp only [jy,Zf,decide_eq_true_eq] at hc;unfold Gy;refine zM m r x.At _ hc.2 ?_;split
  ·exact ⟨hc.1.2.2.1,hc.1.2.2.2⟩
  ·exact h
theorem jA {c:Kn} (m:Int) (h:Ru c=true):-1440≤Gy m c.Offset c.Changes∧Gy m c.Offset c.Changes≤1440:=by
 simp only [Ru,Zf,decide_eq_true_eq] at h;exact zM m _ _ _ h.1.2 h.1.1.1.1
theorem Qb5 (n:Nat) (c:Kn) (m:Int) (Z:1000≤n) (hl:c.Changes.length≤900):F9 n c m=some (Gy m c.Offset c.Changes):=by
 unfold F9;have:=TA (l:=c.Changes) (B:=fun G (v:Int × Int)=>Jh c m G v.1 v.2) (F:=Gy m) zo ?_ ?_ (n:=n) 0 c.Offset zo zo
 ·exact this
 ·intro rec a; simp [Jh,Qs,Qb,Gy]
 ·intro rec a i x r hd Y hi J O;simp only [Jh,Qb,List.length_map,Zh,Y,QE,J,O,Qs,leI,Gy];rw [QV zo,cond_true];by_cases h:x.At≤m <;> simp [h]
theorem QhJ (n:Nat) (c:Kn) (d:Int) (Y:1000≤n) (J:c.Changes.length≤900) (h2:c.Holidays.length≤900) (hc:Ru c=true) (hd:-1≤d∧d≤36501):Dt n c d=some (BM d c.Holidays,0):=by
 unfold Dt;rw [Qb4 n c Y J h2,hc];simp only [QE,Bool.not_true,cond_false,Qs];rw [QN (show ¬ d < -1 by omega),cond_false,QE,QN (show ¬ 36501 < d by omega),cond_false];have:=Tz (l:=c.Holidays) (B:=fun G O=>Xn c d G O) (F:=fun r=>(BM d r,(0:Int))) zo ?_ ?_ (n:=n) 0 zo zo
 ·exact this
 ·intro rec;simp only [Xn,DR,Qb,List.length_map,Qs,Q5,BM,wkF];rw [QN zo,cond_false];by_cases k1:Int.tmod (wi (d+7)) 7=5
  ·simp [k1]
  ·by_cases k2:Int.tmod (wi (d+7)) 7=6 <;> simp [k1,k2]
 ·intro rec i x r hd hx hi Z hr;simp only [Xn,Qb,List.length_map,Zh,hx,QE,Z,hr,Qs,Q5,BM];rw [QV zo,cond_true];by_cases h:x=d <;> simp [h]
theorem Qb6 (d t:Int) (O:1≤d∧d≤7) (Y:0≤t∧t≤2) :
  (bif decide (t=2) then decide (Int.tmod (wi (Int.tdiv d 4)) 2=1) else bif decide (t=1) then decide (Int.tmod (wi (Int.tdiv d 2)) 2=1) else decide (Int.tmod d 2=1))=!decide (Lm .i64 d (wm .i64 1 t)=0):=by
 have J:d=1∨d=2∨d=3∨d=4∨d=5∨d=6∨d=7:=by omega
 have G:t=0∨t=1∨t=2:=by omega
 rcases J with rfl | rfl | rfl | rfl | rfl | rfl | rfl <;> rcases G with rfl | rfl | rfl <;> decide
theorem y7 (n:Nat) (c:Kn) (a:QT) (m:Int) (Y:1000≤n) (O:c.Changes.length≤900) (h2:c.Holidays.length≤900) (hc:Ru c=true) (ha:Tv a=true) (hm:0≤m∧m≤52560000) :
  Xo n a c m=some (Py c a m):=by
 have Z:=jA m hc;have hA:=TB ha
 have J:Rq n c m=some ((m+Gy m c.Offset c.Changes+1440) / 1440 - 1,(m+Gy m c.Offset c.Changes+1440) % 1440,0):=by
  unfold Rq;rw [Qb4 n c Y O h2,hc];simp only [QE,Bool.not_true,cond_false,Qs];rw [QN (show ¬ m < 0 by omega),cond_false,QE,QN (show ¬ 52560000 < m by omega),cond_false,Qb5 n c m Y O,QE];generalize Gy m c.Offset c.Changes=o at Z;rw [Qz (x:=m+o) zo zo];by_cases G:m+o < 0
  ·rw [QV G,cond_true,Qz (x:=m+o - -1440) zo zo];congr 2
   ·omega
   ·congr 1;omega
  ·rw [QN G,cond_false,Int.tdiv_eq_ediv_of_nonneg zo];rw [Qz (x:=(m+o) / 1440) zo zo,Qz (x:=1440 * ((m+o) / 1440)) zo zo,Qz zo zo];congr 2
   ·omega
   ·congr 1;omega
 unfold Xo Py;rw [Au,ha,J];simp only [QE,Bool.not_true,cond_false,Q5,decide_true];generalize Gy m c.Offset c.Changes=o at Z;rw [Qz (x:=m+o) zo zo,Qz (x:=m+o+1440) zo zo];rw [Int.tdiv_eq_ediv_of_nonneg (a:=m+o+1440) zo,Int.tmod_eq_emod_of_nonneg (a:=m+o+1440) zo];rw [Qz (x:=(m+o+1440) / 1440) zo zo,Qz (x:=(m+o+1440) / 1440 - 1) zo zo];rw [QhJ n c _ Y O h2 hc zo];simp only [QE,Qq,leI,Qs];rw [Qb6 _ _ hA.days (Px _ _)];generalize decide (Lm .i64 a.Days (wm .i64 1 (BM ((m+o+1440) / 1440 - 1) c.Holidays))=0)=b;generalize decide (a.From≤(m+o+1440) % 1440)=b1;generalize decide ((m+o+1440) % 1440 < a.To)=b2;cases b <;> cases b1 <;> cases b2 <;> rfl
def cN (c:Kn) (a:QT):Nat→Int→Int
 | 0,_=>0
 | k+1,m=>(if Py c a m then 1 else 0)+cN c a k (m+1)
theorem fw (c:Kn) (a:QT):∀ (k:Nat) (m:Int),0≤cN c a k m∧cN c a k m≤k
 | 0,_=>by simp [cN]
 | k+1,m=>by
  have:=fw c a k (m+1);unfold cN;split <;> omega
theorem jB (c:Kn) (a:QT):∀ (k:Nat) (m z:Int),k≤1000000→-1000000≤z∧z≤2000000 - k→cntF c a k m z=z+cN c a k m
 | 0,m,z,_,_=>by simp [cntF,cN]
 | k+1,m,z,J,G=>by
  unfold cntF cN;split
  ·rw [Qz zo zo,jB c a k (m+1) (z+1) zo zo];omega
  ·rw [jB c a k (m+1) z zo zo];omega
theorem Av (n:Nat) (c:Kn) (a:QT) (f t:Int) (hn:10000≤n) (h1:c.Changes.length≤900) (h2:c.Holidays.length≤900) (hc:Ru c=true) (ha:Tv a=true) (hf:0≤f) (ht:t≤52560000) (hk:t - f≤2880) :
  Vf n a c f t=some (cN c a (t - f).toNat f):=by
 unfold Vf
 have key:∀ (k j:Nat) (z m:Int),(t - m).toNat=k→k < j→0≤m→k≤2880→0≤z∧z≤3000 - k →
   Qn (fun G (v:Int × Int)=>Ya n a c t G v.1 v.2) j (z,m)=some (z+cN c a k m):=by
  intro k
  induction k with
  | zero =>
   intro j z m h3 h4 h5 Z h7;obtain ⟨j,rfl⟩:∃ J,j=J+1:=⟨j - 1,by omega⟩;unfold Qn;simp only [Ya,Qs];rw [QN zo,cond_false];simp [cN]
  | succ k Y =>
   intro j z m h3 h4 h5 Z h7;obtain ⟨j,rfl⟩:∃ J,j=J+1:=⟨j - 1,by omega⟩;have i0:=Y j z (m+1) zo zo zo zo zo;have O:=Y j (z+1) (m+1) zo zo zo zo zo;unfold Qn;generalize Qn (fun G (v:Int × Int)=>Ya n a c t G v.1 v.2) j=L at i0 O ⊢;show Ya n a c t L z m=_;unfold Ya;simp only [Qs];rw [QV zo,cond_true,y7 n c a m zo h1 h2 hc ha zo,QE,Qz (x:=m+1) zo zo,Qz (x:=z+1) zo zo];unfold cN;cases Py c a m
   ·rw [cond_false,i0];simp
   ·rw [cond_true,O];simp;omega
 have:=key (t - f).toNat n 0 f rfl zo hf zo zo;rw [Int.zero_add] at this;exact this
def slB (f e:Int):Int→List HZ→Bool
 | _,[]=>true
 | p,x :: r=>decide (f≤x.Minute∧x.Minute < e∧0≤x.Energy∧x.Energy≤10000∧p < x.Minute)&&slB f e x.Minute r
def kY (s:YN):Bool:=decide (0≤s.From∧s.From < s.To∧s.To≤52560000∧s.To - s.From≤2880∧s.From≤s.End∧s.End≤s.To∧s.Slices.length≤48)&&slB s.From s.End (s.From - 1) s.Slices
theorem I6 (n:Nat) (s:YN) (hn:1000≤n) (hl:s.Slices.length≤900) (hb:R4 s.From):Rt n s=some (kY s):=by
 unfold R4 at hb;unfold Rt kY;simp only [Qs,leI,Qb,List.length_map]
 have key:Qn (fun G l8=>V5 s G l8) n 0=some (slB s.From s.End (s.From - 1) s.Slices):=by
  have:=Lc (l:=s.Slices) (fun (_:Int) i=>i) (B:=fun G l8=>V5 s G l8) (F:=slB s.From s.End) (fun i a=>s.From - 1≤a∧(i=0→a=s.From - 1)∧(i ≠ 0→∃ x,s.Slices[i - 1]?=some x∧x.Minute=a)) zo ?_ ?_ (n:=n) 0 (s.From - 1) zq zo zo
  ·exact this
  ·intro rec a ha;simp only [V5,Qb,List.length_map,Qs];rw [QN zo,cond_false];rfl
  ·intro rec a i x r ha hd hx hi hw hr;simp only [V5,Qb,List.length_map,Qs,leI,Zh,hx,QE,hw];rw [QV zo,cond_true,slB];by_cases J:x.Minute < s.From
   ·rw [QV J,cond_true,QE,cond_true,QN zo]; rfl
   rw [QN J,cond_false];by_cases Y:s.End≤x.Minute
   ·rw [QV Y,cond_true,QE,cond_true,QN zo]; rfl
   rw [QN Y,cond_false];by_cases c3:x.Energy < 0
   ·rw [QV c3,cond_true,QE,cond_true,QN zo]; rfl
   rw [QN c3,cond_false];by_cases c4:10000 < x.Energy
   ·rw [QV c4,cond_true,QE,cond_true,QN zo]; rfl
   rw [QN c4,cond_false];have Z:=hr x.Minute ⟨by omega,by omega,fun _=>⟨x,by simpa using hx,rfl⟩⟩;by_cases O:i=0
   ·rw [QN (show ¬ (0:Int) < i by omega),cond_false,QE,cond_false,Z,QV (show s.From≤x.Minute∧x.Minute < s.End∧0≤x.Energy∧x.Energy≤10000∧a < x.Minute by have:=ha.2.1 O; omega)]; rfl
   ·obtain ⟨y,hy,aa⟩:=ha.2.2 O;rw [QV (show (0:Int) < i by omega),cond_true,show wi ((i:Int) - 1)=((i - 1:Nat):Int) from by rw [Qz] <;> omega,Zh,hy];simp only [QE,aa];by_cases c6:x.Minute≤a
    ·rw [QV c6,cond_true,QN (show ¬ (s.From≤x.Minute∧x.Minute < s.End∧0≤x.Energy∧x.Energy≤10000∧a < x.Minute) by omega)]; rfl
    ·rw [QN c6,cond_false,Z,QV (show s.From≤x.Minute∧x.Minute < s.End∧0≤x.Energy∧x.Energy≤10000∧a < x.Minute by omega)]; rfl
 rw [key];by_cases J:s.From < 0
 ·rw [QV J,cond_true,QE,cond_true,QN zo]; rfl
 rw [QN J,cond_false];by_cases Y:s.To≤s.From
 ·rw [QV Y,cond_true,QE,cond_true,QN zo]; rfl
 rw [QN Y,cond_false];by_cases c3:52560000 < s.To
 ·rw [QV c3,cond_true,QE,cond_true,QN zo]; rfl
 rw [QN c3,cond_false,Qz (x:=s.To - s.From) zo zo];by_cases c4:2880 < s.To - s.From
 ·rw [QV c4,cond_true,QE,cond_true,QN zo]; rfl
 rw [QN c4,cond_false];by_cases O:s.End < s.From
 ·rw [QV O,cond_true,QE,cond_true,QN zo]; rfl
 rw [QN O,cond_false];by_cases c6:s.To < s.End
 ·rw [QV c6,cond_true,QE,cond_true,QN zo]; rfl
 rw [QN c6,cond_false,QE];by_cases c7:s.Slices.length≤48
 ·rw [QN (show ¬ (48:Int) < s.Slices.length by omega),cond_false,QV (show 0≤s.From∧s.From < s.To∧s.To≤52560000∧s.To - s.From≤2880∧s.From≤s.End∧s.End≤s.To∧s.Slices.length≤48 by omega)]; rfl
 ·rw [QV (show (48:Int) < s.Slices.length by omega),cond_true,QN (show ¬ (0≤s.From∧s.From < s.To∧s.To≤52560000∧s.To - s.From≤2880∧s.From≤s.End∧s.End≤s.To∧s.Slices.length≤48) by omega)]; rfl
theorem jC {f e:Int}:∀ {l:List HZ} {p:Int},slB f e p l=true→∀ x ∈ l,f≤x.Minute∧x.Minute < e∧0≤x.Energy∧x.Energy≤10000
 | [],_,_,x,G=>by cases G
 | y :: r,p,h,x,G=>by
  simp only [slB,Zf,decide_eq_true_eq] at h;rcases List.mem_cons.1 G with rfl | G
  ·omega
  ·exact jC h.2 x G
theorem Du (c:Kn) (a:QT):∀ (l:List HZ) (z:Int),(∀ x ∈ l,0≤x.Energy∧x.Energy≤10000)→0≤z→z+10000 * l.length≤10000000→0≤Nb c a z l∧Nb c a z l≤z+10000 * l.length
 | [],z,_,h0,J=>by
  show 0≤z∧z≤z+10000 * ((0:Nat):Int);omega
 | x :: r,z,h,h0,J=>by
  have O:=h x List.mem_cons_self;simp only [Y6] at J ⊢;unfold Nb;split
  ·rw [Qz zo zo];have:=Du c a r (z+x.Energy) (fun y G=>h y (List.mem_cons_of_mem _ G)) zo zo;omega
  ·have:=Du c a r z (fun y G=>h y (List.mem_cons_of_mem _ G)) zo zo;omega
theorem Qb7 (n:Nat) (c:Kn) (a:QT) (s:YN) (Z:1000≤n) (Y:c.Changes.length≤900) (h2:c.Holidays.length≤900) (hc:Ru c=true) (ha:Tv a=true) (hl:s.Slices.length≤900) (hs:∀ x ∈ s.Slices,0≤x.Minute∧x.Minute≤52560000) :
  La n a c s=some (Nb c a 0 s.Slices):=by
 unfold La;have:=TA (l:=s.Slices) (B:=fun G (v:Int × Int)=>Yu n a c s G v.1 v.2) (F:=Nb c a) zo ?_ ?_ (n:=n) 0 0 zo zo
 ·exact this
 ·intro rec z;have h:Qs ((s.Slices.length:Nat):Int) (Qb (List.map HZ.cs s.Slices))=false:=by simp [Qs,Qb]
  show Yu n a c s rec z ((s.Slices.length:Nat):Int)=some z;unfold Yu;rw [h,cond_false]
 ·intro rec z i x r hd O hi hw J
  have h3:Qs (i:Int) (Qb (List.map HZ.cs s.Slices))=true:=by
   simp only [Qs,Qb,List.length_map];rw [QV zo]
  show Yu n a c s rec z (i:Int)=some (Nb c a z (x :: r));unfold Yu Nb;rw [h3,cond_true,Zh,O,QE,y7 n c a x.Minute Z Y h2 hc ha (hs x (List.mem_of_getElem? O)),QE,QE,hw,J,J];cases Py c a x.Minute
  ·rfl
  ·rfl
theorem Ul (n:Nat) (x:Int):Ym n x=some (decide (0≤x∧x≤1000000000)):=by
 unfold Ym;by_cases h:0≤x <;> simp [leI,h]
theorem Aw (n:Nat) (x:Int) (h:0≤x):KT n x=some (if x≤1000000000 then (x,0) else (0,3)):=by
 unfold KT;rw [Ul,QE];by_cases G:x≤1000000000
 ·rw [QV ⟨h,G⟩,if_pos G]; rfl
 ·rw [QN (fun h=>G h.2),if_neg G]; rfl
theorem Az {x y X Y:Int} (G:0≤x∧x≤X) (J:0≤y∧y≤Y):0≤x * y∧x * y≤X * Y :=
 ⟨Int.mul_nonneg G.1 J.1,Int.mul_le_mul G.2 J.2 J.1 (Int.le_trans G.1 G.2)⟩
theorem rP (n:Nat) (p q:Int) (hp:0≤p∧p≤1000000) (hq:0≤q∧q≤480000) :
  Xf n p q 1000=some (if wi (Int.tdiv (wi (wi (wi (2 * p) * q)+1000)) 2000)≤1000000000 then (wi (Int.tdiv (wi (wi (wi (2 * p) * q)+1000)) 2000),0) else (0,3))∧0≤wi (Int.tdiv (wi (wi (wi (2 * p) * q)+1000)) 2000):=by
 have hb:=Az hp hq;have e1:wi (p * q)=p * q:=Qz zo zo;have e2:wi (2 * p)=2 * p:=Qz zo zo;have Z:2 * p * q=2 * (p * q):=Int.mul_assoc ..;have Y:wi (2 * (p * q))=2 * (p * q):=Qz zo zo;have G:wi (2 * (p * q)+1000)=2 * (p * q)+1000:=Qz zo zo;have J:Int.tdiv (2 * (p * q)+1000) 2000=(2 * (p * q)+1000) / 2000:=Int.tdiv_eq_ediv_of_nonneg zo;have O:wi ((2 * (p * q)+1000) / 2000)=(2 * (p * q)+1000) / 2000:=Qz zo zo;rw [e2,Z,Y,G,J,O];refine ⟨?_,by omega⟩;unfold Xf Ve;simp only [Ul,QE];rw [QV (show 0≤p∧p≤1000000000 by omega),QV (show 0≤q∧q≤1000000000 by omega)];simp only [Bool.not_true,cond_false,QE,show Qs 1000 1=false from rfl,show Qs 1000000000 1000=false from rfl];rw [show wi (2 * 1000)=2000 from rfl,show (!Qp 2000 0)=true from rfl,cond_true,QE,e1,Y,G,J,O,Aw n _ zo,QE]
theorem aK (n:Nat) (p q u:Int) (hp:0≤p∧p≤1000000) (hq:0≤q∧q≤3000) (hu:1≤u∧u≤1440) :
  KU n p q u=some (if wi (p * wi (Int.tdiv (wi (wi (q+u) - 1)) u))≤1000000000 then (wi (p * wi (Int.tdiv (wi (wi (q+u) - 1)) u)),0) else (0,3))∧0≤wi (p * wi (Int.tdiv (wi (wi (q+u) - 1)) u)):=by
 have Y:wi (q+u)=q+u:=Qz zo zo;have O:wi (q+u - 1)=q+u - 1:=Qz zo zo;have G:Int.tdiv (q+u - 1) u=(q+u - 1) / u:=Int.tdiv_eq_ediv_of_nonneg zo
 have hd:0≤(q+u - 1) / u∧(q+u - 1) / u≤5000:=by
  constructor
  ·exact Int.ediv_nonneg zo zo
  ·have:=Int.ediv_le_self (a:=q+u - 1) u zo;omega
 have Z:wi ((q+u - 1) / u)=(q+u - 1) / u:=Qz zo zo;have hb:=Az hp hd;have J:wi (p * ((q+u - 1) / u))=p * ((q+u - 1) / u):=Qz zo zo;rw [Y,O,G,Z,J];refine ⟨?_,hb.1⟩;unfold KU;simp only [Ul,QE];rw [QV (show 0≤p∧p≤1000000000 by omega),QV (show 0≤q∧q≤1000000000 by omega)];simp only [Bool.not_true,cond_false,Qs,Q5];rw [QN (show ¬ u < 1 by omega),cond_false,QE,QN (show ¬ 1000000000 < u by omega),cond_false,QN (show ¬ u=0 by omega),Bool.not_false,cond_true,Y,O,G,Z,J,Aw n _ hb.1,QE]
theorem Qb8 (n:Nat) (c:Kn) (a:QT) (f t:Int) (hn:10000≤n) (h1:c.Changes.length≤900) (h2:c.Holidays.length≤900) (hc:Ru c=true) (Y:Tv a=true) (G:a.Kind=3∨a.Kind=4) (hf:0≤f) (ht:t≤52560000) (hk:t - f≤2880) :
  ((Vf n a c f t).bind fun r=>(KU n a.Price (Jq 0 (wi (r - a.Free))) a.Unit).bind fun r=>some (r.1,r.2))=some (if Ar c a f t≤1000000000 then (Ar c a f t,0) else (0,3))∧0≤Ar c a f t:=by
 have J:=TB Y;have O:=J.unit G;have aa:=fw c a (t - f).toNat f
 have eq:Jq 0 (wi (cN c a (t - f).toNat f - a.Free))=Jq 0 (cntF c a (t - f).toNat f (wi (0 - a.Free))):=by
  rw [Qz (x:=0 - a.Free) zo zo,jB c a _ _ _ zo zo,Qz zo zo];congr 1;omega
 have Z:0≤Jq 0 (wi (cN c a (t - f).toNat f - a.Free))∧Jq 0 (wi (cN c a (t - f).toNat f - a.Free))≤3000:=by
  rw [Qz zo zo];unfold Jq;split <;> omega
 have hs:=aK n a.Price _ a.Unit J.price Z ⟨O.1,O.2.1⟩;rw [eq] at hs;unfold Ar;refine ⟨?_,hs.2⟩;rw [Av n c a f t hn h1 h2 hc Y hf ht hk,QE,eq,hs.1,QE]
theorem QhK (n:Nat) (c:Kn) (a:QT) (s:YN) (hn:10000≤n) (J:c.Changes.length≤900) (h2:c.Holidays.length≤900) (hc:Ru c=true) (G:Tv a=true) (hv:kY s=true) :
  Sd n a c s=some (if Si c s a≤1000000000 then (Si c s a,0) else (0,3))∧0≤Si c s a:=by
 have hA:=TB G;have Y:=hv;simp only [kY,Zf,decide_eq_true_eq] at Y;obtain ⟨hr,hs⟩:=Y;unfold Sd Si;rw [Au,Qb4 n c zo J h2,I6 n s zo zo (by unfold R4; omega),G,hc,hv];simp only [QE,Bool.not_true,cond_false,Q5];by_cases k1:a.Kind=1
 ·rw [QV k1,cond_true,if_pos k1,Qz (x:=s.From+1) zo zo,Av n c a s.From (s.From+1) hn J h2 hc G hr.1 zo zo,QE];rw [show (s.From+1 - s.From).toNat=1 from by omega];unfold cN cN;have:=hA.price;cases Py c a s.From
  ·refine ⟨?_,by simp⟩;simp;rfl
  ·rw [if_pos rfl,if_pos rfl,if_pos zo,show (1:Int)+0=1 from rfl,Int.mul_one,Qz zo zo];exact ⟨rfl,this.1⟩
 rw [QN k1,cond_false,if_neg k1];by_cases k2:a.Kind=2
 ·rw [QV k2,cond_true,if_pos k2];have hm:=jC hs;rw [Qb7 n c a s zo J h2 hc G zo (fun x hx=>by have:=hm x hx; omega),QE];have he:=Du c a s.Slices 0 (fun x hx=>by have:=hm x hx; omega) zo zo;have ht:=rP n a.Price (Nb c a 0 s.Slices) hA.price zo;refine ⟨?_,ht.2⟩;rw [ht.1,QE]
 rw [QN k2,cond_false,if_neg k2];by_cases Z:a.Kind=3
 ·rw [QV Z,cond_true,if_pos Z];exact Qb8 n c a s.From s.To hn J h2 hc G (Or.inl Z) hr.1 zo zo
 rw [QN Z,cond_false,if_neg Z];by_cases O:a.Kind=4
 ·rw [QV O,cond_true,if_pos O];exact Qb8 n c a s.End s.To hn J h2 hc G (Or.inr O) zo zo zo
 rw [QN O,cond_false,if_neg O];exact ⟨rfl,by omega⟩
theorem Qb9 {l:List α} {x:α} {r:List α} (h:l.drop i=x :: r) (hi:i < l.length):l.length - (r.length+1)=i∧l.length - r.length=i+1:=by
 have:=congrArg List.length h;simp only [List.length_drop,Y6] at this;omega
theorem aL (x:Ka) (r:List Ka):kX (x :: r)=(decide (x.Amount≤1000000000)&&kX r):=by
 unfold kX;rw [List.all_cons]
def fA:Int→List QT→Int
 | k,[]=>k
 | k,a :: r=>fA (if a.Kind=5 then (if k < 0∨a.Price < k then a.Price else k) else k) r
def Sj (k z:Int):Int:=if 0≤k∧k < z then k else z
theorem pV:∀ (l:List QT) (k z:Int),(∀ a ∈ l,0≤a.Price)→QeR (Sj k z) l=Sj (fA k l) z
 | [],k,z,_=>rfl
 | a :: r,k,z,h=>by
  have Z:=h a List.mem_cons_self;unfold QeR fA;by_cases J:a.Kind=5
  ·rw [if_pos J,if_pos J,← pV r _ z (fun x O=>h x (List.mem_cons_of_mem _ O))];congr 1;unfold Sj Ls;by_cases Y:0≤k∧k < z
   ·rw [if_pos Y];by_cases G:k < 0∨a.Price < k
    ·rw [if_pos G];split <;> first | omega | (split <;> omega)
    ·rw [if_neg G];split <;> first | omega | (split <;> omega)
   ·rw [if_neg Y];by_cases G:k < 0∨a.Price < k
    ·rw [if_pos G];split <;> first | omega | (split <;> omega)
    ·rw [if_neg G];split <;> first | omega | (split <;> omega)
  ·rw [if_neg J,if_neg J];exact pV r k z (fun x O=>h x (List.mem_cons_of_mem _ O))
theorem QjK (n:Nat) (G rate:Int) (hn:0≤G∧G≤1000000000) (Y:0≤rate∧rate≤10000):XU n G rate=some (I5 G rate,0)∧0≤I5 G rate∧I5 G rate≤G+1:=by
 have hb:=Az hn Y;have aa:G * rate≤G * 10000:=Int.mul_le_mul_of_nonneg_left Y.2 hn.1;have e1:wi (G * rate)=G * rate:=Qz zo zo;have e2:wi (2 * G)=2 * G:=Qz zo zo;have e3:2 * G * rate=2 * (G * rate):=Int.mul_assoc ..;have e4:wi (2 * (G * rate))=2 * (G * rate):=Qz zo zo;have J:wi (2 * (G * rate)+10000)=2 * (G * rate)+10000:=Qz zo zo;have O:Int.tdiv (2 * (G * rate)+10000) 20000=(2 * (G * rate)+10000) / 20000:=Int.tdiv_eq_ediv_of_nonneg zo;have Z:wi ((2 * (G * rate)+10000) / 20000)=(2 * (G * rate)+10000) / 20000:=Qz zo zo;unfold I5;rw [e2,e3,e4,J,O,Z];refine ⟨?_,by omega,by omega⟩;unfold XU Ve;simp only [Ul,QE,Qs];rw [QV (show 0≤G∧G≤1000000000 by omega),Bool.not_true,cond_false,QN (show ¬ rate < 0 by omega),cond_false,QE,QN (show ¬ 100000 < rate by omega),cond_false];rw [show wi (2 * 10000)=20000 from rfl,show (!Qp 20000 0)=true from rfl,cond_true,QE,e1,e4,J,O,Z,Aw n _ zo,QE,if_pos zo]
def zN:Ke:=⟨[],0,0,0⟩
theorem pW (n:Nat) (s:List UInt8) (hn:1000≤n):Uc n s=some (decide (1≤s.length∧s.length≤12)&&decide (∀ x ∈ s.head?,97≤Zy x∧Zy x≤122)&&s.all jw):=by
 unfold Uc;simp only [Qb,Qs];cases s with
 | nil=>simp
 | cons x r =>
  rw [QN (show ¬ (((x :: r).length:Nat):Int) < 1 by simp only [Y6]; omega),cond_false];by_cases hl:(x :: r).length≤12;rotate_left
  ·rw [QV (show (12:Int) < (((x :: r).length:Nat):Int) by omega),QN (show ¬ (1≤(x :: r).length∧(x :: r).length≤12) by omega)]; rfl
  rw [QN (show ¬ (12:Int) < (((x :: r).length:Nat):Int) by omega),cond_false,QV (show 1≤(x :: r).length∧(x :: r).length≤12 by simp only [Y6] at hl ⊢; omega)];rw [show QU (x :: r) 0=some x from rfl]
  have J:Qn (fun G O=>Yz (x :: r) G O) n 1=some (r.all jw):=by
   have:=Tz (l:=x :: r) (B:=fun G O=>Yz (x :: r) G O) (F:=fun r=>r.all jw) zo ?_ ?_ (n:=n) 1 zq zo
   ·simpa using this
   ·intro rec; simp [Yz,Qs,Qb]
   ·intro rec i y q hd hx hi hw hr;unfold Yz;simp only [Qb,Zh,hx,QE,hw,hr,Qs,leI,Qp,Qq];rw [QV zo,cond_true,List.all_cons];rw [QeQ,jw];cases decide ((97≤Zy y∧Zy y≤122)∨(48≤Zy y∧Zy y≤57)∨Zy y=95) <;> simp
  rw [J];simp only [QE,Qq,List.head?_cons,Option.mem_def,QO,forall_eq',Bool.true_and,List.all_cons];by_cases Y:Zy x < 97
  ·rw [QV Y,QN (show ¬ (97≤Zy x∧Zy x≤122) by omega)]; rfl
  ·rw [QN Y,cond_false];by_cases h2:122 < Zy x
   ·rw [QV h2,QN (show ¬ (97≤Zy x∧Zy x≤122) by omega)]; rfl
   ·have Z:97≤Zy x∧Zy x≤122:=by omega
    have h4:jw x=true:=by unfold jw; rw [QV]; exact Or.inl Z
    rw [QN h2,QV Z,h4]; rfl
theorem cnz (b:Bool) (k r:Int) (G:k ≠ 0):(!Qp (bif b then k else r) 0)=(b||!Qp r 0):=by
 cases b
 ·rfl
 ·simp [Qp,G]
theorem jD (n:Nat) (s:List UInt8):UN n s=some (Tu s):=by
 unfold UN VD Yy Kg YX;rw [Qb3];simp only [Qq,QE,cse,cst,keyL,NA,WY,Q7,WZ,Option.getD_some,List.cons_append,List.nil_append,List.contains_cons,List.contains_nil,Bool.or_false,Qr];rw [cnz _ 1 _ (by decide),cnz _ 2 _ (by decide),cnz _ 3 _ (by decide),cnz _ 4 _ (by decide),cnz _ 5 _ (by decide),cnz _ 6 _ (by decide),cnz _ 7 _ (by decide),show (!Qp 0 0)=false from rfl];simp only [Bool.or_assoc,Bool.or_false]
theorem Pz (n:Nat) (s:List UInt8) (G:1000≤n):JN n s=some (Uw s):=by
 unfold JN Uw;rw [pW n s G,QE,jD,QE,Qq];generalize decide (1≤s.length∧s.length≤12)=a;generalize decide (∀ x ∈ s.head?,97≤Zy x∧Zy x≤122)=b;generalize s.all jw=c;generalize Tu s=d;cases a <;> cases b <;> cases c <;> cases d <;> rfl
theorem Qca (k:Int) (s:List UInt8) (m t:Int) (l:List (List PV)):GN.of (GN.cs ⟨k,s,m,t,l⟩)=some ⟨k,s,m,t,l⟩:=by
 unfold GN.cs GN.of;simp only [Wt,TN,if_true]
theorem Qcb (n:Nat) (s:List UInt8) (O:1000≤n):WV n (⟨1,[],0,0,[GN.cs (⟨2,s,3,0,[]⟩:GN)]⟩:GN)=some (Uw s):=by
 obtain ⟨m,rfl⟩:∃ m,n=m+2:=⟨n - 2,by omega⟩
 have G:VF (m+2) (⟨2,s,3,0,[]⟩:GN) 1498=some (Uw s,1498):=by
  unfold VF;rw [Pz (m+2) s O];simp only [show (!Qp 2 2)=false from rfl,show Qs 3 1=false from rfl,show Qs 7 3=false from rfl,cond_false,QE];cases Uw s
  ·rfl
  ·unfold Qn; rfl
 unfold WV;have Y:((bif !Qp 1 1 then some true else bif !Qr [] [] then some true else bif !Qp 0 0 then some true else some (Qs (wi (1499 - Qb (List.map Zq [GN.cs (⟨2,s,3,0,[]⟩:GN)]))) 0)))=some false:=rfl;have J:wi (1499 - Qb (List.map Zq [GN.cs (⟨2,s,3,0,[]⟩:GN)]))=1498:=rfl;simp only;rw [Y,QE,cond_false,J];unfold Qn;simp only [Wy];rw [show Qs 0 (Qb (List.map Zq [GN.cs (⟨2,s,3,0,[]⟩:GN)]))=true from rfl,cond_true,show QU [GN.cs (⟨2,s,3,0,[]⟩:GN)] 0=some (GN.cs (⟨2,s,3,0,[]⟩:GN)) from rfl,QE,Qca,QE,G,QE];cases Uw s
 ·rfl
 ·unfold Qn; rfl
theorem Qcc (n:Nat) (x a b:Int):YZ n x a b=some (decide (a≤x∧x≤b)):=by
 unfold YZ leI;by_cases h:a≤x <;> simp [h]
theorem MX (n:Nat) (a:QT):K7 n a=some (Tv a):=by
 have bad:¬ Art a→some false=some (Tv a):=by
  intro h;cases hb:Tv a
  ·rfl
  ·exact absurd (TB hb) h
 unfold K7 Vp YY;simp only [Qcc,QE];by_cases G:1≤a.Kind∧a.Kind≤6;rotate_left
 ·rw [QN G]; exact bad (fun h=>G h.kind)
 rw [QV G];by_cases J:0≤a.From∧a.From≤1439;rotate_left
 ·rw [QN J]; exact bad (fun h=>J h.from_)
 rw [QV J,Qz (x:=a.From+1) zo zo];by_cases O:a.From+1≤a.To∧a.To≤1440;rotate_left
 ·rw [QN O]; exact bad (fun h=>by have:=h.to_; omega)
 rw [QV O];by_cases c8:1≤a.Days∧a.Days≤7;rotate_left
 ·rw [QN c8]; exact bad (fun h=>c8 h.days)
 rw [QV c8];unfold Tv JV;simp only [zL,Qq,QE,Option.getD_some,Q5,Bool.not_true,cond_false];rw [QO,Bool.eq_iff_iff];obtain ⟨k,d,f,t,p,u,v⟩:=a;simp only at G J O c8;simp only [Bool.cond_eq_ite];have Y:k=1∨k=2∨k=3∨k=4∨k=5∨k=6:=by omega
 rcases Y with rfl | rfl | rfl | rfl | rfl | rfl <;> simp [leI,Qs] <;> omega
theorem Qcd (n:Nat) (t:Ky) (hn:1000≤n):UR n t=some (LW t):=by
 unfold UR LW;rw [Qcb n t.Name hn];simp only [QE,Qq,Qb,List.length_map,Qs];cases hname:Uw t.Name
 ·rfl
 by_cases Y:t.Articles.length≤12;rotate_left
 ·rw [QV (show (12:Int) < t.Articles.length by omega),QN Y]; rfl
 rw [QN (show ¬ (12:Int) < t.Articles.length by omega),QV Y];simp only [Bool.not_true,cond_false,Bool.true_and];have:=Lc (l:=t.Articles) (fun (a:Int) i=>(a,i)) (B:=fun G (v:Int × Int)=>JO n t G v.1 v.2) (F:=I4) (fun i a=>0≤a∧a≤i) zo ?_ ?_ (n:=n) 0 0 zo zo zo
 ·exact this
 ·intro rec a ha;simp only [JO,Qb,List.length_map,Qs,leI];rw [QN zo,cond_false];rfl
 ·intro rec a i x r ha hd hx hi hw Z;simp only [JO,Qb,List.length_map,Qs,Zh,hx,QE,MX,hw,Q5];rw [QV zo,cond_true,I4];cases hb:Tv x
  ·rfl
  ·have O:wi (a+1)=a+1:=Qz zo zo;simp only [Bool.not_true,cond_false,Bool.true_and];by_cases J:x.Kind=6
   ·rw [QV J,cond_true,if_pos J,O,Z _ zo]
   ·rw [QN J,cond_false,if_neg J,Z _ zo]
def pX:Int→List XN→Bool
 | _,[]=>true
 | a,x :: r=>decide (a < x.At∧x.At≤52560000)&&pX x.At r
def chO (l:List XN):Bool:=l.all (fun x=>decide (-1440≤x.Offset∧x.Offset≤1440))
theorem jE:∀ (l:List XN) (a:Int),jy a l=(chO l&&pX a l)
 | [],_=>rfl
 | x :: r,a=>by
  unfold jy pX;rw [jE r x.At,show chO (x :: r)=(decide (-1440≤x.Offset∧x.Offset≤1440)&&chO r) from List.all_cons];by_cases G:a < x.At∧x.At≤52560000
  ·by_cases J:-1440≤x.Offset∧x.Offset≤1440
   ·rw [QV (show a < x.At∧x.At≤52560000∧-1440≤x.Offset∧x.Offset≤1440 by omega),QV G,QV J]; rfl
   ·rw [QN (show ¬ (a < x.At∧x.At≤52560000∧-1440≤x.Offset∧x.Offset≤1440) by omega),QN J]; rfl
  ·rw [QN (show ¬ (a < x.At∧x.At≤52560000∧-1440≤x.Offset∧x.Offset≤1440) by omega),QN G];simp
theorem MZ (n:Nat) (x a b:Int):YJ n x a b=some (decide (a≤x∧x≤b)):=by
 unfold YJ leI;by_cases h:a≤x <;> simp [h]
theorem QeU (n:Nat) (l:List XN) (hn:1000≤n) (hl:l.length≤900):WM n l 52560000=some (pX (-1) l):=by
 unfold WM;have:=TA (l:=l) (B:=fun G (v:Int × Int)=>K8 n l 52560000 G v.1 v.2) (F:=pX) zo ?_ ?_ (n:=n) 0 (-1) zo zo
 ·exact this
 ·intro rec a; simp [K8,Qs,Qb,pX]
 ·intro rec a i x r hd hx hi Y Z;simp only [K8,WW,Qb,List.length_map,Zh,hx,QE,Y,Z,Qs,leI,pX,Qq];rw [QV zo,cond_true];by_cases J:x.At≤a
  ·rw [QV J,QN (show ¬ (a < x.At∧x.At≤52560000) by omega)]; rfl
  ·rw [QN J];by_cases O:52560000 < x.At
   ·rw [QV O,QN (show ¬ (a < x.At∧x.At≤52560000) by omega)]; rfl
   ·rw [QN O,QV (show a < x.At∧x.At≤52560000 by omega)]; rfl
theorem QeV (n:Nat) (l:List Int) (hn:1000≤n) (hl:l.length≤900):BD n l 36500=some (BK (-1) l):=by
 unfold BD;have:=TA (l:=l) (B:=fun G (v:Int × Int)=>XP n l 36500 G v.1 v.2) (F:=BK) zo ?_ ?_ (n:=n) 0 (-1) zo zo
 ·exact this
 ·intro rec a; simp [XP,Qs,Qb,BK]
 ·intro rec a i x r hd hx hi Y Z;simp only [XP,WX,Qb,List.length_map,Zh,hx,QE,Y,Z,Qs,leI,BK,Qq];rw [QV zo,cond_true];by_cases J:x≤a
  ·rw [QV J,QN (show ¬ (a < x∧x≤36500) by omega)]; rfl
  ·rw [QN J];by_cases O:36500 < x
   ·rw [QV O,QN (show ¬ (a < x∧x≤36500) by omega)]; rfl
   ·rw [QN O,QV (show a < x∧x≤36500 by omega)]; rfl
theorem Qce (n:Nat) (c:Kn) (Z:1000≤n) (h1:c.Changes.length≤900) (h2:c.Holidays.length≤900):YG n c=some (Ru c):=by
 have key:Qn (fun G J=>YB n c G J) n 0=some (chO c.Changes&&(pX (-1) c.Changes&&BK (-1) c.Holidays)):=by
  have:=Tz (l:=c.Changes) (B:=fun G J=>YB n c G J) (F:=fun r=>chO r&&(pX (-1) c.Changes&&BK (-1) c.Holidays)) zo ?_ ?_ (n:=n) 0 zo zo
  ·exact this
  ·intro rec;simp only [YB,Y9,Qb,List.length_map,Qs,QeU n _ Z h1,QeV n _ Z h2,QE,Qq];rw [QN zo,cond_false];cases pX (-1) c.Changes <;> rfl
  ·intro rec i x r hd hx hi hw hr;simp only [YB,Qb,List.length_map,Zh,hx,QE,hw,hr,Qs,MZ];rw [QV zo,cond_true,show chO (x :: r)=(decide (-1440≤x.Offset∧x.Offset≤1440)&&chO r) from List.all_cons];cases decide (-1440≤x.Offset∧x.Offset≤1440) <;> rfl
 unfold YG Ru;rw [key,jE];simp only [MZ,QE,Qq,Qb,List.length_map,Qs];by_cases O:c.Changes.length≤16;rotate_left
 ·rw [QV (show (16:Int) < c.Changes.length by omega),QN O]; simp
 rw [QN (show ¬ (16:Int) < c.Changes.length by omega),QV O];by_cases Y:c.Holidays.length≤32;rotate_left
 ·rw [QV (show (32:Int) < c.Holidays.length by omega),QN Y]; simp
 rw [QN (show ¬ (32:Int) < c.Holidays.length by omega),QV Y];generalize decide (-1440≤c.Offset∧c.Offset≤1440)=b0;generalize chO c.Changes=b1;generalize pX (-1) c.Changes=b2;generalize BK (-1) c.Holidays=b3;cases b0 <;> cases b1 <;> cases b2 <;> cases b3 <;> rfl
theorem Qcf:∀ (l:List XN) (a:Int),pX a l=true→(∀ x ∈ l,a < x.At)∧l.Pairwise (fun x y=>x.At < y.At)
 | [],_,_=>⟨(fun x h=>by cases h),List.Pairwise.nil⟩
 | x :: r,a,h=>by
  simp only [pX,Zf,decide_eq_true_eq] at h;obtain ⟨J,O⟩:=Qcf r x.At h.2;refine ⟨fun y G=>?_,List.pairwise_cons.2 ⟨J,O⟩⟩;rcases List.mem_cons.1 G with rfl | G
  ·exact h.1.1
  ·have:=J y G; omega
theorem jF:∀ (l:List Int) (a:Int),BK a l=true→(∀ x ∈ l,a < x)∧l.Pairwise (fun x y=>x < y)
 | [],_,_=>⟨(fun x h=>by cases h),List.Pairwise.nil⟩
 | x :: r,a,h=>by
  simp only [BK,Zf,decide_eq_true_eq] at h;obtain ⟨J,O⟩:=jF r x h.2;refine ⟨fun y G=>?_,List.pairwise_cons.2 ⟨J,O⟩⟩;rcases List.mem_cons.1 G with rfl | G
  ·exact h.1.1
  ·have:=J y G; omega
structure jG {α:Type} (key:α→Int) (l:List α) (m r:Int):Prop where
 lo:-1≤r
 hi:r < l.length
 le:∀ (i:Nat) (x:α),(i:Int)≤r→l[i]?=some x→key x≤m
 gt:∀ (i:Nat) (x:α),r < (i:Int)→l[i]?=some x→m < key x
theorem fB {key:α→Int} {l:List α} {m:Int} {B:(Int × Int→Option Int)→Int × Int→Option Int} (hl:l.length≤900) (hs:l.Pairwise (fun x y=>key x < key y))
  (hB:∀ rec lo hi,B rec (lo,hi)=cond (Qs lo hi) ((QU l (wi (lo+wi (Int.tdiv (wi (wi (hi - lo)+1)) 2)))).bind fun x=>cond (leI (key x) m) (rec (wi (lo+wi (Int.tdiv (wi (wi (hi - lo)+1)) 2)),hi)) (rec (lo,wi (wi (lo+wi (Int.tdiv (wi (wi (hi - lo)+1)) 2)) - 1)))) (some lo))
  (hn:1000≤n):Does (Qn B n (-1,(l.length:Int) - 1)) (jG key l m):=by
 have:=Ja (B:=B) (Q:=fun _ r=>jG key l m r) (fun v=>(v.2 - v.1).toNat) (fun v=>-1≤v.1∧v.1≤v.2∧v.2 < l.length∧(∀ (i:Nat) (x:α),(i:Int)≤v.1→l[i]?=some x→key x≤m)∧(∀ (i:Nat) (x:α),v.2 < (i:Int)→l[i]?=some x→m < key x)) ?_ (n:=n) (v:=(-1,(l.length:Int) - 1)) ⟨by simp,by simp; omega,by simp; omega,fun i x h=>by simp only at h; omega,fun i x h O=>by
  have:=(List.getElem?_eq_some_iff.1 O).1;simp only at h;omega⟩ (by simp only; omega)
 ·exact this
 ·rintro rec ⟨lo,hi⟩ ⟨h1,h2,h3,h4,h5⟩ ih;simp only at h1 h2 h3 h4 h5 ih;rw [hB];by_cases hlt:lo < hi;rotate_left
  ·rw [show Qs lo hi=false from by simp only [Qs]; rw [QN hlt],cond_false];exact QL ⟨h1,by omega,h4,fun i x Z O=>h5 i x zo O⟩
  rw [show Qs lo hi=true from by simp only [Qs]; rw [QV hlt],cond_true];rw [Qz (x:=hi - lo) zo zo,Qz (x:=hi - lo+1) zo zo,Int.tdiv_eq_ediv_of_nonneg zo,Qz (x:=(hi - lo+1) / 2) zo zo,Qz (x:=lo+(hi - lo+1) / 2) zo zo,Qz (x:=lo+(hi - lo+1) / 2 - 1) zo zo];generalize ab:lo+(hi - lo+1) / 2=Y;have hm:lo < Y∧Y≤hi:=by omega
  obtain ⟨j,rfl⟩:∃ j:Nat,Y=(j:Int):=⟨Y.toNat,by omega⟩;have O:l[j]?=some (l[j]'zo):=by rw [List.getElem?_eq_getElem]
  generalize l[j]'zo=x at O;rw [Zh,O,QE];refine Yb (fun hc=>?_) (fun hc=>?_)
  ·simp only [leI,decide_eq_true_eq] at hc;refine ih (j,hi) ⟨by simp only; omega,by simp only; omega,h3,fun i y Z hy=>?_,h5⟩ (by simp only; omega);simp only at Z;by_cases e:i=j
   ·subst e;rw [O] at hy; cases hy;exact hc
   ·have aa:i < j:=by omega
    have J:=List.getElem?_eq_some_iff.1 hy;have G:=List.getElem?_eq_some_iff.1 O;have:=List.pairwise_iff_getElem.1 hs i j J.1 G.1 aa;rw [J.2,G.2] at this;omega
  ·simp only [leI,decide_eq_false_iff_not] at hc;refine ih (lo,(j:Int) - 1) ⟨h1,by simp only; omega,by simp only; omega,h4,fun i y Z hy=>?_⟩ (by simp only; omega);simp only at Z;by_cases e:i=j
   ·subst e;rw [O] at hy; cases hy;omega
   ·have aa:j < i:=by omega
    have J:=List.getElem?_eq_some_iff.1 hy;have G:=List.getElem?_eq_some_iff.1 O;have:=List.pairwise_iff_getElem.1 hs j i G.1 J.1 aa;rw [J.2,G.2] at this;omega
theorem QeW (n:Nat) (l:List XN) (m:Int) (J:1000≤n) (O:l.length≤900) (hs:pX (-1) l=true):Does (KI n l m) (jG XN.At l m):=by
 unfold KI;simp only [Qb,List.length_map];rw [Qz (x:=(l.length:Int) - 1) zo zo];exact fB (B:=fun G (v:Int × Int)=>KX n l m G v.1 v.2) O (Qcf l _ hs).2 (fun rec lo hi=>rfl) J
theorem QeX (n:Nat) (l:List Int) (m:Int) (J:1000≤n) (O:l.length≤900) (hs:BK (-1) l=true):Does (WO n l m) (jG (fun x=>x) l m):=by
 unfold WO;simp only [Qb,List.length_map];rw [Qz (x:=(l.length:Int) - 1) zo zo];exact fB (key:=fun x=>x) (B:=fun G (v:Int × Int)=>WB n l m G v.1 v.2) O (jF l _ hs).2 (fun rec lo hi=>rfl) J
theorem jH (m:Int):∀ (l:List XN) (o:Int),(∀ x ∈ l,m < x.At)→Gy m o l=o
 | [],_,_=>rfl
 | x :: r,o,h=>by
  have:=h x List.mem_cons_self;unfold Gy;rw [if_neg zo];exact jH m r o (fun y G=>h y (List.mem_cons_of_mem _ G))
theorem rQ (m:Int):∀ (l:List XN) (o:Int) (k:Nat) (x:XN),l[k]?=some x→(∀ (i:Nat) (y:XN),i≤k→l[i]?=some y→y.At≤m)→(∀ (i:Nat) (y:XN),k < i→l[i]?=some y→m < y.At)→Gy m o l=x.Offset
 | [],_,_,_,h,_,_=>by simp at h
 | z :: r,o,0,x,h,J,O=>by
  simp at h;subst h;unfold Gy;rw [if_pos (J 0 z (Nat.le_refl _) rfl)]
  exact jH m r _ (fun y G=>by
   obtain ⟨i,hi⟩:=List.mem_iff_getElem?.1 G;exact O (i+1) y zo (by simpa using hi))
 | z :: r,o,k+1,x,h,J,O=>by
  unfold Gy;exact rQ m r _ k x (by simpa using h) (fun i y hi G=>J (i+1) y zo (by simpa using G)) (fun i y hi G=>O (i+1) y zo (by simpa using G))
theorem fC (d:Int):∀ (l:List Int),BM d l=if d ∈ l then 2 else wkF d
 | []=>by simp [BM]
 | x :: r=>by
  unfold BM;rw [fC d r];by_cases h:x=d
  ·simp [h]
  ·simp [h,Ne.symm h]
theorem aM (x:Int) (b:Int) (h:x≤0):Int.tdiv x b=-((-x) / b)∧Int.tmod x b=-((-x) % b):=by
 obtain ⟨y,rfl⟩:∃ y:Int,x=-y:=⟨-x,by omega⟩;rw [Int.neg_tdiv,Int.neg_tmod,Int.neg_neg,Int.tdiv_eq_ediv_of_nonneg zo,Int.tmod_eq_emod_of_nonneg zo];exact ⟨rfl,rfl⟩
theorem fD (n:Nat) (x:Int) (h:-1440≤x∧x≤100000000):Vr n x 1440=some ((x+1440) / 1440 - 1,(x+1440) % 1440):=by
 unfold Vr;rw [show (!Qp 1440 0)=true from rfl,cond_true,cond_true];simp only [Qs];by_cases G:0≤x
 ·rw [Int.tdiv_eq_ediv_of_nonneg G,Int.tmod_eq_emod_of_nonneg G,QN zo,cond_false,Qz (x:=x / 1440) zo zo];congr 2
  ·omega
  ·omega
 ·obtain ⟨Y,O⟩:=aM x 1440 zo;rw [Y,O];by_cases J:-((-x) % 1440) < 0
  ·rw [QV J,cond_true,Qz (x:=-((-x) / 1440)) zo zo,Qz zo zo,Qz zo zo];congr 2
   ·omega
   ·omega
  ·rw [QN J,cond_false,Qz (x:=-((-x) / 1440)) zo zo];congr 2
   ·omega
   ·omega
theorem QeY (n:Nat) (c:Kn) (m:Int) (Z:1000≤n) (Y:c.Changes.length≤900) (h2:c.Holidays.length≤900) (hc:Ru c=true) (hm:0≤m∧m≤52560000) :
  Ue n c m=some ((m+Gy m c.Offset c.Changes+1440) / 1440 - 1,(m+Gy m c.Offset c.Changes+1440) % 1440,0):=by
 have ho:=jA m hc;have hc':=hc;simp only [Ru,Zf] at hc'
 have hK:pX (-1) c.Changes=true:=by
  have:=hc'.1.2;rw [jE,Zf] at this;exact this.2
 unfold Ue;rw [Qce n c Z Y h2,hc,MZ,QV hm];simp only [QE,Bool.not_true,cond_false];obtain ⟨r,e,L⟩:=QeW n c.Changes m Z Y hK;rw [e];simp only [QE]
 have G:(bif leI 0 r then (QU c.Changes r).bind fun x7=>some x7.Offset else some c.Offset)=some (Gy m c.Offset c.Changes):=by
  by_cases h0:0≤r
  ·obtain ⟨k,rfl⟩:∃ k:Nat,r=(k:Int):=⟨r.toNat,by omega⟩;have hk:=L.hi;have J:c.Changes[k]?=some (c.Changes[k]'zo):=by rw [List.getElem?_eq_getElem]
   rw [show leI 0 (k:Int)=true from by simp only [leI]; rw [QV h0],cond_true,Zh,J,QE];rw [rQ m c.Changes c.Offset k _ J (fun i y hi O=>L.le i y zo O) (fun i y hi O=>L.gt i y zo O)]
  ·rw [show leI 0 r=false from by simp only [leI]; rw [QN h0],cond_false]
   rw [jH m c.Changes c.Offset (fun x J=>by
    obtain ⟨i,hi⟩:=List.mem_iff_getElem?.1 J;exact L.gt i x zo hi)]
 rw [G,QE];generalize Gy m c.Offset c.Changes=o at ho;rw [Qz (x:=m+o) zo zo,fD n (m+o) zo,QE]
theorem Qcg (n:Nat) (d:Int) (h:-1≤d∧d≤36501):Vr n d 7=some ((d+7) / 7 - 1,(d+7) % 7):=by
 unfold Vr;rw [show (!Qp 7 0)=true from rfl,cond_true,cond_true];simp only [Qs];by_cases G:0≤d
 ·rw [Int.tdiv_eq_ediv_of_nonneg G,Int.tmod_eq_emod_of_nonneg G,QN zo,cond_false,Qz (x:=d / 7) zo zo];congr 2
  ·omega
  ·omega
 ·have:d=-1:=by omega
  subst this;rfl
theorem QhM (n:Nat) (c:Kn) (d:Int) (hn:1000≤n) (h1:c.Changes.length≤900) (h2:c.Holidays.length≤900) (hc:Ru c=true) (hd:-1≤d∧d≤36501):Ga n c d=some (BM d c.Holidays,0):=by
 have hc':=hc;simp only [Ru,Zf] at hc';unfold Ga;rw [Qce n c hn h1 h2,hc,MZ,QV hd];simp only [QE,Bool.not_true,cond_false];obtain ⟨r,e,L⟩:=QeX n c.Holidays d hn h2 hc'.2;have aa:=(jF _ _ hc'.2).2;rw [e];simp only [QE]
 have hj:(bif leI 0 r then (QU c.Holidays r).bind fun x8=>some (Qp x8 d) else some false)=some (decide (d ∈ c.Holidays)):=by
  by_cases h0:0≤r
  ·obtain ⟨k,rfl⟩:∃ k:Nat,r=(k:Int):=⟨r.toNat,by omega⟩;have hk:=L.hi;have O:c.Holidays[k]?=some (c.Holidays[k]'zo):=by rw [List.getElem?_eq_getElem]
   rw [show leI 0 (k:Int)=true from by simp only [leI]; rw [QV h0],cond_true,Zh,O,QE,Q5];generalize c.Holidays[k]'zo=x at O;by_cases J:x=d
   ·rw [QV J,QV];rw [← J];exact List.mem_of_getElem? O
   ·rw [QN J,QN];intro G;obtain ⟨i,hi⟩:=List.mem_iff_getElem?.1 G
    have ab:(i:Int)≤k:=by
     apply Classical.byContradiction;intro h;have:=L.gt i d zo hi;omega
    by_cases e:i=k
    ·subst e;rw [O] at hi; cases hi;exact J rfl
    ·have Z:=List.getElem?_eq_some_iff.1 hi;have Y:=List.getElem?_eq_some_iff.1 O;have:=List.pairwise_iff_getElem.1 aa i k Z.1 Y.1 zo;rw [Z.2,Y.2] at this;have:=L.le k x (Int.le_refl _) O;omega
  ·rw [show leI 0 r=false from by simp only [leI]; rw [QN h0],cond_false,QN];intro G;obtain ⟨i,hi⟩:=List.mem_iff_getElem?.1 G;have:=L.gt i d zo hi;omega
 rw [hj,QE,fC];by_cases G:d ∈ c.Holidays
 ·rw [QV G,if_pos G]; rfl
 ·rw [QN G,if_neg G,cond_false,Qcg n d hd];unfold LQ wkF;simp only [QE];rw [Qz (x:=d+7) zo zo,Int.tmod_eq_emod_of_nonneg (a:=d+7) zo];have hr:0≤(d+7) % 7∧(d+7) % 7 < 7:=by omega
  generalize (d+7) % 7=w at hr;have hw:w=0∨w=1∨w=2∨w=3∨w=4∨w=5∨w=6:=by omega
  rcases hw with rfl | rfl | rfl | rfl | rfl | rfl | rfl <;> rfl
theorem AA (n:Nat) (c:Kn) (a:QT) (m:Int) (Y:1000≤n) (O:c.Changes.length≤900) (Z:c.Holidays.length≤900) (hc:Ru c=true) (ha:Tv a=true) (hm:0≤m∧m≤52560000) :
  Wm n a c m=some (Py c a m):=by
 have ho:=jA m hc;unfold Wm Py;rw [MX,ha,QeY n c m Y O Z hc hm];simp only [QE,Bool.not_true,cond_false,Q5,decide_true];generalize Gy m c.Offset c.Changes=o at ho;rw [Qz (x:=m+o) zo zo,Qz (x:=m+o+1440) zo zo];rw [Int.tdiv_eq_ediv_of_nonneg (a:=m+o+1440) zo,Int.tmod_eq_emod_of_nonneg (a:=m+o+1440) zo];rw [Qz (x:=(m+o+1440) / 1440) zo zo,Qz (x:=(m+o+1440) / 1440 - 1) zo zo];rw [QhM n c _ Y O Z hc zo];have ht:=Px ((m+o+1440) / 1440 - 1) c.Holidays;simp only [QE,Qq,leI,Qs,decide_true,cond_true];rw [QN (show ¬ BM ((m+o+1440) / 1440 - 1) c.Holidays < 0 by omega)];generalize decide (Lm .i64 a.Days (wm .i64 1 (BM ((m+o+1440) / 1440 - 1) c.Holidays))=0)=b;generalize (m+o+1440) % 1440=w;by_cases G:a.From≤w
 ·by_cases J:w < a.To
  ·rw [QN (show ¬ w < a.From by omega),QN (show ¬ a.To≤w by omega),QV G,QV J];cases b <;> rfl
  ·rw [QN (show ¬ w < a.From by omega),QV (show a.To≤w by omega),QN J];cases b <;> simp
 ·rw [QV (show w < a.From by omega),QN G]; rfl
theorem KO (B:(V→Option R)→V→Option R) (n:Nat) (v:V):Qn B (n+1) v=B (Qn B n) v:=rfl
def Qch:List UInt8:=[112,101,114]
def fE:List UInt8:=[102,114,101,101]
def onW:List UInt8:=[111,110]
def Qci:List UInt8:=[98,101,116,119,101,101,110]
def KP:Nat→GN→Prop
 | 0,_=>False
 | d+1,x=>(-9223372036854775808≤x.Kind∧x.Kind≤9223372036854775807)∧(-9223372036854775808≤x.N∧x.N≤9223372036854775807)∧(-9223372036854775808≤x.At∧x.At≤9223372036854775807)∧x.Name.length≤maxLen∧x.Kids.length≤maxLen∧∀ k ∈ x.Kids,∃ y,GN.of k=some y∧KP d y
def Z4 (d:Nat) (l:List (List PV)):Prop:=∀ k ∈ l,∃ y,GN.of k=some y∧KP d y
theorem Kv (h:KP d x):∃ e,d=e+1∧x.Kids.length≤9223372036854775807∧x.Name.length≤9223372036854775807∧Z4 e x.Kids:=by
 cases d with
 | zero=>exact h.elim
 | succ e=>exact ⟨e,rfl,by have:=h.2.2.2.2.1; simpa [maxLen] using this,by have:=h.2.2.2.1; simpa [maxLen] using this,h.2.2.2.2.2⟩
theorem AB (h:Z4 d l) (hi:i < l.length):∃ y,Option.bind (QU l (i:Int)) GN.of=some y∧KP d y∧(l.drop i=l[i]'hi :: l.drop (i+1)∧GN.of (l[i]'hi)=some y):=by
 obtain ⟨y,e,t⟩:=h (l[i]'hi) (List.getElem_mem hi);refine ⟨y,?_,t,List.drop_eq_getElem_cons hi,e⟩;rw [Zh,List.getElem?_eq_getElem hi];exact e
def Tot {α:Type} (m:Option α):Prop:=Does m fun _=>True
theorem aN:∀ (m n d:Nat) (x:GN) (G:Int),KP d x→0≤G→G≤m→m≤1000000→m+3≤n→Does (Zp n x G) (fun r=>1≤r∧r≤G+1):=by
 intro m
 induction m with
 | zero =>
  intro n d x G ht h0 h1 h2 h3;obtain ⟨n,rfl⟩:∃ q,n=q+1+1:=⟨n - 2,by omega⟩;obtain rfl:G=0:=by omega
  refine ⟨1,?_,by omega,by omega⟩;unfold Zp ZV;rw [KO];unfold Zx;simp only [show leI 1 0=false from rfl,Qq,QE];cases Qs 0 (Qb (List.map Zq x.Kids)) <;> rfl
 | succ m ih =>
  intro n d x G ht h0 h1 h2 h3;obtain ⟨n,rfl⟩:∃ q,n=q+1:=⟨n - 1,by omega⟩;obtain ⟨e,rfl,hl,_,hk⟩:=Kv ht;unfold Zp ZV;refine Ja (Q:=fun _ r=>1≤r∧r≤G+1) (fun v=>(G+1 - v.1).toNat) (fun v=>1≤v.1∧v.1≤G+1∧∃ i:Nat,v.2=(i:Int)∧i≤x.Kids.length) ?_ ⟨by omega,by omega,0,rfl,by omega⟩ (by simp only; omega);rintro rec ⟨J,Od⟩ ⟨g1,g2,i,hi,aa⟩ O;simp only at g1 g2 hi O ⊢;subst hi;unfold Zx;simp only [Qb,List.length_map,Qs,leI];by_cases Z:i < x.Kids.length;rotate_left
  ·rw [QN zo];exact QL ⟨g1,g2⟩
  rw [QV zo];by_cases c2:J≤G;rotate_left
  ·rw [QN c2];exact QL ⟨g1,g2⟩
  rw [QV c2];obtain ⟨y,hy,Y,_⟩:=AB hk Z;simp only [cond_true,QE];rw [hy,QE,Qz (x:=G - J) zo zo];refine Ku (ih n e y (G - J) Y zo zo zo zo) ?_;rintro r ⟨r1,r2⟩;rw [Qz (x:=J+r) zo zo,Qz (x:=(i:Int)+1) zo zo];exact O (J+r,(i:Int)+1) ⟨by simp only; omega,by simp only; omega,i+1,by simp,Z⟩ (by simp only; omega)
theorem drop1 (l:List (List PV)):List.drop (Int.toNat 1) (List.take (Int.toNat (Qb (List.map Zq l))) l)=l.drop 1:=by
 simp only [Qb,List.length_map,show Int.toNat 1=1 from rfl,Int.toNat_natCast,List.take_length]
theorem PD (h:l ≠ []):U3 1 (Qb (List.map Zq l)) (Qb (List.map Zq l)) (List.length l)=true:=by
 have:0 < l.length:=List.length_pos_iff.2 h;unfold U3 Qb;rw [List.length_map];exact QV zo
theorem WH (h:Z4 e l):Z4 e (l.drop 1):=fun k G=>h k (List.mem_of_mem_drop G)
theorem QjM (h:Z4 e l) (h0:l ≠ []):∃ y,Option.bind (QU l 0) GN.of=some y:=by
 obtain ⟨y,G,_⟩:=AB (i:=0) h (List.length_pos_iff.2 h0);exact ⟨y,G⟩
theorem Qcj (l:List (List PV)):Qp (Qb (List.map Zq l)) 0=decide (l=[]):=by
 rw [Q5,Qb,List.length_map];cases l
 ·rfl
 ·rw [QN (by simp only [Y6]; omega),QN (by intro h; cases h)]
theorem Ld {r:GH} (h:Z4 e r.values):Does (Ze n r) (fun q=>Z4 e q.2.values∧q.2.values.length≤r.values.length):=by
 unfold Ze;rw [Qcj];by_cases h0:r.values=[]
 ·rw [QV h0];exact QL ⟨h,Nat.le_refl _⟩
 rw [QN h0];obtain ⟨y,G⟩:=QjM h h0;rw [G,PD h0,drop1];simp only [QE,cond_true,cond_false];exact Yb (fun _=>QL ⟨h,Nat.le_refl _⟩) fun _=>QL ⟨WH h,by simp⟩
theorem fF {r:GH} (h:Z4 e r.values):Does (ZW n r) (fun s=>s ≠ []→r.values ≠ []):=by
 unfold ZW;rw [Qcj];by_cases h0:r.values=[]
 ·rw [QV h0];exact QL fun h=>absurd rfl h
 rw [QN h0];obtain ⟨y,G⟩:=QjM h h0;rw [G];simp only [QE,cond_false];exact Yb (fun _=>QL fun _=>h0) fun _=>QL fun _=>h0
theorem QeZ (n:Nat) (s:List UInt8):Does (VX n s) (fun v=>v ≠ 0→s ≠ []):=by
 unfold VX;simp only [Qq];refine QL fun h h0=>h ?_
 subst h0;rfl
theorem fG {r:GH} (h:Z4 e r.values) {k:Int→Option β} {Q:β→Prop} (Y:∀ v,(v ≠ 0→r.values ≠ [])→Does (k v) Q):Does ((ZW n r).bind fun J=>(VX n J).bind fun G=>k G) Q :=
 Ku (fF h) fun s hs=>Ku (QeZ n s) fun v O=>Y v fun h=>hs (O h)
theorem Qck {r:GH} (h:Z4 e r.values) (hn:r.values.length < n):Does (YA n r) (fun q=>Z4 e q.2.values∧q.2.values.length≤r.values.length):=by
 unfold YA;refine Ku (Q:=fun q=>Z4 e q.2.1∧q.2.1.length≤r.values.length) ?_ ?_
 ·refine fG h fun v Z=>?_
  have:=Ja (n:=n) (v:=((0:Int),v,r.values,r.good)) (B:=fun J (v:Int × Int × (List (List PV)) × Bool)=>Q9 n r J v.1 v.2.1 v.2.2.1 v.2.2.2) (Q:=fun v q=>Z4 e q.2.1∧q.2.1.length≤r.values.length) (fun v=>v.2.2.1.length) (fun v=>Z4 e v.2.2.1∧v.2.2.1.length≤r.values.length∧(v.2.1 ≠ 0→v.2.2.1 ≠ [])) ?_ ⟨h,Nat.le_refl _,Z⟩ hn
  ·exact this
  rintro rec ⟨bits,bit,O,g⟩ ⟨g1,g2,g3⟩ G;simp only at g1 g2 g3 G ⊢;unfold Q9;refine Yb (fun hb=>?_) fun _=>QL ⟨g1,g2⟩
  have Y:bit ≠ 0:=by simpa [Q5] using hb
  have hne:=g3 Y;have aa:0 < O.length:=List.length_pos_iff.2 hne;rw [PD hne,drop1];refine Ku (Q:=fun _=>True) (Yb (fun _=>QL trivial) fun _=>QL trivial) fun j _=>?_
  rw [cond_true];refine fG (r:=⟨r.article,O.drop 1,j⟩) (WH g1) fun v Z=>?_
  exact G (fM .i64 bits bit,v,O.drop 1,j) ⟨WH g1,by simp only [List.length_drop]; omega,Z⟩ (by simp only [List.length_drop]; omega)
 ·rintro ⟨b,O,g⟩ ⟨q1,q2⟩;exact Yb (fun _=>QL ⟨q1,q2⟩) fun _=>QL ⟨q1,q2⟩
theorem Qcl (ht:KP d x) (hn:9223372036854776000≤n):Tot (H9 n x):=by
 obtain ⟨e,rfl,hl,_,hk⟩:=Kv ht;unfold H9 XC YY Vp;simp only [Qq,QE];refine Ku (Ld (e:=e) (n:=n) hk) ?_;rintro ⟨v,a,O,g⟩ ⟨Z,q2⟩;simp only at Z q2 ⊢;refine Ja (Q:=fun _ _=>True) (fun v=>v.2.2.2.2.2.2.2.2.1.length) (fun v=>Z4 e v.2.2.2.2.2.2.2.2.1∧v.2.2.2.2.2.2.2.2.1.length≤x.Kids.length) ?_ ⟨Z,q2⟩ (by simp only; omega);clear Z q2;rintro rec ⟨l1,l2,l3,l4,l5,l6,l7,l8,O,g,m1,m2,m3,m4⟩ ⟨Z,q2⟩ G;simp only at Z q2 G ⊢;unfold Wz;simp only [Qq,QE];refine Yb (fun hc=>?_) fun _=>?_
 rotate_left
 ·unfold JC;simp only [Qq];exact QL trivial
 have hne:O ≠ []:=by
  rintro rfl;cases g
  ·cases hc
  ·simp [Qb,Qs] at hc
 have aa:0 < O.length:=List.length_pos_iff.2 hne;rw [PD hne,drop1];refine Ku (fF (r:=⟨⟨l2,l3,l4,l5,l6,l7,l8⟩,O,g⟩) Z) fun w _=>?_
 have hd:(O.drop 1).length < O.length:=by rw [List.length_drop]; omega
 have hq:=WH Z;simp only [cond_true];refine Yb (fun _=>?_) fun _=>Yb (fun _=>?_) fun _=>Yb (fun _=>?_) fun _=>Yb (fun _=>?_) fun _=>QL trivial
 ·refine Ku (Ld (n:=n) (r:=⟨⟨l2,l3,l4,l5,l6,l7,l8⟩,O.drop 1,g⟩) hq) ?_;rintro ⟨v,a,Y,g'⟩ ⟨J,p2⟩;simp only at J p2 ⊢;exact G _ ⟨J,by simp only; omega⟩ (by simp only; omega)
 ·refine Ku (Ld (n:=n) (r:=⟨⟨l2,l3,l4,l5,l6,l7,l8⟩,O.drop 1,g⟩) hq) ?_;rintro ⟨v,a,Y,g'⟩ ⟨J,p2⟩;simp only at J p2 ⊢;exact G _ ⟨J,by simp only; omega⟩ (by simp only; omega)
 ·refine Ku (Qck (n:=n) (r:=⟨⟨l2,l3,l4,l5,l6,l7,l8⟩,O.drop 1,g⟩) hq (by simp only; omega)) ?_;rintro ⟨v,a,Y,g'⟩ ⟨J,p2⟩;simp only at J p2 ⊢;exact G _ ⟨J,by simp only; omega⟩ (by simp only; omega)
 ·refine Ku (Ld (n:=n) (r:=⟨⟨l2,l3,l4,l5,l6,l7,l8⟩,O.drop 1,g⟩) hq) ?_;rintro ⟨v,a,Y,g'⟩ ⟨J,p2⟩;simp only at J p2 ⊢;refine Ku (Ld (n:=n) (r:=⟨⟨a.Kind,a.Days,v,a.To,a.Price,a.Unit,a.Free⟩,Y,g'⟩) J) ?_;rintro ⟨v2,a2,ab,g2⟩ ⟨p3,p4⟩;simp only at p3 p4 ⊢;exact G _ ⟨p3,by simp only; omega⟩ (by simp only; omega)
theorem fH {R:Type} {B:(Int→Option R)→Int→Option R} {L:Nat} (Q:Nat→R→Prop) (J:L≤9223372036854775807)
  (G:∀ (rec:Int→Option R) (i:Nat),i≤L→(i < L→wi ((i:Int)+1)=((i+1:Nat):Int)∧Does (rec ((i+1:Nat):Int)) (Q (i+1)))→Does (B rec (i:Int)) (Q i)) :
  ∀ {n:Nat} (i:Nat),i≤L→L - i < n→Does (Qn B n (i:Int)) (Q i)
 | 0,_,_,h=>absurd h (Nat.not_lt_zero _)
 | n+1,i,hi,h=>G _ i hi fun O=>⟨by rw [Qz zo zo]; omega,fH Q J G (i+1) zo zo⟩
def Qk (l:List (List PV)):List GN:=l.filterMap GN.of
theorem Dv (h:Z4 d l) (hi:i < l.length):∃ y,Option.bind (QU l (i:Int)) GN.of=some y∧KP d y∧Qk (l.drop i)=y :: Qk (l.drop (i+1)):=by
 obtain ⟨y,Y,J,O,G⟩:=AB h hi;refine ⟨y,Y,J,?_⟩;rw [O];unfold Qk;rw [List.filterMap_cons,G]
theorem TC (l:List (List PV)) (hi:l.length≤i):Qk (l.drop i)=[]:=by
 rw [List.drop_eq_nil_of_le hi]; rfl
def BN (s:List UInt8):Bool:=((WY 0).getD []).contains s
def GJ (s:List UInt8):Bool:=((Q7 0).getD []).contains s
def zO (s:List UInt8):Bool:=((WZ 0).getD []).contains s
theorem AC (n:Nat) (s:List UInt8):Yy n s=some (BN s):=by
 unfold Yy BN WY;simp only [Qq,QE,cse,cst,Option.getD_some,List.contains_cons,List.contains_nil,Bool.or_false,Qr]
theorem jI (n:Nat) (s:List UInt8):Kg n s=some (GJ s):=by
 unfold Kg GJ Q7;simp only [Qq,QE,cse,cst,Option.getD_some,List.contains_cons,List.contains_nil,Bool.or_false,Qr]
theorem y8 (n:Nat) (s:List UInt8):YX n s=some (zO s):=by
 unfold YX zO WZ;simp only [Qq,QE,cse,cst,Option.getD_some,List.contains_cons,List.contains_nil,Bool.or_false,Qr]
def Wn (words:Bool) (x:GN):Bool :=
 decide (x.Kids=[])&&(bif decide (x.Kind=6) then decide (x.Name=[])&&(decide (0≤x.N)&&decide (x.N≤1000000)) else decide (x.Kind=5)&&(decide (x.N=0)&&(Uw x.Name||(words&&zO x.Name))))
theorem QjN (s:List UInt8):Qr s []=decide (s=[]):=by
 cases s <;> rfl
theorem Qe0 (J:1000≤n):JB n x b=some (Wn b x):=by
 unfold JB Wn;rw [Pz n x.Name J,y8,Qcj,QjN];simp only [QE,Qq,Q5,leI];by_cases G:x.Kind=5
 ·rw [G];simp only [decide_true,cond_true,show decide ((5:Int)=6)=false from rfl,cond_false];cases decide (x.Kids=[]) <;> cases decide (x.N=0) <;> cases Uw x.Name <;> cases b <;> cases zO x.Name <;> rfl
 ·rw [QN G];cases decide (x.Kids=[]) <;> cases decide (x.Kind=6) <;> cases decide (x.Name=[]) <;> cases decide (0≤x.N) <;> cases decide (x.N≤1000000) <;> rfl
theorem lt0 (l:List (List PV)):Qs 0 (Qb (List.map Zq l))=!decide (l=[]):=by
 cases l with
 | nil=>rfl
 | cons a r =>
  rw [QN (by intro h; cases h)];exact QV (by simp only [Qb,List.length_map,Y6]; omega)
def ZZ (x:GN):Bool:=decide (x.N=0)&&((decide (x.Kind=3)&&BN x.Name||decide (x.Kind=4)&&GJ x.Name)&&(Qk x.Kids).all (Wn (decide (x.Kind=4))))
theorem QhN {left:Int} (ht:KP d x) (hn:9223372036854776000≤n) (aa:(x.Kids.length:Int)≤left∧left≤1500):Does (VE n x left) (fun r=>r.1=ZZ x∧(ZZ x=true→r.2=left - x.Kids.length)):=by
 obtain ⟨e,rfl,hl,_,hk⟩:=Kv ht
 have hw:wi (left - Qb (List.map Zq x.Kids))=left - x.Kids.length:=by
  simp only [Qb,List.length_map]; exact Qz zo zo
 have J:Qn (fun G O=>YP n x left G O) n 0=some ((Qk x.Kids).all (Wn (decide (x.Kind=4))),left - x.Kids.length):=by
  have:=fH (B:=fun G O=>YP n x left G O) (n:=n) (L:=x.Kids.length) (fun i r=>r=((Qk (x.Kids.drop i)).all (Wn (decide (x.Kind=4))),left - (x.Kids.length:Int))) hl (fun rec i hi hr=>?_) 0 zo zo
  ·obtain ⟨r,e,h⟩:=this;rw [show ((0:Nat):Int)=0 from rfl] at e;rw [e,h]; rfl
  unfold YP;rw [hw];simp only [Qb,List.length_map,Qs];by_cases Y:i < x.Kids.length;rotate_left
  ·rw [QN zo,TC _ zo]; exact QL rfl
  obtain ⟨y,hy,ab,hc⟩:=Dv hk Y;obtain ⟨w1,w2⟩:=hr Y;rw [QV zo,cond_true,hy,QE,w1,Qe0 zo,QE,hc,List.all_cons,Q5];cases Wn (decide (x.Kind=4)) y
  ·exact QL rfl
  ·simpa using w2
 unfold VE;rw [J,AC,jI,hw,show Qs (left - (x.Kids.length:Int)) 0=false from O6 zo];simp only [QE,Qq,Q5];have hp:ZZ x=(decide (x.N=0)&&((decide (x.Kind=3)&&BN x.Name||decide (x.Kind=4)&&GJ x.Name)&&(Qk x.Kids).all (Wn (decide (x.Kind=4))))):=rfl;rw [hp];generalize (Qk x.Kids).all (Wn (decide (x.Kind=4)))=z;by_cases Z:x.Kind=3
 ·rw [Z];cases decide (x.N=0) <;> cases BN x.Name <;> cases z <;> exact QL ⟨rfl,fun h=>by first | rfl | cases h⟩
 ·rw [QN Z];cases decide (x.N=0) <;> cases decide (x.Kind=4) <;> cases GJ x.Name <;> cases z <;> exact QL ⟨rfl,fun h=>by first | rfl | cases h⟩
def GK (G:Bool):Bool→List GN→Bool
 | _,[]=>true
 | p,k :: r=>(ZZ k&&!(decide (k.Kind=4)&&!G)&&!(decide (k.Kind=3)&&p))&&GK G (decide (k.Kind=4)) r
def NB (J:Bool):Bool→List GN→Bool
 | G,[]=>!G||J
 | G,k :: r=>bif decide (k.Kind=4) then ZZ k&&NB J true r else bif G then false else ZZ k&&NB J G r
theorem aO {k:GN} (h:ZZ k=true) (G:decide (k.Kind=4)=false):decide (k.Kind=3)=true:=by
 unfold ZZ at h;rw [G] at h;cases h3:decide (k.Kind=3)
 ·rw [h3] at h;simp at h
 ·rfl
theorem AJ (J:Bool):∀ (l:List GN) (G:Bool),NB J G l=((!G||J)&&GK J G l)
 | [],G=>by simp [NB,GK]
 | k :: r,G=>by
  unfold NB GK;rw [AJ J r true,AJ J r G];cases hp:ZZ k
  ·cases decide (k.Kind=4) <;> cases G <;> simp
  cases h4:decide (k.Kind=4)
  ·rw [aO hp h4];cases G <;> cases J <;> simp
  ·have O:decide (k.Kind=3)=false:=by
    have:=of_decide_eq_true h4;rw [this]; rfl
   rw [O];cases G <;> cases J <;> simp
def DT (l:List GN):Int:=(l.map fun k=>(k.Kids.length:Int)).sum
def Ji (x:GN):Bool:=decide (x.Kind=2)&&(decide (1≤x.N)&&(decide (x.N≤7)&&(Uw x.Name&&GK (decide (x.N=7)) false (Qk x.Kids))))
def sz:Nat→GN→Int
 | 0,_=>1
 | k+1,x=>1+((Qk x.Kids).map (sz k)).sum
theorem JG {f:GN→Int} (hf:∀ y,0≤f y):∀ l:List GN,0≤(l.map f).sum
 | []=>Int.le_refl _
 | a :: l=>by have:=JG hf l; have:=hf a; simp only [List.map_cons,List.sum_cons]; omega
theorem jJ:∀ (k:Nat) (x:GN),0≤sz k x
 | 0,_=>by simp [sz]
 | k+1,x=>by have:=JG (jJ k) (Qk x.Kids); unfold sz; omega
theorem y9 (h:Z4 d l):∀ y ∈ Qk l,KP d y:=by
 intro y G;obtain ⟨c,hc,e⟩:=List.mem_filterMap.1 G;obtain ⟨z,J,t⟩:=h c hc;rw [J] at e;cases e;exact t
def jK (l:List GN):Int:=(l.map fun k=>(k.Kids.length:Int)+DT (Qk k.Kids)).sum
def PE (x:GN):Bool:=decide (x.Kind=1)&&(decide (x.Name=[])&&(decide (x.N=0)&&(Qk x.Kids).all Ji))
theorem V6 (l:List GN):0≤DT l:=JG (fun y=>by omega) l
theorem Fw (l:List GN):0≤jK l:=JG (fun y=>by have:=V6 (Qk y.Kids); omega) l
theorem Qcm (ht:KP d x) (hn:9223372036854776000≤n) :
  Does (Vq n x) (fun r=>r.1.length≤12∧(r.2.Err=0→r.1.length=x.Kids.length∧I4 0 r.1=true)):=by
 obtain ⟨e,rfl,hl,_,hk⟩:=Kv ht;unfold Vq
 have:=Ja (n:=n) (v:=(([]:List QT),false,(0:Int))) (B:=fun Z (v:(List QT) × Bool × Int)=>Ki n x Z v.1 v.2.1 v.2.2) (Q:=fun v r=>r.1.length≤12∧(r.2.Err=0→r.1.length=x.Kids.length∧I4 0 r.1=true)) (fun v=>x.Kids.length - v.2.2.toNat)
  (fun v=>v.1.length≤12∧v.2.2=(v.1.length:Int)∧v.1.length≤x.Kids.length∧∀ r,I4 0 (v.1++r)=I4 (cond v.2.1 1 0) r) ?_ ⟨by simp,rfl,by simp,fun r=>rfl⟩ (by simp only; omega)
 ·exact this
 rintro rec ⟨out,J,Od⟩ ⟨g1,g2,g3,g4⟩ O;simp only at g1 g2 g3 g4 O ⊢;subst g2;unfold Ki;simp only [Qb,List.length_map,Qs];by_cases c1:out.length < x.Kids.length;rotate_left
 ·rw [QN zo,cond_false];refine QL ⟨g1,fun _=>⟨by simp only; omega,?_⟩⟩;have:=g4 [];rw [List.append_nil] at this;rw [this];cases J <;> rfl
 obtain ⟨y,hy,ab,_⟩:=AB hk c1;rw [QV zo,cond_true,hy,QE];refine Yb (fun _=>QL ⟨by simp,fun h=>by cases h⟩) fun _=>Yb (fun _=>QL ⟨by simp,fun h=>by cases h⟩) fun Y=>?_
 have Y:out.length < 12:=by
  rw [Q5] at Y;have:=of_decide_eq_false Y;omega
 refine Ku (Qcl ab hn) fun r _=>Yb (fun _=>QL ⟨by simp,fun h=>by cases h⟩) fun _=>?_
 rw [MX,QE];refine Yb (fun _=>QL ⟨by simp,fun h=>by cases h⟩) fun hA=>?_
 have hA:Tv r.1=true:=by simpa using hA
 have aa:QK (out++[r.1]).length 56=true:=by unfold QK; rw [Y0]; exact QV (by simp; omega)
 rw [aa,Qz (x:=(out.length:Int)+1) zo zo];simp only [Qq,QE,cond_true]
 have G:∀ t':Bool,(cond t' 1 0=if r.1.Kind=6 then (cond J 1 0:Int)+1 else cond J 1 0)→Does (rec (out++[r.1],t',(out.length:Int)+1)) (fun r=>r.1.length≤12∧(r.2.Err=0→r.1.length=x.Kids.length∧I4 0 r.1=true)):=by
  intro t' ac;refine O _ ⟨by simp; omega,by simp,by simp; omega,fun q=>?_⟩ (by simp only; omega);simp only;rw [List.append_assoc,g4,List.singleton_append,I4,hA,Bool.true_and,← ac]
 cases J
 ·simp only [cond_false];rw [show (bif Qp r.1.Kind 6 then false else false)=false from by cases Qp r.1.Kind 6 <;> rfl,cond_false];refine G _ ?_;rw [Q5];by_cases h:r.1.Kind=6
  ·simp [h]
  ·simp [h]
 ·simp only [cond_true];by_cases h:r.1.Kind=6
  ·rw [show Qp r.1.Kind 6=true from by rw [Q5]; exact QV h];exact QL ⟨by simp,fun h=>by cases h⟩
  ·rw [show Qp r.1.Kind 6=false from by rw [Q5]; exact QN h];exact G _ (by rw [if_neg h])
def numAt:List (List PV)→Option Int
 | []=>none
 | c :: _=>(GN.of c).bind fun y=>if y.Kind=6 then some y.N else none
def wordAt:List (List PV)→List UInt8
 | []=>[]
 | c :: _=>((GN.of c).map fun y=>if y.Kind=5 then y.Name else []).getD []
theorem Qe1 (c:List PV) (r:List (List PV)):numAt (c :: r)=(GN.of c).bind fun y=>if y.Kind=6 then some y.N else none:=rfl
theorem Qcn (c:List PV) (r:List (List PV)):wordAt (c :: r)=((GN.of c).map fun y=>if y.Kind=5 then y.Name else []).getD []:=rfl
theorem Sl (n:Nat) {r:GH} (h:Z4 e r.values):Ze n r=some (match numAt r.values with | some v=>(v,⟨r.article,r.values.drop 1,r.good⟩) | none=>(0,⟨r.article,r.values,false⟩)):=by
 obtain ⟨a,O,g⟩:=r;unfold Ze;rw [Qcj];cases O with
 | nil=>rfl
 | cons c r =>
  obtain ⟨y,J,_⟩:=h c zq;rw [PD zq,drop1,QN (by intro h; cases h)];show ((((GN.of c).bind _).bind _))=_;unfold numAt;rw [J];simp only [QE,Q5,cond_true];show (bif !decide (y.Kind=6) then _ else ((GN.of c).bind _))=_;rw [J];by_cases G:y.Kind=6
  ·simp [G]
  ·simp [G]
theorem jL (n:Nat) {r:GH} (h:Z4 e r.values):ZW n r=some (wordAt r.values):=by
 obtain ⟨a,O,g⟩:=r;unfold ZW;rw [Qcj];cases O with
 | nil=>rfl
 | cons c r =>
  obtain ⟨y,J,_⟩:=h c zq;rw [QN (by intro h; cases h)];show ((((GN.of c).bind _).bind _))=_;unfold wordAt;rw [J];simp only [QE,Q5];show (bif !decide (y.Kind=5) then _ else ((GN.of c).bind _))=_;rw [J];by_cases G:y.Kind=5
  ·simp [G]
  ·simp [G]
theorem Qco (l:List (List PV)) (p:Nat):leI (Qb (List.map Zq l)) (p:Int)=decide (l.length≤p):=by
 unfold leI Qb;rw [List.length_map];by_cases h:l.length≤p
 ·rw [QV h]; exact QV zo
 ·rw [QN h]; exact QN zo
theorem fI (n:Nat) (h:Z4 e l) (p:Nat):KN n l (p:Int)=some (match numAt (l.drop p) with | some v=>(v,true) | none=>(0,false)):=by
 unfold KN;rw [Qco];by_cases h0:l.length≤p
 ·rw [QV h0,List.drop_eq_nil_of_le h0]; rfl
 obtain ⟨y,Y,Z,O,G⟩:=AB h (show p < l.length by omega);rw [QN h0,Y,O,Qe1,G];simp only [QE,Q5,cond_false];by_cases J:y.Kind=6
 ·simp [J]
 ·simp [J]
theorem pY (n:Nat) (h:Z4 e l) (p:Nat):WF n l (p:Int)=some (wordAt (l.drop p)):=by
 unfold WF;rw [Qco];by_cases h0:l.length≤p
 ·rw [QV h0,List.drop_eq_nil_of_le h0]; rfl
 obtain ⟨y,Y,Z,O,G⟩:=AB h (show p < l.length by omega);rw [QN h0,Y,O,Qcn,G];simp only [QE,Q5,cond_false,Option.map_some,Option.getD_some];by_cases J:y.Kind=5
 ·simp [J]
 ·simp [J]
theorem M3 {p:Nat} (h:numAt (l.drop p)=some v):p < l.length:=by
 rcases Nat.lt_or_ge p l.length with G | G
 ·exact G
 ·rw [List.drop_eq_nil_of_le G] at h; cases h
theorem p8 {p:Nat} (h:wordAt (l.drop p) ≠ []):p < l.length:=by
 rcases Nat.lt_or_ge p l.length with G | G
 ·exact G
 ·rw [List.drop_eq_nil_of_le G] at h; exact absurd rfl h
def Gl (s:List UInt8):Int:=(VX 0 s).getD 0
theorem fJ (n:Nat) (s:List UInt8):VX n s=some (Gl s):=by
 unfold Gl VX;simp only [Qq,Option.getD_some]
theorem QfH (s:List UInt8):(cond (Qr s [119,111,114,107]) (some (1:Int)) (cond (Qr s [115,97,116,117,114,100,97,121]) (some 2) (cond (Qr s [115,117,110,100,97,121]) (some 4) (some 0))))=some (Gl s):=fJ 0 s
theorem Dw (s:List UInt8):Gl s=0∨((Gl s=1∨Gl s=2∨Gl s=4)∧s ≠ []):=by
 have h:Gl s=(bif Qr s [119,111,114,107] then 1 else bif Qr s [115,97,116,117,114,100,97,121] then 2 else bif Qr s [115,117,110,100,97,121] then 4 else 0):=by
  unfold Gl VX;simp only [Qq,Option.getD_some]
 by_cases h0:s=[]
 ·subst h0; exact Or.inl rfl
 rw [h];cases Qr s [119,111,114,107] <;> cases Qr s [115,97,116,117,114,100,97,121] <;> cases Qr s [115,117,110,100,97,121] <;> simp [h0]
def G8 (set:Int):List (List PV)→Option (Int × List (List PV))
 | []=>if set=0 then none else some (set,[])
 | c :: r=>if Gl (wordAt (c :: r))=0 then (if set=0 then none else some (set,c :: r)) else if Lm .i64 set (Gl (wordAt (c :: r))) ≠ 0 then none else G8 (fM .i64 set (Gl (wordAt (c :: r)))) r
theorem zP {set b:Int} (hs:0≤set∧set≤7) (hb:b=1∨b=2∨b=4):(0≤fM .i64 set b∧fM .i64 set b≤7)∧(Lm .i64 set b=0→wi (set+b)=fM .i64 set b)∧(Qp (Int.tmod (wi (Int.tdiv set b)) 2) 1=!decide (Lm .i64 set b=0)):=by
 have G:set=0∨set=1∨set=2∨set=3∨set=4∨set=5∨set=6∨set=7:=by omega
 rcases G with rfl | rfl | rfl | rfl | rfl | rfl | rfl | rfl <;> rcases hb with rfl | rfl | rfl <;> decide
end Go.Proofs
