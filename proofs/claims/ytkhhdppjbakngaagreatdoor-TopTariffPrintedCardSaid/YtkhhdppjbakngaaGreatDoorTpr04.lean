/-
  A part of the proof of a statement of the seat YtkhhdppjbakngaaGreatDoor.
-/
import Derived.Test.YtkhhdppjbakngaaGreatDoorTpr03
set_option linter.unusedVariables false
namespace Go.Proofs
open Go Go.Abs
set_option maxRecDepth 100000
def Gf.cs (x:Gf):List PV:=[VI x.article.Kind,VI x.article.Days,VI x.article.From,VI x.article.To,VI x.article.Price,VI x.article.Unit,VI x.article.Free,VI x.calendar.Offset, .sl 2 (List.map XC.cs x.calendar.Changes), .sl 1 (List.map ci x.calendar.Holidays),VI x.session.From,VI x.session.To,VI x.session.End, .sl 2 (List.map Ho.cs x.session.Slices)]
structure Qa where
 Tariff:K5
 calendar:Kj
 from_:Int
 to_:Int
deriving DecidableEq
def Qa.cs (x:Qa):List PV:=[VS x.Tariff.Name, .sl 7 (List.map Q3.cs x.Tariff.Articles),VI x.calendar.Offset, .sl 2 (List.map XC.cs x.calendar.Changes), .sl 1 (List.map ci x.calendar.Holidays),VI x.from_,VI x.to_]
structure Dx where
 text:List UInt8
deriving DecidableEq
def GY (n:Nat) (G:Int):Option Bool :=
 cond (Qr G 32)
  (some true)
  (cond (Qr G 9)
   (some true)
   (some (Qr G 10)))
theorem En (n:Nat) (G:Int):∀ r,GY n G=some r→QB Tryz.prog 54 [B8 G] (.ret (B r)):=by
 refine Qj Tryz.func54 rfl Tryz.ntmps54 rfl ?_;unfold GY;exact Qf Qd ⟨[(0,B8 G)],[]⟩ (sS (sG (xR 3 (xS (Qr G 32) (fun J=>xN (Qy J) (xR 7 (xE (Qk ⟨[(2,B true)],[]⟩ (sT (qR (.id))))))) (fun J=>xO (Qw J) (xR 3 (xS (Qr G 9) (fun O=>xN (Qy O) (xR 3 (xE (Qk ⟨[(2,B true)],[]⟩ (sT (qR (.id))))))) (fun O=>xO (Qw O) (xR 3 (xE (Qk ⟨[(2,B (Qr G 10))],[]⟩ (sT (qR (.id))))))))))))))
def XD (n:Nat) (G:Int):Option Bool :=
 cond (leI 97 G)
  (some (leI G 122))
  (some false)
theorem Bc (n:Nat) (G:Int):∀ r,XD n G=some r→QB Tryz.prog 112 [B8 G] (.ret (B r)):=by
 refine Qj Tryz.func112 rfl Tryz.ntmps112 rfl ?_;unfold XD;exact Qf Qd ⟨[(0,B8 G)],[]⟩ (sS (sG (xR 3 (xS (leI 97 G) (fun J=>xO (Qv J) (xR 3 (xE (Qk ⟨[(2,B (leI G 122))],[]⟩ (sT (qR (.id))))))) (fun J=>xN (Qx J) (xR 3 (xE (Qk ⟨[(2,B false)],[]⟩ (sT (qR (.id)))))))))))
def Jg (n:Nat) (G:Int):Option Bool :=
 cond (leI 48 G)
  (some (leI G 57))
  (some false)
theorem FH (n:Nat) (G:Int):∀ r,Jg n G=some r→QB Tryz.prog 113 [B8 G] (.ret (B r)):=by
 refine Qj Tryz.func113 rfl Tryz.ntmps113 rfl ?_;unfold Jg;exact Qf Qd ⟨[(0,B8 G)],[]⟩ (sS (sG (xR 3 (xS (leI 48 G) (fun J=>xO (Qv J) (xR 3 (xE (Qk ⟨[(2,B (leI G 57))],[]⟩ (sT (qR (.id))))))) (fun J=>xN (Qx J) (xR 3 (xE (Qk ⟨[(2,B false)],[]⟩ (sT (qR (.id)))))))))))
def Hq (n:Nat) (G:Int):Option Bool :=
 cond (Qr G 59)
  (some true)
  (cond (Qr G 123)
   (some true)
   (some (Qr G 125)))
theorem qU (n:Nat) (G:Int):∀ r,Hq n G=some r→QB Tryz.prog 114 [B8 G] (.ret (B r)):=by
 refine Qj Tryz.func114 rfl Tryz.ntmps114 rfl ?_;unfold Hq;exact Qf Qd ⟨[(0,B8 G)],[]⟩ (sS (sG (xR 3 (xS (Qr G 59) (fun J=>xN (Qy J) (xR 7 (xE (Qk ⟨[(2,B true)],[]⟩ (sT (qR (.id))))))) (fun J=>xO (Qw J) (xR 3 (xS (Qr G 123) (fun O=>xN (Qy O) (xR 3 (xE (Qk ⟨[(2,B true)],[]⟩ (sT (qR (.id))))))) (fun O=>xO (Qw O) (xR 3 (xE (Qk ⟨[(2,B (Qr G 125))],[]⟩ (sT (qR (.id))))))))))))))
def FI (n:Nat) (G:Int):Option Int :=
 (GY n G).bind fun r1 =>
 cond r1
  (some 1)
  (cond (Qr G 35)
   (some 2)
   ((XD n G).bind fun U =>
   cond U
    (some 3)
    ((Jg n G).bind fun O =>
    cond O
     (some 4)
     ((Hq n G).bind fun J =>
     cond J
      (some 5)
      (some 0)))))
theorem zQ (n:Nat) (G:Int):∀ r,FI n G=some r→QB Tryz.prog 52 [B8 G] (.ret (I r)):=by
 refine Qj Tryz.func52 rfl Tryz.ntmps52 rfl ?_;unfold FI;refine Qf Qd ⟨[(0,B8 G)],[]⟩ (sS (sB (sS (sG (xR 1 ?_)))));refine xC [] (En n G) QE (fun r1=>?_);refine xR 1 (xE (Qk ⟨[(0,B8 G),(3,B r1)],[]⟩ (sC r1 (Qf Qd ⟨[(2,I 1)],[]⟩ (sT (Q4 (QA (qR (.id)))))) (Qf Qd ⟨[(0,B8 G),(6,B (Qr G 35))],[]⟩ (sC (Qr G 35) (Qf Qd ⟨[(2,I 2)],[]⟩ (sT (Q4 (QA (qR (.id)))))) (sS (sG (xR 1 ?_))))))));refine xC [] (Bc n G) QE (fun U=>?_);refine xR 1 (xE (Qk ⟨[(0,B8 G),(9,B U)],[]⟩ (sC U (Qf Qd ⟨[(2,I 3)],[]⟩ (sT (Q4 (QA (qR (.id)))))) (sS (sG (xR 1 ?_))))));refine xC [] (FH n G) QE (fun O=>?_);refine xR 1 (xE (Qk ⟨[(0,B8 G),(12,B O)],[]⟩ (sC O (Qf Qd ⟨[(2,I 4)],[]⟩ (sT (Q4 (QA (qR (.id)))))) (sS (sG (xR 1 ?_))))));refine xC [] (qU n G) QE (fun J=>?_);exact xR 1 (xE (Qk ⟨[(15,B J)],[]⟩ (sC J (Qf Qd ⟨[(2,I 5)],[]⟩ (sT (Q4 (QA (qR (.id)))))) (sK (QR (Qk ⟨[],[]⟩ (Qf Qd ⟨[(2,I 0)],[]⟩ (sT (qR (.id))))))))))
def Ll (n:Nat) (J:List UInt8) (G:Int→Option Int) (O:Int):Option Int :=
 (cond (Qp O (Qb J))
  ((QY J O).bind fun Z =>
  (GY n (Zv Z)).bind fun Y =>
  some Y)
  (some false)).bind fun U =>
 cond U
  (G (wi (O+1)))
  (some O)
def Eo (n:Nat) (O:List UInt8) (G:Int):Option Int :=
 Qo (fun J U=>Ll n O J U) n G
def tq0:=fun O G J=>([(0,S O),(1,I G),(2, .p (.val J))]:List (Nat × AV))
def tq1:=fun O G J=>([(0,S O),(2, .p (.val G)),(7,I J)]:List (Nat × AV))
def lT:=fun O G J=>(⟨tq1 O G J,[]⟩:St)
def tq2:=fun U J O G=>([(0,S U),(2, .p (.val J)),(7,I O),(19,B G)]:List (Nat × AV))
theorem uE (n:Nat) (J:List UInt8) (G:Int):∀ r,Eo n J G=some r→QB Tryz.prog 53 [S J,I G, .p (.val (.func (.func 54) #[] #[]))] (.ret (I r)):=by
 refine Qj Tryz.func53 rfl Tryz.ntmps53 rfl ?_;unfold Eo;refine Qf Qd ⟨tq0 J G (.func (.func 54) #[] #[]),[]⟩ (Qf Qd (lT J (.func (.func 54) #[] #[]) G) (sS (sB (QF (fun O=>(lT J (.func (.func 54) #[] #[]) O):Int→St) (H5) ?_))));rintro U O;show QO (Ll n J U O) _ _ _ _ _ _;unfold Ll;refine sS (KI (fun Y=>⟨tq2 J (.func (.func 54) #[] #[]) O Y,[]⟩:Bool→St) ?_ ?_)
 ·refine sG (xR 5 (xS (Qp O (Qb J)) (fun Z=>?_) (fun Z=>?_)))
  ·refine xO (Qv Z) (xR 2 (xG (JU (l:=J) (k:=.i64) (n:=O) rfl Qc Qc Qc) (fun x4=>?_)));refine xC [] (En n (Zv x4)) QE (fun r5=>?_);exact xR 1 (xE (QS r5))
  exact xN (Qx Z) (xR 5 (xE (QS false)))
 rintro Y;exact sC Y (sK (Qk (lT J (.func (.func 54) #[] #[]) O) (sB (sL Qd (QR (KP (wi (O+1)))))))) (Qq (ZR (Yp (QL (Qk ⟨[(7,I O)],[]⟩ (Qf Qd ⟨[(6,I O)],[]⟩ (sT (qR (.id)))))))))
def RL (n:Nat) (G:Int):Option Bool :=
 some (!Qr G 10)
theorem wo (n:Nat) (G:Int):∀ r,RL n G=some r→QB Tryz.prog 51 [B8 G] (.ret (B r)):=by
 refine Qj Tryz.func51 rfl Tryz.ntmps51 rfl ?_;unfold RL;exact Qf Qd ⟨[(0,B8 G)],[]⟩ (Qf Qd ⟨[(2,B (!Qr G 10))],[]⟩ (sT (qR (.id))))
def UY (n:Nat) (J:List UInt8) (G:Int→Option Int) (O:Int):Option Int :=
 (cond (Qp O (Qb J))
  ((QY J O).bind fun Z =>
  (RL n (Zv Z)).bind fun Y =>
  some Y)
  (some false)).bind fun U =>
 cond U
  (G (wi (O+1)))
  (some O)
def TP (n:Nat) (O:List UInt8) (G:Int):Option Int :=
 Qo (fun J U=>UY n O J U) n G
theorem zR (n:Nat) (J:List UInt8) (G:Int):∀ r,TP n J G=some r→QB Tryz.prog 53 [S J,I G, .p (.val (.func (.func 51) #[] #[]))] (.ret (I r)):=by
 refine Qj Tryz.func53 rfl Tryz.ntmps53 rfl ?_;unfold TP;refine Qf Qd ⟨tq0 J G (.func (.func 51) #[] #[]),[]⟩ (Qf Qd (lT J (.func (.func 51) #[] #[]) G) (sS (sB (QF (fun O=>(lT J (.func (.func 51) #[] #[]) O):Int→St) (H5) ?_))));rintro U O;show QO (UY n J U O) _ _ _ _ _ _;unfold UY;refine sS (KI (fun Y=>⟨tq2 J (.func (.func 51) #[] #[]) O Y,[]⟩:Bool→St) ?_ ?_)
 ·refine sG (xR 5 (xS (Qp O (Qb J)) (fun Z=>?_) (fun Z=>?_)))
  ·refine xO (Qv Z) (xR 2 (xG (JU (l:=J) (k:=.i64) (n:=O) rfl Qc Qc Qc) (fun x4=>?_)));refine xC [] (wo n (Zv x4)) QE (fun r5=>?_);exact xR 1 (xE (QS r5))
  exact xN (Qx Z) (xR 5 (xE (QS false)))
 rintro Y;exact sC Y (sK (Qk (lT J (.func (.func 51) #[] #[]) O) (sB (sL Qd (QR (KP (wi (O+1)))))))) (Qq (ZR (Yp (QL (Qk ⟨[(7,I O)],[]⟩ (Qf Qd ⟨[(6,I O)],[]⟩ (sT (qR (.id)))))))))
def Jh (n:Nat) (G:Int):Option Bool :=
 (XD n G).bind fun r1 =>
 cond r1
  (some true)
  ((Jg n G).bind fun J =>
  cond J
   (some true)
   (some (Qr G 95)))
theorem Ep (n:Nat) (G:Int):∀ r,Jh n G=some r→QB Tryz.prog 115 [B8 G] (.ret (B r)):=by
 refine Qj Tryz.func115 rfl Tryz.ntmps115 rfl ?_;unfold Jh;refine Qf Qd ⟨[(0,B8 G)],[]⟩ (sS (sG (xR 1 ?_)));refine xC [] (Bc n G) QE (fun r1=>?_);refine xR 1 (xS r1 (fun O=>xN (Qy O) (xR 7 (xE (Qk ⟨[(2,B true)],[]⟩ (sT (qR (.id))))))) (fun O=>xO (Qw O) ?_));refine xC [] (FH n G) QE (fun U=>?_);exact xR 2 (xS U (fun J=>xN (Qy J) (xR 3 (xE (Qk ⟨[(2,B true)],[]⟩ (sT (qR (.id))))))) (fun J=>xO (Qw J) (xR 3 (xE (Qk ⟨[(2,B (Qr G 95))],[]⟩ (sT (qR (.id))))))))
def UZ (n:Nat) (J:List UInt8) (G:Int→Option Int) (O:Int):Option Int :=
 (cond (Qp O (Qb J))
  ((QY J O).bind fun Z =>
  (Jh n (Zv Z)).bind fun Y =>
  some Y)
  (some false)).bind fun U =>
 cond U
  (G (wi (O+1)))
  (some O)
def TQ (n:Nat) (O:List UInt8) (G:Int):Option Int :=
 Qo (fun J U=>UZ n O J U) n G
theorem zU (n:Nat) (J:List UInt8) (G:Int):∀ r,TQ n J G=some r→QB Tryz.prog 53 [S J,I G, .p (.val (.func (.func 115) #[] #[]))] (.ret (I r)):=by
 refine Qj Tryz.func53 rfl Tryz.ntmps53 rfl ?_;unfold TQ;refine Qf Qd ⟨tq0 J G (.func (.func 115) #[] #[]),[]⟩ (Qf Qd (lT J (.func (.func 115) #[] #[]) G) (sS (sB (QF (fun O=>(lT J (.func (.func 115) #[] #[]) O):Int→St) (H5) ?_))));rintro U O;show QO (UZ n J U O) _ _ _ _ _ _;unfold UZ;refine sS (KI (fun Y=>⟨tq2 J (.func (.func 115) #[] #[]) O Y,[]⟩:Bool→St) ?_ ?_)
 ·refine sG (xR 5 (xS (Qp O (Qb J)) (fun Z=>?_) (fun Z=>?_)))
  ·refine xO (Qv Z) (xR 2 (xG (JU (l:=J) (k:=.i64) (n:=O) rfl Qc Qc Qc) (fun x4=>?_)));refine xC [] (Ep n (Zv x4)) QE (fun r5=>?_);exact xR 1 (xE (QS r5))
  exact xN (Qx Z) (xR 5 (xE (QS false)))
 rintro Y;exact sC Y (sK (Qk (lT J (.func (.func 115) #[] #[]) O) (sB (sL Qd (QR (KP (wi (O+1)))))))) (Qq (ZR (Yp (QL (Qk ⟨[(7,I O)],[]⟩ (Qf Qd ⟨[(6,I O)],[]⟩ (sT (qR (.id)))))))))
def U0 (n:Nat) (J:List UInt8) (G:Int→Option Int) (O:Int):Option Int :=
 (cond (Qp O (Qb J))
  ((QY J O).bind fun Z =>
  (Jg n (Zv Z)).bind fun Y =>
  some Y)
  (some false)).bind fun U =>
 cond U
  (G (wi (O+1)))
  (some O)
def TR (n:Nat) (O:List UInt8) (G:Int):Option Int :=
 Qo (fun J U=>U0 n O J U) n G
theorem zV (n:Nat) (J:List UInt8) (G:Int):∀ r,TR n J G=some r→QB Tryz.prog 53 [S J,I G, .p (.val (.func (.func 113) #[] #[]))] (.ret (I r)):=by
 refine Qj Tryz.func53 rfl Tryz.ntmps53 rfl ?_;unfold TR;refine Qf Qd ⟨tq0 J G (.func (.func 113) #[] #[]),[]⟩ (Qf Qd (lT J (.func (.func 113) #[] #[]) G) (sS (sB (QF (fun O=>(lT J (.func (.func 113) #[] #[]) O):Int→St) (H5) ?_))));rintro U O;show QO (U0 n J U O) _ _ _ _ _ _;unfold U0;refine sS (KI (fun Y=>⟨tq2 J (.func (.func 113) #[] #[]) O Y,[]⟩:Bool→St) ?_ ?_)
 ·refine sG (xR 5 (xS (Qp O (Qb J)) (fun Z=>?_) (fun Z=>?_)))
  ·refine xO (Qv Z) (xR 2 (xG (JU (l:=J) (k:=.i64) (n:=O) rfl Qc Qc Qc) (fun x4=>?_)));refine xC [] (FH n (Zv x4)) QE (fun r5=>?_);exact xR 1 (xE (QS r5))
  exact xN (Qx Z) (xR 5 (xE (QS false)))
 rintro Y;exact sC Y (sK (Qk (lT J (.func (.func 113) #[] #[]) O) (sB (sL Qd (QR (KP (wi (O+1)))))))) (Qq (ZR (Yp (QL (Qk ⟨[(7,I O)],[]⟩ (Qf Qd ⟨[(6,I O)],[]⟩ (sT (qR (.id)))))))))
def Ve (G:List UInt8) (U:(Int × Int)→Option (Int × Int)) (O:Int) (J:Int):Option (Int × Int) :=
 cond (Qp J (Qb G))
  ((QY G J).bind fun Y =>
  cond (Qp 1000000 (wi ((wi (10 * O))+(wi (w8 ((Zv Y) - 48))))))
   (some (0,3))
   (U (wi ((wi (10 * O))+(wi (w8 ((Zv Y) - 48)))),wi (J+1))))
  (some (O,0))
def RN (n:Nat) (G:List UInt8):Option (Int × Int) :=
 (cond (Qp 1 (Qb G))
  ((QY G 0).bind fun Y =>
  some (Qr (Zv Y) 48))
  (some false)).bind fun Z =>
 cond Z
  (some (0,7))
  (Qo (fun J (U,O)=>Ve G J U O) n (0,0))
def tq3:=fun O G J=>([(0,S O),(4,I G),(5,I J)]:List (Nat × AV))
theorem ww (n:Nat) (G:List UInt8):∀ r,RN n G=some r→QB Tryz.prog 116 [S G] (.ret (.tup [I r.1,I r.2])):=by
 refine Qj Tryz.func116 rfl Tryz.ntmps116 rfl ?_;unfold RN;refine Qf Qd ⟨[(0,S G)],[]⟩ (sS (KI (fun j1=>⟨[(0,S G),(13,B j1)],[]⟩:Bool→St) (sG (xR 4 (xS (Qp 1 (Qb G)) (fun Z=>xO (Qv Z) (xG (JU (l:=G) (k:=.i64) (n:=0) rfl Qc Qc Qc) (fun x3=>xR 2 (xE (QS (Qr (Zv x3) 48)))))) (fun Z=>xN (Qx Z) (xR 3 (xE (QS false))))))) ?_));rintro j1;refine sC j1 (Qf Qd ⟨[(2,I 0),(3,I 7)],[]⟩ (sT (QA (qR (.id))))) (sK (Qk ⟨[(0,S G)],[]⟩ (Qf Qd ⟨[(0,S G),(4,I 0)],[]⟩ (sS (Qf Qd ⟨[(0,S G),(4,I 0),(5,I 0)],[]⟩ (sB (QF (fun (J,O)=>⟨tq3 G J O,[]⟩:(Int × Int)→St) (H5) ?_)))))));rintro U ⟨J,O⟩;show QO (Ve G U J O) _ _ _ _ _ _;unfold Ve;exact sS (Qf Qd ⟨[(0,S G),(4,I J),(5,I O),(17,B (Qp O (Qb G)))],[]⟩ (sC (Qp O (Qb G)) (sK (Qk ⟨tq3 G J O,[]⟩ (sS (sB (sS (sG (xR 4 (xG (JU (l:=G) (k:=.i64) (n:=O) rfl Qc Qc Qc) (fun Y=>xR 4 (xE (Qk ⟨tq3 G (wi ((wi (10 * J))+(wi (w8 ((Zv Y) - 48))))) O,[]⟩ (Qf Qd ⟨[(0,S G),(4,I (wi ((wi (10 * J))+(wi (w8 ((Zv Y) - 48)))))),(5,I O),(29,B (Qp 1000000 (wi ((wi (10 * J))+(wi (w8 ((Zv Y) - 48)))))))],[]⟩ (sC (Qp 1000000 (wi ((wi (10 * J))+(wi (w8 ((Zv Y) - 48)))))) (Qf Qd ⟨[(2,I 0),(3,I 3)],[]⟩ (sT (Q4 (QA (VX (Q4 (QA (qR (.id))))))))) (sK (QR (Qk ⟨tq3 G (wi ((wi (10 * J))+(wi (w8 ((Zv Y) - 48))))) O,[]⟩ (sL Qd (KP (wi ((wi (10 * J))+(wi (w8 ((Zv Y) - 48)))),wi (O+1)))))))))))))))))))) (Qq (ZR (Yp (QL (Qk ⟨[(4,I J)],[]⟩ (Qf Qd ⟨[(2,I J),(3,I 0)],[]⟩ (sT (qR (.id)))))))))))
def RO (n:Nat) (O:List UInt8) (G:Int) (J:Int):Option (QX × Int × Int) :=
 cond (Qr J 3)
  ((TQ n O G).bind fun r1 =>
  cond (Qp 12 (wi (r1 - G)))
   (some ((⟨0,[],0,0⟩:QX),r1,3))
   (cond (sliceB G r1 (List.length O)) (
    some ((⟨1,List.drop (Int.toNat G) (List.take (Int.toNat r1) O),0,G⟩:QX),r1,0)) none))
  (cond (Qr J 4)
   ((TR n O G).bind fun U =>
   cond (sliceB G U (List.length O)) (
    (RN n (List.drop (Int.toNat G) (List.take (Int.toNat U) O))).bind fun Y =>
    cond (!Qr Y.2 0)
     (some ((⟨0,[],0,0⟩:QX),U,Y.2))
     (some ((⟨2,[],Y.1,G⟩:QX),U,0))) none)
   (cond (Qr J 5)
    (cond (sliceB G (wi (G+1)) (List.length O)) (
     some ((⟨3,List.drop (Int.toNat G) (List.take (Int.toNat (wi (G+1))) O),0,G⟩:QX),wi (G+1),0)) none)
    (some ((⟨0,[],0,0⟩:QX),G,7))))
def bP:=fun O G J=>([(6, .box 87 [I O,S [],I G,I J])]:List (Nat × Blk))
def sq1:=fun U G O J Y=>(⟨[(6, .ptr 6 0),(7,I U),(8,I G)],bP O J Y⟩:St)
def bq0:=fun U G O J=>(.box 87 [I U,S G,I O,I J]:Blk)
theorem wy (n:Nat) (O:List UInt8) (G:Int) (J:Int):∀ r,RO n O G J=some r→QB Tryz.prog 55 [S O,I G,I J] (.ret (.tup [ag (QX.cs r.1),I r.2.1,I r.2.2])):=by
 refine Qj Tryz.func55 rfl Tryz.ntmps55 rfl ?_;unfold RO;refine Qf Qd ⟨[(0,S O),(1,I G),(2,I J),qq 6],bP 0 0 0⟩ (sS (Qf Qd ⟨[(0,S O),(1,I G),qq 6,(13,I J)],bP 0 0 0⟩ (sB (Qf Qd ⟨[(0,S O),(1,I G),qq 6,(13,I J),(14,B (Qr J 3))],bP 0 0 0⟩ (sC (Qr J 3) ?_ ?_)))))
 ·refine sS (sG (xR 2 ?_));refine xC [] (zU n O G) QE (fun r1=>?_);exact xR 1 (xE (Qk ⟨[(0,S O),(1,I G),qq 6,(9,I r1)],bP 0 0 0⟩ (sS (Qf Qd ⟨[(0,S O),(1,I G),qq 6,(9,I r1),(22,B (Qp 12 (wi (r1 - G))))],bP 0 0 0⟩ (sC (Qp 12 (wi (r1 - G))) (Qf Qd (sq1 r1 3 0 0 0) (sT (QA (Q4 (QA (qR (.id))))))) (sK (Qk ⟨[(0,S O),(1,I G),qq 6,(9,I r1)],bP 0 0 0⟩ (sS (sG (xR 3 (xF (NL (l:=O) (a:=G) (b:=r1) rfl Qc Qc Qc Qc) (xR 6 (xE (Qk ⟨[qq 6,(7,I r1),(8,I 0)],[(6,(bq0 1 (List.drop (Int.toNat G) (List.take (Int.toNat r1) O)) 0 G))]⟩ (sT (Q4 (QA (qR (.id)))))))))))))))))))
 refine Qf Qd ⟨[(0,S O),(1,I G),qq 6,(13,I J),(32,B (Qr J 4))],bP 0 0 0⟩ (sC (Qr J 4) (sS (sG (xR 2 ?_))) (Qf Qd ⟨[(0,S O),(1,I G),qq 6,(54,B (Qr J 5))],bP 0 0 0⟩ (sC (Qr J 5) (sS (sG (xR 4 (xF (NL (l:=O) (a:=G) (b:=wi (G+1)) rfl Qc Qc Qc Qc) (xR 7 (xE (Qk ⟨[qq 6,(7,I (wi (G+1))),(8,I 0)],[(6,(bq0 3 (List.drop (Int.toNat G) (List.take (Int.toNat (wi (G+1))) O)) 0 G))]⟩ (sT (Q4 (QA (qR (.id)))))))))))) (sK (QR (Qk ⟨[(1,I G),qq 6],bP 0 0 0⟩ (Qf Qd (sq1 G 7 0 0 0) (sT (qR (.id))))))))));refine xC [] (zV n O G) QE (fun Y=>?_);refine xR 1 (xE (Qk ⟨[(0,S O),(1,I G),qq 6,(10,I Y)],bP 0 0 0⟩ (sS (sG (xR 3 (xF (NL (l:=O) (a:=G) (b:=Y) rfl Qc Qc Qc Qc) ?_))))));refine xC [] (ww n (List.drop (Int.toNat G) (List.take (Int.toNat Y) O))) QE (fun U=>?_);exact xR 5 (xE (Qk ⟨[(1,I G),qq 6,(10,I Y),(11,I U.1),(12,I U.2)],bP 0 0 0⟩ (sS (Qf Qd ⟨[(1,I G),qq 6,(10,I Y),(11,I U.1),(12,I U.2),(46,B (!Qr U.2 0))],bP 0 0 0⟩ (sC (!Qr U.2 0) (Qf Qd (sq1 Y U.2 0 0 0) (sT (QA (Q4 (QA (qR (.id))))))) (sK (Qk ⟨[(1,I G),qq 6,(10,I Y),(11,I U.1)],bP 0 0 0⟩ (Qf Qd (sq1 Y 0 2 U.1 G) (sT (Q4 (QA (qR (.id)))))))))))))
def Wl (n:Nat) (U:List UInt8) (O:((List QX) × Int)→Option ((List QX) × Int × Int)) (J:List QX) (G:Int):Option ((List QX) × Int × Int) :=
 cond (Qp G (Qb U))
  ((QY U G).bind fun x2 =>
  (FI n (Zv x2)).bind fun Z =>
  cond (Qr Z 1)
   ((Eo n U G).bind fun r4 =>
   O (J,r4))
   (cond (Qr Z 2)
    ((TP n U G).bind fun r5 =>
    O (J,r5))
    (cond (Qr (Qb (List.map QX.cs J)) 2000)
     (some ([],2,G))
     ((RO n U G Z).bind fun Y =>
     cond (!Qr Y.2.2 0)
      (some ([],Y.2.2,G))
      (cond (QM (List.length (J++[Y.1])) 40) (
       O (J++[Y.1],Y.2.1)) none)))))
  (some (J,0,0))
def Es (n:Nat) (J:List UInt8):Option ((List QX) × Int × Int) :=
 cond (Qp 8000 (Qb J))
  (some ([],2,0))
  (Qo (fun G (U,O)=>Wl n J G U O) n ([],0))
def tq4:=fun J G=>([(2, .p (.val (.slice none 0 0))),(3,I J),(4,I G)]:List (Nat × AV))
def tq5:=fun G=>([(0,S G),(5, .p (.val (.slice none 0 0))),(6, .p (.val (.func (.func 51) #[] #[]))),(7,I 0)]:List (Nat × AV))
def tq6:=fun O G J=>([(0,S O),(5, .tsl 4 (List.map QX.cs G) 54),(6, .p (.val (.func (.func 51) #[] #[]))),(7,I J)]:List (Nat × AV))
def bq1:=fun G=>(.arr 87 4 (List.map QX.cs G).length:Blk)
def NN:=fun G=>([(54,(bq1 G))]:List (Nat × Blk))
def tq7:=fun U J O G=>([(0,S U),(5, .tsl 4 (List.map QX.cs J) 54),(6, .p (.val (.func (.func 51) #[] #[]))),(7,I O),(8,I G)]:List (Nat × AV))
def Dk:=fun J G=>([(9, .box 87 (Yx (QX.cs J))),(54,(bq1 G))]:List (Nat × Blk))
theorem nu (n:Nat) (J:List UInt8):∀ r,Es n J=some r→QB Tryz.prog 24 [S J] (.ret (.tup [.p (.sl 4 (F5 r.1)),I r.2.1,I r.2.2])):=by
 refine Qj Tryz.func24 rfl Tryz.ntmps24 rfl ?_;unfold Es;refine Qf Qd ⟨[(0,S J)],[]⟩ (sw (sS (Qf Qd ⟨[(0,S J),(14,B (Qp 8000 (Qb J)))],[]⟩ (sC (Qp 8000 (Qb J)) (Qf Qd ⟨tq4 2 0,[]⟩ (sT (QA (qR (.agg [.sl 4, .id, .id]))))) (sK (Qk ⟨[(0,S J)],[]⟩ (Qf Qd ⟨[(0,S J),(5,zS)],[]⟩ (Qf Qd ⟨[(0,S J),(5,zS),(6, .p (.val (.func (.func 51) #[] #[])))],[]⟩ (Qf Qd ⟨tq5 J,[]⟩ (sS (su (Qk ⟨tq5 J,[]⟩ (sS (sB (NM ⟨tq5 J,[]⟩ (Kz (Yk 87 4 54 [5] []) (QF (fun (G,O)=>⟨tq6 J G O,NN G⟩:((List QX) × Int)→St) (H5) ?_)))))))))))))))));rintro Z ⟨G,O⟩;show QO (Wl n J Z G O) _ _ _ _ _ _;unfold Wl;refine sS (Qf Qd ⟨[(0,S J),(5, .tsl 4 (F5 G) 54),(6, .p (.val (.func (.func 51) #[] #[]))),(7,I O),(18,B (Qp O (Qb J)))],NN G⟩ (sC (Qp O (Qb J)) (sK (Qk ⟨tq6 J G O,NN G⟩ (sB (sS (sG (xR 2 (xG (JU (l:=J) (k:=.i64) (n:=O) rfl Qc Qc Qc) (fun x2=>?_)))))))) (Qq (ZR (Yp (QL (Qk ⟨[(5, .tsl 4 (F5 G) 54)],NN G⟩ (Qf Qd ⟨[(2, .tsl 4 (F5 G) 54),(3,I 0),(4,I 0)],NN G⟩ (sT (qR (.agg [.sl 4, .id, .id])))))))))));refine xC [] (zQ n (Zv x2)) QE (fun Y=>?_);refine xR 1 (xE (Qk ⟨tq7 J G O Y,NN G⟩ (sS (Qf Qd ⟨[(0,S J),(5, .tsl 4 (F5 G) 54),(6, .p (.val (.func (.func 51) #[] #[]))),(7,I O),(8,I Y),(23,I Y)],NN G⟩ (sB (Qf Qd ⟨[(0,S J),(5, .tsl 4 (F5 G) 54),(6, .p (.val (.func (.func 51) #[] #[]))),(7,I O),(8,I Y),(23,I Y),(24,B (Qr Y 1))],NN G⟩ (sC (Qr Y 1) ?_ ?_)))))))
 ·refine sS (sG (xR 2 ?_));refine xC [] (uE n J O) QE (fun r4=>?_);exact xR 1 (xE (Qk ⟨tq6 J G r4,NN G⟩ (Qq (vR rfl (ZR (QL (KP (G,r4))))))))
 refine Qf Qd ⟨[(0,S J),(5, .tsl 4 (F5 G) 54),(6, .p (.val (.func (.func 51) #[] #[]))),(7,I O),(8,I Y),(29,B (Qr Y 2))],NN G⟩ (sC (Qr Y 2) ?_ ?_)
 ·refine sS (sG (xR 3 ?_));refine xC [] (zR n J O) QE (fun r5=>?_);exact xR 1 (xE (Qk ⟨tq6 J G r5,NN G⟩ (Qq (vR rfl (ZR (QL (KP (G,r5))))))))
 refine sK (QR (Qk ⟨tq7 J G O Y,NN G⟩ (sS (Qf Qd ⟨[(0,S J),(5, .tsl 4 (F5 G) 54),(6, .p (.val (.func (.func 51) #[] #[]))),(7,I O),(8,I Y),(37,B (Qr (Qb (F5 G)) 2000))],NN G⟩ (sC (Qr (Qb (F5 G)) 2000) (Qf Qd ⟨tq4 2 O,[]⟩ (sT (QA (Q4 (VX (Q4 (QA (qR (.agg [.sl 4, .id, .id]))))))))) (sK (Qk ⟨tq7 J G O Y,NN G⟩ (sS (sG (xR 3 ?_))))))))));refine xC [] (wy n J O Y) QE (fun U=>?_);exact xR 8 (xE (Qk ⟨[(0,S J),(5, .tsl 4 (F5 G) 54),(6, .p (.val (.func (.func 51) #[] #[]))),(7,I O),qq 9,(10,I U.2.1),(11,I U.2.2)],Dk U.1 G⟩ (sS (Qf Qd ⟨[(0,S J),(5, .tsl 4 (F5 G) 54),(6, .p (.val (.func (.func 51) #[] #[]))),(7,I O),qq 9,(10,I U.2.1),(11,I U.2.2),(48,B (!Qr U.2.2 0))],Dk U.1 G⟩ (sC (!Qr U.2.2 0) (Qf Qd ⟨tq4 U.2.2 O,[]⟩ (sT (QA (Q4 (VX (Q4 (QA (qR (.agg [.sl 4, .id, .id]))))))))) (sK (Qk ⟨[(0,S J),(5, .tsl 4 (F5 G) 54),(6, .p (.val (.func (.func 51) #[] #[]))),qq 9,(10,I U.2.1)],Dk U.1 G⟩ (sS (sG (xR 3 (xF (YV (e:=87) (S:=4) (by_:=40) (enc:=QX.cs) (tk:=54) (l:=G) (l2:=[U.1]) (xv:=.tsl 4 (F5 [U.1]) 53) rfl Qc Qc rfl Qc Qc Qc rfl Qc) (xR 1 (xE (Qk ⟨[(0,S J),(5, .tsl 4 (F5 (G++[U.1])) 54),(6, .p (.val (.func (.func 51) #[] #[]))),(10,I U.2.1)],NN (G++[U.1])⟩ (sL Qd (QR (KP (G++[U.1],U.2.1))))))))))))))))))
def RP (n:Nat) (G:ZK):Option Bool :=
 some (leI 20 (Qb (List.map ZH.cs G.dg)))
theorem AJ (n:Nat) (G:ZK):∀ r,RP n G=some r→QB Tryz.prog 56 [.eptr (ZK.cs G)] (.ret (B r)):=by
 refine Qj Tryz.func56 rfl Tryz.ntmps56 rfl ?_;unfold RP;exact Qf Qd ⟨[(0, .eptr (ZK.cs G))],[]⟩ (Qf Qd ⟨[(2,B (leI 20 (Qb (Ue G.dg))))],[]⟩ (sT (qR (.id))))
def XX (n:Nat) (G:ZK):Option QX :=
 cond (Qp G.pos (Qb (List.map QX.cs G.tks)))
  ((QY G.tks G.pos).bind fun J =>
  some J)
  (some (⟨0,[],0,G.length⟩:QX))
def tq8:=fun G=>([(0,G),(2, .ptr 2 0)]:List (Nat × AV))
def hq3:=fun G=>([(2, .box 87 [I 0,S [],I 0,I G])]:List (Nat × Blk))
def hq4:=fun G=>([(2, .box 87 (Yx (QX.cs G)))]:List (Nat × Blk))
theorem Hr (n:Nat) (G:ZK) (U:Option Addr) (O J:Nat):∀ r,XX n G=some r→QB Tryz.prog 181 [.eptr [.sl 4 (F5 G.tks),VI G.pos,VI G.length, .val (.slice U O J)]] (.ret (ag (QX.cs r))):=by
 refine Qj Tryz.func181 rfl Tryz.ntmps181 rfl ?_;unfold XX;exact Qf Qd ⟨tq8 (.eptr [.sl 4 (F5 G.tks),VI G.pos,VI G.length, .val (.slice U O J)]),hq3 0⟩ (sS (Qf Qd ⟨[(0, .eptr [.sl 4 (F5 G.tks),VI G.pos,VI G.length, .val (.slice U O J)]),qq 2,(12,B (Qp G.pos (Qb (F5 G.tks))))],hq3 0⟩ (sC (Qp G.pos (Qb (F5 G.tks))) (sS (CQ Qd rfl (xR 8 (xG (Zx (e:=87) (S:=4) (enc:=QX.cs) (l:=G.tks) (k:=.i64) (n:=G.pos) (sv:=.p (.sl 4 (F5 G.tks))) rfl Qc Qc Qc Qc Qc) (fun Y=>xR 2 (BZ (Qk ⟨[qq 2],hq4 Y⟩ (sT (QA (qR (.id))))))))))) (sK (Qk ⟨tq8 (.eptr [.sl 4 (F5 G.tks),VI G.pos,VI G.length, .val (.slice U O J)]),hq3 0⟩ (Qf Qd ⟨[qq 2],hq3 G.length⟩ (sT (qR (.id)))))))))
def Vv (n:Nat) (G:List UInt8):Option Int :=
 cond (Qt G [102,101,101,100,101,114])
  (some 1)
  (cond (Qt G [99,97,98,108,101])
   (some 2)
   (cond (Qt G [111,119,110,101,114])
    (some 3)
    (cond (Qt G [99,111,110,116,114,97,99,116])
     (some 4)
     (cond (Qt G [99,104,97,114,103,101,114])
      (some 5)
      (cond (Qt G [98,97,121])
       (some 6)
       (cond (Qt G [116,97,114,105,102,102])
        (some 7)
        (some 0)))))))
def tq9:=fun J G=>([(3,S J),(4,B G)]:List (Nat × AV))
def Ie:=fun J G=>(⟨tq9 J G,[]⟩:St)
theorem LH (n:Nat) (G:List UInt8):∀ r,Vv n G=some r→QB Tryz.prog 122 [S G] (.ret (I r)):=by
 refine Qj Tryz.func122 rfl Tryz.ntmps122 rfl ?_;unfold Vv;exact Qf Qd ⟨[(0,S G)],[]⟩ (sS (Qf Qd ⟨[(3,S G)],[]⟩ (sB (Qf Qd (Ie G (Qt G [102,101,101,100,101,114])) (sC (Qt G [102,101,101,100,101,114]) (Qf Qd ⟨[(2,I 1)],[]⟩ (sT (Q4 (QA (qR (.id)))))) (Qf Qd ⟨[(3,S G),(6,B (Qt G [99,97,98,108,101]))],[]⟩ (sC (Qt G [99,97,98,108,101]) (Qf Qd ⟨[(2,I 2)],[]⟩ (sT (Q4 (QA (qR (.id)))))) (Qf Qd ⟨[(3,S G),(8,B (Qt G [111,119,110,101,114]))],[]⟩ (sC (Qt G [111,119,110,101,114]) (Qf Qd ⟨[(2,I 3)],[]⟩ (sT (Q4 (QA (qR (.id)))))) (Qf Qd ⟨[(3,S G),(10,B (Qt G [99,111,110,116,114,97,99,116]))],[]⟩ (sC (Qt G [99,111,110,116,114,97,99,116]) (Qf Qd ⟨[(2,I 4)],[]⟩ (sT (Q4 (QA (qR (.id)))))) (Qf Qd ⟨[(3,S G),(12,B (Qt G [99,104,97,114,103,101,114]))],[]⟩ (sC (Qt G [99,104,97,114,103,101,114]) (Qf Qd ⟨[(2,I 5)],[]⟩ (sT (Q4 (QA (qR (.id)))))) (Qf Qd ⟨[(3,S G),(14,B (Qt G [98,97,121]))],[]⟩ (sC (Qt G [98,97,121]) (Qf Qd ⟨[(2,I 6)],[]⟩ (sT (Q4 (QA (qR (.id)))))) (Qf Qd ⟨[(16,B (Qt G [116,97,114,105,102,102]))],[]⟩ (sC (Qt G [116,97,114,105,102,102]) (Qf Qd ⟨[(2,I 7)],[]⟩ (sT (Q4 (QA (qR (.id)))))) (sK (QR (Qk ⟨[],[]⟩ (Qf Qd ⟨[(2,I 0)],[]⟩ (sT (qR (.id))))))))))))))))))))))))
def FJ (n:Nat) (G:List UInt8):Option Bool :=
 (Vv n G).bind fun r1 =>
 some (!Qr r1 0)
theorem zW (n:Nat) (G:List UInt8):∀ r,FJ n G=some r→QB Tryz.prog 121 [S G] (.ret (B r)):=by
 refine Qj Tryz.func121 rfl Tryz.ntmps121 rfl ?_;unfold FJ;refine Qf Qd ⟨[(0,S G)],[]⟩ (sS (sG (xR 1 ?_)));refine xC [] (LH n G) QE (fun r1=>?_);exact xR 2 (xE (Qk ⟨[(2,B (!Qr r1 0))],[]⟩ (sT (qR (.id)))))
def RQ (n:Nat) (G:ZK):Option (Except Int Unit) :=
 (XX n (⟨G.tks,G.pos,G.length,[]⟩:ZK)).bind fun r1 =>
 some (.error r1.At)
theorem AL (n:Nat) (G:ZK) (J:Option Addr) (U O:Nat):∀ r,RQ n G=some r→QB Tryz.prog 182 [.eptr [.sl 4 (F5 G.tks),VI G.pos,VI G.length, .val (.slice J U O)]] (zM (fun r:Unit=>(.tup []:AV)) (fun e:Int=>(.ifc 235 (.agg [I e]):AV)) r):=by
 refine Qj Tryz.func182 rfl Tryz.ntmps182 rfl ?_;unfold RQ;refine sG (xR 1 ?_);refine xC [] (Hr n (⟨G.tks,G.pos,G.length,[]⟩:ZK) J U O) QE (fun r1=>?_);exact xR 3 (xPa 235 (.agg [I r1.At]) Qc rfl Qc (qy))
def Yr (n:Nat) (G:List UInt8):Option Bool :=
 (cond (Qt G [108,105,109,105,116])
  (some (Qt G [108,105,109,105,116]))
  (cond (Qt G [110,101,117,116,114,97,108])
   (some (Qt G [110,101,117,116,114,97,108]))
   (cond (Qt G [102,117,115,101])
    (some (Qt G [102,117,115,101]))
    (cond (Qt G [116,104,101,114,109,97,108])
     (some (Qt G [116,104,101,114,109,97,108]))
     (cond (Qt G [102,114,111,109])
      (some (Qt G [102,114,111,109]))
      (cond (Qt G [97,116])
       (some (Qt G [97,116]))
       (cond (Qt G [112,104,97,115,101,115])
        (some (Qt G [112,104,97,115,101,115]))
        (cond (Qt G [97,109,112,115])
         (some (Qt G [97,109,112,115]))
         (cond (Qt G [102,97,108,108,98,97,99,107])
          (some (Qt G [102,97,108,108,98,97,99,107]))
          (cond (Qt G [111,119,110,101,114])
           (some (Qt G [111,119,110,101,114]))
           (cond (Qt G [99,97,114,100])
            (some (Qt G [99,97,114,100]))
            (cond (Qt G [114,97,110,107])
             (some (Qt G [114,97,110,107]))
             (some (Qt G [99,104,97,114,103,101,114])))))))))))))).bind fun J =>
 cond J
  (some true)
  (some false)
theorem U1 (n:Nat) (G:List UInt8):∀ r,Yr n G=some r→QB Tryz.prog 186 [S G] (.ret (B r)):=by
 refine Qj Tryz.func186 rfl Tryz.ntmps186 rfl ?_;unfold Yr;refine Qf Qd ⟨[(0,S G)],[]⟩ (sS (Qf Qd ⟨[(3,S G)],[]⟩ (sB (KI (fun J=>⟨[(4,B J)],[]⟩:Bool→St) ?_ ?_))));rotate_left
 ·rintro J;exact sC J (Qf Qd ⟨[(2,B true)],[]⟩ (sT (Q4 (QA (qR (.id)))))) (sK (QR (Qk ⟨[],[]⟩ (Qf Qd ⟨[(2,B false)],[]⟩ (sT (qR (.id)))))))
 exact Qf Qd (Ie G (Qt G [108,105,109,105,116])) (sC (Qt G [108,105,109,105,116]) (sK (QS (Qt G [108,105,109,105,116]))) (Qf Qd (Ie G (Qt G [110,101,117,116,114,97,108])) (sC (Qt G [110,101,117,116,114,97,108]) (sK (QS (Qt G [110,101,117,116,114,97,108]))) (Qf Qd (Ie G (Qt G [102,117,115,101])) (sC (Qt G [102,117,115,101]) (sK (QS (Qt G [102,117,115,101]))) (Qf Qd (Ie G (Qt G [116,104,101,114,109,97,108])) (sC (Qt G [116,104,101,114,109,97,108]) (sK (QS (Qt G [116,104,101,114,109,97,108]))) (Qf Qd (Ie G (Qt G [102,114,111,109])) (sC (Qt G [102,114,111,109]) (sK (QS (Qt G [102,114,111,109]))) (Qf Qd ⟨tq9 G (Qt G [97,116]),[]⟩ (sC (Qt G [97,116]) (sK (QS (Qt G [97,116]))) (Qf Qd (Ie G (Qt G [112,104,97,115,101,115])) (sC (Qt G [112,104,97,115,101,115]) (sK (QS (Qt G [112,104,97,115,101,115]))) (Qf Qd (Ie G (Qt G [97,109,112,115])) (sC (Qt G [97,109,112,115]) (sK (QS (Qt G [97,109,112,115]))) (Qf Qd (Ie G (Qt G [102,97,108,108,98,97,99,107])) (sC (Qt G [102,97,108,108,98,97,99,107]) (sK (QS (Qt G [102,97,108,108,98,97,99,107]))) (Qf Qd (Ie G (Qt G [111,119,110,101,114])) (sC (Qt G [111,119,110,101,114]) (sK (QS (Qt G [111,119,110,101,114]))) (Qf Qd (Ie G (Qt G [99,97,114,100])) (sC (Qt G [99,97,114,100]) (sK (QS (Qt G [99,97,114,100]))) (Qf Qd (Ie G (Qt G [114,97,110,107])) (sC (Qt G [114,97,110,107]) (sK (QS (Qt G [114,97,110,107]))) (sL Qd (QS (Qt G [99,104,97,114,103,101,114]))))))))))))))))))))))))))
def Kb (n:Nat) (G:List UInt8):Option Bool :=
 (cond (Qt G [115,116,97,114,116])
  (some (Qt G [115,116,97,114,116]))
  (cond (Qt G [101,110,101,114,103,121])
   (some (Qt G [101,110,101,114,103,121]))
   (cond (Qt G [116,105,109,101])
    (some (Qt G [116,105,109,101]))
    (cond (Qt G [105,100,108,101])
     (some (Qt G [105,100,108,101]))
     (cond (Qt G [99,97,112])
      (some (Qt G [99,97,112]))
      (some (Qt G [116,97,120]))))))).bind fun J =>
 cond J
  (some true)
  (some false)
theorem UE (n:Nat) (G:List UInt8):∀ r,Kb n G=some r→QB Tryz.prog 192 [S G] (.ret (B r)):=by
 refine Qj Tryz.func192 rfl Tryz.ntmps192 rfl ?_;unfold Kb;refine Qf Qd ⟨[(0,S G)],[]⟩ (sS (Qf Qd ⟨[(3,S G)],[]⟩ (sB (KI (fun J=>⟨[(4,B J)],[]⟩:Bool→St) ?_ ?_))));rotate_left
 ·rintro J;exact sC J (Qf Qd ⟨[(2,B true)],[]⟩ (sT (Q4 (QA (qR (.id)))))) (sK (QR (Qk ⟨[],[]⟩ (Qf Qd ⟨[(2,B false)],[]⟩ (sT (qR (.id)))))))
 exact Qf Qd (Ie G (Qt G [115,116,97,114,116])) (sC (Qt G [115,116,97,114,116]) (sK (QS (Qt G [115,116,97,114,116]))) (Qf Qd (Ie G (Qt G [101,110,101,114,103,121])) (sC (Qt G [101,110,101,114,103,121]) (sK (QS (Qt G [101,110,101,114,103,121]))) (Qf Qd (Ie G (Qt G [116,105,109,101])) (sC (Qt G [116,105,109,101]) (sK (QS (Qt G [116,105,109,101]))) (Qf Qd (Ie G (Qt G [105,100,108,101])) (sC (Qt G [105,100,108,101]) (sK (QS (Qt G [105,100,108,101]))) (Qf Qd (Ie G (Qt G [99,97,112])) (sC (Qt G [99,97,112]) (sK (QS (Qt G [99,97,112]))) (sL Qd (QS (Qt G [116,97,120]))))))))))))
def YS (n:Nat) (G:List UInt8):Option Bool :=
 (cond (Qt G [111,110])
  (some (Qt G [111,110]))
  (cond (Qt G [119,111,114,107])
   (some (Qt G [119,111,114,107]))
   (cond (Qt G [115,97,116,117,114,100,97,121])
    (some (Qt G [115,97,116,117,114,100,97,121]))
    (cond (Qt G [115,117,110,100,97,121])
     (some (Qt G [115,117,110,100,97,121]))
     (cond (Qt G [98,101,116,119,101,101,110])
      (some (Qt G [98,101,116,119,101,101,110]))
      (cond (Qt G [112,101,114])
       (some (Qt G [112,101,114]))
       (some (Qt G [102,114,101,101])))))))).bind fun J =>
 cond J
  (some true)
  (some false)
theorem LJ (n:Nat) (G:List UInt8):∀ r,YS n G=some r→QB Tryz.prog 218 [S G] (.ret (B r)):=by
 refine Qj Tryz.func218 rfl Tryz.ntmps218 rfl ?_;unfold YS;refine Qf Qd ⟨[(0,S G)],[]⟩ (sS (Qf Qd ⟨[(3,S G)],[]⟩ (sB (KI (fun J=>⟨[(4,B J)],[]⟩:Bool→St) ?_ ?_))));rotate_left
 ·rintro J;exact sC J (Qf Qd ⟨[(2,B true)],[]⟩ (sT (Q4 (QA (qR (.id)))))) (sK (QR (Qk ⟨[],[]⟩ (Qf Qd ⟨[(2,B false)],[]⟩ (sT (qR (.id)))))))
 exact Qf Qd (Ie G (Qt G [111,110])) (sC (Qt G [111,110]) (sK (QS (Qt G [111,110]))) (Qf Qd (Ie G (Qt G [119,111,114,107])) (sC (Qt G [119,111,114,107]) (sK (QS (Qt G [119,111,114,107]))) (Qf Qd (Ie G (Qt G [115,97,116,117,114,100,97,121])) (sC (Qt G [115,97,116,117,114,100,97,121]) (sK (QS (Qt G [115,97,116,117,114,100,97,121]))) (Qf Qd (Ie G (Qt G [115,117,110,100,97,121])) (sC (Qt G [115,117,110,100,97,121]) (sK (QS (Qt G [115,117,110,100,97,121]))) (Qf Qd (Ie G (Qt G [98,101,116,119,101,101,110])) (sC (Qt G [98,101,116,119,101,101,110]) (sK (QS (Qt G [98,101,116,119,101,101,110]))) (Qf Qd (Ie G (Qt G [112,101,114])) (sC (Qt G [112,101,114]) (sK (QS (Qt G [112,101,114]))) (sL Qd (QS (Qt G [102,114,101,101]))))))))))))))
def UF (n:Nat) (G:List UInt8):Option Bool :=
 (Vv n G).bind fun r1 =>
 cond (!Qr r1 0)
  (some true)
  ((Yr n G).bind fun J =>
  cond J
   (some true)
   ((Kb n G).bind fun O =>
   cond O
    (some true)
    ((YS n G).bind fun U =>
    some U)))
theorem Et (n:Nat) (G:List UInt8):∀ r,UF n G=some r→QB Tryz.prog 184 [S G] (.ret (B r)):=by
 refine Qj Tryz.func184 rfl Tryz.ntmps184 rfl ?_;unfold UF;refine Qf Qd ⟨[(0,S G)],[]⟩ (sS (sG (xR 1 ?_)));refine xC [] (LH n G) QE (fun r1=>?_);refine xR 2 (xS (!Qr r1 0) (fun O=>xN (Qy O) (xR 11 (xE (Qk ⟨[(2,B true)],[]⟩ (sT (qR (.id))))))) (fun O=>xO (Qw O) ?_));refine xC [] (U1 n G) QE (fun r3=>?_);refine xR 2 (xS r3 (fun J=>xN (Qy J) (xR 7 (xE (Qk ⟨[(2,B true)],[]⟩ (sT (qR (.id))))))) (fun J=>xO (Qw J) ?_));refine xC [] (UE n G) QE (fun Y=>?_);refine xR 2 (xS Y (fun U=>xN (Qy U) (xR 3 (xE (Qk ⟨[(2,B true)],[]⟩ (sT (qR (.id))))))) (fun U=>xO (Qw U) ?_));refine xC [] (LJ n G) QE (fun Z=>?_);exact xR 2 (xE (Qk ⟨[(2,B Z)],[]⟩ (sT (qR (.id)))))
def Xn (n:Nat) (G:List UInt8):Option Bool :=
 (UF n G).bind fun r1 =>
 some (!r1)
theorem LK (n:Nat) (G:List UInt8):∀ r,Xn n G=some r→QB Tryz.prog 123 [S G] (.ret (B r)):=by
 refine Qj Tryz.func123 rfl Tryz.ntmps123 rfl ?_;unfold Xn;refine Qf Qd ⟨[(0,S G)],[]⟩ (sS (sG (xR 1 ?_)));refine xC [] (Et n G) QE (fun r1=>?_);exact xR 2 (xE (Qk ⟨[(2,B (!r1))],[]⟩ (sT (qR (.id)))))
def WH (n:Nat) (Y:ZK) (O:((List (List PV)) × Int)→Option ((List (List PV)) × ZK)) (G:List (List PV)) (J:Int):Option ((List (List PV)) × ZK) :=
 (XX n (⟨Y.tks,J,Y.length,[]⟩:ZK)).bind fun U =>
 cond (Qr U.Kind 2)
  ((some ()).bind fun _ =>
  cond (QM (List.length (G++[GN.cs (⟨6,[],U.N,U.At,[]⟩:GN)])) 64) (
   O (G++[GN.cs (⟨6,[],U.N,U.At,[]⟩:GN)],wi (J+1))) none)
  ((cond (Qr U.Kind 1)
   ((Xn n U.Text).bind fun r6 =>
   some r6)
   (some false)).bind fun Z =>
  cond Z
   ((some ()).bind fun _ =>
   cond (QM (List.length (G++[GN.cs (⟨5,U.Text,0,U.At,[]⟩:GN)])) 64) (
    O (G++[GN.cs (⟨5,U.Text,0,U.At,[]⟩:GN)],wi (J+1))) none)
   (some (G,(⟨Y.tks,J,Y.length,[]⟩:ZK))))
def UG (n:Nat) (U:ZK):Option ((List (List PV)) × ZK) :=
 Qo (fun G (O,J)=>WH n U G O J) n ([],U.pos)
def bq2:=fun U J O G=>(.box 84 [.p (.sl 4 (List.map QX.cs U)),I J,I O, .p (.val G)]:Blk)
def Dy:=fun U J O G=>([(1000,(bq2 U J O G))]:List (Nat × Blk))
def Qdd:=fun G=>([(0, .ptr 1000 0),(1, .p (.val G)),(5, .p (.val (.slice none 0 0)))]:List (Nat × AV))
def Qf2:=fun J G=>([(0, .ptr 1000 0),(1, .p (.val J)),(5, .tsl 5 (List.map Zy G) 300)]:List (Nat × AV))
def M6:=fun G=>([(300, .arr 25 5 (List.map Zy G).length)]:List (Nat × Blk))
def QhK:=fun J G=>([(0, .ptr 1000 0),(1, .p (.val J)),(5, .tsl 5 (List.map Zy G) 300),(6, .ptr 6 0)]:List (Nat × AV))
def hq7:=fun G=>([(6, .box 87 (Yx (QX.cs G)))]:List (Nat × Blk))
def QhL:=fun O G J=>([(0, .ptr 1000 0),(1, .p (.val O)),(5, .tsl 5 (List.map Zy G) 300),(6, .ptr 6 0),(10,B J)]:List (Nat × AV))
def Qde:=fun O G J=>([(1,I O),(2,S G),(3,I J),(4, .p (.val (.slice none 0 0))),(5, .ptr 5 0),(10, .ptr 10 0)]:List (Nat × AV))
def DK:=fun U J O G=>(.box 25 [I U,S J,I O,I G, .p (.val (.slice none 0 0))]:Blk)
def hq8:=fun G=>([(5, .box 87 (Yx (QX.cs G))),(10,(DK 0 [] 0 0))]:List (Nat × Blk))
def Qdf:List (Nat × AV):=[(4, .p (.val (.slice none 0 0))),(10, .ptr 10 0),(11, .ptr 11 0)]
def NP:=fun U J O G=>([(10,(DK 0 [] 0 0)),(11,(DK U J O G))]:List (Nat × Blk))
def sq3:=fun U J O G=>(⟨[(10, .ptr 10 0),(11, .ptr 11 0)],NP U J O G⟩:St)
def Qdg:List (Nat × AV):=[(10, .ptr 10 0),(11, .ptr 11 0),(20, .p (.val (.slice none 0 0))),(21,I 0),(22,I 0)]
def Qdh:List (Nat × AV):=[(10, .ptr 10 0),(11, .ptr 11 0),(20, .p (.val (.slice none 0 0))),(21,I 0),(22,I 0),(23,B false)]
def sq4:=fun U J O G=>(⟨[(10, .ptr 10 0)],[(10,(DK U J O G))]⟩:St)
def bq4:=fun G=>(.arr 25 5 (List.map Zy G).length:Blk)
def LM:=fun G=>([(300,(bq4 G))]:List (Nat × Blk))
def sq5:=fun U G O J Z Y=>(⟨Qf2 U G,LM G++Dy O J Z Y⟩:St)
def QhM:=fun O G J=>([(0, .ptr 1000 0),(1, .p (.val O)),(5, .tsl 5 (List.map Zy G) 300),(6, .ptr 6 0),(21,B J)]:List (Nat × AV))
theorem M7 (n:Nat) (G:ZK) (Y:Option Addr) (U Z:Nat):∀ r,UG n G=some r→Kw Tryz.prog 188 [Zh, .p (.val (.func (.func 123) #[] #[]))] (Go.Abs.look [(1000, .box 84 [.p (.sl 4 (F5 G.tks)),I G.pos,I G.length,hS Y U Z])]) (Ya (fun r:(List (List PV)) × ZK=>((.ret (.p (.sl 5 (mI r.1))),[(1000, .box 84 [.p (.sl 4 (F5 r.2.tks)),I r.2.pos,I r.2.length,hS Y U Z])]):Zz × List (Nat × Blk))) r):=by
 refine Km (Dy G.tks G.pos G.length (.slice Y U Z)) Tryz.func188 rfl Tryz.ntmps188 rfl ?_;unfold UG;refine Qf Qd ⟨[(0,Zh),(1, .p (.val (.func (.func 123) #[] #[])))],Dy G.tks G.pos G.length (.slice Y U Z)⟩ (Qf Qd ⟨Qdd (.func (.func 123) #[] #[]),Dy G.tks G.pos G.length (.slice Y U Z)⟩ (sB (NM ⟨Qdd (.func (.func 123) #[] #[]),Dy G.tks G.pos G.length (.slice Y U Z)⟩ (Kz (Yk 25 5 300 [5] []) (QF (fun (O,aa)=>⟨Qf2 (.func (.func 123) #[] #[]) O,M6 O++Dy G.tks aa G.length (.slice Y U Z)⟩:((List (List PV)) × Int)→St) (H5) ?_)))));rintro ab ⟨O,aa⟩;show QO (WH n G ab O aa) _ _ _ _ _ _;unfold WH;refine sB (sS (sG (xR 1 ?_)));refine Xz [.ro []] (Hr n (⟨G.tks,aa,G.length,[]⟩:ZK) Y U Z) QE (fun J=>?_);refine xR 2 (xE (Qk ⟨QhK (.func (.func 123) #[] #[]) O,hq7 J++M6 O++Dy G.tks aa G.length (.slice Y U Z)⟩ (sS (sB (Qf Qd ⟨QhL (.func (.func 123) #[] #[]) O (Qr J.Kind 2),hq7 J++M6 O++Dy G.tks aa G.length (.slice Y U Z)⟩ (sC (Qr J.Kind 2) ?_ ?_))))))
 ·refine sG (xR 4 (Gn [] [.agg [I J.Kind,S J.Text,I J.N,I J.At],I 6,S [],I J.N,zS] [] [] [] Tryz.func25 rfl Tryz.ntmps25 rfl (Qf Qd ⟨Qde 6 [] J.N,hq8 J⟩ (Qf Qd ⟨Qdf,NP 6 [] J.N J.At⟩ (KI (fun _=>(sq3 6 [] J.N J.At):Unit→St) (Qf Qd ⟨Qdg,NP 6 [] J.N J.At⟩ (sB (Z4 0 (Qf Qd ⟨Qdh,NP 6 [] J.N J.At⟩ (sS (QW (Qq (ZR (MI (QL (QS ()))))))))))) ?_)))));rintro _;exact Qf Qd (sq4 6 [] J.N J.At) (sT (QC (.agg [.id, .id, .id, .id, .sl 5]) [] [] (.agg [I 6,S [],I J.N,I J.At, .p (.sl 5 (mI []))]) (VZ (xR 1 (xF (YV (e:=25) (S:=5) (by_:=64) (enc:=Zy) (tk:=300) (l:=O) (l2:=[GN.cs (⟨6,[],J.N,J.At,[]⟩:GN)]) (xv:=.tsl 5 (mI [GN.cs (⟨6,[],J.N,J.At,[]⟩:GN)]) 19) rfl Qc Qc rfl Qc Qc Qc rfl Qc) (xR 1 (xE (QR (Qk (sq5 (.func (.func 123) #[] #[]) (O++[GN.cs (⟨6,[],J.N,J.At,[]⟩:GN)]) G.tks aa G.length (.slice Y U Z)) (sL Qd (QR (KP (O++[GN.cs (⟨6,[],J.N,J.At,[]⟩:GN)],wi (aa+1))))))))))))))
 refine KI (fun j4=>⟨QhM (.func (.func 123) #[] #[]) O j4,hq7 J++M6 O++Dy G.tks aa G.length (.slice Y U Z)⟩:Bool→St) ?_ ?_
 ·refine sG (xR 4 (xS (Qr J.Kind 1) (fun h5=>?_) (fun h5=>?_)))
  ·refine xO (Qv h5) (xR 2 ?_);refine xC [] (LK n J.Text) QE (fun r6=>?_);exact xR 2 (xE (QS r6))
  exact xN (Qx h5) (xR 5 (xE (QS false)))
 rintro j4;refine sC j4 (sG (xR 4 (Gn [] [.agg [I J.Kind,S J.Text,I J.N,I J.At],I 5,S J.Text,I 0,zS] [] [] [] Tryz.func25 rfl Tryz.ntmps25 rfl (Qf Qd ⟨Qde 5 J.Text 0,hq8 J⟩ (Qf Qd ⟨Qdf,NP 5 J.Text 0 J.At⟩ (KI (fun _=>(sq3 5 J.Text 0 J.At):Unit→St) (Qf Qd ⟨Qdg,NP 5 J.Text 0 J.At⟩ (sB (Z4 0 (Qf Qd ⟨Qdh,NP 5 J.Text 0 J.At⟩ (sS (QW (Qq (ZR (MI (QL (QS ()))))))))))) ?_)))))) (Qf Qd ⟨[(4, .tsl 5 (mI O) 300)],M6 O++Dy G.tks aa G.length (.slice Y U Z)⟩ (sT (Q4 (QA (Q4 (VX (Q4 (Kr (.sl 5) [1000] []))))))));rintro _;exact Qf Qd (sq4 5 J.Text 0 J.At) (sT (QC (.agg [.id, .id, .id, .id, .sl 5]) [] [] (.agg [I 5,S J.Text,I 0,I J.At, .p (.sl 5 (mI []))]) (VZ (xR 1 (xF (YV (e:=25) (S:=5) (by_:=64) (enc:=Zy) (tk:=300) (l:=O) (l2:=[GN.cs (⟨5,J.Text,0,J.At,[]⟩:GN)]) (xv:=.tsl 5 (mI [GN.cs (⟨5,J.Text,0,J.At,[]⟩:GN)]) 36) rfl Qc Qc rfl Qc Qc Qc rfl Qc) (xR 1 (xE (QR (Qk (sq5 (.func (.func 123) #[] #[]) (O++[GN.cs (⟨5,J.Text,0,J.At,[]⟩:GN)]) G.tks aa G.length (.slice Y U Z)) (sL Qd (QR (KP (O++[GN.cs (⟨5,J.Text,0,J.At,[]⟩:GN)],wi (aa+1))))))))))))))
def KC (n:Nat) (G:ZK):Option QX :=
 cond (Qp G.pos (Qb (List.map QX.cs G.tks)))
  ((QY G.tks G.pos).bind fun J =>
  some J)
  (some (⟨0,[],0,G.length⟩:QX))
theorem Ku (n:Nat) (G:ZK):∀ r,KC n G=some r→QB Tryz.prog 181 [.eptr (ZK.cs G)] (.ret (ag (QX.cs r))):=by
 refine Qj Tryz.func181 rfl Tryz.ntmps181 rfl ?_;unfold KC;exact Qf Qd ⟨tq8 (.eptr (ZK.cs G)),hq3 0⟩ (sS (Qf Qd ⟨[(0, .eptr (ZK.cs G)),qq 2,(12,B (Qp G.pos (Qb (F5 G.tks))))],hq3 0⟩ (sC (Qp G.pos (Qb (F5 G.tks))) (sS (CQ Qd rfl (xR 8 (xG (Zx (e:=87) (S:=4) (enc:=QX.cs) (l:=G.tks) (k:=.i64) (n:=G.pos) (sv:=.p (.sl 4 (F5 G.tks))) rfl Qc Qc Qc Qc Qc) (fun J=>xR 2 (BZ (Qk ⟨[qq 2],hq4 J⟩ (sT (QA (qR (.id))))))))))) (sK (Qk ⟨tq8 (.eptr (ZK.cs G)),hq3 0⟩ (Qf Qd ⟨[qq 2],hq3 G.length⟩ (sT (qR (.id)))))))))
def Ji (n:Nat) (G:ZK):Option (Except Int Unit) :=
 (KC n G).bind fun r1 =>
 some (.error r1.At)
theorem U2 (n:Nat) (G:ZK):∀ r,Ji n G=some r→QB Tryz.prog 182 [.eptr (ZK.cs G)] (zM (fun r:Unit=>(.tup []:AV)) (fun e:Int=>(.ifc 235 (.agg [I e]):AV)) r):=by
 refine Qj Tryz.func182 rfl Tryz.ntmps182 rfl ?_;unfold Ji;refine sG (xR 1 ?_);refine xC [] (Ku n G) QE (fun r1=>?_);exact xR 3 (xPa 235 (.agg [I r1.At]) Qc rfl Qc (qy))
def J8 (n:Nat) (G:List UInt8):Option Bool :=
 (Xn n G).bind fun r1 =>
 cond r1
  (some true)
  ((YS n G).bind fun J =>
  some J)
theorem NQ (n:Nat) (G:List UInt8):∀ r,J8 n G=some r→QB Tryz.prog 220 [S G] (.ret (B r)):=by
 refine Qj Tryz.func220 rfl Tryz.ntmps220 rfl ?_;unfold J8;refine Qf Qd ⟨[(0,S G)],[]⟩ (sS (sG (xR 1 ?_)));refine xC [] (LK n G) QE (fun r1=>?_);refine xR 1 (xS r1 (fun J=>xN (Qy J) (xR 3 (xE (Qk ⟨[(2,B true)],[]⟩ (sT (qR (.id))))))) (fun J=>xO (Qw J) ?_));refine xC [] (LJ n G) QE (fun O=>?_);exact xR 2 (xE (Qk ⟨[(2,B O)],[]⟩ (sT (qR (.id)))))
def Y2 (n:Nat) (Y:ZK) (O:((List (List PV)) × Int)→Option ((List (List PV)) × ZK)) (G:List (List PV)) (J:Int):Option ((List (List PV)) × ZK) :=
 (XX n (⟨Y.tks,J,Y.length,[]⟩:ZK)).bind fun U =>
 cond (Qr U.Kind 2)
  ((some ()).bind fun _ =>
  cond (QM (List.length (G++[GN.cs (⟨6,[],U.N,U.At,[]⟩:GN)])) 64) (
   O (G++[GN.cs (⟨6,[],U.N,U.At,[]⟩:GN)],wi (J+1))) none)
  ((cond (Qr U.Kind 1)
   ((J8 n U.Text).bind fun r6 =>
   some r6)
   (some false)).bind fun Z =>
  cond Z
   ((some ()).bind fun _ =>
   cond (QM (List.length (G++[GN.cs (⟨5,U.Text,0,U.At,[]⟩:GN)])) 64) (
    O (G++[GN.cs (⟨5,U.Text,0,U.At,[]⟩:GN)],wi (J+1))) none)
   (some (G,(⟨Y.tks,J,Y.length,[]⟩:ZK))))
def XY (n:Nat) (U:ZK):Option ((List (List PV)) × ZK) :=
 Qo (fun G (O,J)=>Y2 n U G O J) n ([],U.pos)
theorem Ig (n:Nat) (G:ZK) (Y:Option Addr) (U Z:Nat):∀ r,XY n G=some r→Kw Tryz.prog 188 [Zh, .p (.val (.func (.func 220) #[] #[]))] (Go.Abs.look [(1000, .box 84 [.p (.sl 4 (F5 G.tks)),I G.pos,I G.length,hS Y U Z])]) (Ya (fun r:(List (List PV)) × ZK=>((.ret (.p (.sl 5 (mI r.1))),[(1000, .box 84 [.p (.sl 4 (F5 r.2.tks)),I r.2.pos,I r.2.length,hS Y U Z])]):Zz × List (Nat × Blk))) r):=by
 refine Km (Dy G.tks G.pos G.length (.slice Y U Z)) Tryz.func188 rfl Tryz.ntmps188 rfl ?_;unfold XY;refine Qf Qd ⟨[(0,Zh),(1, .p (.val (.func (.func 220) #[] #[])))],Dy G.tks G.pos G.length (.slice Y U Z)⟩ (Qf Qd ⟨Qdd (.func (.func 220) #[] #[]),Dy G.tks G.pos G.length (.slice Y U Z)⟩ (sB (NM ⟨Qdd (.func (.func 220) #[] #[]),Dy G.tks G.pos G.length (.slice Y U Z)⟩ (Kz (Yk 25 5 300 [5] []) (QF (fun (O,aa)=>⟨Qf2 (.func (.func 220) #[] #[]) O,M6 O++Dy G.tks aa G.length (.slice Y U Z)⟩:((List (List PV)) × Int)→St) (H5) ?_)))));rintro ab ⟨O,aa⟩;show QO (Y2 n G ab O aa) _ _ _ _ _ _;unfold Y2;refine sB (sS (sG (xR 1 ?_)));refine Xz [.ro []] (Hr n (⟨G.tks,aa,G.length,[]⟩:ZK) Y U Z) QE (fun J=>?_);refine xR 2 (xE (Qk ⟨QhK (.func (.func 220) #[] #[]) O,hq7 J++M6 O++Dy G.tks aa G.length (.slice Y U Z)⟩ (sS (sB (Qf Qd ⟨QhL (.func (.func 220) #[] #[]) O (Qr J.Kind 2),hq7 J++M6 O++Dy G.tks aa G.length (.slice Y U Z)⟩ (sC (Qr J.Kind 2) ?_ ?_))))))
 ·refine sG (xR 4 (Gn [] [.agg [I J.Kind,S J.Text,I J.N,I J.At],I 6,S [],I J.N,zS] [] [] [] Tryz.func25 rfl Tryz.ntmps25 rfl (Qf Qd ⟨Qde 6 [] J.N,hq8 J⟩ (Qf Qd ⟨Qdf,NP 6 [] J.N J.At⟩ (KI (fun _=>(sq3 6 [] J.N J.At):Unit→St) (Qf Qd ⟨Qdg,NP 6 [] J.N J.At⟩ (sB (Z4 0 (Qf Qd ⟨Qdh,NP 6 [] J.N J.At⟩ (sS (QW (Qq (ZR (MI (QL (QS ()))))))))))) ?_)))));rintro _;exact Qf Qd (sq4 6 [] J.N J.At) (sT (QC (.agg [.id, .id, .id, .id, .sl 5]) [] [] (.agg [I 6,S [],I J.N,I J.At, .p (.sl 5 (mI []))]) (VZ (xR 1 (xF (YV (e:=25) (S:=5) (by_:=64) (enc:=Zy) (tk:=300) (l:=O) (l2:=[GN.cs (⟨6,[],J.N,J.At,[]⟩:GN)]) (xv:=.tsl 5 (mI [GN.cs (⟨6,[],J.N,J.At,[]⟩:GN)]) 19) rfl Qc Qc rfl Qc Qc Qc rfl Qc) (xR 1 (xE (QR (Qk (sq5 (.func (.func 220) #[] #[]) (O++[GN.cs (⟨6,[],J.N,J.At,[]⟩:GN)]) G.tks aa G.length (.slice Y U Z)) (sL Qd (QR (KP (O++[GN.cs (⟨6,[],J.N,J.At,[]⟩:GN)],wi (aa+1))))))))))))))
 refine KI (fun j4=>⟨QhM (.func (.func 220) #[] #[]) O j4,hq7 J++M6 O++Dy G.tks aa G.length (.slice Y U Z)⟩:Bool→St) ?_ ?_
 ·refine sG (xR 4 (xS (Qr J.Kind 1) (fun h5=>?_) (fun h5=>?_)))
  ·refine xO (Qv h5) (xR 2 ?_);refine xC [] (NQ n J.Text) QE (fun r6=>?_);exact xR 2 (xE (QS r6))
  exact xN (Qx h5) (xR 5 (xE (QS false)))
 rintro j4;refine sC j4 (sG (xR 4 (Gn [] [.agg [I J.Kind,S J.Text,I J.N,I J.At],I 5,S J.Text,I 0,zS] [] [] [] Tryz.func25 rfl Tryz.ntmps25 rfl (Qf Qd ⟨Qde 5 J.Text 0,hq8 J⟩ (Qf Qd ⟨Qdf,NP 5 J.Text 0 J.At⟩ (KI (fun _=>(sq3 5 J.Text 0 J.At):Unit→St) (Qf Qd ⟨Qdg,NP 5 J.Text 0 J.At⟩ (sB (Z4 0 (Qf Qd ⟨Qdh,NP 5 J.Text 0 J.At⟩ (sS (QW (Qq (ZR (MI (QL (QS ()))))))))))) ?_)))))) (Qf Qd ⟨[(4, .tsl 5 (mI O) 300)],M6 O++Dy G.tks aa G.length (.slice Y U Z)⟩ (sT (Q4 (QA (Q4 (VX (Q4 (Kr (.sl 5) [1000] []))))))));rintro _;exact Qf Qd (sq4 5 J.Text 0 J.At) (sT (QC (.agg [.id, .id, .id, .id, .sl 5]) [] [] (.agg [I 5,S J.Text,I 0,I J.At, .p (.sl 5 (mI []))]) (VZ (xR 1 (xF (YV (e:=25) (S:=5) (by_:=64) (enc:=Zy) (tk:=300) (l:=O) (l2:=[GN.cs (⟨5,J.Text,0,J.At,[]⟩:GN)]) (xv:=.tsl 5 (mI [GN.cs (⟨5,J.Text,0,J.At,[]⟩:GN)]) 36) rfl Qc Qc rfl Qc Qc Qc rfl Qc) (xR 1 (xE (QR (Qk (sq5 (.func (.func 220) #[] #[]) (O++[GN.cs (⟨5,J.Text,0,J.At,[]⟩:GN)]) G.tks aa G.length (.slice Y U Z)) (sL Qd (QR (KP (O++[GN.cs (⟨5,J.Text,0,J.At,[]⟩:GN)],wi (aa+1))))))))))))))
abbrev SL:=(Except (Int × ZK) (GN × ZK))
def Yb (r1:QX) (U:List (List PV)) (O:List QX) (G:Int) (J:Int):Option SL :=
 some (.ok ((⟨4,r1.Text,0,r1.At,U⟩:GN),(⟨O,wi (G+1),J,[]⟩:ZK)))
def Yc (n:Nat) (Y:ZK) (r1:QX):Option SL :=
 ((XY n (⟨Y.tks,wi (Y.pos+1),Y.length,[]⟩:ZK)).bind fun Z =>
 cond (QM (List.length ([]++Z.1)) 64) (
  some ([]++Z.1,Z.2.tks,Z.2.pos,Z.2.length)) none).bind fun (U,G,J,O) =>
 (XX n (⟨G,J,O,[]⟩:ZK)).bind fun r5 =>
 (cond (Qr r5.Kind 0)
  (some true)
  ((cond (Qr r5.Kind 3)
   (some (Qt r5.Text [59]))
   (some false)).bind fun j9 =>
  some (!j9))).bind fun j7 =>
 cond j7
  ((RQ n (⟨G,J,O,[]⟩:ZK)).bind (F3 (fun ab =>
   Yb r1 U G J O) fun aa=>some (.error (aa,(⟨G,J,O,[]⟩:ZK)))))
  (Yb r1 U G J O)
def Ht (n:Nat) (G:ZK):Option SL :=
 (XX n (⟨G.tks,G.pos,G.length,[]⟩:ZK)).bind fun r1 =>
 (cond (Qr r1.Kind 0)
  (some true)
  ((cond (Qr r1.Kind 1)
   ((Kb n r1.Text).bind fun J =>
   some J)
   (some false)).bind fun Y =>
  some (!Y))).bind fun O =>
 cond O
  ((RQ n (⟨G.tks,G.pos,G.length,[]⟩:ZK)).bind (F3 (fun Z =>
   Yc n G r1) fun U=>some (.error (U,(⟨G.tks,G.pos,G.length,[]⟩:ZK)))))
  (Yc n G r1)
def Qdi:List (Nat × Blk):=[(1, .box 82 [.ptr 1000 0]),(2,(DK 0 [] 0 0))]
def bq5:=fun G=>(.box 47 [.p (.val G)]:Blk)
def sq6:=fun G=>(⟨[(1, .ptr 1 0)],[(1,(bq5 G))]⟩:St)
def sq7:=fun G=>(⟨[(2, .fn (.func 183) [] [.ptr 1 0])],[(1,(bq5 G))]⟩:St)
def ny:=fun U J O G=>([(1000,(bq2 U J O G)),(1001,(bq5 (.func (.func 192) #[] #[])))]:List (Nat × Blk))
def QhO:=fun G=>([(0, .ptr 1000 0),(1, .fn G [] [.ptr 1001 0]),(4, .ptr 4 0)]:List (Nat × AV))
def tQ:List (Nat × Blk):=[(4, .box 87 [I 0,S [],I 0,I 0])]
def QhP:=fun G=>([(0, .ptr 1000 0),(1, .fn G [] [.ptr 1001 0]),(4, .ptr 4 0),(5, .ptr 5 0)]:List (Nat × AV))
def GG:=fun G=>([(4, .box 87 [I 0,S [],I 0,I 0]),(5, .box 87 (Yx (QX.cs G)))]:List (Nat × Blk))
def tT:List (Nat × AV):=[(0, .ptr 1000 0),(4, .ptr 4 0),(5, .ptr 5 0)]
def tV:=fun G=>([(0, .ptr 1000 0),(4, .ptr 4 0),(5, .ptr 5 0),(16,B G)]:List (Nat × AV))
def nA:=fun G=>([(1000,(bq5 G))]:List (Nat × Blk))
def Qf4:=fun J G=>(⟨[(1, .ptr 1000 0),(2, .ptr 2 0)],hq4 J++nA G⟩:St)
def tX:=fun G=>([(4, .box 87 (Yx (QX.cs G)))]:List (Nat × Blk))
def QhQ:List (Nat × AV):=[(1, .ptr 1 0),(2, .ptr 2 0),(3, .ptr 3 0)]
def uF:=fun G=>([(1, .box 82 [.ptr 1000 0]),(2,(DK 0 [] 0 0)),(3, .box 87 (Yx (QX.cs G)))]:List (Nat × Blk))
def bq6:Blk:=.box 88 [.fn (.func 219) [] [.ptr 1001 0]]
def SN:=fun U J O G=>([(1000,(bq2 U J O G)),(1001, .box 82 [.ptr 1000 0]),(1002,bq6)]:List (Nat × Blk))
def Qf5:=fun U J O G=>([(1,I U),(2,S (QX.Text J)),(3,I O),(4,G),(5, .ptr 5 0),(10, .ptr 10 0)]:List (Nat × AV))
def tY:=fun G=>([(4,G),(10, .ptr 10 0),(11, .ptr 11 0)]:List (Nat × AV))
def bq7:=fun G=>(.box 25 [I 4,S (QX.Text G),I 0,I (QX.At G), .p (.val (.slice none 0 0))]:Blk)
def tZ:=fun G=>([(10,(DK 0 [] 0 0)),(11,(bq7 G))]:List (Nat × Blk))
def bq8:=fun G J=>(.box 25 [I 4,S (QX.Text G),I 0,I (QX.At G), .tsl 5 (List.map Zy J) 300]:Blk)
abbrev Vs:=((List (List PV)) × (List QX) × Int × Int)
def LP:=fun O G J=>([(10, .ptr 10 0),(11, .ptr 11 0),(20,O),(21,I G),(22,I J)]:List (Nat × AV))
def NR:=fun U J O G=>([(10, .ptr 10 0),(11, .ptr 11 0),(20,U),(21,I J),(22,I O),(23,B G)]:List (Nat × AV))
def QhS:List (Nat × AV):=[(10, .ptr 10 0),(11, .ptr 11 0),(13, .fn (.func 219) [] [.ptr 1001 0]),(20,(.bsl 1002 1)),(21,I 1),(22,I 0)]
def Qf6:=fun U J O G=>([(1000,(bq2 U J O G)),(1001, .box 82 [.ptr 1000 0])]:List (Nat × Blk))
def bQ:=fun G=>(.box 25 (Yx (GN.cs G)):Blk)
def QaY:=fun G=>([(1, .box 9 [S G])]:List (Nat × Blk))
def sq8:=fun G=>(⟨[(2, .fn (.func 185) [] [.ptr 1 0])],QaY G⟩:St)
def nC:=fun U J O G=>([(1000,(bq2 U J O G)),(1001, .box 9 [S [59]])]:List (Nat × Blk))
def wz:=fun G=>([(1000, .box 9 [S G])]:List (Nat × Blk))
def sq9:=fun J G=>(⟨[(1, .ptr 1000 0),(2, .ptr 2 0)],hq4 J++wz G⟩:St)
theorem qV (n:Nat) (G:ZK) (U:Option Addr) (O J:Nat):∀ r,Ht n G=some r→Kw Tryz.prog 190 [Zh] (Go.Abs.look [(1000, .box 84 [.p (.sl 4 (F5 G.tks)),I G.pos,I G.length,hS U O J])]) (Ya (Qhw (fun r:GN × ZK=>((.ret (ag (GN.cs r.1)),[(1000, .box 84 [.p (.sl 4 (F5 r.2.tks)),I r.2.pos,I r.2.length,hS U O J])]):Zz × List (Nat × Blk))) (fun e:Int × ZK=>((.panic (.ifc 235 (.agg [I e.1])),[(1000, .box 84 [.p (.sl 4 (F5 e.2.tks)),I e.2.pos,I e.2.length,hS U O J])]):Zz × List (Nat × Blk)))) r):=by
 refine Km (Dy G.tks G.pos G.length (.slice U O J)) Tryz.func190 rfl Tryz.ntmps190 rfl ?_;unfold Ht;refine Qf Qd ⟨[qq 1,qq 2],Qdi++Dy G.tks G.pos G.length (.slice U O J)⟩ (sS (NM ⟨[qq 1,qq 2],Qdi++Dy G.tks G.pos G.length (.slice U O J)⟩ (um [0] 3 3 [1,2,3,4] Qd rfl Qc Qc (Qn (Qz Zh rfl) (Qg)) Qc (IX (f:=120) (args:=[.p (.val (.func (.func 192) #[] #[]))]) (dst:=some 6) Qc Qc rfl (QQ (hc:=[]) (args':=[.p (.val (.func (.func 192) #[] #[]))]) [(1,401)] [] [] Tryz.func120 rfl Tryz.ntmps120 rfl Qc Qc Qc (Qf Qd (sq6 (.func (.func 192) #[] #[])) (Qf Qd (sq7 (.func (.func 192) #[] #[])) (sT (QC (.id) [1] [] (.fn (.func 183) [] [.ptr 1 0]) (kf [0] Qc (Qn (Qz Zh rfl) (Qg)) Qc (IX (f:=119) (args:=[Zh, .fn (.func 183) [] [.ptr 401 0]]) (dst:=some 7) Qc Qc rfl (QQ (hc:=(ny G.tks G.pos G.length (.slice U O J))) (args':=[Zh, .fn (.func 183) [] [L8]]) [(1001,401),(1000,1000)] [] [] Tryz.func119 rfl Tryz.ntmps119 rfl Qc Qc Qc (Qf Qd ⟨QhO (.func 183),tQ++ny G.tks G.pos G.length (.slice U O J)⟩ (sS (sG (xR 1 ?_))))))))))))))));refine Xz [.ro []] (Hr n (⟨G.tks,G.pos,G.length,[]⟩:ZK) U O J) QE (fun r1=>?_);refine xR 2 (xE (Qk ⟨QhP (.func 183),GG r1++ny G.tks G.pos G.length (.slice U O J)⟩ (K4 (fun _=>⟨tT,GG r1++ny G.tks G.pos G.length (.slice U O J)⟩:Unit→St) (fun _=>Yc n G r1) ?_ ?_)));rotate_left
 ·refine KI (fun ae=>⟨tV ae,GG r1++ny G.tks G.pos G.length (.slice U O J)⟩:Bool→St) ?_ ?_;rotate_left
  ·rintro ae;refine sC ae ?_ ?_
   ·refine sG (xR 1 ?_);refine CU [.ro []] (AL n (⟨G.tks,G.pos,G.length,[]⟩:ZK) U O J) QE QE (fun aj=>?_) (fun am=>?_)
    ·exact xE (KP (k:=fun _=>Yc n G r1) ())
    exact Ga (NC [1000,1001] [] (ui _ rfl (Uf (sI [1000] []))))
   exact sK (KP (k:=fun _=>Yc n G r1) ())
  refine sG (xR 4 (xS (Qr r1.Kind 0) (fun af=>xN (Qy af) (xR 4 (xE (QS true)))) (fun af=>xO (Qw af) (xR 1 (Gn (nA (.func (.func 192) #[] #[])) [.agg [I r1.Kind,S r1.Text,I r1.N,I r1.At],Zh] [(1000,1001)] [] [] Tryz.func183 rfl Tryz.ntmps183 rfl (Qf Qd (Qf4 r1 (.func (.func 192) #[] #[])) (KI (fun ac=>⟨[(3,B ac)],nA (.func (.func 192) #[] #[])⟩:Bool→St) ?_ ?_)))))))
  ·refine sG (xR 4 (xS (Qr r1.Kind 1) (fun ad=>?_) (fun ad=>?_)))
   ·refine xO (Qv ad) (xR 2 ?_);refine xC [] (UE n r1.Text) QE (fun ai=>?_);exact xR 2 (xE (QS ai))
   exact xN (Qx ad) (xR 5 (xE (QS false)))
  rintro ac;exact sT (QC (.id) [1000] [] (B ac) (VZ (xR 2 (xE (QS (!ac))))))
 rintro _;show QO (Yc n G r1) _ _ _ _ _ _;unfold Yc;refine Qf Qd ⟨[qq 4,qq 5],GG r1++ny G.tks (wi (G.pos+1)) G.length (.slice U O J)⟩ (Qf Qd ⟨[qq 4],tX r1++ny G.tks (wi (G.pos+1)) G.length (.slice U O J)⟩ (sT (QC (.id) [1000,1001] [] (.agg [I r1.Kind,S r1.Text,I r1.N,I r1.At]) (kf [] Qc (Qg) Qc (f_q [0] Qc Qc (Qn (Qz Zh rfl) (Qg)) (QhD [] rfl Qc Qc (Qg) Qc (Qeu (Qk ⟨QhQ,uF r1++Dy G.tks (wi (G.pos+1)) G.length (.slice U O J)⟩ (sS (sG (xR 5 (Gn (SN G.tks (wi (G.pos+1)) G.length (.slice U O J)) [.agg [I r1.Kind,S r1.Text,I r1.N,I r1.At],I 4,S r1.Text,I 0, .bsl 1002 1] [(1001,1),(1002,12),(1000,1000)] [] [] Tryz.func25 rfl Tryz.ntmps25 rfl (Qf Qd ⟨Qf5 4 r1 0 (.bsl 1002 1),hq8 r1++SN G.tks (wi (G.pos+1)) G.length (.slice U O J)⟩ (Qf Qd ⟨tY (.bsl 1002 1),tZ r1++SN G.tks (wi (G.pos+1)) G.length (.slice U O J)⟩ (KI (fun (ab,Y,Z,aa)=>⟨[qq 10,qq 11],[(10,(DK 0 [] 0 0)),(11,(bq8 r1 ab))]++M6 ab++SN Y Z aa (.slice U O J)⟩:Vs→St) ?_ ?_)))))))))))))))
 ·refine Qf Qd ⟨LP (.bsl 1002 1) 1 0,tZ r1++SN G.tks (wi (G.pos+1)) G.length (.slice U O J)⟩ (sB (Z4 1 (Qf Qd ⟨NR (.bsl 1002 1) 1 0 true,tZ r1++SN G.tks (wi (G.pos+1)) G.length (.slice U O J)⟩ (sS (ZQ (sK (Qk ⟨LP (.bsl 1002 1) 1 0,tZ r1++SN G.tks (wi (G.pos+1)) G.length (.slice U O J)⟩ (sS (sB (Qf Qd ⟨QhS,tZ r1++SN G.tks (wi (G.pos+1)) G.length (.slice U O J)⟩ (NM ⟨QhS,tZ r1++SN G.tks (wi (G.pos+1)) G.length (.slice U O J)⟩ (Kz (Yk 25 5 300 [] [(11,4)]) (KA [0,1,2] [0,1] [(3,[]),(4,[]),(5,[]),(6,[])] Qd rfl (ZF (f:=219) (args:=[L8]) (dst:=some 29) (QQ (hc:=(Qf6 G.tks (wi (G.pos+1)) G.length (.slice U O J))) (args':=[L8]) [(1000,1000),(1001,1001)] [] [] Tryz.func219 rfl Tryz.ntmps219 rfl Qc Qc Qc (Qf Qd ⟨[(0,L8)],Qf6 G.tks (wi (G.pos+1)) G.length (.slice U O J)⟩ (sS (sG (xR 1 ?_)))))))))))))))))));refine UU [(1000,1000)] [] [] (Ig n (⟨G.tks,wi (G.pos+1),G.length,[]⟩:ZK) U O J) QE QE (fun r4=>?_);exact xR 1 (xE (Qk ⟨[(1, .p (.sl 5 (mI r4.1)))],Qf6 r4.2.tks r4.2.pos r4.2.length (.slice U O J)⟩ (sT (QC (.id) [1000,1001] [] (.p (.sl 5 (mI r4.1))) (kh [0,1] (Qn (Qz (.ptr 11 4) rfl) (Qn (Jf (S:=5) (t:=300) (ty:=25) (es:=mI []) rfl) (Qg))) (SG [] rfl (Jc (e:=25) (S:=5) (by_:=64) (enc:=Zy) (tk:=300) (l:=[]) (l2:=r4.1) (xv:=.p (.sl 5 (mI r4.1))) rfl Qc Qc rfl Qc Qc Qc Qc) (fun _=>Qg) (Yq [] (Qg) (Yq [] (Qg) (Ww (QR (Qk ⟨LP (.bsl 1002 1) 1 0,[(10,(DK 0 [] 0 0)),(11,(bq8 r1 ([]++r4.1)))]++LM ([]++r4.1)++SN r4.2.tks r4.2.pos r4.2.length (.slice U O J)⟩ (sL Qd (NJ ⟨[10,11,20,21,22],[10,11,300,1000,1001,1002],[],[]⟩ ⟨LP (.bsl 1002 1) 1 1,[(10,(DK 0 [] 0 0)),(11,(bq8 r1 ([]++r4.1)))]++LM ([]++r4.1)++SN r4.2.tks r4.2.pos r4.2.length (.slice U O J)⟩ (Qf Qd ⟨NR (.bsl 1002 1) 1 1 false,[(10,(DK 0 [] 0 0)),(11,(bq8 r1 ([]++r4.1)))]++LM ([]++r4.1)++SN r4.2.tks r4.2.pos r4.2.length (.slice U O J)⟩ (sS (QW (Qq (ZR (MI (QL (QS ([]++r4.1,r4.2.tks,r4.2.pos,r4.2.length))))))))))))))))))))))
 rintro ⟨ab,Y,Z,aa⟩;refine Qf Qd ⟨[qq 10],[(10,(bq8 r1 ab))]++M6 ab++SN Y Z aa (.slice U O J)⟩ (sT (QC (.agg [.id, .id, .id, .id, .sl 5]) [1000,1001,1002] [] (.agg [I 4,S r1.Text,I 0,I r1.At, .p (.sl 5 (mI ab))]) (VZ (xR 2 (xE (Qk ⟨[qq 1,qq 2,qq 4],[(1, .box 82 [Zh]),(2,(DK 0 [] 0 0)),(4,(bQ ⟨4,r1.Text,0,r1.At,ab⟩))]++Dy Y Z aa (.slice U O J)⟩ (sS (KA [0] [0] [(1,[]),(2,[])] Qd rfl (ZF (f:=125) (args:=[S [59]]) (dst:=some 15) (QQ (hc:=[]) (args':=[S [59]]) [(1,401)] [] [] Tryz.func125 rfl Tryz.ntmps125 rfl Qc Qc Qc (Qf Qd ⟨[qq 1],QaY [59]⟩ (Qf Qd (sq8 [59]) (sT (QC (.id) [1] [] (.fn (.func 185) [] [.ptr 1 0]) (kh [0] (Qn (Qz Zh rfl) (Qg)) (ZF (f:=119) (args:=[Zh, .fn (.func 185) [] [.ptr 401 0]]) (dst:=some 16) (QQ (hc:=(nC Y Z aa (.slice U O J))) (args':=[Zh, .fn (.func 185) [] [L8]]) [(1001,401),(1000,1000)] [] [] Tryz.func119 rfl Tryz.ntmps119 rfl Qc Qc Qc (Qf Qd ⟨QhO (.func 185),tQ++nC Y Z aa (.slice U O J)⟩ (sS (sG (xR 1 ?_)))))))))))))))))))));refine Xz [.ro []] (Hr n (⟨Y,Z,aa,[]⟩:ZK) U O J) QE (fun r5=>?_);refine xR 2 (xE (Qk ⟨QhP (.func 185),GG r5++nC Y Z aa (.slice U O J)⟩ (K4 (fun _=>⟨tT,GG r5++nC Y Z aa (.slice U O J)⟩:Unit→St) (fun _=>Yb r1 ab Y Z aa) ?_ ?_)))
 ·rintro _;show QO (Yb r1 ab Y Z aa) _ _ _ _ _ _;unfold Yb;exact Qf Qd ⟨[qq 4,qq 5],GG r5++nC Y (wi (Z+1)) aa (.slice U O J)⟩ (Qf Qd ⟨[qq 4],tX r5++nC Y (wi (Z+1)) aa (.slice U O J)⟩ (sT (QC (.id) [1000,1001] [] (.agg [I r5.Kind,S r5.Text,I r5.N,I r5.At]) (kh [] (Qg) (Ww (Qk ⟨[qq 2,qq 4],[(2,(DK 0 [] 0 0)),(4,(bQ ⟨4,r1.Text,0,r1.At,ab⟩))]++Dy Y (wi (Z+1)) aa (.slice U O J)⟩ (Qf Qd ⟨[qq 2],[(2,(bQ ⟨4,r1.Text,0,r1.At,ab⟩))]++Dy Y (wi (Z+1)) aa (.slice U O J)⟩ (sT (Kr (.id) [1000] [])))))))))
 refine KI (fun j7=>⟨tV j7,GG r5++nC Y Z aa (.slice U O J)⟩:Bool→St) ?_ ?_;rotate_left
 ·rintro j7;refine sC j7 ?_ ?_
  ·refine sG (xR 1 ?_);refine CU [.ro []] (AL n (⟨Y,Z,aa,[]⟩:ZK) U O J) QE QE (fun al=>?_) (fun ak=>?_)
   ·exact xE (KP (k:=fun _=>Yb r1 ab Y Z aa) ())
   exact Ga (NC [1000,1001] [] (ui _ rfl (Uf (sI [1000] []))))
  exact sK (KP (k:=fun _=>Yb r1 ab Y Z aa) ())
 refine sG (xR 4 (xS (Qr r5.Kind 0) (fun h8=>xN (Qy h8) (xR 4 (xE (QS true)))) (fun h8=>xO (Qw h8) (xR 1 (Gn (wz [59]) [.agg [I r5.Kind,S r5.Text,I r5.N,I r5.At],Zh] [(1000,1001)] [] [] Tryz.func185 rfl Tryz.ntmps185 rfl (Qf Qd (sq9 r5 [59]) (KI (fun j9=>⟨[(3,B j9)],wz [59]⟩:Bool→St) (sG (xR 4 (xS (Qr r5.Kind 3) (fun ah=>xO (Qv ah) (xR 5 (xE (QS (Qt r5.Text [59]))))) (fun ah=>xN (Qx ah) (xR 5 (xE (QS false))))))) ?_)))))));rintro j9;exact sT (QC (.id) [1000] [] (B j9) (VZ (xR 2 (xE (QS (!j9))))))
def V3 (G:ZK) (J:Int→Option ((List UInt8) × ZK)) (O:Int):Option ((List UInt8) × ZK) :=
 cond (Qp O (Qb (List.map QX.cs G.tks)))
  ((QY G.tks O).bind fun U =>
  (cond (Qr U.Kind 3)
   (some (!Qt U.Text [123]))
   (some false)).bind fun Y =>
  cond Y
   (some (U.Text,(⟨G.tks,wi (O+1),G.length,[]⟩:ZK)))
   (J (wi (O+1))))
  (some ([],(⟨G.tks,O,G.length,[]⟩:ZK)))
def RS (n:Nat) (J:ZK):Option ((List UInt8) × ZK) :=
 Qo (fun G O=>V3 J G O) n J.pos
def Qf7:=fun G=>([(3, .box 87 (Yx (QX.cs G)))]:List (Nat × Blk))
theorem AO (n:Nat) (G:ZK) (J:Option Addr) (U O:Nat):∀ r,RS n G=some r→Kw Tryz.prog 118 [Zh] (Go.Abs.look [(1000, .box 84 [.p (.sl 4 (F5 G.tks)),I G.pos,I G.length,hS J U O])]) (Ya (fun r:(List UInt8) × ZK=>((.ret (S r.1),[(1000, .box 84 [.p (.sl 4 (F5 r.2.tks)),I r.2.pos,I r.2.length,hS J U O])]):Zz × List (Nat × Blk))) r):=by
 refine Km (Dy G.tks G.pos G.length (.slice J U O)) Tryz.func118 rfl Tryz.ntmps118 rfl ?_;unfold RS;refine Qf Qd ⟨[(0,Zh)],Dy G.tks G.pos G.length (.slice J U O)⟩ (sS (sB (QF (fun Y=>⟨[(0,Zh)],Dy G.tks Y G.length (.slice J U O)⟩:Int→St) (H5) ?_)));rintro Z Y;show QO (V3 G Z Y) _ _ _ _ _ _;unfold V3;refine sS (Qf Qd ⟨[(0,Zh),(13,B (Qp Y (Qb (F5 G.tks))))],Dy G.tks Y G.length (.slice J U O)⟩ (sC (Qp Y (Qb (F5 G.tks))) (sK (Qk ⟨[(0,Zh)],Dy G.tks Y G.length (.slice J U O)⟩ (sB (sS (CQ Qd rfl (xR 8 (xG (Zx (e:=87) (S:=4) (enc:=QX.cs) (l:=G.tks) (k:=.i64) (n:=Y) (sv:=.p (.sl 4 (F5 G.tks))) rfl Qc Qc Qc Qc Qc) (fun x2=>xR 3 (BZ (Qk ⟨[(0,Zh),qq 3],Qf7 x2++Dy G.tks Y G.length (.slice J U O)⟩ (Qf Qd ⟨[(0,Zh),qq 3],Qf7 x2++Dy G.tks (wi (Y+1)) G.length (.slice J U O)⟩ (KI (fun j3=>⟨[(0,Zh),qq 3,(38,B j3)],Qf7 x2++Dy G.tks (wi (Y+1)) G.length (.slice J U O)⟩:Bool→St) (sG (xR 4 (xS (Qr x2.Kind 3) (fun h4=>xO (Qv h4) (xR 3 (xE (QS (!Qt x2.Text [123]))))) (fun h4=>xN (Qx h4) (xR 3 (xE (QS false))))))) ?_)))))))))))) (Qq (ZR (Yp (QL (Qk ⟨[],Dy G.tks Y G.length (.slice J U O)⟩ (Qf Qd ⟨[(2,S [])],Dy G.tks Y G.length (.slice J U O)⟩ (sT (Kr (.id) [1000] []))))))))));rintro j3;exact sC j3 (Qf Qd ⟨[(2,S x2.Text)],Dy G.tks (wi (Y+1)) G.length (.slice J U O)⟩ (sT (Q4 (VX (Q4 (QA (Kr (.id) [1000] []))))))) (sK (QR (KP (wi (Y+1)))))
def Jj (r1:QX) (Z:QX) (r5:Int) (G:List (List PV)) (J:List QX) (Y:Int) (O:Int) (U:List ZH):Option SL :=
 some (.ok ((⟨2,Z.Text,r5,r1.At,G⟩:GN),(⟨J,Y,O,U⟩:ZK)))
abbrev ty3:=((List (List PV)) × (List QX) × Int × Int × Int × (List UInt8) × Int × Int)
def Hu (n:Nat) (ak:ZK) (ah:ty3→Option Vs) (Y:List (List PV)) (ac:List QX) (ad:Int) (af:Int) (ai:Int) (G:List UInt8) (am:Int) (ae:Int):Option Vs :=
 (cond (Qr ai 1)
  ((Yr n G).bind fun aj =>
  some aj)
  (some false)).bind fun al =>
 cond al
  (((UG n (⟨ac,wi (ad+1),af,[]⟩:ZK)).bind fun Z =>
  cond (QM (List.length ([]++Z.1)) 64) (
   some ([]++Z.1,Z.2.tks,Z.2.pos,Z.2.length)) none).bind fun (U,J,aa,O) =>
  cond (QM (List.length (Y++[GN.cs (⟨3,G,0,ae,U⟩:GN)])) 64) (
   (KC n (⟨J,aa,O,ak.dg⟩:ZK)).bind fun ab =>
   ah (Y++[GN.cs (⟨3,G,0,ae,U⟩:GN)],J,aa,O,ab.Kind,ab.Text,ab.N,ab.At)) none)
  (some (Y,ac,ad,af))
abbrev AP:=((List (List PV)) × (List QX) × Int × Int × (List ZH))
def Js (J:List (List PV)) (G:List (List PV)) (Y:List QX) (Z:Int) (O:Int) (U:List ZH):Option AP :=
 cond (QM (List.length ((([]++J)++[])++G)) 64) (
  some ((([]++J)++[])++G,Y,Z,O,U)) none
def Vf (n:Nat) (aa:List (List PV)) (ah:AP→Option AP) (G:List (List PV)) (O:List QX) (Y:Int) (U:Int) (J:List ZH):Option AP :=
 (RP n (⟨O,Y,U,J⟩:ZK)).bind fun av =>
 cond (!av)
  ((KC n (⟨O,Y,U,J⟩:ZK)).bind fun ar =>
  (cond (Qr ar.Kind 3)
   (some (Qt ar.Text [125]))
   (some false)).bind fun au =>
  cond au
   (cond (QM (List.length ((([]++aa)++[])++G)) 64) (
    some ((([]++aa)++[])++G,O,wi (Y+1),U,J)) none)
   (((Ht n (⟨O,Y,U,[]⟩:ZK)).bind (F3 (fun Z =>
    some (true,[],Z.2.tks,Z.2.pos,Z.2.length,J,Z.1.Kind,Z.1.Name,Z.1.N,Z.1.At,Z.1.Kids)) fun aj=>cond (QM (List.length (J++[(⟨7,aj.1⟩:ZH)])) 16) (
    (RS n (⟨aj.2.tks,aj.2.pos,aj.2.length,[]⟩:ZK)).bind fun an =>
    some (false,an.1,an.2.tks,an.2.pos,an.2.length,J++[(⟨7,aj.1⟩:ZH)],0,[],0,0,[])) none)).bind fun (ao,aq,ae,ac,ab,ad,am,ak,al,ai,af) =>
   cond ao
    (cond (QM (List.length (G++[GN.cs (⟨am,ak,al,ai,af⟩:GN)])) 64) (
     ah (G++[GN.cs (⟨am,ak,al,ai,af⟩:GN)],ae,ac,ab,ad)) none)
    (cond (!Qt aq [59])
     (cond (QM (List.length ((([]++aa)++[])++G)) 64) (
      some ((([]++aa)++[])++G,ae,ac,ab,ad)) none)
     (ah (G,ae,ac,ab,ad)))))
  (Js aa G O Y U J)
def Vg (n:Nat) (ak:ZK) (r1:QX) (r3:QX) (r5:Int) (J:List (List PV)) (aj:List QX) (ai:Int) (ah:Int):Option SL :=
 cond (QM (List.length (([]++J)++[])) 64) (
  (Qo (fun G (O,Y,af,Z,ad)=>Vf n J G O Y af Z ad) n ([],aj,wi (ai+1),ah,ak.dg)).bind fun (ab,ac,aa,ae,U) =>
  Jj r1 r3 r5 ab ac aa ae U) none
def Jt (Y:ZK) (r1:QX) (Z:QX) (r5:Int) (G:List (List PV)) (O:List QX) (J:Int) (U:Int):Option SL :=
 some (.ok ((⟨2,Z.Text,r5,r1.At,G⟩:GN),(⟨O,J,U,Y.dg⟩:ZK)))
def Vh (n:Nat) (aj:ZK) (ah:ty3→Option Vs) (J:List (List PV)) (U:List QX) (ad:Int) (Y:Int) (ai:Int) (G:List UInt8) (ak:Int) (ab:Int):Option Vs :=
 (cond (Qr ai 1)
  ((Yr n G).bind fun am =>
  some am)
  (some false)).bind fun al =>
 cond al
  (((UG n (⟨U,wi (ad+1),Y,[]⟩:ZK)).bind fun ac =>
  cond (QM (List.length ([]++ac.1)) 64) (
   some ([]++ac.1,ac.2.tks,ac.2.pos,ac.2.length)) none).bind fun (ae,O,Z,aa) =>
  cond (QM (List.length (J++[GN.cs (⟨3,G,0,ab,ae⟩:GN)])) 64) (
   (KC n (⟨O,Z,aa,aj.dg⟩:ZK)).bind fun af =>
   ah (J++[GN.cs (⟨3,G,0,ab,ae⟩:GN)],O,Z,aa,af.Kind,af.Text,af.N,af.At)) none)
  (some (J,U,ad,Y))
def Vi (Y:ZK) (r1:QX) (Z:QX) (r5:Int) (G:List (List PV)) (J:List QX) (U:Int) (O:Int):Option SL :=
 cond (QM (List.length (([]++G)++[])) 64) (
  Jt Y r1 Z r5 (([]++G)++[]) J (wi (U+1)) O) none
def V4 (n:Nat) (G:ZK) (r1:QX) (r3:QX):Option SL :=
 (Vv n r1.Text).bind fun r5 =>
 cond (Qr r5 7)
  (((KC n (⟨G.tks,wi ((wi (G.pos+1))+1),G.length,G.dg⟩:ZK)).bind fun r8 =>
  Qo (fun al (a7,ay,au,ax,a6,az,av,aw)=>Hu n G al a7 ay au ax a6 az av aw) n ([],G.tks,wi ((wi (G.pos+1))+1),G.length,r8.Kind,r8.Text,r8.N,r8.At)).bind fun (ac,aa,Y,Z) =>
  cond (QM (List.length ([]++ac)) 64) (
   (KC n (⟨aa,Y,Z,G.dg⟩:ZK)).bind fun ah =>
   (cond (Qr ah.Kind 0)
    (some true)
    ((cond (Qr ah.Kind 3)
     (some (Qt ah.Text [123]))
     (some false)).bind fun ba =>
    some (!ba))).bind fun bb =>
   cond bb
    ((Ji n (⟨aa,Y,Z,G.dg⟩:ZK)).bind (F3 (fun bg =>
     Vg n G r1 r3 r5 ac aa Y Z) fun a8=>some (.error (a8,(⟨aa,Y,Z,G.dg⟩:ZK)))))
    (Vg n G r1 r3 r5 ac aa Y Z)) none)
  (((KC n (⟨G.tks,wi ((wi (G.pos+1))+1),G.length,G.dg⟩:ZK)).bind fun ad =>
  Qo (fun ae (aj,af,ar,ai,ao,am,aq,ak)=>Vh n G ae aj af ar ai ao am aq ak) n ([],G.tks,wi ((wi (G.pos+1))+1),G.length,ad.Kind,ad.Text,ad.N,ad.At)).bind fun (ab,U,O,J) =>
  cond (QM (List.length ([]++ab)) 64) (
   (KC n (⟨U,O,J,G.dg⟩:ZK)).bind fun an =>
   (cond (Qr an.Kind 0)
    (some true)
    ((cond (Qr an.Kind 3)
     (some (Qt an.Text [59]))
     (some false)).bind fun be =>
    some (!be))).bind fun bc =>
   cond bc
    ((Ji n (⟨U,O,J,G.dg⟩:ZK)).bind (F3 (fun bf =>
     Vi G r1 r3 r5 ab U O J) fun bd=>some (.error (bd,(⟨U,O,J,G.dg⟩:ZK)))))
    (Vi G r1 r3 r5 ab U O J)) none)
def V5 (n:Nat) (G:ZK) (r1:QX):Option SL :=
 (KC n (⟨G.tks,wi (G.pos+1),G.length,G.dg⟩:ZK)).bind fun J =>
 (cond (Qr J.Kind 0)
  (some true)
  ((cond (Qr J.Kind 1)
   ((Xn n J.Text).bind fun Y =>
   some Y)
   (some false)).bind fun U =>
  some (!U))).bind fun Z =>
 cond Z
  ((Ji n (⟨G.tks,wi (G.pos+1),G.length,G.dg⟩:ZK)).bind (F3 (fun aa =>
   V4 n G r1 J) fun O=>some (.error (O,(⟨G.tks,wi (G.pos+1),G.length,G.dg⟩:ZK)))))
  (V4 n G r1 J)
def Bd (n:Nat) (G:ZK):Option SL :=
 (KC n G).bind fun r1 =>
 (cond (Qr r1.Kind 0)
  (some true)
  ((cond (Qr r1.Kind 1)
   ((FJ n r1.Text).bind fun U =>
   some U)
   (some false)).bind fun O =>
  some (!O))).bind fun J =>
 cond J
  ((Ji n G).bind (F3 (fun Z =>
   V5 n G r1) fun Y=>some (.error (Y,G))))
  (V5 n G r1)
def QjJ:=fun U J O G=>(.box 84 [.p (.sl 4 (List.map QX.cs U)),I J,I O, .tsl 2 (List.map ZH.cs G) 1103]:Blk)
def Xo:=fun G=>(.arr 81 2 (List.map ZH.cs G).length:Blk)
def Ih:=fun U J O G=>([(1000,(QjJ U J O G)),(1103,(Xo G))]:List (Nat × Blk))
def wB:=fun U J O G=>(.box 84 [.p (.sl 4 (List.map QX.cs U)),I J,I O, .tsl 2 (List.map ZH.cs G) 1001]:Blk)
def Eu:=fun U J O G Y=>([(1000,(wB U J O G)),(1001,(Xo G)),(1002,(bq5 Y))]:List (Nat × Blk))
def nq0:List (Nat × Nat):=[(1002,401),(1000,1000),(1001,1103)]
def Qdj:=fun G=>([(0, .ptr 1000 0),(1, .fn G [] [.ptr 1002 0]),(4, .ptr 4 0)]:List (Nat × AV))
def Qdk:=fun G=>([(0, .ptr 1000 0),(1, .fn G [] [.ptr 1002 0]),(4, .ptr 4 0),(5, .ptr 5 0)]:List (Nat × AV))
def QhT:=fun J G=>([(1, .ptr 1 0),(2, .ptr 2 0),(3, .ptr 3 0),(4,S (QX.Text J)),(5,I G)]:List (Nat × AV))
def QjK:Blk:=.box 88 [.fn (.func 126) [.ptr 1000 0] [], .fn (.func 128) [] [.ptr 1002 0]]
def Ew:=fun U J O G=>([(1000,(wB U J O G)),(1001,(Xo G)),(1002, .box 82 [.ptr 1000 0]),(1003,QjK)]:List (Nat × Blk))
def QjL:=fun O G J=>(.box 25 [I 2,S (QX.Text O),I G,I (QX.At J), .p (.val (.slice none 0 0))]:Blk)
def Ii:=fun O G J=>([(10,(DK 0 [] 0 0)),(11,(QjL O G J))]:List (Nat × Blk))
def Qf8:=fun U J O G=>(.box 25 [I 2,S (QX.Text U),I J,I (QX.At O), .tsl 5 (List.map Zy G) 300]:Blk)
def Ey:=fun U J O G=>([(10,(DK 0 [] 0 0)),(11,(Qf8 U J O G))]:List (Nat × Blk))
def nD:=fun U J O G=>([(10, .ptr 10 0),(11, .ptr 11 0),(13, .fn U [.ptr 1000 0] []),(20,J),(21,I O),(22,I G)]:List (Nat × AV))
def VH:=fun U J O G=>([(1000,(wB U J O G)),(1001,(Xo G))]:List (Nat × Blk))
def wC:List (Nat × Blk):=[(1, .box 82 [.ptr 1000 0])]
def Qf9:=fun U J O G=>(⟨[(1, .ptr 1 0)],wC++VH U J O G⟩:St)
def lc:List (Nat × AV):=[(1, .ptr 1 0),(3, .p (.val (.slice none 0 0)))]
def Qdl:List (Nat × AV):=[(1, .ptr 1 0),(3, .p (.val (.slice none 0 0))),(4, .ptr 4 0)]
def Qdm:=fun G=>([(1, .box 82 [.ptr 1000 0]),(4, .box 87 (Yx (QX.cs G)))]:List (Nat × Blk))
def QhU:=fun G=>([(1, .ptr 1 0),(3, .tsl 5 (List.map Zy G) 300),(4, .ptr 4 0)]:List (Nat × AV))
def Qdn:=fun U J O G=>([(1, .box 82 [.ptr 1000 0]),(4,(bq0 U J O G))]:List (Nat × Blk))
def lg:=fun G O Y U x4 Z x6 J x8=>(⟨QhU G,Qdn O Y U x4++M6 G++VH Z x6 J x8⟩:St)
def QhV:=fun J G=>([(1, .ptr 1 0),(3, .tsl 5 (List.map Zy J) 300),(4, .ptr 4 0),(14,B G)]:List (Nat × AV))
def QjM:Blk:=.box 88 [.fn (.func 187) [] [.ptr 1002 0]]
def FK:=fun U J O G=>([(1000,(wB U J O G)),(1001,(Xo G)),(1002, .box 82 [.ptr 1000 0]),(1003,QjM)]:List (Nat × Blk))
def nq1:List (Nat × Nat):=[(1002,1),(1003,29),(1000,1000),(1001,1001)]
def Qga:=fun O G J=>([(1,I O),(2,S G),(3,I 0),(4,J),(5, .ptr 5 0),(10, .ptr 10 0)]:List (Nat × AV))
def Qdo:=fun U J O G=>(.box 25 [I U,S J,I 0,I O, .tsl 5 (List.map Zy G) 300]:Blk)
def wD:=fun U J O G=>([(10,(DK 0 [] 0 0)),(11,(Qdo U J O G))]:List (Nat × Blk))
def Qdp:=fun G O Y U x4 Z x6 J x8=>(⟨QhU G,Qdn O Y U x4++LM G++VH Z x6 J x8⟩:St)
def QjN:=fun U G O J Y=>([(1, .ptr 1 0),(3, .tsl 5 (List.map Zy U) 300),(33, .agg [I G,S O,I J,I Y])]:List (Nat × AV))
def QhW:=fun G O Y U x4 Z x6 J x8=>(⟨QjN G O Y U x4,wC++LM G++VH Z x6 J x8⟩:St)
def lh:=fun U J O G=>([(10, .ptr 10 0),(11, .ptr 11 0),(13, .fn U [] [.ptr 1002 0]),(20,J),(21,I O),(22,I G)]:List (Nat × AV))
def qW:=fun U J O G=>([(1000,(wB U J O G)),(1001,(Xo G)),(1002, .box 82 [.ptr 1000 0])]:List (Nat × Blk))
def nq2:List (Nat × Nat):=[(1000,1000),(1001,1001),(1002,1002)]
def Qdq:=fun U J O G=>(⟨[(0, .ptr 1002 0)],qW U J O G⟩:St)
def Qdr:=fun Y O U G x4 Z x6 J=>(⟨LP (.bsl 1003 1) 1 Y,wD 3 O U G++LM G++FK x4 Z x6 J⟩:St)
def QaZ:=fun Z O Y U G x5 x6 J x8=>(⟨LP (.bsl 1003 2) 2 Z,Ey O Y U G++LM G++Ew x5 x6 J x8⟩:St)
def Ez:=fun U J O G Y=>([(1000,(wB U J O G)),(1001,(Xo G)),(1002, .box 9 [S Y])]:List (Nat × Blk))
def nq3:List (Nat × Nat):=[(1002,401),(1000,1000),(1001,1001)]
def QjO:Blk:=.box 88 [.fn (.func 126) [.ptr 1000 0] [], .fn (.func 124) [] [.ptr 1002 0], .fn (.func 127) [.ptr 1000 0] []]
def Dz:=fun U J O G=>([(1000,(wB U J O G)),(1001,(Xo G)),(1002, .box 82 [.ptr 1000 0]),(1003,QjO)]:List (Nat × Blk))
def lm:=fun Z O Y U G x5 x6 J x8=>(⟨LP (.bsl 1003 3) 3 Z,Ey O Y U G++LM G++Dz x5 x6 J x8⟩:St)
def Qgb:=fun G=>([(32, .arr 25 5 (List.map Zy G).length)]:List (Nat × Blk))
def Qgc:=fun G J U O Y=>(⟨[(2, .tsl 5 (List.map Zy G) 32)],Qgb G++VH J U O Y⟩:St)
def Qa0:=fun G=>([(1, .ptr 1 0),(3, .tsl 5 (List.map Zy G) 32)]:List (Nat × AV))
def lq:=fun G=>([(1, .box 82 [.ptr 1000 0]),(32, .arr 25 5 (List.map Zy G).length)]:List (Nat × Blk))
def QhX:=fun G=>([(1, .ptr 1 0),(3, .tsl 5 (List.map Zy G) 32),(4, .ptr 4 0)]:List (Nat × AV))
def QhY:=fun J G=>([(1, .box 82 [.ptr 1000 0]),(4,(bQ J)),(32, .arr 25 5 (List.map Zy G).length)]:List (Nat × Blk))
def Qgd:=fun U J O G=>([(1000,(wB U J O G)),(1001,(Xo G)),(1002, .box 82 [.ptr 1000 0]),(1003,(DK 0 [] 0 0))]:List (Nat × Blk))
def QhZ:=fun G=>([(1, .fn G [] [.ptr 1002 0, .ptr 1003 0]),(4, .ptr 1901 0),(5, .ptr 1902 0)]:List (Nat × AV))
def Qge:=fun G=>([(1900, .box 82 [.ptr 1000 0]),(1901, .box 4 [B G]),(1902, .box 9 [S []])]:List (Nat × Blk))
def nq4:List (Nat × Nat):=[(1000,1000),(1001,1001),(1002,1002),(1003,1003)]
def Qh0:=fun U J O G Y=>([(1000,(wB U J O G)),(1001,(Xo G)),(1002, .box 82 [.ptr 1000 0]),(1003, .box 25 (Yx (GN.cs Y)))]:List (Nat × Blk))
def nq5:List (Nat × Nat):=[(1000,1000),(1001,1001),(1002,1900),(1003,1901),(1004,1902)]
def wE:=fun G=>([(1002, .box 82 [.ptr 1000 0]),(1003, .box 4 [B G]),(1004, .box 9 [S []])]:List (Nat × Blk))
def Qh1:List (Nat × AV):=[(0, .ptr 1002 0),(1, .ptr 1003 0),(2, .ptr 1004 0),(3, .p (.val (.nilIface))),(8,B true)]
def Qh2:=fun G=>([(0, .ptr 1002 0),(1, .ptr 1003 0),(2, .ptr 1004 0),(3, .ifc 235 (.agg [I G])),(8,B false)]:List (Nat × AV))
def Qh3:=fun G=>([(0, .ptr 1002 0),(1, .ptr 1003 0),(2, .ptr 1004 0),(3, .ifc 235 (.agg [I G]))]:List (Nat × AV))
def Qh4:=fun G=>([(0, .ptr 1002 0),(1, .ptr 1003 0),(2, .ptr 1004 0),(3, .ifc 235 (.agg [I G])),(4, .ptr 4 0),(5,B true)]:List (Nat × AV))
def lu:=fun G=>([(4, .box 235 [I G])]:List (Nat × Blk))
def Qh5:=fun G=>([(0, .ptr 1002 0),(1, .ptr 1003 0),(2, .ptr 1004 0),(3, .ifc 235 (.agg [I G])),(4, .ptr 4 0),(15,B false)]:List (Nat × AV))
def Qh6:List (Nat × AV):=[(0, .ptr 1002 0),(1, .ptr 1003 0),(2, .ptr 1004 0),(4, .ptr 4 0)]
def Qh7:List (Nat × AV):=[(0, .ptr 1002 0),(1, .ptr 1003 0),(2, .ptr 1004 0)]
abbrev wF (x:List ZH):Go.Abs.Blk:=.arr 81 2 (Ue x).length
abbrev Qez (x:List (List PV)):Go.Abs.Blk:=.arr 25 5 (mI x).length
theorem uG (n:Nat) (G:ZK):∀ r,Bd n G=some r→Kw Tryz.prog 59 [Zh] (Go.Abs.look [(1000, .box 84 [.p (.sl 4 (F5 G.tks)),I G.pos,I G.length, .tsl 2 (Ue G.dg) 1103]),(1103,wF G.dg)]) (Ya (Qhw (fun r:GN × ZK=>((.ret (ag (GN.cs r.1)),[(1000, .box 84 [.p (.sl 4 (F5 r.2.tks)),I r.2.pos,I r.2.length, .tsl 2 (Ue r.2.dg) 1103]),(1103,wF r.2.dg)]):Zz × List (Nat × Blk))) (fun e:Int × ZK=>((.panic (.ifc 235 (.agg [I e.1])),[(1000, .box 84 [.p (.sl 4 (F5 e.2.tks)),I e.2.pos,I e.2.length, .tsl 2 (Ue e.2.dg) 1103]),(1103,wF e.2.dg)]):Zz × List (Nat × Blk)))) r):=by
 refine Km (Ih G.tks G.pos G.length G.dg) Tryz.func59 rfl Tryz.ntmps59 rfl ?_;unfold Bd;refine Qf Qd ⟨[qq 1,qq 2],Qdi++Ih G.tks G.pos G.length G.dg⟩ (sS (NM ⟨[qq 1,qq 2],Qdi++Ih G.tks G.pos G.length G.dg⟩ (um [0] 3 3 [1,2,3,4] Qd rfl Qc Qc (Qn (Qz Zh rfl) (Qg)) Qc (IX (f:=120) (args:=[.p (.val (.func (.func 121) #[] #[]))]) (dst:=some 9) Qc Qc rfl (QQ (hc:=[]) (args':=[.p (.val (.func (.func 121) #[] #[]))]) [(1,401)] [] [] Tryz.func120 rfl Tryz.ntmps120 rfl Qc Qc Qc (Qf Qd (sq6 (.func (.func 121) #[] #[])) (Qf Qd (sq7 (.func (.func 121) #[] #[])) (sT (QC (.id) [1] [] (.fn (.func 183) [] [.ptr 1 0]) (kf [0] Qc (Qn (Qz Zh rfl) (Qg)) Qc (IX (f:=119) (args:=[Zh, .fn (.func 183) [] [.ptr 401 0]]) (dst:=some 10) Qc Qc rfl (QQ (hc:=(Eu G.tks G.pos G.length G.dg (.func (.func 121) #[] #[]))) (args':=[Zh, .fn (.func 183) [] [Ic]]) nq0 [] [] Tryz.func119 rfl Tryz.ntmps119 rfl Qc Qc Qc (Qf Qd ⟨Qdj (.func 183),tQ++Eu G.tks G.pos G.length G.dg (.func (.func 121) #[] #[])⟩ (sS (sG (xR 1 ?_))))))))))))))));refine Xz [.ro [.id, .id, .id, .sl 2]] (Ku n G) QE (fun r1=>?_);refine xR 2 (xE (Qk ⟨Qdk (.func 183),GG r1++Eu G.tks G.pos G.length G.dg (.func (.func 121) #[] #[])⟩ (K4 (fun _=>⟨tT,GG r1++Eu G.tks G.pos G.length G.dg (.func (.func 121) #[] #[])⟩:Unit→St) (fun _=>V5 n G r1) ?_ ?_)));rotate_left
 ·refine KI (fun di=>⟨tV di,GG r1++Eu G.tks G.pos G.length G.dg (.func (.func 121) #[] #[])⟩:Bool→St) ?_ ?_;rotate_left
  ·rintro di;refine sC di ?_ ?_
   ·refine sG (xR 1 ?_);refine CU [.ro [.id, .id, .id, .sl 2]] (U2 n G) QE QE (fun ej=>?_) (fun en=>?_)
    ·exact xE (KP (k:=fun _=>V5 n G r1) ())
    exact Ga (NC [1000,1001,1002] [] (ui _ rfl (Uf (sI [1000,1103] []))))
   exact sK (KP (k:=fun _=>V5 n G r1) ())
  refine sG (xR 4 (xS (Qr r1.Kind 0) (fun dh=>xN (Qy dh) (xR 4 (xE (QS true)))) (fun dh=>xO (Qw dh) (xR 1 (Gn (nA (.func (.func 121) #[] #[])) [.agg [I r1.Kind,S r1.Text,I r1.N,I r1.At],Zh] [(1000,1002)] [] [] Tryz.func183 rfl Tryz.ntmps183 rfl (Qf Qd (Qf4 r1 (.func (.func 121) #[] #[])) (KI (fun cq=>⟨[(3,B cq)],nA (.func (.func 121) #[] #[])⟩:Bool→St) ?_ ?_)))))))
  ·refine sG (xR 4 (xS (Qr r1.Kind 1) (fun dl=>?_) (fun dl=>?_)))
   ·refine xO (Qv dl) (xR 2 ?_);refine xC [] (zW n r1.Text) QE (fun ee=>?_);exact xR 2 (xE (QS ee))
   exact xN (Qx dl) (xR 5 (xE (QS false)))
  rintro cq;exact sT (QC (.id) [1000] [] (B cq) (VZ (xR 2 (xE (QS (!cq))))))
 rintro _;show QO (V5 n G r1) _ _ _ _ _ _;unfold V5;refine Qf Qd ⟨[qq 4,qq 5],GG r1++Eu G.tks (wi (G.pos+1)) G.length G.dg (.func (.func 121) #[] #[])⟩ (Qf Qd ⟨[qq 4],tX r1++Eu G.tks (wi (G.pos+1)) G.length G.dg (.func (.func 121) #[] #[])⟩ (sT (QC (.id) [1000,1001,1002] [] (.agg [I r1.Kind,S r1.Text,I r1.N,I r1.At]) (kf [] Qc (Qg) Qc (f_q [0] Qc Qc (Qn (Qz Zh rfl) (Qg)) (QhD [] rfl Qc Qc (Qg) Qc (Qeu (Qk ⟨QhQ,uF r1++Ih G.tks (wi (G.pos+1)) G.length G.dg⟩ (sS (KA [0] [0] [(1,[]),(2,[]),(3,[]),(4,[])] Qd rfl (ZF (f:=120) (args:=[.p (.val (.func (.func 123) #[] #[]))]) (dst:=some 12) (QQ (hc:=[]) (args':=[.p (.val (.func (.func 123) #[] #[]))]) [(1,401)] [] [] Tryz.func120 rfl Tryz.ntmps120 rfl Qc Qc Qc (Qf Qd (sq6 (.func (.func 123) #[] #[])) (Qf Qd (sq7 (.func (.func 123) #[] #[])) (sT (QC (.id) [1] [] (.fn (.func 183) [] [.ptr 1 0]) (kh [0] (Qn (Qz Zh rfl) (Qg)) (ZF (f:=119) (args:=[Zh, .fn (.func 183) [] [.ptr 401 0]]) (dst:=some 13) (QQ (hc:=(Eu G.tks (wi (G.pos+1)) G.length G.dg (.func (.func 123) #[] #[]))) (args':=[Zh, .fn (.func 183) [] [Ic]]) nq0 [] [] Tryz.func119 rfl Tryz.ntmps119 rfl Qc Qc Qc (Qf Qd ⟨Qdj (.func 183),tQ++Eu G.tks (wi (G.pos+1)) G.length G.dg (.func (.func 123) #[] #[])⟩ (sS (sG (xR 1 ?_)))))))))))))))))))))));refine Xz [.ro [.id, .id, .id, .sl 2]] (Ku n (⟨G.tks,wi (G.pos+1),G.length,G.dg⟩:ZK)) QE (fun r3=>?_);refine xR 2 (xE (Qk ⟨Qdk (.func 183),GG r3++Eu G.tks (wi (G.pos+1)) G.length G.dg (.func (.func 123) #[] #[])⟩ (K4 (fun _=>⟨tT,GG r3++Eu G.tks (wi (G.pos+1)) G.length G.dg (.func (.func 123) #[] #[])⟩:Unit→St) (fun _=>V4 n G r1 r3) ?_ ?_)));rotate_left
 ·refine KI (fun dt=>⟨tV dt,GG r3++Eu G.tks (wi (G.pos+1)) G.length G.dg (.func (.func 123) #[] #[])⟩:Bool→St) ?_ ?_;rotate_left
  ·rintro dt;refine sC dt ?_ ?_
   ·refine sG (xR 1 ?_);refine CU [.ro [.id, .id, .id, .sl 2]] (U2 n (⟨G.tks,wi (G.pos+1),G.length,G.dg⟩:ZK)) QE QE (fun el=>?_) (fun em=>?_)
    ·exact xE (KP (k:=fun _=>V4 n G r1 r3) ())
    exact Ga (NC [1000,1001,1002] [] (ui _ rfl (Uf (sI [1000,1103] []))))
   exact sK (KP (k:=fun _=>V4 n G r1 r3) ())
  refine sG (xR 4 (xS (Qr r3.Kind 0) (fun dy=>xN (Qy dy) (xR 4 (xE (QS true)))) (fun dy=>xO (Qw dy) (xR 1 (Gn (nA (.func (.func 123) #[] #[])) [.agg [I r3.Kind,S r3.Text,I r3.N,I r3.At],Zh] [(1000,1002)] [] [] Tryz.func183 rfl Tryz.ntmps183 rfl (Qf Qd (Qf4 r3 (.func (.func 123) #[] #[])) (KI (fun cr=>⟨[(3,B cr)],nA (.func (.func 123) #[] #[])⟩:Bool→St) ?_ ?_)))))))
  ·refine sG (xR 4 (xS (Qr r3.Kind 1) (fun c6=>?_) (fun c6=>?_)))
   ·refine xO (Qv c6) (xR 2 ?_);refine xC [] (LK n r3.Text) QE (fun ed=>?_);exact xR 2 (xE (QS ed))
   exact xN (Qx c6) (xR 5 (xE (QS false)))
  rintro cr;exact sT (QC (.id) [1000] [] (B cr) (VZ (xR 2 (xE (QS (!cr))))))
 rintro _;show QO (V4 n G r1 r3) _ _ _ _ _ _;unfold V4;refine Qf Qd ⟨[qq 4,qq 5],GG r3++Eu G.tks (wi ((wi (G.pos+1))+1)) G.length G.dg (.func (.func 123) #[] #[])⟩ (Qf Qd ⟨[qq 4],tX r3++Eu G.tks (wi ((wi (G.pos+1))+1)) G.length G.dg (.func (.func 123) #[] #[])⟩ (sT (QC (.id) [1000,1001,1002] [] (.agg [I r3.Kind,S r3.Text,I r3.N,I r3.At]) (kh [] (Qg) (Yq [] (Qg) (Yq [] (Qg) (Ww (Qk ⟨[qq 1,qq 2,qq 3,(4,S r3.Text)],uF r1++Ih G.tks (wi ((wi (G.pos+1))+1)) G.length G.dg⟩ (sS (sG (xR 2 ?_)))))))))));refine xC [] (LH n r1.Text) QE (fun r5=>?_);refine xR 1 (xE (Qk ⟨QhT r3 r5,uF r1++Ih G.tks (wi ((wi (G.pos+1))+1)) G.length G.dg⟩ (sS (Qf Qd ⟨[qq 1,qq 2,qq 3,(4,S r3.Text),(5,I r5),(19,B (Qr r5 7))],uF r1++Ih G.tks (wi ((wi (G.pos+1))+1)) G.length G.dg⟩ (sC (Qr r5 7) ?_ ?_)))));rotate_left
 ·refine sK (Qk ⟨QhT r3 r5,uF r1++Ih G.tks (wi ((wi (G.pos+1))+1)) G.length G.dg⟩ (Qf Qd ⟨[qq 1,qq 2,qq 3,(4,S r3.Text),(5,I r5),(7, .fn (.func 128) [] [.ptr 1 0])],uF r1++Ih G.tks (wi ((wi (G.pos+1))+1)) G.length G.dg⟩ (sS (sG (xR 7 (Gn (Ew G.tks (wi ((wi (G.pos+1))+1)) G.length G.dg) [.agg [I r1.Kind,S r1.Text,I r1.N,I r1.At],I 2,S r3.Text,I r5, .bsl 1003 2] [(1002,1),(1003,38),(1000,1000),(1001,1103)] [] [] Tryz.func25 rfl Tryz.ntmps25 rfl (Qf Qd ⟨Qf5 2 r3 r5 (.bsl 1003 2),hq8 r1++Ew G.tks (wi ((wi (G.pos+1))+1)) G.length G.dg⟩ (Qf Qd ⟨tY (.bsl 1003 2),Ii r3 r5 r1++Ew G.tks (wi ((wi (G.pos+1))+1)) G.length G.dg⟩ (K4 (fun (a8,bg,bf,bj)=>⟨[qq 10,qq 11],Ey r3 r5 r1 a8++M6 a8++Ew bg bf bj G.dg⟩:Vs→St) (fun (a8,bg,bf,bj)=>Jt G r1 r3 r5 a8 bg bf bj) ?_ ?_)))))))))
  ·rintro ⟨a8,bg,bf,bj⟩;show QO (Jt G r1 r3 r5 a8 bg bf bj) _ _ _ _ _ _;unfold Jt;exact Qf Qd ⟨[qq 10],[(10,(Qf8 r3 r5 r1 a8))]++M6 a8++Ew bg bf bj G.dg⟩ (sT (QC (.agg [.id, .id, .id, .id, .sl 5]) [1000,1001,1002,1003] [] (.agg [I 2,S r3.Text,I r5,I r1.At, .p (.sl 5 (mI a8))]) (VZ (xR 1 (xE (Qk ⟨[qq 2],[(2,(bQ ⟨2,r3.Text,r5,r1.At,a8⟩))]++Ih bg bf bj G.dg⟩ (sT (Kr (.id) [1000,1103] []))))))))
  refine Qf Qd ⟨LP (.bsl 1003 2) 2 0,Ii r3 r5 r1++Ew G.tks (wi ((wi (G.pos+1))+1)) G.length G.dg⟩ (sB (Z4 2 (Qf Qd ⟨NR (.bsl 1003 2) 2 0 true,Ii r3 r5 r1++Ew G.tks (wi ((wi (G.pos+1))+1)) G.length G.dg⟩ (sS (ZQ (sK (Qk ⟨LP (.bsl 1003 2) 2 0,Ii r3 r5 r1++Ew G.tks (wi ((wi (G.pos+1))+1)) G.length G.dg⟩ (sS (sB (Qf Qd ⟨nD (.func 126) (.bsl 1003 2) 2 0,Ii r3 r5 r1++Ew G.tks (wi ((wi (G.pos+1))+1)) G.length G.dg⟩ (NM ⟨nD (.func 126) (.bsl 1003 2) 2 0,Ii r3 r5 r1++Ew G.tks (wi ((wi (G.pos+1))+1)) G.length G.dg⟩ (Kz (Yk 25 5 300 [] [(11,4)]) (KA [0,1,2] [0,1] [(3,[]),(4,[]),(5,[]),(6,[])] Qd rfl (ZF (f:=126) (args:=[Zh]) (dst:=some 29) (QQ (hc:=(VH G.tks (wi ((wi (G.pos+1))+1)) G.length G.dg)) (args':=[Zh]) [(1000,1000),(1001,1001)] [] [] Tryz.func126 rfl Tryz.ntmps126 rfl Qc Qc Qc (Qf Qd (Qf9 G.tks (wi ((wi (G.pos+1))+1)) G.length G.dg) (Qf Qd ⟨lc,wC++VH G.tks (wi ((wi (G.pos+1))+1)) G.length G.dg⟩ (KI (fun (ad,ac,Z,ab)=>⟨[(3, .tsl 5 (mI ad) 300)],M6 ad++VH ac Z ab G.dg⟩:Vs→St) ?_ ?_))))))))))))))))))
  ·refine sS (sG (xR 1 ?_));refine Xz [.ro [.id, .id, .id, .sl 2]] (Ku n (⟨G.tks,wi ((wi (G.pos+1))+1),G.length,G.dg⟩:ZK)) QE (fun eb=>?_);refine xR 2 (xE (Qk ⟨Qdl,Qdm eb++VH G.tks (wi ((wi (G.pos+1))+1)) G.length G.dg⟩ (sB (NM ⟨Qdl,Qdm eb++VH G.tks (wi ((wi (G.pos+1))+1)) G.length G.dg⟩ (Kz (Yk 25 5 300 [3] []) (QF (fun (ax,an,ar,al,a7,U,bc,aa)=>(lg ax a7 U bc aa an ar al G.dg):ty3→St) (H5) ?_))))));rintro cx ⟨ax,an,ar,al,a7,U,bc,aa⟩;show QO (Vh n G cx ax an ar al a7 U bc aa) _ _ _ _ _ _;unfold Vh;refine sS (KI (fun dn=>⟨QhV ax dn,Qdn a7 U bc aa++M6 ax++VH an ar al G.dg⟩:Bool→St) ?_ ?_)
   ·refine sG (xR 4 (xS (Qr a7 1) (fun dd=>?_) (fun dd=>?_)))
    ·refine xO (Qv dd) (xR 1 ?_);refine xC [] (U1 n U) QE (fun ef=>?_);exact xR 1 (xE (QS ef))
    exact xN (Qx dd) (xR 3 (xE (QS false)))
   rintro dn;refine sC dn (sK (Qk (lg ax a7 U bc aa an ar al G.dg) (sS (sB (Qf Qd (lg ax a7 U bc aa an (wi (ar+1)) al G.dg) (sG (xR 6 (Gn (FK an (wi (ar+1)) al G.dg) [.agg [I a7,S U,I bc,I aa],I 3,S U,I 0, .bsl 1003 1] nq1 [] [] Tryz.func25 rfl Tryz.ntmps25 rfl (Qf Qd ⟨Qga 3 U (.bsl 1003 1),[(5,(bq0 a7 U bc aa)),(10,(DK 0 [] 0 0))]++FK an (wi (ar+1)) al G.dg⟩ (Qf Qd ⟨tY (.bsl 1003 1),NP 3 U 0 aa++FK an (wi (ar+1)) al G.dg⟩ (KI (fun (a6,br,bp,bw)=>⟨[qq 10,qq 11],wD 3 U aa a6++M6 a6++FK br bp bw G.dg⟩:Vs→St) ?_ ?_))))))))))) (Qq (ZR (Yp (QL (QS (ax,an,ar,al))))));rotate_left
   ·rintro ⟨a6,br,bp,bw⟩;refine Qf Qd ⟨[qq 10],[(10,(Qdo 3 U aa a6))]++M6 a6++FK br bp bw G.dg⟩ (sT (QC (.agg [.id, .id, .id, .id, .sl 5]) [1000,1001,1002,1003] [] (.agg [I 3,S U,I 0,I aa, .p (.sl 5 (mI a6))]) (VZ (xR 1 (xF (YV (e:=25) (S:=5) (by_:=64) (enc:=Zy) (tk:=300) (l:=ax) (l2:=[GN.cs (⟨3,U,0,aa,a6⟩:GN)]) (xv:=.tsl 5 (mI [GN.cs (⟨3,U,0,aa,a6⟩:GN)]) 31) rfl Qc Qc rfl Qc Qc Qc rfl Qc) (xR 1 (xE (QR (Qk (Qdp (ax++[GN.cs (⟨3,U,0,aa,a6⟩:GN)]) a7 U bc aa br bp bw G.dg) (sS (Qf Qd (QhW (ax++[GN.cs (⟨3,U,0,aa,a6⟩:GN)]) a7 U bc aa br bp bw G.dg) (sL Qd (Qk (Qdp (ax++[GN.cs (⟨3,U,0,aa,a6⟩:GN)]) a7 U bc aa br bp bw G.dg) (sG (xR 1 ?_)))))))))))))));refine Xz [.ro [.id, .id, .id, .sl 2]] (Ku n (⟨br,bp,bw,G.dg⟩:ZK)) QE (fun cp=>?_);exact xR 1 (xE (KP (ax++[GN.cs (⟨3,U,0,aa,a6⟩:GN)],br,bp,bw,cp.Kind,cp.Text,cp.N,cp.At)))
   refine Qf Qd ⟨LP (.bsl 1003 1) 1 0,NP 3 U 0 aa++FK an (wi (ar+1)) al G.dg⟩ (sB (Z4 1 (Qf Qd ⟨NR (.bsl 1003 1) 1 0 true,NP 3 U 0 aa++FK an (wi (ar+1)) al G.dg⟩ (sS (ZQ (sK (Qk ⟨LP (.bsl 1003 1) 1 0,NP 3 U 0 aa++FK an (wi (ar+1)) al G.dg⟩ (sS (sB (Qf Qd ⟨lh (.func 187) (.bsl 1003 1) 1 0,NP 3 U 0 aa++FK an (wi (ar+1)) al G.dg⟩ (NM ⟨lh (.func 187) (.bsl 1003 1) 1 0,NP 3 U 0 aa++FK an (wi (ar+1)) al G.dg⟩ (Kz (Yk 25 5 300 [] [(11,4)]) (KA [0,1,2] [0,1] [(3,[]),(4,[]),(5,[]),(6,[])] Qd rfl (ZF (f:=187) (args:=[Ic]) (dst:=some 29) (QQ (hc:=(qW an (wi (ar+1)) al G.dg)) (args':=[Ic]) nq2 [] [] Tryz.func187 rfl Tryz.ntmps187 rfl Qc Qc Qc (Qf Qd (Qdq an (wi (ar+1)) al G.dg) (sS (sG (xR 1 (Z9 (f:=188) (args:=[Zh, .p (.val (.func (.func 123) #[] #[]))]) Qc Qc Qc ?_))))))))))))))))))));refine Wj 1000 3 1001 81 2 (Ue G.dg).length (Ue G.dg) ⟨[0,2],[1000,1002],[],[]⟩ rfl (fun _ _ _=>by kernel_rfl) (fun dw dq c9=>?_);refine Zf [(1000,1000)] [] [] (M7 n (⟨an,wi (ar+1),al,[]⟩:ZK) dw dq c9) Qc Qc Qc QE QE (fun ba=>?_);exact Xm _ rfl (VZ (xR 1 (xE (Qk ⟨[(1, .p (.sl 5 (mI ba.1)))],qW ba.2.tks ba.2.pos ba.2.length G.dg⟩ (sT (QC (.id) [1000,1001,1002] [] (.p (.sl 5 (mI ba.1))) (kh [0,1] (Qn (Qz (.ptr 11 4) rfl) (Qn (Jf (S:=5) (t:=300) (ty:=25) (es:=mI []) rfl) (Qg))) (SG [] rfl (Jc (e:=25) (S:=5) (by_:=64) (enc:=Zy) (tk:=300) (l:=[]) (l2:=ba.1) (xv:=.p (.sl 5 (mI ba.1))) rfl Qc Qc rfl Qc Qc Qc Qc) (fun _=>Qg) (Yq [] (Qg) (Yq [] (Qg) (Ww (QR (Qk (Qdr 0 U aa ([]++ba.1) ba.2.tks ba.2.pos ba.2.length G.dg) (sL Qd (NJ ⟨[10,11,20,21,22],[10,11,300,1000,1001,1002,1003],[],[]⟩ (Qdr 1 U aa ([]++ba.1) ba.2.tks ba.2.pos ba.2.length G.dg) (Qf Qd ⟨NR (.bsl 1003 1) 1 1 false,wD 3 U aa ([]++ba.1)++LM ([]++ba.1)++FK ba.2.tks ba.2.pos ba.2.length G.dg⟩ (sS (QW (Qq (ZR (MI (QL (QS ([]++ba.1,ba.2.tks,ba.2.pos,ba.2.length))))))))))))))))))))))))
  rintro ⟨ad,ac,Z,ab⟩;refine Qf Qd ⟨[(2, .tsl 5 (mI ad) 300)],M6 ad++VH ac Z ab G.dg⟩ (sT (QC (.sl 5) [1000,1001] [] (.p (.sl 5 (mI ad))) (kh [0,1] (Qn (Qz (.ptr 11 4) rfl) (Qn (Jf (S:=5) (t:=300) (ty:=25) (es:=mI []) rfl) (Qg))) (SG [] rfl (Jc (e:=25) (S:=5) (by_:=64) (enc:=Zy) (tk:=300) (l:=[]) (l2:=ad) (xv:=.p (.sl 5 (mI ad))) rfl Qc Qc rfl Qc Qc Qc Qc) (fun _=>Qg) (Yq [] (Qg) (Yq [] (Qg) (Ww (QR (Qk (QaZ 0 r3 r5 r1 ([]++ad) ac Z ab G.dg) (sL Qd (NJ ⟨[10,11,20,21,22],[10,11,300,1000,1001,1002,1003],[],[]⟩ (QaZ 1 r3 r5 r1 ([]++ad) ac Z ab G.dg) (Qf Qd ⟨NR (.bsl 1003 2) 2 1 true,Ey r3 r5 r1 ([]++ad)++LM ([]++ad)++Ew ac Z ab G.dg⟩ (sS (ZQ (sK (Qk (QaZ 1 r3 r5 r1 ([]++ad) ac Z ab G.dg) (sS (sB (Qf Qd ⟨lh (.func 128) (.bsl 1003 2) 2 1,Ey r3 r5 r1 ([]++ad)++LM ([]++ad)++Ew ac Z ab G.dg⟩ (KA [0,1,2] [0,1] [(3,[]),(4,[]),(5,[]),(6,[])] Qd rfl (ZF (f:=128) (args:=[Ic]) (dst:=some 29) (QQ (hc:=(qW ac Z ab G.dg)) (args':=[Ic]) nq2 [] [] Tryz.func128 rfl Tryz.ntmps128 rfl Qc Qc Qc (Qf Qd (Qdq ac Z ab G.dg) (sS (KA [0] [0] [(1,[]),(2,[])] Qd rfl (ZF (f:=125) (args:=[S [59]]) (dst:=some 3) (QQ (hc:=[]) (args':=[S [59]]) [(1,401)] [] [] Tryz.func125 rfl Tryz.ntmps125 rfl Qc Qc Qc (Qf Qd ⟨[qq 1],QaY [59]⟩ (Qf Qd (sq8 [59]) (sT (QC (.id) [1] [] (.fn (.func 185) [] [.ptr 1 0]) (kh [0] (Qn (Qz Zh rfl) (Qg)) (ZF (f:=119) (args:=[Zh, .fn (.func 185) [] [.ptr 401 0]]) (dst:=some 4) (QQ (hc:=(Ez ac Z ab G.dg [59])) (args':=[Zh, .fn (.func 185) [] [Ic]]) nq3 [] [] Tryz.func119 rfl Tryz.ntmps119 rfl Qc Qc Qc (Qf Qd ⟨Qdj (.func 185),tQ++Ez ac Z ab G.dg [59]⟩ (sS (sG (xR 1 ?_))))))))))))))))))))))))))))))))))))));refine Xz [.ro [.id, .id, .id, .sl 2]] (Ku n (⟨ac,Z,ab,G.dg⟩:ZK)) QE (fun bq=>?_);refine xR 2 (xE (Qk ⟨Qdk (.func 185),GG bq++Ez ac Z ab G.dg [59]⟩ (K4 (fun _=>⟨tT,GG bq++Ez ac Z ab G.dg [59]⟩:Unit→St) (fun _=>Vi G r1 r3 r5 ad ac Z ab) ?_ ?_)))
  ·rintro _;show QO (Vi G r1 r3 r5 ad ac Z ab) _ _ _ _ _ _;unfold Vi;exact Qf Qd ⟨[qq 4,qq 5],GG bq++Ez ac (wi (Z+1)) ab G.dg [59]⟩ (Qf Qd ⟨[qq 4],tX bq++Ez ac (wi (Z+1)) ab G.dg [59]⟩ (sT (QC (.id) [1000,1001,1002] [] (.agg [I bq.Kind,S bq.Text,I bq.N,I bq.At]) (kh [] (Qg) (Ww (Qk ⟨[],qW ac (wi (Z+1)) ab G.dg⟩ (Qf Qd ⟨[(1,zS)],qW ac (wi (Z+1)) ab G.dg⟩ (sT (QC (.sl 5) [1000,1001,1002] [] (.p (.sl 5 (mI []))) (kh [0,1] (Qn (Qz (.ptr 11 4) rfl) (Qn (Jf (S:=5) (t:=300) (ty:=25) (es:=mI ([]++ad)) rfl) (Qg))) (SG [] rfl (Jc (e:=25) (S:=5) (by_:=64) (enc:=Zy) (tk:=300) (l:=[]++ad) (l2:=[]) (xv:=.p (.sl 5 (mI []))) rfl Qc Qc rfl Qc Qc Qc Qc) (fun _=>Qg) (Yq [] (Qg) (Yq [] (Qg) (Ww (QR (Qk (QaZ 1 r3 r5 r1 (([]++ad)++[]) ac (wi (Z+1)) ab G.dg) (sL Qd (NJ ⟨[10,11,20,21,22],[10,11,300,1000,1001,1002,1003],[],[]⟩ (QaZ 2 r3 r5 r1 (([]++ad)++[]) ac (wi (Z+1)) ab G.dg) (Qf Qd ⟨NR (.bsl 1003 2) 2 2 false,Ey r3 r5 r1 (([]++ad)++[])++LM (([]++ad)++[])++Ew ac (wi (Z+1)) ab G.dg⟩ (sS (QW (Qq (ZR (MI (QL (KP (k:=fun (a8,bg,bf,bj)=>Jt G r1 r3 r5 a8 bg bf bj) (([]++ad)++[],ac,wi (Z+1),ab)))))))))))))))))))))))))))
  refine KI (fun dx=>⟨tV dx,GG bq++Ez ac Z ab G.dg [59]⟩:Bool→St) ?_ ?_;rotate_left
  ·rintro dx;refine sC dx (sG (xR 1 ?_)) (sK (KP (k:=fun _=>Vi G r1 r3 r5 ad ac Z ab) ()));refine CU [.ro [.id, .id, .id, .sl 2]] (U2 n (⟨ac,Z,ab,G.dg⟩:ZK)) QE QE (fun eg=>?_) (fun ei=>?_)
   ·exact xE (KP (k:=fun _=>Vi G r1 r3 r5 ad ac Z ab) ())
   exact Ga (NC [1000,1001,1002] [] (ui _ rfl (Uf (NC [1000,1001,1002] [] (ui _ rfl (SB (Uf (QhC (SB (Ga (NC [1000,1001,1002,1003] [] (Uf (sI [1000,1103] [])))))))))))))
  refine sG (xR 4 (xS (Qr bq.Kind 0) (fun de=>xN (Qy de) (xR 4 (xE (QS true)))) (fun de=>xO (Qw de) (xR 1 (Gn (wz [59]) [.agg [I bq.Kind,S bq.Text,I bq.N,I bq.At],Zh] [(1000,1002)] [] [] Tryz.func185 rfl Tryz.ntmps185 rfl (Qf Qd (sq9 bq [59]) (KI (fun cw=>⟨[(3,B cw)],wz [59]⟩:Bool→St) (sG (xR 4 (xS (Qr bq.Kind 3) (fun dk=>xO (Qv dk) (xR 5 (xE (QS (Qt bq.Text [59]))))) (fun dk=>xN (Qx dk) (xR 5 (xE (QS false))))))) ?_)))))));rintro cw;exact sT (QC (.id) [1000] [] (B cw) (VZ (xR 2 (xE (QS (!cw))))))
 refine Qf Qd ⟨[qq 1,qq 2,qq 3,(4,S r3.Text),(5,I r5),(6, .fn (.func 124) [] [.ptr 1 0])],uF r1++Ih G.tks (wi ((wi (G.pos+1))+1)) G.length G.dg⟩ (sS (sG (xR 9 (Gn (Dz G.tks (wi ((wi (G.pos+1))+1)) G.length G.dg) [.agg [I r1.Kind,S r1.Text,I r1.N,I r1.At],I 2,S r3.Text,I r5, .bsl 1003 3] [(1002,1),(1003,29),(1000,1000),(1001,1103)] [] [] Tryz.func25 rfl Tryz.ntmps25 rfl (Qf Qd ⟨Qf5 2 r3 r5 (.bsl 1003 3),hq8 r1++Dz G.tks (wi ((wi (G.pos+1))+1)) G.length G.dg⟩ (Qf Qd ⟨tY (.bsl 1003 3),Ii r3 r5 r1++Dz G.tks (wi ((wi (G.pos+1))+1)) G.length G.dg⟩ (K4 (fun (bn,b8,b9,b6,b7)=>⟨[qq 10,qq 11],Ey r3 r5 r1 bn++M6 bn++Dz b8 b9 b6 b7⟩:AP→St) (fun (bn,b8,b9,b6,b7)=>Jj r1 r3 r5 bn b8 b9 b6 b7) ?_ ?_)))))))
 ·rintro ⟨bn,b8,b9,b6,b7⟩;show QO (Jj r1 r3 r5 bn b8 b9 b6 b7) _ _ _ _ _ _;unfold Jj;exact Qf Qd ⟨[qq 10],[(10,(Qf8 r3 r5 r1 bn))]++M6 bn++Dz b8 b9 b6 b7⟩ (sT (QC (.agg [.id, .id, .id, .id, .sl 5]) [1000,1001,1002,1003] [] (.agg [I 2,S r3.Text,I r5,I r1.At, .p (.sl 5 (mI bn))]) (VZ (xR 1 (xE (Qk ⟨[qq 2],[(2,(bQ ⟨2,r3.Text,r5,r1.At,bn⟩))]++Ih b8 b9 b6 b7⟩ (sT (QA (Kr (.id) [1000,1103] [])))))))))
 refine Qf Qd ⟨LP (.bsl 1003 3) 3 0,Ii r3 r5 r1++Dz G.tks (wi ((wi (G.pos+1))+1)) G.length G.dg⟩ (sB (Z4 3 (Qf Qd ⟨NR (.bsl 1003 3) 3 0 true,Ii r3 r5 r1++Dz G.tks (wi ((wi (G.pos+1))+1)) G.length G.dg⟩ (sS (ZQ (sK (Qk ⟨LP (.bsl 1003 3) 3 0,Ii r3 r5 r1++Dz G.tks (wi ((wi (G.pos+1))+1)) G.length G.dg⟩ (sS (sB (Qf Qd ⟨nD (.func 126) (.bsl 1003 3) 3 0,Ii r3 r5 r1++Dz G.tks (wi ((wi (G.pos+1))+1)) G.length G.dg⟩ (NM ⟨nD (.func 126) (.bsl 1003 3) 3 0,Ii r3 r5 r1++Dz G.tks (wi ((wi (G.pos+1))+1)) G.length G.dg⟩ (Kz (Yk 25 5 300 [] [(11,4)]) (KA [0,1,2] [0,1] [(3,[]),(4,[]),(5,[]),(6,[])] Qd rfl (ZF (f:=126) (args:=[Zh]) (dst:=some 29) (QQ (hc:=(VH G.tks (wi ((wi (G.pos+1))+1)) G.length G.dg)) (args':=[Zh]) [(1000,1000),(1001,1001)] [] [] Tryz.func126 rfl Tryz.ntmps126 rfl Qc Qc Qc (Qf Qd (Qf9 G.tks (wi ((wi (G.pos+1))+1)) G.length G.dg) (Qf Qd ⟨lc,wC++VH G.tks (wi ((wi (G.pos+1))+1)) G.length G.dg⟩ (KI (fun (Y,af,ah,ae)=>⟨[(3, .tsl 5 (mI Y) 300)],M6 Y++VH af ah ae G.dg⟩:Vs→St) ?_ ?_))))))))))))))))))
 ·refine sS (sG (xR 1 ?_));refine Xz [.ro [.id, .id, .id, .sl 2]] (Ku n (⟨G.tks,wi ((wi (G.pos+1))+1),G.length,G.dg⟩:ZK)) QE (fun r8=>?_);refine xR 2 (xE (Qk ⟨Qdl,Qdm r8++VH G.tks (wi ((wi (G.pos+1))+1)) G.length G.dg⟩ (sB (NM ⟨Qdl,Qdm r8++VH G.tks (wi ((wi (G.pos+1))+1)) G.length G.dg⟩ (Kz (Yk 25 5 300 [3] []) (QF (fun (be,aw,au,av,bm,ai,bu,aj)=>(lg be bm ai bu aj aw au av G.dg):ty3→St) (H5) ?_))))));rintro dp ⟨be,aw,au,av,bm,ai,bu,aj⟩;show QO (Hu n G dp be aw au av bm ai bu aj) _ _ _ _ _ _;unfold Hu;refine sS (KI (fun dm=>⟨QhV be dm,Qdn bm ai bu aj++M6 be++VH aw au av G.dg⟩:Bool→St) ?_ ?_)
  ·refine sG (xR 4 (xS (Qr bm 1) (fun dz=>?_) (fun dz=>?_)))
   ·refine xO (Qv dz) (xR 1 ?_);refine xC [] (U1 n ai) QE (fun ec=>?_);exact xR 1 (xE (QS ec))
   exact xN (Qx dz) (xR 3 (xE (QS false)))
  rintro dm;refine sC dm (sK (Qk (lg be bm ai bu aj aw au av G.dg) (sS (sB (Qf Qd (lg be bm ai bu aj aw (wi (au+1)) av G.dg) (sG (xR 6 (Gn (FK aw (wi (au+1)) av G.dg) [.agg [I bm,S ai,I bu,I aj],I 3,S ai,I 0, .bsl 1003 1] nq1 [] [] Tryz.func25 rfl Tryz.ntmps25 rfl (Qf Qd ⟨Qga 3 ai (.bsl 1003 1),[(5,(bq0 bm ai bu aj)),(10,(DK 0 [] 0 0))]++FK aw (wi (au+1)) av G.dg⟩ (Qf Qd ⟨tY (.bsl 1003 1),NP 3 ai 0 aj++FK aw (wi (au+1)) av G.dg⟩ (KI (fun (az,bx,b3,bt)=>⟨[qq 10,qq 11],wD 3 ai aj az++M6 az++FK bx b3 bt G.dg⟩:Vs→St) ?_ ?_))))))))))) (Qq (ZR (Yp (QL (QS (be,aw,au,av))))));rotate_left
  ·rintro ⟨az,bx,b3,bt⟩;refine Qf Qd ⟨[qq 10],[(10,(Qdo 3 ai aj az))]++M6 az++FK bx b3 bt G.dg⟩ (sT (QC (.agg [.id, .id, .id, .id, .sl 5]) [1000,1001,1002,1003] [] (.agg [I 3,S ai,I 0,I aj, .p (.sl 5 (mI az))]) (VZ (xR 1 (xF (YV (e:=25) (S:=5) (by_:=64) (enc:=Zy) (tk:=300) (l:=be) (l2:=[GN.cs (⟨3,ai,0,aj,az⟩:GN)]) (xv:=.tsl 5 (mI [GN.cs (⟨3,ai,0,aj,az⟩:GN)]) 31) rfl Qc Qc rfl Qc Qc Qc rfl Qc) (xR 1 (xE (QR (Qk (Qdp (be++[GN.cs (⟨3,ai,0,aj,az⟩:GN)]) bm ai bu aj bx b3 bt G.dg) (sS (Qf Qd (QhW (be++[GN.cs (⟨3,ai,0,aj,az⟩:GN)]) bm ai bu aj bx b3 bt G.dg) (sL Qd (Qk (Qdp (be++[GN.cs (⟨3,ai,0,aj,az⟩:GN)]) bm ai bu aj bx b3 bt G.dg) (sG (xR 1 ?_)))))))))))))));refine Xz [.ro [.id, .id, .id, .sl 2]] (Ku n (⟨bx,b3,bt,G.dg⟩:ZK)) QE (fun c0=>?_);exact xR 1 (xE (KP (be++[GN.cs (⟨3,ai,0,aj,az⟩:GN)],bx,b3,bt,c0.Kind,c0.Text,c0.N,c0.At)))
  refine Qf Qd ⟨LP (.bsl 1003 1) 1 0,NP 3 ai 0 aj++FK aw (wi (au+1)) av G.dg⟩ (sB (Z4 1 (Qf Qd ⟨NR (.bsl 1003 1) 1 0 true,NP 3 ai 0 aj++FK aw (wi (au+1)) av G.dg⟩ (sS (ZQ (sK (Qk ⟨LP (.bsl 1003 1) 1 0,NP 3 ai 0 aj++FK aw (wi (au+1)) av G.dg⟩ (sS (sB (Qf Qd ⟨lh (.func 187) (.bsl 1003 1) 1 0,NP 3 ai 0 aj++FK aw (wi (au+1)) av G.dg⟩ (NM ⟨lh (.func 187) (.bsl 1003 1) 1 0,NP 3 ai 0 aj++FK aw (wi (au+1)) av G.dg⟩ (Kz (Yk 25 5 300 [] [(11,4)]) (KA [0,1,2] [0,1] [(3,[]),(4,[]),(5,[]),(6,[])] Qd rfl (ZF (f:=187) (args:=[Ic]) (dst:=some 29) (QQ (hc:=(qW aw (wi (au+1)) av G.dg)) (args':=[Ic]) nq2 [] [] Tryz.func187 rfl Tryz.ntmps187 rfl Qc Qc Qc (Qf Qd (Qdq aw (wi (au+1)) av G.dg) (sS (sG (xR 1 (Z9 (f:=188) (args:=[Zh, .p (.val (.func (.func 123) #[] #[]))]) Qc Qc Qc ?_))))))))))))))))))));refine Wj 1000 3 1001 81 2 (Ue G.dg).length (Ue G.dg) ⟨[0,2],[1000,1002],[],[]⟩ rfl (fun _ _ _=>by kernel_rfl) (fun c2 db dj=>?_);refine Zf [(1000,1000)] [] [] (M7 n (⟨aw,wi (au+1),av,[]⟩:ZK) c2 db dj) Qc Qc Qc QE QE (fun bb=>?_);exact Xm _ rfl (VZ (xR 1 (xE (Qk ⟨[(1, .p (.sl 5 (mI bb.1)))],qW bb.2.tks bb.2.pos bb.2.length G.dg⟩ (sT (QC (.id) [1000,1001,1002] [] (.p (.sl 5 (mI bb.1))) (kh [0,1] (Qn (Qz (.ptr 11 4) rfl) (Qn (Jf (S:=5) (t:=300) (ty:=25) (es:=mI []) rfl) (Qg))) (SG [] rfl (Jc (e:=25) (S:=5) (by_:=64) (enc:=Zy) (tk:=300) (l:=[]) (l2:=bb.1) (xv:=.p (.sl 5 (mI bb.1))) rfl Qc Qc rfl Qc Qc Qc Qc) (fun _=>Qg) (Yq [] (Qg) (Yq [] (Qg) (Ww (QR (Qk (Qdr 0 ai aj ([]++bb.1) bb.2.tks bb.2.pos bb.2.length G.dg) (sL Qd (NJ ⟨[10,11,20,21,22],[10,11,300,1000,1001,1002,1003],[],[]⟩ (Qdr 1 ai aj ([]++bb.1) bb.2.tks bb.2.pos bb.2.length G.dg) (Qf Qd ⟨NR (.bsl 1003 1) 1 1 false,wD 3 ai aj ([]++bb.1)++LM ([]++bb.1)++FK bb.2.tks bb.2.pos bb.2.length G.dg⟩ (sS (QW (Qq (ZR (MI (QL (QS ([]++bb.1,bb.2.tks,bb.2.pos,bb.2.length))))))))))))))))))))))))
 rintro ⟨Y,af,ah,ae⟩;refine Qf Qd ⟨[(2, .tsl 5 (mI Y) 300)],M6 Y++VH af ah ae G.dg⟩ (sT (QC (.sl 5) [1000,1001] [] (.p (.sl 5 (mI Y))) (kh [0,1] (Qn (Qz (.ptr 11 4) rfl) (Qn (Jf (S:=5) (t:=300) (ty:=25) (es:=mI []) rfl) (Qg))) (SG [] rfl (Jc (e:=25) (S:=5) (by_:=64) (enc:=Zy) (tk:=300) (l:=[]) (l2:=Y) (xv:=.p (.sl 5 (mI Y))) rfl Qc Qc rfl Qc Qc Qc Qc) (fun _=>Qg) (Yq [] (Qg) (Yq [] (Qg) (Ww (QR (Qk (lm 0 r3 r5 r1 ([]++Y) af ah ae G.dg) (sL Qd (NJ ⟨[10,11,20,21,22],[10,11,300,1000,1001,1002,1003],[],[]⟩ (lm 1 r3 r5 r1 ([]++Y) af ah ae G.dg) (Qf Qd ⟨NR (.bsl 1003 3) 3 1 true,Ey r3 r5 r1 ([]++Y)++LM ([]++Y)++Dz af ah ae G.dg⟩ (sS (ZQ (sK (Qk (lm 1 r3 r5 r1 ([]++Y) af ah ae G.dg) (sS (sB (Qf Qd ⟨lh (.func 124) (.bsl 1003 3) 3 1,Ey r3 r5 r1 ([]++Y)++LM ([]++Y)++Dz af ah ae G.dg⟩ (KA [0,1,2] [0,1] [(3,[]),(4,[]),(5,[]),(6,[])] Qd rfl (ZF (f:=124) (args:=[Ic]) (dst:=some 29) (QQ (hc:=(qW af ah ae G.dg)) (args':=[Ic]) nq2 [] [] Tryz.func124 rfl Tryz.ntmps124 rfl Qc Qc Qc (Qf Qd (Qdq af ah ae G.dg) (sS (KA [0] [0] [(1,[]),(2,[])] Qd rfl (ZF (f:=125) (args:=[S [123]]) (dst:=some 3) (QQ (hc:=[]) (args':=[S [123]]) [(1,401)] [] [] Tryz.func125 rfl Tryz.ntmps125 rfl Qc Qc Qc (Qf Qd ⟨[qq 1],QaY [123]⟩ (Qf Qd (sq8 [123]) (sT (QC (.id) [1] [] (.fn (.func 185) [] [.ptr 1 0]) (kh [0] (Qn (Qz Zh rfl) (Qg)) (ZF (f:=119) (args:=[Zh, .fn (.func 185) [] [.ptr 401 0]]) (dst:=some 4) (QQ (hc:=(Ez af ah ae G.dg [123])) (args':=[Zh, .fn (.func 185) [] [Ic]]) nq3 [] [] Tryz.func119 rfl Tryz.ntmps119 rfl Qc Qc Qc (Qf Qd ⟨Qdj (.func 185),tQ++Ez af ah ae G.dg [123]⟩ (sS (sG (xR 1 ?_))))))))))))))))))))))))))))))))))))));refine Xz [.ro [.id, .id, .id, .sl 2]] (Ku n (⟨af,ah,ae,G.dg⟩:ZK)) QE (fun bv=>?_);refine xR 2 (xE (Qk ⟨Qdk (.func 185),GG bv++Ez af ah ae G.dg [123]⟩ (K4 (fun _=>⟨tT,GG bv++Ez af ah ae G.dg [123]⟩:Unit→St) (fun _=>Vg n G r1 r3 r5 Y af ah ae) ?_ ?_)));rotate_left
 ·refine KI (fun dv=>⟨tV dv,GG bv++Ez af ah ae G.dg [123]⟩:Bool→St) ?_ ?_;rotate_left
  ·rintro dv;refine sC dv (sG (xR 1 ?_)) (sK (KP (k:=fun _=>Vg n G r1 r3 r5 Y af ah ae) ()));refine CU [.ro [.id, .id, .id, .sl 2]] (U2 n (⟨af,ah,ae,G.dg⟩:ZK)) QE QE (fun ek=>?_) (fun eh=>?_)
   ·exact xE (KP (k:=fun _=>Vg n G r1 r3 r5 Y af ah ae) ())
   exact Ga (NC [1000,1001,1002] [] (ui _ rfl (Uf (NC [1000,1001,1002] [] (ui _ rfl (SB (Uf (QhC (SB (Ga (NC [1000,1001,1002,1003] [] (Uf (Uf (sI [1000,1103] []))))))))))))))
  refine sG (xR 4 (xS (Qr bv.Kind 0) (fun c3=>xN (Qy c3) (xR 4 (xE (QS true)))) (fun c3=>xO (Qw c3) (xR 1 (Gn (wz [123]) [.agg [I bv.Kind,S bv.Text,I bv.N,I bv.At],Zh] [(1000,1002)] [] [] Tryz.func185 rfl Tryz.ntmps185 rfl (Qf Qd (sq9 bv [123]) (KI (fun cz=>⟨[(3,B cz)],wz [123]⟩:Bool→St) (sG (xR 4 (xS (Qr bv.Kind 3) (fun dc=>xO (Qv dc) (xR 5 (xE (QS (Qt bv.Text [123]))))) (fun dc=>xN (Qx dc) (xR 5 (xE (QS false))))))) ?_)))))));rintro cz;exact sT (QC (.id) [1000] [] (B cz) (VZ (xR 2 (xE (QS (!cz))))))
 rintro _;show QO (Vg n G r1 r3 r5 Y af ah ae) _ _ _ _ _ _;unfold Vg;refine Qf Qd ⟨[qq 4,qq 5],GG bv++Ez af (wi (ah+1)) ae G.dg [123]⟩ (Qf Qd ⟨[qq 4],tX bv++Ez af (wi (ah+1)) ae G.dg [123]⟩ (sT (QC (.id) [1000,1001,1002] [] (.agg [I bv.Kind,S bv.Text,I bv.N,I bv.At]) (kh [] (Qg) (Ww (Qk ⟨[],qW af (wi (ah+1)) ae G.dg⟩ (Qf Qd ⟨[(1,zS)],qW af (wi (ah+1)) ae G.dg⟩ (sT (QC (.sl 5) [1000,1001,1002] [] (.p (.sl 5 (mI []))) (kh [0,1] (Qn (Qz (.ptr 11 4) rfl) (Qn (Jf (S:=5) (t:=300) (ty:=25) (es:=mI ([]++Y)) rfl) (Qg))) (SG [] rfl (Jc (e:=25) (S:=5) (by_:=64) (enc:=Zy) (tk:=300) (l:=[]++Y) (l2:=[]) (xv:=.p (.sl 5 (mI []))) rfl Qc Qc rfl Qc Qc Qc Qc) (fun _=>Qg) (Yq [] (Qg) (Yq [] (Qg) (Ww (QR (Qk (lm 1 r3 r5 r1 (([]++Y)++[]) af (wi (ah+1)) ae G.dg) (sL Qd (NJ ⟨[10,11,20,21,22],[10,11,300,1000,1001,1002,1003],[],[]⟩ (lm 2 r3 r5 r1 (([]++Y)++[]) af (wi (ah+1)) ae G.dg) (Qf Qd ⟨NR (.bsl 1003 3) 3 2 true,Ey r3 r5 r1 (([]++Y)++[])++LM (([]++Y)++[])++Dz af (wi (ah+1)) ae G.dg⟩ (sS (ZQ (sK (Qk (lm 2 r3 r5 r1 (([]++Y)++[]) af (wi (ah+1)) ae G.dg) (KI (fun (b1,cg,ch,ce,cj)=>⟨LP (.bsl 1003 3) 3 2,Ey r3 r5 r1 b1++M6 b1++Dz cg ch ce cj⟩:AP→St) ?_ ?_))))))))))))))))))))))));rotate_left
 ·rintro ⟨b1,cg,ch,ce,cj⟩;exact sL Qd (NJ ⟨[10,11,20,21,22],[10,11,300,1000,1001,1002,1003],[],[]⟩ ⟨LP (.bsl 1003 3) 3 3,Ey r3 r5 r1 b1++M6 b1++Dz cg ch ce cj⟩ (Qf Qd ⟨NR (.bsl 1003 3) 3 3 false,Ey r3 r5 r1 b1++M6 b1++Dz cg ch ce cj⟩ (sS (QW (Qq (ZR (MI (QL (KP (k:=fun (bn,b8,b9,b6,b7)=>Jj r1 r3 r5 bn b8 b9 b6 b7) (b1,cg,ch,ce,cj))))))))))
 refine sB (Qf Qd ⟨nD (.func 127) (.bsl 1003 3) 3 2,Ey r3 r5 r1 (([]++Y)++[])++LM (([]++Y)++[])++Dz af (wi (ah+1)) ae G.dg⟩ (KA [0,1,2] [0,1] [(3,[]),(4,[]),(5,[]),(6,[])] Qd rfl (ZF (f:=127) (args:=[Zh]) (dst:=some 29) (QQ (hc:=(VH af (wi (ah+1)) ae G.dg)) (args':=[Zh]) [(1000,1000),(1001,1001)] [] [] Tryz.func127 rfl Tryz.ntmps127 rfl Qc Qc Qc (Qf Qd (Qf9 af (wi (ah+1)) ae G.dg) (Qf Qd ⟨lc,wC++VH af (wi (ah+1)) ae G.dg⟩ (K4 (fun (ay,bi,bk,bh,bl)=>⟨[(3, .tsl 5 (mI ay) 32)],Qgb ay++VH bi bk bh bl⟩:AP→St) (fun (ay,bi,bk,bh,bl)=>Js Y ay bi bk bh bl) ?_ ?_)))))))
 ·rintro ⟨ay,bi,bk,bh,bl⟩;show QO (Js Y ay bi bk bh bl) _ _ _ _ _ _;unfold Js;exact Qf Qd (Qgc ay bi bk bh bl) (sT (QC (.sl 5) [1000,1001] [] (.p (.sl 5 (mI ay))) (kh [0,1] (Qn (Qz (.ptr 11 4) rfl) (Qn (Jf (S:=5) (t:=300) (ty:=25) (es:=mI (([]++Y)++[])) rfl) (Qg))) (SG [] rfl (Jc (e:=25) (S:=5) (by_:=64) (enc:=Zy) (tk:=300) (l:=([]++Y)++[]) (l2:=ay) (xv:=.p (.sl 5 (mI ay))) rfl Qc Qc rfl Qc Qc Qc Qc) (fun _=>Qg) (Yq [] (Qg) (Yq [] (Qg) (Ww (QR (QS ((([]++Y)++[])++ay,bi,bk,bh,bl))))))))))
 refine sB (NM ⟨lc,wC++VH af (wi (ah+1)) ae G.dg⟩ (Kz (Yk 25 5 32 [3] []) (QF (fun (J,aq,am,ao,O)=>⟨Qa0 J,lq J++VH aq am ao O⟩:AP→St) (H5) ?_)));rintro cy ⟨J,aq,am,ao,O⟩;show QO (Vf n Y cy J aq am ao O) _ _ _ _ _ _;unfold Vf;refine sS (sS (sG (xR 1 ?_)));refine Xz [.ro [.id, .id, .id, .sl 2]] (AJ n (⟨aq,am,ao,O⟩:ZK)) QE (fun ea=>?_);refine xR 1 (xE (Qk ⟨[qq 1,(3, .tsl 5 (mI J) 32),(9,B (!ea))],lq J++VH aq am ao O⟩ (sC (!ea) (sK (Qk ⟨Qa0 J,lq J++VH aq am ao O⟩ (sB (sS (sS (KA [1] [1] [(0,[]),(2,[]),(3,[])] Qd rfl (ZF (f:=125) (args:=[S [125]]) (dst:=some 10) (QQ (hc:=[]) (args':=[S [125]]) [(1,401)] [] [] Tryz.func125 rfl Tryz.ntmps125 rfl Qc Qc Qc (Qf Qd ⟨[qq 1],QaY [125]⟩ (Qf Qd (sq8 [125]) (sT (QC (.id) [1] [] (.fn (.func 185) [] [.ptr 1 0]) (kh [1] (Qn (Qz Zh rfl) (Qg)) (ZF (f:=181) (args:=[Zh]) (dst:=some 12) ?_)))))))))))))) (Qq (ZR (Yp (QL (KP (k:=fun (ay,bi,bk,bh,bl)=>Js Y ay bi bk bh bl) (J,aq,am,ao,O)))))))));refine Qhy [.ro [.id, .id, .id, .sl 2]] (Ku n (⟨aq,am,ao,O⟩:ZK)) Qc Qc QE (fun ck=>?_);refine kh [] (Qg) (ZF (f:=185) (args:=[.agg [I ck.Kind,S ck.Text,I ck.N,I ck.At], .ptr 401 0]) (dst:=some 13) (QQ (hc:=(wz [125])) (args':=[.agg [I ck.Kind,S ck.Text,I ck.N,I ck.At],Zh]) [(1000,401)] [] [] Tryz.func185 rfl Tryz.ntmps185 rfl Qc Qc Qc (Qf Qd (sq9 ck [125]) (KI (fun cn=>⟨[(3,B cn)],wz [125]⟩:Bool→St) (sG (xR 4 (xS (Qr ck.Kind 3) (fun du=>xO (Qv du) (xR 5 (xE (QS (Qt ck.Text [125]))))) (fun du=>xN (Qx du) (xR 5 (xE (QS false))))))) ?_))));rintro cn;refine sT (QC (.id) [1000] [] (B cn) (kh [] (Qg) (Ww (Qk ⟨[qq 1,(3, .tsl 5 (mI J) 32),(13,B cn)],lq J++VH aq am ao O⟩ (sC cn (Qf Qd ⟨[(3, .tsl 5 (mI J) 32)],Qgb J++VH aq (wi (am+1)) ao O⟩ (Qf Qd (Qgc J aq (wi (am+1)) ao O) (sT (QA (Q4 (VX (Q4 (VX (QC (.sl 5) [1000,1001] [] (.p (.sl 5 (mI J))) (kh [0,1] (Qn (Qz (.ptr 11 4) rfl) (Qn (Jf (S:=5) (t:=300) (ty:=25) (es:=mI (([]++Y)++[])) rfl) (Qg))) (SG [] rfl (Jc (e:=25) (S:=5) (by_:=64) (enc:=Zy) (tk:=300) (l:=([]++Y)++[]) (l2:=J) (xv:=.p (.sl 5 (mI J))) rfl Qc Qc rfl Qc Qc Qc Qc) (fun _=>Qg) (Yq [] (Qg) (Yq [] (Qg) (Ww (QR (QS ((([]++Y)++[])++J,aq,wi (am+1),ao,O))))))))))))))))) (sK (Qk ⟨Qa0 J,lq J++VH aq am ao O⟩ (Qf Qd ⟨QhX J,[(1, .box 82 [Zh]),(4,(DK 0 [] 0 0)),(32,Qez J)]++VH aq am ao O⟩ (KI (fun (cm,cl,b2,bz,bo,b0,cc,ca,cd,b4,b5)=>⟨[qq 1,(3, .tsl 5 (mI J) 32),qq 4,(5,B cm),(6,S cl)],QhY ⟨cc,ca,cd,b4,b5⟩ J++VH b2 bz bo b0⟩:(Bool × (List UInt8) × (List QX) × Int × Int × (List ZH) × Int × (List UInt8) × Int × Int × (List (List PV)))→St) ?_ ?_)))))))));rotate_left
 ·rintro ⟨cm,cl,b2,bz,bo,b0,cc,ca,cd,b4,b5⟩;exact Qf Qd ⟨[qq 1,(3, .tsl 5 (mI J) 32),qq 4,(6,S cl),(28,B cm)],QhY ⟨cc,ca,cd,b4,b5⟩ J++VH b2 bz bo b0⟩ (sC cm (sG (xR 3 (xF (YV (e:=25) (S:=5) (by_:=64) (enc:=Zy) (tk:=32) (l:=J) (l2:=[GN.cs (⟨cc,ca,cd,b4,b5⟩:GN)]) (xv:=.tsl 5 (mI [GN.cs (⟨cc,ca,cd,b4,b5⟩:GN)]) 31) rfl Qc Qc rfl Qc Qc Qc rfl Qc) (xR 1 (xE (QR (KP (J++[GN.cs (⟨cc,ca,cd,b4,b5⟩:GN)],b2,bz,bo,b0)))))))) (Qf Qd ⟨[qq 1,(3, .tsl 5 (mI J) 32),(34,B (!Qt cl [59]))],lq J++VH b2 bz bo b0⟩ (sC (!Qt cl [59]) (Qf Qd (Qgc J b2 bz bo b0) (sT (Q4 (VX (Q4 (VX (QC (.sl 5) [1000,1001] [] (.p (.sl 5 (mI J))) (kh [0,1] (Qn (Qz (.ptr 11 4) rfl) (Qn (Jf (S:=5) (t:=300) (ty:=25) (es:=mI (([]++Y)++[])) rfl) (Qg))) (SG [] rfl (Jc (e:=25) (S:=5) (by_:=64) (enc:=Zy) (tk:=300) (l:=([]++Y)++[]) (l2:=J) (xv:=.p (.sl 5 (mI J))) rfl Qc Qc rfl Qc Qc Qc Qc) (fun _=>Qg) (Yq [] (Qg) (Yq [] (Qg) (Ww (QR (QS ((([]++Y)++[])++J,b2,bz,bo,b0))))))))))))))) (sK (QR (KP (J,b2,bz,bo,b0)))))))
 refine sG (xR 2 (Z9 (f:=57) (args:=[Zh, .fn (.func 189) [] [.ptr 1 0, .ptr 4 0]]) Qc Qc Qc ?_));refine qK (hc:=(Qgd aq am ao O)) (args':=[Zh, .fn (.func 189) [] [Ic,bO]]) [(1002,1),(1003,4),(1000,1000),(1001,1001)] [] [] (⟨_,_,_,_,_,_,[2,4,5],6,_,rfl,rfl,rfl,rfl,rfl,rfl,rfl,rfl,by decide⟩:BU Tryz.f57 117) [(2,1900),(4,1901),(5,1902)] Tryz.func57 Tryz.ntmps57 Qc Qc Qc Qc Qc Qd rfl Qc Qc ?_;refine NM ⟨QhZ (.func 189),Qgd aq am ao O++Qge false⟩ (sS (sG (xR 1 (Gn (Qgd aq am ao O) [Ic,bO] nq4 [] [] Tryz.func189 rfl Tryz.ntmps189 rfl (sG (xR 1 (Z9 (f:=190) (args:=[Zh]) Qc Qc Qc ?_)))))));refine Wj 1000 3 1001 81 2 (Ue O).length (Ue O) ⟨[0,1,2],[1000,1002,1003],[],[]⟩ rfl (fun _ _ _=>by kernel_rfl) (fun da c7 df=>?_);refine xZ [(1000,1000)] [] [] (qV n (⟨aq,am,ao,[]⟩:ZK) da c7 df) Qc Qc Qc QE QE QE QE (fun bd=>?_) (fun ak=>?_)
 ·refine Xm _ rfl (VZ (xR 1 (xE (Dw (.id) [1000,1001,1002,1003] [] (.tup []) (VZ (xE (Qk ⟨[(4, .ptr 1901 0),(5, .ptr 1902 0)],Qh0 bd.2.tks bd.2.pos bd.2.length O bd.1++Qge false⟩ (Qf Qd ⟨[(4, .ptr 1901 0),(5, .ptr 1902 0)],Qh0 bd.2.tks bd.2.pos bd.2.length O bd.1++Qge true⟩ (sT ?_)))))))));refine vX (⟨Tryz.f117,_,_,_,6,3,_,_,Tryz.func117,rfl,rfl,rfl,rfl,rfl,rfl,rfl,by decide,by decide⟩:GU Tryz.prog 117) nq5 (VH bd.2.tks bd.2.pos bd.2.length O++wE true) (.p (.val (.nilIface))) [Ic,bO, .ptr 1004 0] [] rfl Qc Qc Qc Qc ?_;exact sS (Qf Qd ⟨Qh1,VH bd.2.tks bd.2.pos bd.2.length O++wE true⟩ (ZQ (sT (QA (QaJ [1000,1001,1002,1003,1004] [] Qc Qc (QC (.id) [1000,1001,1002,1003] [] (.tup [B true,S []]) (VZ (xR 5 (xE (QS (true,[],bd.2.tks,bd.2.pos,bd.2.length,O,bd.1.Kind,bd.1.Name,bd.1.N,bd.1.At,bd.1.Kids)))))))))))
 refine QfV _ rfl Qc Qc (NC [1000,1001,1002,1003] [] (Uf ?_));refine vX (⟨Tryz.f117,_,_,_,6,3,_,_,Tryz.func117,rfl,rfl,rfl,rfl,rfl,rfl,rfl,by decide,by decide⟩:GU Tryz.prog 117) nq5 (VH ak.2.tks ak.2.pos ak.2.length O++wE false) (.ifc 235 (.agg [I ak.1])) [Ic,bO, .ptr 1004 0] [] rfl Qc Qc Qc Qc ?_;refine sS (Qf Qd ⟨Qh2 ak.1,VH ak.2.tks ak.2.pos ak.2.length O++wE false⟩ (QW (sK (Qk ⟨Qh3 ak.1,VH ak.2.tks ak.2.pos ak.2.length O++wE false⟩ (Qf Qd ⟨Qh4 ak.1,lu ak.1++VH ak.2.tks ak.2.pos ak.2.length O++wE false⟩ (sS (Qf Qd ⟨Qh5 ak.1,lu ak.1++VH ak.2.tks ak.2.pos ak.2.length O++wE false⟩ (QW (sK (Qk ⟨Qh6,lu ak.1++VH ak.2.tks ak.2.pos ak.2.length O++wE false⟩ (sS (CQ Qd rfl (xR 9 (xF (YV (e:=81) (S:=2) (by_:=16) (enc:=ZH.cs) (tk:=1001) (l:=O) (l2:=[(⟨7,ak.1⟩:ZH)]) (xv:=.tsl 2 (Ue [(⟨7,ak.1⟩:ZH)]) 25) rfl Qc Qc rfl Qc Qc Qc rfl Qc) (xR 3 (BZ (Qk ⟨Qh7,VH ak.2.tks ak.2.pos ak.2.length (O++[(⟨7,ak.1⟩:ZH)])++wE false⟩ (sG (xR 1 (Z9 (f:=118) (args:=[Zh]) Qc Qc Qc ?_))))))))))))))))))));refine Wj 1000 3 1001 81 2 (Ue (O++[(⟨7,ak.1⟩:ZH)])).length (Ue (O++[(⟨7,ak.1⟩:ZH)])) ⟨[0,1,2,29],[1000,1002,1003,1004],[],[]⟩ rfl (fun _ _ _=>by kernel_rfl) (fun c5 c4 c1=>?_);refine Zf [(1000,1000)] [] [] (AO n (⟨ak.2.tks,ak.2.pos,ak.2.length,[]⟩:ZK) c5 c4 c1) Qc Qc Qc QE QE (fun co=>?_);exact Xm _ rfl (VZ (xR 2 (xE (QhB [1000,1001,1002,1003,1004] [] Qc Qc (QC (.id) [1000,1001,1002,1003] [] (.tup [B false,S co.1]) (VZ (xR 5 (xE (Qao (false,co.1,co.2.tks,co.2.pos,co.2.length,O++[(⟨7,ak.1⟩:ZH)],0,[],0,0,[]) ⟨[1,3,4,5,6],[1,4,32,1000,1001],[],[(4,[.id, .id, .id, .id, .sl 5])]⟩ Qc)))))))))
def Wm (Z:GN) (J:Int) (G:GN→Int→Option Int) (Y:(Int × Int)→Option Int) (O:Int) (U:Int):Option Int :=
 cond (Qp U (Qb (List.map Zy Z.Kids)))
  ((Option.bind (QY Z.Kids U) GN.of).bind fun x2 =>
  cond (Qp J O)
   (some O)
   ((G x2 (wi (J - O))).bind fun r3 =>
   Y (wi (O+r3),wi (U+1))))
  (some O)
def Jk (n:Nat) (G:GN→Int→Option Int) (Z:GN) (J:Int):Option Int :=
 Qo (fun O (Y,U)=>Wm Z J G O Y U) n (1,0)
def Ju:Nat→GN→Int→Option Int
 | 0,_,_=>none
 | n+1,J,G=>Jk n (Ju n) J G
def XZ:=fun G=>([(2, .box 25 (Yx (GN.cs G)))]:List (Nat × Blk))
def Qds:=fun U O G J=>([(1,I U),(5,I O),(9, .p (.sl 5 (List.map Zy (GN.Kids G)))),(10,I (Qb (List.map Zy (GN.Kids G)))),(11,I J)]:List (Nat × AV))
def Qh8:=fun U O G J=>([(1,I U),(5,I O),(7, .ptr 7 0),(9, .p (.sl 5 (List.map Zy (GN.Kids G)))),(10,I (Qb (List.map Zy (GN.Kids G)))),(11,I J)]:List (Nat × AV))
def Qdt:=fun G=>([(7, .box 25 (Yx (GN.cs G)))]:List (Nat × Blk))
theorem wG (n:Nat) (O:GN) (G:Int):∀ r,Ju n O G=some r→QB Tryz.prog 27 [ag (GN.cs O),I G] (.ret (I r)):=by
 induction n generalizing O G with
 | zero=>intro r hr; cases (show (none:Option Int)=some r from hr)
 | succ n ih =>
 show ∀ r,Jk n (Ju n) O G=some r→_;generalize Ju n=Y at ih ⊢;refine Qj Tryz.func27 rfl Tryz.ntmps27 rfl ?_;unfold Jk;refine Qf Qd ⟨[(1,I G),qq 2],XZ O⟩ (Qf Qd ⟨[(1,I G),qq 2,(5,I 1)],XZ O⟩ (sS (Qf Qd ⟨Qds G 1 O 0,[]⟩ (sB (QF (fun (J,U)=>⟨Qds G J O U,[]⟩:(Int × Int)→St) (H5) ?_)))));rintro Z ⟨J,U⟩;show QO (Wm O G Y Z J U) _ _ _ _ _ _;unfold Wm;refine Qf Qd ⟨[(1,I G),(5,I J),(9, .p (.sl 5 (mI O.Kids))),(10,I (Qb (mI O.Kids))),(11,I U),(12,B (Qp U (Qb (mI O.Kids))))],[]⟩ (sS (sC (Qp U (Qb (mI O.Kids))) (sK (Qk ⟨Qds G J O U,[]⟩ (sS (sB (sS (sG (xG (K9 (e:=25) (S:=5) (enc:=GN.cs) (dec:=GN.of) (l:=O.Kids) (k:=.i64) (n:=U) (sv:=.p (.sl 5 (mI O.Kids))) GN.of_cs rfl Qc Qc Qc Qc Qc) (fun x2=>xR 3 (xE (Qk ⟨Qh8 G J O U,Qdt x2⟩ (sS (Qf Qd ⟨[(1,I G),(5,I J),qq 7,(9, .p (.sl 5 (mI O.Kids))),(10,I (Qb (mI O.Kids))),(11,I U),(17,B (Qp G J))],Qdt x2⟩ (sC (Qp G J) (Qf Qd ⟨[(4,I J)],[]⟩ (sT (QA (Q4 (QA (VX (Q4 (QA (qR (.id)))))))))) (sK (Qk ⟨Qh8 G J O U,Qdt x2⟩ (sG (xR 5 ?_))))))))))))))))) (Qq (ZR (Yp (QL (Qk ⟨[(5,I J)],[]⟩ (Qf Qd ⟨[(4,I J)],[]⟩ (sT (qR (.id)))))))))));refine xC [] (ih x2 (wi (G - J))) QE (fun r3=>?_);exact xR 2 (xE (QR (Qk ⟨Qds G (wi (J+r3)) O U,[]⟩ (sL Qd (KP (wi (J+r3),wi (U+1)))))))
def Wn (n:Nat) (ab:AP→Option AP) (O:List (List PV)) (J:List QX) (U:Int) (Y:Int) (Z:List ZH):Option AP :=
 (cond (Qp U (Qb (List.map QX.cs J)))
  ((RP n (⟨J,U,Y,Z⟩:ZK)).bind fun r7 =>
  some (!r7))
  (some false)).bind fun j5 =>
 cond j5
  (((Bd n (⟨J,U,Y,Z⟩:ZK)).bind (F3 (fun r9 =>
   some (true,r9.2.tks,r9.2.pos,r9.2.length,r9.2.dg,r9.1.Kind,r9.1.Name,r9.1.N,r9.1.At,r9.1.Kids)) fun G=>cond (QM (List.length (G.2.dg++[(⟨7,G.1⟩:ZH)])) 16) (
   (RS n (⟨G.2.tks,G.2.pos,G.2.length,[]⟩:ZK)).bind fun al =>
   some (false,al.2.tks,al.2.pos,al.2.length,G.2.dg++[(⟨7,G.1⟩:ZH)],0,[],0,0,[])) none)).bind fun (am,aj,ae,ak,ad,ah,af,ai,ac,aa) =>
  cond am
   (cond (QM (List.length (O++[GN.cs (⟨ah,af,ai,ac,aa⟩:GN)])) 64) (
    ab (O++[GN.cs (⟨ah,af,ai,ac,aa⟩:GN)],aj,ae,ak,ad)) none)
   (ab (O,aj,ae,ak,ad)))
  (some (O,J,U,Y,Z))
def YH (n:Nat) (ab:List UInt8):Option (GN × (List ZH)) :=
 (Es n ab).bind fun r1 =>
 cond (!Qr r1.2.1 0)
  (some ((⟨0,[],0,0,[]⟩:GN),[(⟨r1.2.1,r1.2.2⟩:ZH)]))
  (((Qo (fun U (ae,ac,af,Y,ad)=>Wn n U ae ac af Y ad) n ([],r1.1,0,Qb ab,[])).bind fun (G,Z,ah,ai,aa) =>
  cond (QM (List.length ([]++G)) 64) (
   some ([]++G,Z,ah,ai,aa)) none).bind fun (J,al,ak,am,O) =>
  cond (Qp 0 (Qb (List.map ZH.cs O)))
   (some ((⟨0,[],0,0,[]⟩:GN),O))
   ((Ju n (⟨1,[],0,0,J⟩:GN) 1500).bind fun aj =>
   cond (Qp 1500 aj)
    (some ((⟨0,[],0,0,[]⟩:GN),[(⟨2,0⟩:ZH)]))
    (some ((⟨1,[],0,0,J⟩:GN),[]))))
def Qgf:=fun G=>(.arr 81 2 (List.map ZH.cs [G]).length:Blk)
def lv:=fun J G=>(.box 84 [.p (.sl 4 (List.map QX.cs J)),I 0,I (G), .p (.val (.slice none 0 0))]:Blk)
def Qh9:Blk:=.box 88 [.fn (.func 26) [.ptr 1000 0] []]
def uH:=fun J G=>([(1000,(lv J (G))),(1001,Qh9)]:List (Nat × Blk))
def Qdu:=fun U J O G=>(.box 84 [.p (.sl 4 (List.map QX.cs U)),I J,I O, .tsl 2 (List.map ZH.cs G) 700]:Blk)
def Qa1:=fun U J O G=>([(1000,(Qdu U J O G)),(1001,Qh9)]:List (Nat × Blk))
def Qia:=fun J G=>([(32, .arr 25 5 (List.map Zy J).length),(700,(Xo G))]:List (Nat × Blk))
def uI:=fun U J O G=>([(1000,(Qdu U J O G))]:List (Nat × Blk))
def Qgg:=fun J G=>([(1, .box 82 [.ptr 1000 0]),(32, .arr 25 5 (List.map Zy J).length),(700,(Xo G))]:List (Nat × Blk))
def Qib:=fun O G J=>([(1, .box 82 [.ptr 1000 0]),(4,(bQ O)),(32, .arr 25 5 (List.map Zy G).length),(700,(Xo J))]:List (Nat × Blk))
def Qgh:=fun U J O G=>(.box 84 [.p (.sl 4 (List.map QX.cs U)),I J,I O, .tsl 2 (List.map ZH.cs G) 1000]:Blk)
def Qgi:=fun G O U J=>([(1000,(Xo G)),(1001,(Qgh O U J G)),(1002, .box 82 [.ptr 1001 0]),(1003,(DK 0 [] 0 0))]:List (Nat × Blk))
def Qgj:=fun G=>([(1900, .box 82 [.ptr 1001 0]),(1901, .box 4 [B G]),(1902, .box 9 [S []])]:List (Nat × Blk))
def Qic:=fun G J U O Y=>([(1000,(Xo G)),(1001,(Qgh J U O G)),(1002, .box 82 [.ptr 1001 0]),(1003, .box 25 (Yx (GN.cs Y)))]:List (Nat × Blk))
def wH:=fun G O U J=>([(1000,(Xo G)),(1001,(Qgh O U J G))]:List (Nat × Blk))
def wI:=fun G=>([(1002, .box 82 [.ptr 1001 0]),(1003, .box 4 [B G]),(1004, .box 9 [S []])]:List (Nat × Blk))
theorem TS (n:Nat) (Y:List UInt8):∀ r,YH n Y=some r→QB Tryz.prog 8 [S Y] (.ret (.tup [ag (GN.cs r.1), .p (.sl 2 (Ue r.2))])):=by
 refine Qj Tryz.func8 rfl Tryz.ntmps8 rfl ?_;unfold YH;refine Qf Qd ⟨[(0,S Y),qq 2],[(2,(DK 0 [] 0 0))]⟩ (sS (sG (xR 1 ?_)));refine xC [] (nu n Y) QE (fun r1=>?_);refine xR 7 (xE (Qk ⟨[(0,S Y),qq 2,(4, .p (.sl 4 (F5 r1.1))),(5,I r1.2.1),(6,I r1.2.2)],[(2,(DK 0 [] 0 0))]⟩ (sS (Qf Qd ⟨[(0,S Y),qq 2,(4, .p (.sl 4 (F5 r1.1))),(5,I r1.2.1),(6,I r1.2.2),(16,B (!Qr r1.2.1 0))],[(2,(DK 0 [] 0 0))]⟩ (sC (!Qr r1.2.1 0) (Qf Qd ⟨[qq 2,(3, .tsl 2 (Ue [(⟨r1.2.1,r1.2.2⟩:ZH)]) 21)],[(2,(DK 0 [] 0 0)),(21,(Qgf (⟨r1.2.1,r1.2.2⟩:ZH)))]⟩ (sT (QA (qR (.agg [.agg [.id, .id, .id, .id, .sl 5], .sl 2]))))) (sK (Qk ⟨[(0,S Y),qq 2,(4, .p (.sl 4 (F5 r1.1)))],[(2,(DK 0 [] 0 0))]⟩ (Qf Qd ⟨[qq 2,(7, .ptr 26 0)],[(2,(DK 0 [] 0 0)),(26,(lv r1.1 (Qb Y)))]⟩ (sS (sG (xR 4 (Gn (uH r1.1 (Qb Y)) [.agg [I 0,S [],I 0,I 0],I 1,S [],I 0, .bsl 1001 1] [(1000,26),(1001,30),(700,700)] [] [] Tryz.func25 rfl Tryz.ntmps25 rfl (Qf Qd ⟨Qga 1 [] (.bsl 1001 1),[(5, .box 87 [I 0,S [],I 0,I 0]),(10,(DK 0 [] 0 0))]++uH r1.1 (Qb Y)⟩ (Qf Qd ⟨tY (.bsl 1001 1),NP 1 [] 0 0++uH r1.1 (Qb Y)⟩ (KI (fun (aa,aw,aq,ar,ac)=>⟨[qq 10,qq 11],wD 1 [] 0 aa++M6 aa++[(700,(Xo ac))]++Qa1 aw aq ar ac⟩:AP→St) ?_ ?_)))))))))))))));rotate_left
 ·rintro ⟨aa,aw,aq,ar,ac⟩;refine Qf Qd ⟨[qq 10],[(10,(Qdo 1 [] 0 aa))]++M6 aa++[(700,(Xo ac))]++Qa1 aw aq ar ac⟩ (sT (QC (.agg [.id, .id, .id, .id, .sl 5]) [700,1000,1001] [] (.agg [I 1,S [],I 0,I 0, .p (.sl 5 (mI aa))]) (VZ (xR 2 (xE (Qk ⟨[qq 2,(7, .ptr 26 0),qq 8],[(2,(DK 0 [] 0 0)),(8,(bQ ⟨1,[],0,0,aa⟩)),(26,(Qdu aw aq ar ac)),(700,(Xo ac))]⟩ (sS (Qf Qd ⟨[qq 2,(7, .ptr 26 0),qq 8,(37,B (Qp 0 (Qb (Ue ac))))],[(2,(DK 0 [] 0 0)),(8,(bQ ⟨1,[],0,0,aa⟩)),(26,(Qdu aw aq ar ac)),(700,(Xo ac))]⟩ (sC (Qp 0 (Qb (Ue ac))) (Qf Qd ⟨[qq 2,(3, .tsl 2 (Ue ac) 700)],[(2,(DK 0 [] 0 0)),(700,(Xo ac))]⟩ (sT (QA (qR (.agg [.agg [.id, .id, .id, .id, .sl 5], .sl 2]))))) (sK (Qk ⟨[qq 2,qq 8],[(2,(DK 0 [] 0 0)),(8,(bQ ⟨1,[],0,0,aa⟩))]⟩ (sS (sS (sG (xR 1 ?_)))))))))))))));refine xC [] (wG n (⟨1,[],0,0,aa⟩:GN) 1500) QE (fun bb=>?_);exact xR 1 (xE (Qk ⟨[qq 2,qq 8,(45,B (Qp 1500 bb))],[(2,(DK 0 [] 0 0)),(8,(bQ ⟨1,[],0,0,aa⟩))]⟩ (sC (Qp 1500 bb) (Qf Qd ⟨[qq 2,(3, .tsl 2 (Ue [(⟨2,0⟩:ZH)]) 48)],[(2,(DK 0 [] 0 0)),(48,(Qgf (⟨2,0⟩:ZH)))]⟩ (sT (QA (qR (.agg [.agg [.id, .id, .id, .id, .sl 5], .sl 2]))))) (sK (Qk ⟨[qq 2,qq 8],[(2,(DK 0 [] 0 0)),(8,(bQ ⟨1,[],0,0,aa⟩))]⟩ (Qf Qd ⟨[qq 2,(3,zS)],[(2,(bQ ⟨1,[],0,0,aa⟩))]⟩ (sT (qR (.agg [.id, .sl 2])))))))))
 refine Qf Qd ⟨LP (.bsl 1001 1) 1 0,NP 1 [] 0 0++uH r1.1 (Qb Y)⟩ (sB (Z4 1 (Qf Qd ⟨NR (.bsl 1001 1) 1 0 true,NP 1 [] 0 0++uH r1.1 (Qb Y)⟩ (sS (ZQ (sK (Qk ⟨LP (.bsl 1001 1) 1 0,NP 1 [] 0 0++uH r1.1 (Qb Y)⟩ (sS (sB (Qf Qd ⟨nD (.func 26) (.bsl 1001 1) 1 0,NP 1 [] 0 0++uH r1.1 (Qb Y)⟩ (NM ⟨nD (.func 26) (.bsl 1001 1) 1 0,NP 1 [] 0 0++uH r1.1 (Qb Y)⟩ (Kz (Yk 25 5 300 [] [(11,4)]) (KA [0,1,2] [0,1] [(3,[]),(4,[]),(5,[]),(6,[])] Qd rfl (ZF (f:=26) (args:=[Zh]) (dst:=some 29) (QQ (hc:=[(1000,(lv r1.1 (Qb Y)))]) (args':=[Zh]) [(1000,1000),(700,700)] [] [] Tryz.func26 rfl Tryz.ntmps26 rfl Qc Qc Qc (Qf Qd ⟨[qq 1],wC++[(1000,(lv r1.1 (Qb Y)))]⟩ (Qf Qd ⟨lc,wC++[(1000,(lv r1.1 (Qb Y)))]⟩ (KI (fun (U,ah,ak,aj,ae)=>⟨[(3, .tsl 5 (mI U) 32)],Qia U ae++uI ah ak aj ae⟩:AP→St) ?_ ?_))))))))))))))))));rotate_left
 ·rintro ⟨U,ah,ak,aj,ae⟩;exact Qf Qd ⟨[(2, .tsl 5 (mI U) 32)],Qia U ae++uI ah ak aj ae⟩ (sT (QC (.sl 5) [700,1000] [] (.p (.sl 5 (mI U))) (kh [0,1] (Qn (Qz (.ptr 11 4) rfl) (Qn (Jf (S:=5) (t:=300) (ty:=25) (es:=mI []) rfl) (Qg))) (SG [] rfl (Jc (e:=25) (S:=5) (by_:=64) (enc:=Zy) (tk:=300) (l:=[]) (l2:=U) (xv:=.p (.sl 5 (mI U))) rfl Qc Qc rfl Qc Qc Qc Qc) (fun _=>Qg) (Yq [] (Qg) (Yq [] (Qg) (Ww (QR (Qk ⟨LP (.bsl 1001 1) 1 0,wD 1 [] 0 ([]++U)++LM ([]++U)++[(700,(Xo ae))]++Qa1 ah ak aj ae⟩ (sL Qd (NJ ⟨[10,11,20,21,22],[10,11,300,700,1000,1001],[],[]⟩ ⟨LP (.bsl 1001 1) 1 1,wD 1 [] 0 ([]++U)++LM ([]++U)++[(700,(Xo ae))]++Qa1 ah ak aj ae⟩ (Qf Qd ⟨NR (.bsl 1001 1) 1 1 false,wD 1 [] 0 ([]++U)++LM ([]++U)++[(700,(Xo ae))]++Qa1 ah ak aj ae⟩ (sS (QW (Qq (ZR (MI (QL (QS ([]++U,ah,ak,aj,ae))))))))))))))))))))
 refine sB (NM ⟨lc,wC++[(1000,(lv r1.1 (Qb Y)))]⟩ (Kz (Weak.trans (Yk 25 5 32 [3] []) (Yk 81 2 700 [] [(1000,3)])) (QF (fun (J,Z,ab,ad,O)=>⟨Qa0 J,Qgg J O++uI Z ab ad O⟩:AP→St) (H5) ?_)));rintro ba ⟨J,Z,ab,ad,O⟩;show QO (Wn n ba J Z ab ad O) _ _ _ _ _ _;unfold Wn;refine sS (KI (fun j5=>⟨[qq 1,(3, .tsl 5 (mI J) 32),(21,B j5)],Qgg J O++uI Z ab ad O⟩:Bool→St) ?_ ?_)
 ·refine CQ Qd rfl (xR 11 (xS (Qp ab (Qb (F5 Z))) (fun h6=>?_) (fun h6=>?_)))
  ·refine xO (Qv h6) (P8 rfl Qc Qc ?_);refine Xz [.ro [.id, .id, .id, .sl 2]] (AJ n (⟨Z,ab,ad,O⟩:ZK)) QE (fun r7=>?_);exact xR 2 (xE (QS (!r7)))
  exact xN (Qx h6) (xR 3 (BZ (QS false)))
 rintro j5;refine sC j5 (sK (Qk ⟨Qa0 J,Qgg J O++uI Z ab ad O⟩ (sB (Qf Qd ⟨QhX J,[(1, .box 82 [Zh]),(4,(DK 0 [] 0 0)),(32,Qez J),(700,(Xo O))]++uI Z ab ad O⟩ (KI (fun (ay,ax,av,au,ai,ao,an,al,am,af)=>⟨[qq 1,(3, .tsl 5 (mI J) 32),qq 4,(5,B ay)],Qib ⟨ao,an,al,am,af⟩ J ai++uI ax av au ai⟩:(Bool × (List QX) × Int × Int × (List ZH) × Int × (List UInt8) × Int × Int × (List (List PV)))→St) ?_ ?_))))) (Qq (ZR (Yp (QL (QS (J,Z,ab,ad,O))))));rotate_left
 ·rintro ⟨ay,ax,av,au,ai,ao,an,al,am,af⟩;exact Qf Qd ⟨[qq 1,(3, .tsl 5 (mI J) 32),qq 4,(28,B ay)],Qib ⟨ao,an,al,am,af⟩ J ai++uI ax av au ai⟩ (sC ay (sG (xR 3 (xF (YV (e:=25) (S:=5) (by_:=64) (enc:=Zy) (tk:=32) (l:=J) (l2:=[GN.cs (⟨ao,an,al,am,af⟩:GN)]) (xv:=.tsl 5 (mI [GN.cs (⟨ao,an,al,am,af⟩:GN)]) 31) rfl Qc Qc rfl Qc Qc Qc rfl Qc) (xR 1 (xE (QR (KP (J++[GN.cs (⟨ao,an,al,am,af⟩:GN)],ax,av,au,ai)))))))) (sK (QR (KP (J,ax,av,au,ai)))))
 refine sG (xR 2 (Z9 (f:=57) (args:=[Zh, .fn (.func 58) [] [.ptr 1 0, .ptr 4 0]]) Qc Qc Qc ?_));refine qK (hc:=(Qgi O Z ab ad)) (args':=[L8, .fn (.func 58) [] [Ic,bO]]) [(1002,1),(1003,4),(1000,700),(1001,1000)] [] [] (⟨_,_,_,_,_,_,[2,4,5],6,_,rfl,rfl,rfl,rfl,rfl,rfl,rfl,rfl,by decide⟩:BU Tryz.f57 117) [(2,1900),(4,1901),(5,1902)] Tryz.func57 Tryz.ntmps57 Qc Qc Qc Qc Qc Qd rfl Qc Qc ?_;refine NM ⟨QhZ (.func 58),Qgi O Z ab ad++Qgj false⟩ (sS (sG (xR 1 (Gn (Qgi O Z ab ad) [Ic,bO] nq4 [] [] Tryz.func58 rfl Tryz.ntmps58 rfl (sG (xR 1 ?_))))));refine Qas [(1000,1001),(1103,1000)] [] [] Qc (uG n (⟨Z,ab,ad,O⟩:ZK)) Qc Qc Qc QE QE QE QE (fun r9=>?_) (fun G=>?_)
 ·refine xR 1 (xE (Dw (.id) [1000,1001,1002,1003] [] (.tup []) (VZ (xE (Qk ⟨[(4, .ptr 1901 0),(5, .ptr 1902 0)],Qic r9.2.dg r9.2.tks r9.2.pos r9.2.length r9.1++Qgj false⟩ (Qf Qd ⟨[(4, .ptr 1901 0),(5, .ptr 1902 0)],Qic r9.2.dg r9.2.tks r9.2.pos r9.2.length r9.1++Qgj true⟩ (sT ?_)))))));refine vX (⟨Tryz.f117,_,_,_,6,3,_,_,Tryz.func117,rfl,rfl,rfl,rfl,rfl,rfl,rfl,by decide,by decide⟩:GU Tryz.prog 117) nq5 (wH r9.2.dg r9.2.tks r9.2.pos r9.2.length++wI true) (.p (.val (.nilIface))) [Ic,bO, .ptr 1004 0] [] rfl Qc Qc Qc Qc ?_;exact sS (Qf Qd ⟨Qh1,wH r9.2.dg r9.2.tks r9.2.pos r9.2.length++wI true⟩ (ZQ (sT (QA (QaJ [1000,1001,1002,1003,1004] [] Qc Qc (QC (.id) [1000,1001,1002,1003] [] (.tup [B true,S []]) (VZ (xR 5 (xE (QS (true,r9.2.tks,r9.2.pos,r9.2.length,r9.2.dg,r9.1.Kind,r9.1.Name,r9.1.N,r9.1.At,r9.1.Kids)))))))))))
 refine NC [1000,1001,1002,1003] [] (Uf ?_);refine vX (⟨Tryz.f117,_,_,_,6,3,_,_,Tryz.func117,rfl,rfl,rfl,rfl,rfl,rfl,rfl,by decide,by decide⟩:GU Tryz.prog 117) nq5 (wH G.2.dg G.2.tks G.2.pos G.2.length++wI false) (.ifc 235 (.agg [I G.1])) [Ic,bO, .ptr 1004 0] [] rfl Qc Qc Qc Qc ?_;refine sS (Qf Qd ⟨Qh2 G.1,wH G.2.dg G.2.tks G.2.pos G.2.length++wI false⟩ (QW (sK (Qk ⟨Qh3 G.1,wH G.2.dg G.2.tks G.2.pos G.2.length++wI false⟩ (Qf Qd ⟨Qh4 G.1,lu G.1++wH G.2.dg G.2.tks G.2.pos G.2.length++wI false⟩ (sS (Qf Qd ⟨Qh5 G.1,lu G.1++wH G.2.dg G.2.tks G.2.pos G.2.length++wI false⟩ (QW (sK (Qk ⟨Qh6,lu G.1++wH G.2.dg G.2.tks G.2.pos G.2.length++wI false⟩ (sS (CQ Qd rfl (xR 9 (xF (YV (e:=81) (S:=2) (by_:=16) (enc:=ZH.cs) (tk:=1000) (l:=G.2.dg) (l2:=[(⟨7,G.1⟩:ZH)]) (xv:=.tsl 2 (Ue [(⟨7,G.1⟩:ZH)]) 25) rfl Qc Qc rfl Qc Qc Qc rfl Qc) (xR 3 (BZ (Qk ⟨Qh7,wH (G.2.dg++[(⟨7,G.1⟩:ZH)]) G.2.tks G.2.pos G.2.length++wI false⟩ (sG (xR 1 (Z9 (f:=118) (args:=[L8]) Qc Qc Qc ?_))))))))))))))))))));refine Wj 1001 3 1000 81 2 (Ue (G.2.dg++[(⟨7,G.1⟩:ZH)])).length (Ue (G.2.dg++[(⟨7,G.1⟩:ZH)])) ⟨[0,1,2,29],[1001,1002,1003,1004],[],[]⟩ rfl (fun _ _ _=>by kernel_rfl) (fun a7 a6 a8=>?_);refine Zf [(1000,1001)] [] [] (AO n (⟨G.2.tks,G.2.pos,G.2.length,[]⟩:ZK) a7 a6 a8) Qc Qc Qc QE QE (fun az=>?_);exact Xm _ rfl (VZ (xR 2 (xE (QhB [1000,1001,1002,1003,1004] [] Qc Qc (QC (.id) [1000,1001,1002,1003] [] (.tup [B false,S az.1]) (VZ (xR 5 (xE (Qao (false,az.2.tks,az.2.pos,az.2.length,G.2.dg++[(⟨7,G.1⟩:ZH)],0,[],0,0,[]) ⟨[1,3,4,5],[1,4,32,700,1000],[],[(4,[.id, .id, .id, .id, .sl 5])]⟩ Qc)))))))))
def Yt (G:List UInt8) (O:Int→Option Bool) (U:Int):Option Bool :=
 cond (Qp U (Qb G))
  ((QY G U).bind fun J =>
  (cond (leI 97 (Zv J))
   (cond (leI (Zv J) 122)
    (some false)
    (cond (leI 48 (Zv J))
     (cond (leI (Zv J) 57)
      (some false)
      (some (!(Qr (Zv J) 95))))
     (some (!(Qr (Zv J) 95)))))
   (cond (leI 48 (Zv J))
    (cond (leI (Zv J) 57)
     (some false)
     (some (!(Qr (Zv J) 95))))
    (some (!(Qr (Zv J) 95))))).bind fun Y =>
  cond Y
   (some false)
   (O (wi (U+1))))
  (some true)
def X3 (n:Nat) (G:List UInt8):Option Bool :=
 (cond (Qp (Qb G) 1)
  (some true)
  (cond (Qp 12 (Qb G))
   (some true)
   ((QY G 0).bind fun Z =>
   cond (Qp (Zv Z) 97)
    (some true)
    ((QY G 0).bind fun U =>
    some (Qp 122 (Zv U)))))).bind fun Y =>
 cond Y
  (some false)
  (Qo (fun J O=>Yt G J O) n 1)
theorem Ij (n:Nat) (G:List UInt8):∀ r,X3 n G=some r→QB Tryz.prog 191 [S G] (.ret (B r)):=by
 refine Qj Tryz.func191 rfl Tryz.ntmps191 rfl ?_;unfold X3;refine Qf Qd ⟨[(0,S G)],[]⟩ (sS (KI (fun j1=>⟨[(0,S G),(22,B j1)],[]⟩:Bool→St) (sG (xR 4 (xS (Qp (Qb G) 1) (fun h2=>xN (Qy h2) (xR 13 (xE (QS true)))) (fun h2=>xO (Qw h2) (xR 4 (xS (Qp 12 (Qb G)) (fun h3=>xN (Qy h3) (xR 8 (xE (QS true)))) (fun h3=>xO (Qw h3) (xG (JU (l:=G) (k:=.i64) (n:=0) rfl Qc Qc Qc) (fun x4=>xR 3 (xS (Qp (Zv x4) 97) (fun h5=>xN (Qy h5) (xR 3 (xE (QS true)))) (fun h5=>xO (Qw h5) (xG (JU (l:=G) (k:=.i64) (n:=0) rfl Qc Qc Qc) (fun x6=>xR 2 (xE (QS (Qp 122 (Zv x6))))))))))))))))) ?_));rintro j1;refine sC j1 (Qf Qd ⟨[(2,B false)],[]⟩ (sT (QA (qR (.id))))) (sK (Qk ⟨[(0,S G)],[]⟩ (sS (Qf Qd ⟨[(0,S G),(3,I 1)],[]⟩ (sB (QF (fun J=>⟨[(0,S G),(3,I J)],[]⟩:Int→St) (H5) ?_))))));rintro aa J;show QO (Yt G aa J) _ _ _ _ _ _;unfold Yt;refine sS (Qf Qd ⟨[(0,S G),(3,I J),(26,B (Qp J (Qb G)))],[]⟩ (sC (Qp J (Qb G)) (sK (Qk ⟨[(0,S G),(3,I J)],[]⟩ (sS (sB (sS (sG (xR 2 (xG (JU (l:=G) (k:=.i64) (n:=J) rfl Qc Qc Qc) (fun O=>xR 1 (xE (Qk ⟨[(0,S G),(3,I J),(4,B8 (Zv O))],[]⟩ (KI (fun j9=>⟨[(0,S G),(3,I J),(50,B j9)],[]⟩:Bool→St) ?_ ?_)))))))))))) (Qq (ZR (Yp (QL (Qk ⟨[],[]⟩ (Qf Qd ⟨[(2,B true)],[]⟩ (sT (qR (.id)))))))))));rotate_left
 ·rintro j9;exact sC j9 (Qf Qd ⟨[(2,B false)],[]⟩ (sT (Q4 (QA (VX (Q4 (QA (qR (.id))))))))) (sK (QR (Qk ⟨[(0,S G),(3,I J)],[]⟩ (sL Qd (KP (wi (J+1)))))))
 exact sG (xR 3 (xS (leI 97 (Zv O)) (fun ad=>xO (Qv ad) (xR 3 (xS (leI (Zv O) 122) (fun ac=>xN (Qy ac) (xR 11 (xE (QS false)))) (fun ac=>xO (Qw ac) (xR 2 (xS (leI 48 (Zv O)) (fun Z=>xO (Qv Z) (xR 4 (xS (leI (Zv O) 57) (fun U=>xN (Qy U) (xR 3 (xE (QS false)))) (fun U=>xO (Qw U) (xR 3 (xE (QS (!(Qr (Zv O) 95))))))))) (fun Z=>xN (Qx Z) (xR 8 (xE (QS (!(Qr (Zv O) 95)))))))))))) (fun ad=>xN (Qx ad) (xR 6 (xS (leI 48 (Zv O)) (fun ab=>xO (Qv ab) (xR 4 (xS (leI (Zv O) 57) (fun Y=>xN (Qy Y) (xR 3 (xE (QS false)))) (fun Y=>xO (Qw Y) (xR 3 (xE (QS (!(Qr (Zv O) 95))))))))) (fun ab=>xN (Qx ab) (xR 8 (xE (QS (!(Qr (Zv O) 95)))))))))))
def Jv (n:Nat) (G:List UInt8):Option Bool :=
 (X3 n G).bind fun r1 =>
 cond r1
  ((UF n G).bind fun J =>
  some (!J))
  (some false)
theorem Dl (n:Nat) (G:List UInt8):∀ r,Jv n G=some r→QB Tryz.prog 129 [S G] (.ret (B r)):=by
 refine Qj Tryz.func129 rfl Tryz.ntmps129 rfl ?_;unfold Jv;refine Qf Qd ⟨[(0,S G)],[]⟩ (sS (sG (xR 1 ?_)));refine xC [] (Ij n G) QE (fun r1=>?_);refine xR 1 (xS r1 (fun J=>?_) (fun J=>?_))
 ·refine xO (Qv J) ?_;refine xC [] (Et n G) QE (fun O=>?_);exact xR 3 (xE (Qk ⟨[(2,B (!O))],[]⟩ (sT (qR (.id)))))
 exact xN (Qx J) (xR 4 (xE (Qk ⟨[(2,B false)],[]⟩ (sT (qR (.id))))))
def Jl (n:Nat) (G:GN) (J:Bool):Option Bool :=
 cond (!Qr (Qb (List.map Zy G.Kids)) 0)
  (some false)
  (cond (Qr G.Kind 5)
   (cond (Qr G.N 0)
    ((Jv n G.Name).bind fun O =>
    cond O
     (some true)
     (cond J
      ((YS n G.Name).bind fun U =>
      some U)
      (some false)))
    (some false))
   (cond (Qr G.Kind 6)
    (cond (Qt G.Name [])
     (cond (leI 0 G.N)
      (some (leI G.N 1000000))
      (some false))
     (some false))
    (some false)))
theorem EA (n:Nat) (J:GN) (G:Bool):∀ r,Jl n J G=some r→QB Tryz.prog 193 [ag (GN.cs J),B G] (.ret (B r)):=by
 refine Qj Tryz.func193 rfl Tryz.ntmps193 rfl ?_;unfold Jl;refine Qf Qd ⟨[(1,B G),qq 2],XZ J⟩ (sS (Qf Qd ⟨[(1,B G),qq 2,(8,B (!Qr (Qb (mI J.Kids)) 0))],XZ J⟩ (sC (!Qr (Qb (mI J.Kids)) 0) (Qf Qd ⟨[(4,B false)],[]⟩ (sT (QA (qR (.id))))) (sK (Qk ⟨[(1,B G),qq 2],XZ J⟩ (sS (Qf Qd ⟨[(1,B G),qq 2,(10,I J.Kind)],XZ J⟩ (sB (Qf Qd ⟨[(1,B G),qq 2,(10,I J.Kind),(11,B (Qr J.Kind 5))],XZ J⟩ (sC (Qr J.Kind 5) (sS (sG (xR 4 (xS (Qr J.N 0) (fun Z=>xO (Qv Z) (xR 1 ?_)) (fun Z=>xN (Qx Z) (xR 12 (xE (Qk ⟨[(4,B false)],[]⟩ (sT (Q4 (QA (qR (.id))))))))))))) (Qf Qd ⟨[qq 2,(29,B (Qr J.Kind 6))],XZ J⟩ (sC (Qr J.Kind 6) (sS (sG (xR 4 (xS (Qt J.Name []) (fun Y=>xO (Qv Y) (xR 4 (xS (leI 0 J.N) (fun h7=>xO (Qv h7) (xR 4 (xE (Qk ⟨[(4,B (leI J.N 1000000))],[]⟩ (sT (Q4 (QA (qR (.id))))))))) (fun h7=>xN (Qx h7) (xR 4 (xE (Qk ⟨[(4,B false)],[]⟩ (sT (Q4 (QA (qR (.id)))))))))))) (fun Y=>xN (Qx Y) (xR 9 (xE (Qk ⟨[(4,B false)],[]⟩ (sT (Q4 (QA (qR (.id))))))))))))) (sK (QR (Qk ⟨[],[]⟩ (Qf Qd ⟨[(4,B false)],[]⟩ (sT (qR (.id)))))))))))))))))));refine xC [] (Dl n J.Name) QE (fun r2=>?_);refine xR 1 (xS r2 (fun U=>xN (Qy U) (xR 8 (xE (Qk ⟨[(4,B true)],[]⟩ (sT (Q4 (QA (qR (.id))))))))) (fun U=>xO (Qw U) (xR 1 (xS G (fun O=>?_) (fun O=>?_)))))
 ·refine xO (Qv O) (xR 1 ?_);refine xC [] (LJ n J.Name) QE (fun r5=>?_);exact xR 4 (xE (Qk ⟨[(4,B r5)],[]⟩ (sT (Q4 (QA (qR (.id)))))))
 exact xN (Qx O) (xR 6 (xE (Qk ⟨[(4,B false)],[]⟩ (sT (Q4 (QA (qR (.id))))))))
def YI (n:Nat) (J:GN) (G:Int) (O:Int→Option (Bool × Int)) (U:Int):Option (Bool × Int) :=
 cond (Qp U (Qb (List.map Zy J.Kids)))
  ((Option.bind (QY J.Kids U) GN.of).bind fun Y =>
  (Jl n Y (Qr J.Kind 4)).bind fun Z =>
  cond (!Z)
   (some (false,wi (G - (Qb (List.map Zy J.Kids)))))
   (O (wi (U+1))))
  (some (true,wi (G - (Qb (List.map Zy J.Kids)))))
def Vw (n:Nat) (J:GN) (G:Int):Option (Bool × Int) :=
 cond (!Qr J.N 0)
  (some (false,G))
  ((cond (Qr J.Kind 3)
   ((Yr n J.Name).bind fun r3 =>
   some (!r3))
   (some false)).bind fun j1 =>
  cond j1
   (some (false,G))
   ((cond (Qr J.Kind 4)
    ((Kb n J.Name).bind fun U =>
    some (!U))
    (some false)).bind fun Y =>
   cond Y
    (some (false,G))
    ((cond (!Qr J.Kind 3)
     (some (!Qr J.Kind 4))
     (some false)).bind fun Z =>
    cond Z
     (some (false,G))
     (cond (Qp (wi (G - (Qb (List.map Zy J.Kids)))) 0)
      (some (false,wi (G - (Qb (List.map Zy J.Kids)))))
      (Qo (fun O l9=>YI n J G O l9) n 0)))))
def X4:=fun G=>([(1001, .box 3 [I G])]:List (Nat × Blk))
def Qgk:=fun J G=>(⟨[(1, .ptr 1001 0),(2, .ptr 2 0)],XZ J++X4 G⟩:St)
def Qdv:=fun G=>([(1, .ptr 1001 0),(2, .ptr 2 0),(5,B G)]:List (Nat × AV))
def Qgl:=fun G=>(.box 3 [I G]:Blk)
def TT:=fun G=>([(1001,(Qgl G))]:List (Nat × Blk))
def Qdw:=fun O G J=>([(5,B O),(57, .p (.sl 5 (List.map Zy (GN.Kids G)))),(58,I (Qb (List.map Zy (GN.Kids G)))),(59,I J)]:List (Nat × AV))
theorem SQ (n:Nat) (J:GN) (G:Int):∀ r,Vw n J G=some r→Kw Tryz.prog 130 [ag (GN.cs J),L8] (Go.Abs.look [(1001, .box 3 [I G])]) (Ya (fun r:Bool × Int=>((.ret (B r.1),[(1001, .box 3 [I r.2])]):Zz × List (Nat × Blk))) r):=by
 refine Km (X4 G) Tryz.func130 rfl Tryz.ntmps130 rfl ?_;unfold Vw;refine Qf Qd (Qgk J G) (Qf Qd ⟨Qdv (Qr J.Kind 4),XZ J++X4 G⟩ (sS (sB (Qf Qd ⟨[(1,L8),qq 2,(5,B (Qr J.Kind 4)),(11,B (!Qr J.N 0))],XZ J++X4 G⟩ (sC (!Qr J.N 0) (Qf Qd ⟨[(4,B false)],X4 G⟩ (sT (Q4 (QA (Kr (.id) [1001] []))))) (KI (fun j1=>⟨[(1,L8),qq 2,(5,B (Qr J.Kind 4)),(15,B j1)],XZ J++X4 G⟩:Bool→St) ?_ ?_))))))
 ·refine sG (xR 4 (xS (Qr J.Kind 3) (fun h2=>?_) (fun h2=>?_)))
  ·refine xO (Qv h2) (xR 1 ?_);refine xC [] (U1 n J.Name) QE (fun r3=>?_);exact xR 3 (xE (QS (!r3)))
  exact xN (Qx h2) (xR 5 (xE (QS false)))
 rintro j1;refine sC j1 (Qf Qd ⟨[(4,B false)],X4 G⟩ (sT (Q4 (QA (Kr (.id) [1001] []))))) (KI (fun j4=>⟨[(1,L8),qq 2,(5,B (Qr J.Kind 4)),(25,B j4)],XZ J++X4 G⟩:Bool→St) ?_ ?_)
 ·refine sG (xR 4 (xS (Qr J.Kind 4) (fun h5=>?_) (fun h5=>?_)))
  ·refine xO (Qv h5) (xR 1 ?_);refine xC [] (UE n J.Name) QE (fun r6=>?_);exact xR 3 (xE (QS (!r6)))
  exact xN (Qx h5) (xR 5 (xE (QS false)))
 rintro j4;refine sC j4 (Qf Qd ⟨[(4,B false)],X4 G⟩ (sT (Q4 (QA (Kr (.id) [1001] []))))) (KI (fun j7=>⟨[(1,L8),qq 2,(5,B (Qr J.Kind 4)),(35,B j7)],XZ J++X4 G⟩:Bool→St) (sG (xR 4 (xS (!Qr J.Kind 3) (fun h8=>xO (Qv h8) (xR 4 (xE (QS (!Qr J.Kind 4))))) (fun h8=>xN (Qx h8) (xR 4 (xE (QS false))))))) ?_);rintro j7;refine sC j7 (Qf Qd ⟨[(4,B false)],X4 G⟩ (sT (Q4 (QA (Kr (.id) [1001] []))))) (sK (QR (Qk ⟨Qdv (Qr J.Kind 4),XZ J++X4 G⟩ (Qf Qd ⟨Qdv (Qr J.Kind 4),XZ J++TT (wi (G - (Qb (mI J.Kids))))⟩ (sS (Qf Qd ⟨[qq 2,(5,B (Qr J.Kind 4)),(55,B (Qp (wi (G - (Qb (mI J.Kids)))) 0))],XZ J++TT (wi (G - (Qb (mI J.Kids))))⟩ (sC (Qp (wi (G - (Qb (mI J.Kids)))) 0) (Qf Qd ⟨[(4,B false)],TT (wi (G - (Qb (mI J.Kids))))⟩ (sT (QA (Kr (.id) [1001] [])))) (sK (Qk ⟨[qq 2,(5,B (Qr J.Kind 4))],XZ J++TT (wi (G - (Qb (mI J.Kids))))⟩ (sS (Qf Qd ⟨Qdw (Qr J.Kind 4) J 0,TT (wi (G - (Qb (mI J.Kids))))⟩ (sB (QF (fun O=>⟨Qdw (Qr J.Kind 4) J O,TT (wi (G - (Qb (mI J.Kids))))⟩:Int→St) (H5) ?_)))))))))))));rintro U O;show QO (YI n J G U O) _ _ _ _ _ _;unfold YI;refine Qf Qd ⟨[(5,B (Qr J.Kind 4)),(57, .p (.sl 5 (mI J.Kids))),(58,I (Qb (mI J.Kids))),(59,I O),(60,B (Qp O (Qb (mI J.Kids))))],TT (wi (G - (Qb (mI J.Kids))))⟩ (sS (sC (Qp O (Qb (mI J.Kids))) (sK (Qk ⟨Qdw (Qr J.Kind 4) J O,TT (wi (G - (Qb (mI J.Kids))))⟩ (sS (sB (sS (sG (xG (K9 (e:=25) (S:=5) (enc:=GN.cs) (dec:=GN.of) (l:=J.Kids) (k:=.i64) (n:=O) (sv:=.p (.sl 5 (mI J.Kids))) GN.of_cs rfl Qc Qc Qc Qc Qc) (fun Y=>xR 3 (xE (Qk ⟨[(5,B (Qr J.Kind 4)),qq 7,(57, .p (.sl 5 (mI J.Kids))),(58,I (Qb (mI J.Kids))),(59,I O)],Qdt Y++TT (wi (G - (Qb (mI J.Kids))))⟩ (sS (sG (xR 2 ?_))))))))))))) (Qq (ZR (Yp (QL (Qk ⟨[],TT (wi (G - (Qb (mI J.Kids))))⟩ (Qf Qd ⟨[(4,B true)],TT (wi (G - (Qb (mI J.Kids))))⟩ (sT (Kr (.id) [1001] []))))))))));refine xC [] (EA n Y (Qr J.Kind 4)) QE (fun Z=>?_);exact xR 1 (xE (Qk ⟨[(5,B (Qr J.Kind 4)),(57, .p (.sl 5 (mI J.Kids))),(58,I (Qb (mI J.Kids))),(59,I O),(66,B (!Z))],TT (wi (G - (Qb (mI J.Kids))))⟩ (sC (!Z) (Qf Qd ⟨[(4,B false)],TT (wi (G - (Qb (mI J.Kids))))⟩ (sT (Q4 (QA (VX (Q4 (QA (Kr (.id) [1001] [])))))))) (sK (QR (Qk ⟨Qdw (Qr J.Kind 4) J O,TT (wi (G - (Qb (mI J.Kids))))⟩ (sL Qd (KP (wi (O+1))))))))))
def YJ (O:GN) (J:Bool) (G:Int):Option (Bool × Int) :=
 cond (!J)
  (some (true,G))
  (some (Qr O.N 7,G))
def ZN (n:Nat) (U:Int) (O:Int) (G:(Bool × Int × Int)→Option (Bool × Int)) (Z:GN) (Y:Bool):Option (Bool × Int) :=
 (Vw n Z O).bind fun J =>
 cond (!J.1)
  (some (false,J.2))
  (G (Y,wi (U+1),J.2))
def VO (n:Nat) (Y:GN) (O:(Bool × Int × Int)→Option (Bool × Int)) (U:Bool) (J:Int) (G:Int):Option (Bool × Int) :=
 cond (Qp J (Qb (List.map Zy Y.Kids)))
  ((Option.bind (QY Y.Kids J) GN.of).bind fun Z =>
  cond (Qr Z.Kind 4)
   (ZN n J G O Z true)
   (cond U
    (some (false,G))
    (ZN n J G O Z U)))
  (YJ Y U G)
def Vx (n:Nat) (J:GN) (G:Int):Option (Bool × Int) :=
 (cond (!Qr J.Kind 2)
  (some true)
  (cond (Qp J.N 1)
   (some true)
   (cond (Qp 7 J.N)
    (some true)
    ((Jv n J.Name).bind fun r5 =>
    some (!r5))))).bind fun j1 =>
 cond j1
  (some (false,G))
  (cond (Qp (wi (G - (Qb (List.map Zy J.Kids)))) 0)
   (some (false,wi (G - (Qb (List.map Zy J.Kids)))))
   (Qo (fun O (Z,Y,U)=>VO n J O Z Y U) n (false,0,wi (G - (Qb (List.map Zy J.Kids))))))
def Qid:=fun J G=>(⟨[(1, .ptr 1001 0),(2, .ptr 2 0)],XZ J++TT G⟩:St)
def Qdx:=fun O G J=>([(1, .ptr 1001 0),(2, .ptr 2 0),(5,B O),(40, .p (.sl 5 (List.map Zy (GN.Kids G)))),(41,I (Qb (List.map Zy (GN.Kids G)))),(42,I J)]:List (Nat × AV))
def Qie:=fun O G J=>([(1, .ptr 1001 0),(2, .ptr 2 0),(5,B O),(7, .ptr 7 0),(40, .p (.sl 5 (List.map Zy (GN.Kids G)))),(41,I (Qb (List.map Zy (GN.Kids G)))),(42,I J)]:List (Nat × AV))
def Qdy:=fun J G=>([(2, .box 25 (Yx (GN.cs J))),(7, .box 25 (Yx (GN.cs G)))]:List (Nat × Blk))
theorem SS (n:Nat) (G:GN) (J:Int):∀ r,Vx n G J=some r→Kw Tryz.prog 60 [ag (GN.cs G),L8] (Go.Abs.look [(1001, .box 3 [I J])]) (Ya (fun r:Bool × Int=>((.ret (B r.1),[(1001, .box 3 [I r.2])]):Zz × List (Nat × Blk))) r):=by
 refine Km (X4 J) Tryz.func60 rfl Tryz.ntmps60 rfl ?_;unfold Vx;refine Qf Qd (Qgk G J) (sS (KI (fun j1=>⟨[(1,L8),qq 2,(26,B j1)],XZ G++X4 J⟩:Bool→St) ?_ ?_))
 ·refine sG (xR 4 (xS (!Qr G.Kind 2) (fun h2=>xN (Qy h2) (xR 14 (xE (QS true)))) (fun h2=>xO (Qw h2) (xR 4 (xS (Qp G.N 1) (fun h3=>xN (Qy h3) (xR 9 (xE (QS true)))) (fun h3=>xO (Qw h3) (xR 4 (xS (Qp 7 G.N) (fun h4=>xN (Qy h4) (xR 4 (xE (QS true)))) (fun h4=>xO (Qw h4) (xR 1 ?_))))))))));refine xC [] (Dl n G.Name) QE (fun r5=>?_);exact xR 2 (xE (QS (!r5)))
 rintro j1;refine sC j1 (Qf Qd ⟨[(4,B false)],X4 J⟩ (sT (QA (Kr (.id) [1001] [])))) (sK (Qk (Qgk G J) (Qf Qd (Qid G (wi (J - (Qb (mI G.Kids))))) (sS (Qf Qd ⟨[(1,L8),qq 2,(38,B (Qp (wi (J - (Qb (mI G.Kids)))) 0))],XZ G++TT (wi (J - (Qb (mI G.Kids))))⟩ (sC (Qp (wi (J - (Qb (mI G.Kids)))) 0) (Qf Qd ⟨[(4,B false)],TT (wi (J - (Qb (mI G.Kids))))⟩ (sT (QA (Kr (.id) [1001] [])))) (sK (Qk (Qid G (wi (J - (Qb (mI G.Kids))))) (Qf Qd ⟨Qdv false,XZ G++TT (wi (J - (Qb (mI G.Kids))))⟩ (K4 (fun (aa,Z)=>⟨[qq 2,(5,B aa)],XZ G++X4 Z⟩:(Bool × Int)→St) (fun (aa,Z)=>YJ G aa Z) ?_ ?_))))))))))
 ·rintro ⟨aa,Z⟩;show QO (YJ G aa Z) _ _ _ _ _ _;unfold YJ;exact sS (sG (xR 3 (xS (!aa) (fun h7=>xN (Qy h7) (xR 4 (xE (Qk ⟨[(4,B true)],X4 Z⟩ (sT (Kr (.id) [1001] [])))))) (fun h7=>xO (Qw h7) (xR 4 (xE (Qk ⟨[(4,B (Qr G.N 7))],X4 Z⟩ (sT (Kr (.id) [1001] [])))))))))
 refine Qf Qd ⟨Qdx false G 0,XZ G++TT (wi (J - (Qb (mI G.Kids))))⟩ (sB (QF (fun (Y,O,U)=>⟨Qdx Y G O,XZ G++X4 U⟩:(Bool × Int × Int)→St) (H5) ?_));rintro ac ⟨Y,O,U⟩;show QO (VO n G ac Y O U) _ _ _ _ _ _;unfold VO;refine Qf Qd ⟨[(1,L8),qq 2,(5,B Y),(40, .p (.sl 5 (mI G.Kids))),(41,I (Qb (mI G.Kids))),(42,I O),(43,B (Qp O (Qb (mI G.Kids))))],XZ G++X4 U⟩ (sS (sC (Qp O (Qb (mI G.Kids))) (sK (Qk ⟨Qdx Y G O,XZ G++X4 U⟩ (sS (sB (sS (sG (xG (K9 (e:=25) (S:=5) (enc:=GN.cs) (dec:=GN.of) (l:=G.Kids) (k:=.i64) (n:=O) (sv:=.p (.sl 5 (mI G.Kids))) GN.of_cs rfl Qc Qc Qc Qc Qc) (fun x9=>xR 3 (xE (Qk ⟨Qie Y G O,Qdy G x9++X4 U⟩ (K4 (fun ab=>⟨Qie ab G O,Qdy G x9++X4 U⟩:Bool→St) (fun ab=>ZN n O U ac x9 ab) ?_ (Qf Qd ⟨[(1,L8),qq 2,(5,B Y),qq 7,(40, .p (.sl 5 (mI G.Kids))),(41,I (Qb (mI G.Kids))),(42,I O),(48,B (Qr x9.Kind 4))],Qdy G x9++X4 U⟩ (sC (Qr x9.Kind 4) (sL Qd (KP (k:=fun ab=>ZN n O U ac x9 ab) true)) (Qf Qd ⟨[(1,L8),qq 2,(5,B Y),qq 7,(40, .p (.sl 5 (mI G.Kids))),(41,I (Qb (mI G.Kids))),(42,I O),(49,B Y)],Qdy G x9++X4 U⟩ (sC Y (Qf Qd ⟨[(4,B false)],X4 U⟩ (sT (VX (Q4 (QA (VX (Q4 (VX (Kr (.id) [1001] []))))))))) (sK (KP (k:=fun ab=>ZN n O U ac x9 ab) Y))))))))))))))))) (Qq (ZR (Yp (QL (KP (k:=fun (aa,Z)=>YJ G aa Z) (Y,U))))))));rintro ab;show QO (ZN n O U ac x9 ab) _ _ _ _ _ _;unfold ZN;refine sS (sG (xR 2 ?_));refine UU [(1001,1001)] [] [] (SQ n x9 U) QE QE (fun ad=>?_);exact xR 1 (xE (Qk ⟨[(1,L8),qq 2,(5,B ab),(40, .p (.sl 5 (mI G.Kids))),(41,I (Qb (mI G.Kids))),(42,I O),(53,B (!ad.1))],XZ G++X4 ad.2⟩ (sC (!ad.1) (Qf Qd ⟨[(4,B false)],X4 ad.2⟩ (sT (Q4 (QA (VX (Q4 (VX (Kr (.id) [1001] [])))))))) (sK (QR (Qk ⟨Qdx ab G O,XZ G++X4 ad.2⟩ (sL Qd (KP (ab,wi (O+1),ad.2)))))))))
def Wp (n:Nat) (O:GN) (J:(Int × Int)→Option Bool) (G:Int) (U:Int):Option Bool :=
 cond (Qp G (Qb (List.map Zy O.Kids)))
  ((Option.bind (QY O.Kids G) GN.of).bind fun Z =>
  (Vx n Z U).bind fun Y =>
  cond (!Y.1)
   (some false)
   (J (wi (G+1),Y.2)))
  (some true)
def WI (n:Nat) (G:GN):Option Bool :=
 (cond (!Qr G.Kind 1)
  (some true)
  (cond (!Qt G.Name [])
   (some true)
   (cond (!Qr G.N 0)
    (some true)
    (some (Qp (wi (1499 - (Qb (List.map Zy G.Kids)))) 0))))).bind fun Y =>
 cond Y
  (some false)
  (Qo (fun J (U,O)=>Wp n G J U O) n (0,wi (1499 - (Qb (List.map Zy G.Kids)))))
def Ik:=fun G=>([(1, .box 25 (Yx (GN.cs G)))]:List (Nat × Blk))
def Qgm:=fun J G=>([(1, .box 25 (Yx (GN.cs J))),(3,(Qgl G))]:List (Nat × Blk))
def Qdz:=fun G J=>([(3, .ptr 3 0),(28, .p (.sl 5 (List.map Zy (GN.Kids G)))),(29,I (Qb (List.map Zy (GN.Kids G)))),(30,I J)]:List (Nat × AV))
abbrev yx (x:GN):Go.Abs.Blk:=.box 25 (Yx (GN.cs x))
theorem TU (n:Nat) (G:GN):∀ r,WI n G=some r→QB Tryz.prog 28 [ag (GN.cs G)] (.ret (B r)):=by
 refine Qj Tryz.func28 rfl Tryz.ntmps28 rfl ?_;unfold WI;refine Qf Qd ⟨[qq 1],Ik G⟩ (Qf Qd ⟨[qq 1,qq 3],Qgm G (wi (1499 - (Qb (mI G.Kids))))⟩ (sS (KI (fun j1=>⟨[qq 1,qq 3,(26,B j1)],Qgm G (wi (1499 - (Qb (mI G.Kids))))⟩:Bool→St) (sG (xR 4 (xS (!Qr G.Kind 1) (fun h2=>xN (Qy h2) (xR 12 (xE (QS true)))) (fun h2=>xO (Qw h2) (xR 4 (xS (!Qt G.Name []) (fun h3=>xN (Qy h3) (xR 7 (xE (QS true)))) (fun h3=>xO (Qw h3) (xR 4 (xS (!Qr G.N 0) (fun Z=>xN (Qy Z) (xR 2 (xE (QS true)))) (fun Z=>xO (Qw Z) (xR 2 (xE (QS (Qp (wi (1499 - (Qb (mI G.Kids)))) 0)))))))))))))) ?_)));rintro j1;refine sC j1 (Qf Qd ⟨[(2,B false)],[]⟩ (sT (QA (qR (.id))))) (sK (Qk ⟨[qq 1,qq 3],Qgm G (wi (1499 - (Qb (mI G.Kids))))⟩ (sS (Qf Qd ⟨Qdz G 0,[(3,(Qgl (wi (1499 - (Qb (mI G.Kids))))))]⟩ (sB (QF (fun (J,O)=>⟨Qdz G J,[(3, .box 3 [I O])]⟩:(Int × Int)→St) (H5) ?_))))));rintro U ⟨J,O⟩;show QO (Wp n G U J O) _ _ _ _ _ _;unfold Wp;refine Qf Qd ⟨[qq 3,(28, .p (.sl 5 (mI G.Kids))),(29,I (Qb (mI G.Kids))),(30,I J),(31,B (Qp J (Qb (mI G.Kids))))],[(3, .box 3 [I O])]⟩ (sS (sC (Qp J (Qb (mI G.Kids))) (sK (Qk ⟨Qdz G J,[(3, .box 3 [I O])]⟩ (sS (sB (sS (sG (xG (K9 (e:=25) (S:=5) (enc:=GN.cs) (dec:=GN.of) (l:=G.Kids) (k:=.i64) (n:=J) (sv:=.p (.sl 5 (mI G.Kids))) GN.of_cs rfl Qc Qc Qc Qc Qc) (fun x6=>xR 3 (xE (Qk ⟨[qq 3,qq 5,(28, .p (.sl 5 (mI G.Kids))),(29,I (Qb (mI G.Kids))),(30,I J)],[(3, .box 3 [I O]),(5,yx x6)]⟩ (sS (sG (xR 1 ?_))))))))))))) (Qq (ZR (Yp (QL (Qk ⟨[],[]⟩ (Qf Qd ⟨[(2,B true)],[]⟩ (sT (qR (.id)))))))))));refine UU [(1001,3)] [] [] (SS n x6 O) QE QE (fun Y=>?_);exact xR 1 (xE (Qk ⟨[qq 3,(28, .p (.sl 5 (mI G.Kids))),(29,I (Qb (mI G.Kids))),(30,I J),(36,B (!Y.1))],[(3, .box 3 [I Y.2])]⟩ (sC (!Y.1) (Qf Qd ⟨[(2,B false)],[]⟩ (sT (Q4 (QA (VX (Q4 (QA (qR (.id))))))))) (sK (QR (Qk ⟨Qdz G J,[(3, .box 3 [I Y.2])]⟩ (sL Qd (KP (wi (J+1),Y.2)))))))))
def FL (n:Nat) (G:List UInt8):Option Int :=
 cond (Qt G [115,116,97,114,116])
  (some 1)
  (cond (Qt G [101,110,101,114,103,121])
   (some 2)
   (cond (Qt G [116,105,109,101])
    (some 3)
    (cond (Qt G [105,100,108,101])
     (some 4)
     (cond (Qt G [99,97,112])
      (some 5)
      (cond (Qt G [116,97,120])
       (some 6)
       (some 0))))))
theorem zX (n:Nat) (G:List UInt8):∀ r,FL n G=some r→QB Tryz.prog 142 [S G] (.ret (I r)):=by
 refine Qj Tryz.func142 rfl Tryz.ntmps142 rfl ?_;unfold FL;exact Qf Qd ⟨[(0,S G)],[]⟩ (sS (Qf Qd ⟨[(3,S G)],[]⟩ (sB (Qf Qd (Ie G (Qt G [115,116,97,114,116])) (sC (Qt G [115,116,97,114,116]) (Qf Qd ⟨[(2,I 1)],[]⟩ (sT (Q4 (QA (qR (.id)))))) (Qf Qd ⟨[(3,S G),(6,B (Qt G [101,110,101,114,103,121]))],[]⟩ (sC (Qt G [101,110,101,114,103,121]) (Qf Qd ⟨[(2,I 2)],[]⟩ (sT (Q4 (QA (qR (.id)))))) (Qf Qd ⟨[(3,S G),(8,B (Qt G [116,105,109,101]))],[]⟩ (sC (Qt G [116,105,109,101]) (Qf Qd ⟨[(2,I 3)],[]⟩ (sT (Q4 (QA (qR (.id)))))) (Qf Qd ⟨[(3,S G),(10,B (Qt G [105,100,108,101]))],[]⟩ (sC (Qt G [105,100,108,101]) (Qf Qd ⟨[(2,I 4)],[]⟩ (sT (Q4 (QA (qR (.id)))))) (Qf Qd ⟨[(3,S G),(12,B (Qt G [99,97,112]))],[]⟩ (sC (Qt G [99,97,112]) (Qf Qd ⟨[(2,I 5)],[]⟩ (sT (Q4 (QA (qR (.id)))))) (Qf Qd ⟨[(14,B (Qt G [116,97,120]))],[]⟩ (sC (Qt G [116,97,120]) (Qf Qd ⟨[(2,I 6)],[]⟩ (sT (Q4 (QA (qR (.id)))))) (sK (QR (Qk ⟨[],[]⟩ (Qf Qd ⟨[(2,I 0)],[]⟩ (sT (qR (.id))))))))))))))))))))))
def Zc (n:Nat) (G:GD):Option (Int × GD) :=
 (cond (Qr (Qb (List.map Zy G.values)) 0)
  (some true)
  ((Option.bind (QY G.values 0) GN.of).bind fun J =>
  some (!Qr J.Kind 6))).bind fun O =>
 cond O
  (some (0,(⟨G.article,G.values,false⟩:GD)))
  ((Option.bind (QY G.values 0) GN.of).bind fun U =>
  cond (VJ 1 (Qb (List.map Zy G.values)) (Qb (List.map Zy G.values)) (List.length G.values)) (
   some (U.N,(⟨G.article,List.drop (Int.toNat 1) (List.take (Int.toNat (Qb (List.map Zy G.values))) G.values),G.good⟩:GD))) none)
def wJ:=fun G=>([(1000, .box 253 (Yx (GD.cs G)))]:List (Nat × Blk))
def QdA:=fun G=>(.box 253 (Yx (GD.cs G)):Blk)
def UH:=fun G=>([(1000,(QdA G))]:List (Nat × Blk))
abbrev I1 (x:GD):Go.Abs.Blk:=.box 253 (Yx (GD.cs x))
theorem Yd (n:Nat) (G:GD):∀ r,Zc n G=some r→Kw Tryz.prog 143 [Zh] (Go.Abs.look [(1000,I1 G)]) (Ya (fun r:Int × GD=>((.ret (I r.1),[(1000,I1 r.2)]):Zz × List (Nat × Blk))) r):=by
 refine Km (wJ G) Tryz.func143 rfl Tryz.ntmps143 rfl ?_;unfold Zc;refine Qf Qd ⟨[(0,Zh)],wJ G⟩ (sS (KI (fun U=>⟨[(0,Zh),(19,B U)],wJ G⟩:Bool→St) (sG (xR 7 (xS (Qr (Qb (mI G.values)) 0) (fun O=>xN (Qy O) (xR 8 (xE (QS true)))) (fun O=>xO (Qw O) (xR 3 (xG (K9 (e:=25) (S:=5) (enc:=GN.cs) (dec:=GN.of) (l:=G.values) (k:=.i64) (n:=0) (sv:=.p (.sl 5 (mI G.values))) GN.of_cs rfl Qc Qc Qc Qc Qc) (fun Y=>xR 4 (xE (QS (!Qr Y.Kind 6)))))))))) ?_));rintro U;exact sC U (Qf Qd ⟨[],UH ⟨G.article,G.values,false⟩⟩ (Qf Qd ⟨[(2,I 0)],UH ⟨G.article,G.values,false⟩⟩ (sT (QA (Kr (.id) [1000] []))))) (sK (Qk ⟨[(0,Zh)],wJ G⟩ (sS (sG (xR 4 (xG (K9 (e:=25) (S:=5) (enc:=GN.cs) (dec:=GN.of) (l:=G.values) (k:=.i64) (n:=0) (sv:=.p (.sl 5 (mI G.values))) GN.of_cs rfl Qc Qc Qc Qc Qc) (fun J=>xR 3 (xE (Qk ⟨[(0,Zh),(3,I J.N)],wJ G⟩ (sS (CQ Qd rfl (xR 15 (xF (UD (e:=25) (S:=5) (enc:=Zy) (l:=G.values) (sv:=.p (.sl 5 (mI G.values))) (a:=1) (b:=Qb (mI G.values)) (c:=Qb (mI G.values)) rfl Qc Qc Qc Qc Qc Qc Qc) (xR 3 (BZ (Qk ⟨[(3,I J.N)],UH ⟨G.article,List.drop (Int.toNat 1) (List.take (Int.toNat (Qb (mI G.values))) G.values),G.good⟩⟩ (Qf Qd ⟨[(2,I J.N)],UH ⟨G.article,List.drop (Int.toNat 1) (List.take (Int.toNat (Qb (mI G.values))) G.values),G.good⟩⟩ (sT (Kr (.id) [1000] [])))))))))))))))))))
def Xp (n:Nat) (G:Int):Option Bool :=
 cond (Qr G 3)
  (some true)
  (some (Qr G 4))
theorem LQ (n:Nat) (G:Int):∀ r,Xp n G=some r→QB Tryz.prog 145 [I G] (.ret (B r)):=by
 refine Qj Tryz.func145 rfl Tryz.ntmps145 rfl ?_;unfold Xp;exact Qf Qd ⟨[(0,I G)],[]⟩ (sS (sG (xR 3 (xS (Qr G 3) (fun J=>xN (Qy J) (xR 3 (xE (Qk ⟨[(2,B true)],[]⟩ (sT (qR (.id))))))) (fun J=>xO (Qw J) (xR 3 (xE (Qk ⟨[(2,B (Qr G 4))],[]⟩ (sT (qR (.id)))))))))))
def XE (n:Nat) (G:Int):Option Bool :=
 cond (Qr G 5)
  (some true)
  (some (Qr G 6))
theorem Be (n:Nat) (G:Int):∀ r,XE n G=some r→QB Tryz.prog 148 [I G] (.ret (B r)):=by
 refine Qj Tryz.func148 rfl Tryz.ntmps148 rfl ?_;unfold XE;exact Qf Qd ⟨[(0,I G)],[]⟩ (sS (sG (xR 3 (xS (Qr G 5) (fun J=>xN (Qy J) (xR 3 (xE (Qk ⟨[(2,B true)],[]⟩ (sT (qR (.id))))))) (fun J=>xO (Qw J) (xR 3 (xE (Qk ⟨[(2,B (Qr G 6))],[]⟩ (sT (qR (.id)))))))))))
def Zd (n:Nat) (G:GD):Option (List UInt8) :=
 (cond (Qr (Qb (List.map Zy G.values)) 0)
  (some true)
  ((Option.bind (QY G.values 0) GN.of).bind fun J =>
  some (!Qr J.Kind 5))).bind fun O =>
 cond O
  (some [])
  ((Option.bind (QY G.values 0) GN.of).bind fun U =>
  some U.Name)
theorem Xq (n:Nat) (G:GD):∀ r,Zd n G=some r→QB Tryz.prog 146 [.eptr (GD.cs G)] (.ret (S r)):=by
 refine Qj Tryz.func146 rfl Tryz.ntmps146 rfl ?_;unfold Zd;refine Qf Qd ⟨[(0, .eptr (GD.cs G))],[]⟩ (sS (KI (fun J=>⟨[(0, .eptr (GD.cs G)),(18,B J)],[]⟩:Bool→St) (sG (xR 7 (xS (Qr (Qb (mI G.values)) 0) (fun O=>xN (Qy O) (xR 8 (xE (QS true)))) (fun O=>xO (Qw O) (xR 3 (xG (K9 (e:=25) (S:=5) (enc:=GN.cs) (dec:=GN.of) (l:=G.values) (k:=.i64) (n:=0) (sv:=.p (.sl 5 (mI G.values))) GN.of_cs rfl Qc Qc Qc Qc Qc) (fun U=>xR 4 (xE (QS (!Qr U.Kind 5)))))))))) ?_));rintro J;exact sC J (Qf Qd ⟨[(2,S [])],[]⟩ (sT (QA (qR (.id))))) (sK (Qk ⟨[(0, .eptr (GD.cs G))],[]⟩ (sS (sG (xR 4 (xG (K9 (e:=25) (S:=5) (enc:=GN.cs) (dec:=GN.of) (l:=G.values) (k:=.i64) (n:=0) (sv:=.p (.sl 5 (mI G.values))) GN.of_cs rfl Qc Qc Qc Qc Qc) (fun Y=>xR 3 (xE (Qk ⟨[(2,S Y.Name)],[]⟩ (sT (qR (.id))))))))))))
def Jw (n:Nat) (G:List UInt8):Option Int :=
 cond (Qt G [119,111,114,107])
  (some 1)
  (cond (Qt G [115,97,116,117,114,100,97,121])
   (some 2)
   (cond (Qt G [115,117,110,100,97,121])
    (some 4)
    (some 0)))
theorem EB (n:Nat) (G:List UInt8):∀ r,Jw n G=some r→QB Tryz.prog 222 [S G] (.ret (I r)):=by
 refine Qj Tryz.func222 rfl Tryz.ntmps222 rfl ?_;unfold Jw;exact Qf Qd ⟨[(0,S G)],[]⟩ (sS (Qf Qd ⟨[(3,S G)],[]⟩ (sB (Qf Qd (Ie G (Qt G [119,111,114,107])) (sC (Qt G [119,111,114,107]) (Qf Qd ⟨[(2,I 1)],[]⟩ (sT (Q4 (QA (qR (.id)))))) (Qf Qd ⟨[(3,S G),(6,B (Qt G [115,97,116,117,114,100,97,121]))],[]⟩ (sC (Qt G [115,97,116,117,114,100,97,121]) (Qf Qd ⟨[(2,I 2)],[]⟩ (sT (Q4 (QA (qR (.id)))))) (Qf Qd ⟨[(8,B (Qt G [115,117,110,100,97,121]))],[]⟩ (sC (Qt G [115,117,110,100,97,121]) (Qf Qd ⟨[(2,I 4)],[]⟩ (sT (Q4 (QA (qR (.id)))))) (sK (QR (Qk ⟨[],[]⟩ (Qf Qd ⟨[(2,I 0)],[]⟩ (sT (qR (.id))))))))))))))))
def Q7 (n:Nat) (Z:GD) (Y:(Int × Int × (List (List PV)) × Bool)→Option (Int × (List (List PV)) × Bool)) (J:Int) (O:Int) (G:List (List PV)) (U:Bool):Option (Int × (List (List PV)) × Bool) :=
 cond (!Qr O 0)
  ((cond (!Qr (PI .i64 J O) 0)
   (some false)
   (some U)).bind fun j5 =>
  cond (VJ 1 (Qb (List.map Zy G)) (Qb (List.map Zy G)) (List.length G)) (
   (Zd n (⟨Z.article,List.drop (Int.toNat 1) (List.take (Int.toNat (Qb (List.map Zy G))) G),j5⟩:GD)).bind fun r6 =>
   (Jw n r6).bind fun r7 =>
   Y (bOr .i64 J O,r7,List.drop (Int.toNat 1) (List.take (Int.toNat (Qb (List.map Zy G))) G),j5)) none)
  (some (J,G,U))
def KJ (n:Nat) (G:GD):Option (Int × GD) :=
 ((Zd n G).bind fun r2 =>
 (Jw n r2).bind fun r3 =>
 Qo (fun U (Z,ab,aa,Y)=>Q7 n G U Z ab aa Y) n (0,r3,G.values,G.good)).bind fun (J,O,ac) =>
 cond (Qr J 0)
  (some (J,(⟨G.article,O,false⟩:GD)))
  (some (J,(⟨G.article,O,ac⟩:GD)))
def Qgn:=fun J G=>(⟨[(0, .ptr 1000 0),(3,I J)],UH G⟩:St)
def Qgo:=fun J G=>([(0, .ptr 1000 0),(3,I J),(4,I G)]:List (Nat × AV))
theorem NS (n:Nat) (J:GD):∀ r,KJ n J=some r→Kw Tryz.prog 200 [Zh] (Go.Abs.look [(1000,I1 J)]) (Ya (fun r:Int × GD=>((.ret (I r.1),[(1000,I1 r.2)]):Zz × List (Nat × Blk))) r):=by
 refine Km (wJ J) Tryz.func200 rfl Tryz.ntmps200 rfl ?_;unfold KJ;refine Qf Qd ⟨[(0,Zh)],wJ J⟩ (Qf Qd ⟨[(0,Zh),(3,I 0)],wJ J⟩ (KI (fun (Y,aa,ab)=>(Qgn Y ⟨J.article,aa,ab⟩):(Int × (List (List PV)) × Bool)→St) ?_ ?_));rotate_left
 ·rintro ⟨Y,aa,ab⟩;exact sS (Qf Qd ⟨[(0,Zh),(3,I Y),(42,B (Qr Y 0))],UH ⟨J.article,aa,ab⟩⟩ (sC (Qr Y 0) (sL Qd (Qk ⟨[(3,I Y)],UH ⟨J.article,aa,false⟩⟩ (Qf Qd ⟨[(2,I Y)],UH ⟨J.article,aa,false⟩⟩ (sT (Kr (.id) [1000] []))))) (sK (Qk ⟨[(3,I Y)],UH ⟨J.article,aa,ab⟩⟩ (Qf Qd ⟨[(2,I Y)],UH ⟨J.article,aa,ab⟩⟩ (sT (Kr (.id) [1000] [])))))))
 refine sS (sG (xR 1 ?_));refine Xz [.ro []] (Xq n J) QE (fun r2=>?_);refine xC [] (EB n r2) QE (fun r3=>?_);refine xR 1 (xE (Qk ⟨[(0,Zh),(3,I 0),(4,I r3)],wJ J⟩ (sB (QF (fun (U,O,G,Z)=>⟨Qgo U O,UH ⟨J.article,G,Z⟩⟩:(Int × Int × (List (List PV)) × Bool)→St) (H5) ?_))));rintro ac ⟨U,O,G,Z⟩;show QO (Q7 n J ac U O G Z) _ _ _ _ _ _;unfold Q7;refine sS (Qf Qd ⟨[(0,Zh),(3,I U),(4,I O),(9,B (!Qr O 0))],UH ⟨J.article,G,Z⟩⟩ (sC (!Qr O 0) (sK (Qk ⟨Qgo U O,UH ⟨J.article,G,Z⟩⟩ (sS (sB (KI (fun j5=>⟨Qgo U O,UH ⟨J.article,G,j5⟩⟩:Bool→St) (Qf Qd ⟨[(0,Zh),(3,I U),(4,I O),(16,B (!Qr (PI .i64 U O) 0))],UH ⟨J.article,G,Z⟩⟩ (sC (!Qr (PI .i64 U O) 0) (sL Qd (QS false)) (sK (QS Z)))) ?_))))) (Qq (ZR (Yp (QL (QS (U,G,Z))))))));rintro j5;refine Qf Qd (Qgn (bOr .i64 U O) ⟨J.article,G,j5⟩) (CQ Qd rfl (xR 15 (xF (UD (e:=25) (S:=5) (enc:=Zy) (l:=G) (sv:=.p (.sl 5 (mI G))) (a:=1) (b:=Qb (mI G)) (c:=Qb (mI G)) rfl Qc Qc Qc Qc Qc Qc Qc) (xR 3 (BZ (QR (Qk (Qgn (bOr .i64 U O) ⟨J.article,List.drop (Int.toNat 1) (List.take (Int.toNat (Qb (mI G))) G),j5⟩) (sG (xR 1 ?_)))))))));refine Xz [.ro []] (Xq n (⟨J.article,List.drop (Int.toNat 1) (List.take (Int.toNat (Qb (mI G))) G),j5⟩:GD)) QE (fun r6=>?_);refine xC [] (EB n r6) QE (fun r7=>?_);exact xR 1 (xE (KP (bOr .i64 U O,r7,List.drop (Int.toNat 1) (List.take (Int.toNat (Qb (mI G))) G),j5)))
def XF (ac:Bool) (G:Int) (O:Int) (aa:Int) (J:Int) (Z:Int) (U:Int) (Y:Int) (ad:List (List PV)) (ab:Bool):Option (Q3 × Bool) :=
 cond ab
  (cond ac
   (some ((⟨G,O,aa,J,Z,U,Y⟩:Q3),!Qr G 0))
   (some ((⟨G,O,aa,J,Z,U,Y⟩:Q3),false)))
  (some ((⟨G,O,aa,J,Z,U,Y⟩:Q3),false))
abbrev ty4:=(Bool × Int × Int × Int × Int × Int × Int × Int × (List (List PV)) × Bool × Bool × Bool × Bool × Bool)
def Vj (n:Nat) (aj:ty4→Option (Q3 × Bool)) (ak:Bool) (ac:Int) (ah:Int) (af:Int) (ab:Int) (ad:Int) (ae:Int) (ai:Int) (G:List (List PV)) (O:Bool) (aa:Bool) (U:Bool) (Z:Bool) (Y:Bool):Option (Q3 × Bool) :=
 (cond O
  (some (Qp 0 (Qb (List.map Zy G))))
  (some false)).bind fun av =>
 cond av
  ((Zd n (⟨(⟨ac,ah,af,ab,ad,ae,ai⟩:Q3),G,O⟩:GD)).bind fun J =>
  cond (Qt J [112,101,114]&&aa)
   ((cond ak
    (some true)
    (some (Qt J [112,101,114]))).bind fun ax =>
   cond (VJ 1 (Qb (List.map Zy G)) (Qb (List.map Zy G)) (List.length G)) (
    (Zc n (⟨(⟨ac,ah,af,ab,ad,ae,ai⟩:Q3),List.drop (Int.toNat 1) (List.take (Int.toNat (Qb (List.map Zy G))) G),O⟩:GD)).bind fun al =>
    aj (ax,al.2.article.Kind,al.2.article.Days,al.2.article.From,al.2.article.To,al.2.article.Price,al.1,al.2.article.Free,al.2.values,al.2.good,!Qt J [112,101,114]&&aa,!Qt J [102,114,101,101]&&U,!Qt J [111,110]&&Z,!Qt J [98,101,116,119,101,101,110]&&Y)) none)
   (cond (Qt J [102,114,101,101]&&U)
    ((cond ak
     (some true)
     (some (Qt J [112,101,114]))).bind fun aw =>
    cond (VJ 1 (Qb (List.map Zy G)) (Qb (List.map Zy G)) (List.length G)) (
     (Zc n (⟨(⟨ac,ah,af,ab,ad,ae,ai⟩:Q3),List.drop (Int.toNat 1) (List.take (Int.toNat (Qb (List.map Zy G))) G),O⟩:GD)).bind fun an =>
     aj (aw,an.2.article.Kind,an.2.article.Days,an.2.article.From,an.2.article.To,an.2.article.Price,an.2.article.Unit,an.1,an.2.values,an.2.good,!Qt J [112,101,114]&&aa,!Qt J [102,114,101,101]&&U,!Qt J [111,110]&&Z,!Qt J [98,101,116,119,101,101,110]&&Y)) none)
    (cond (Qt J [111,110]&&Z)
     ((cond ak
      (some true)
      (some (Qt J [112,101,114]))).bind fun au =>
     cond (VJ 1 (Qb (List.map Zy G)) (Qb (List.map Zy G)) (List.length G)) (
      (KJ n (⟨(⟨ac,ah,af,ab,ad,ae,ai⟩:Q3),List.drop (Int.toNat 1) (List.take (Int.toNat (Qb (List.map Zy G))) G),O⟩:GD)).bind fun aq =>
      aj (au,aq.2.article.Kind,aq.1,aq.2.article.From,aq.2.article.To,aq.2.article.Price,aq.2.article.Unit,aq.2.article.Free,aq.2.values,aq.2.good,!Qt J [112,101,114]&&aa,!Qt J [102,114,101,101]&&U,!Qt J [111,110]&&Z,!Qt J [98,101,116,119,101,101,110]&&Y)) none)
     (cond (Qt J [98,101,116,119,101,101,110]&&Y)
      ((cond ak
       (some true)
       (some (Qt J [112,101,114]))).bind fun ar =>
      cond (VJ 1 (Qb (List.map Zy G)) (Qb (List.map Zy G)) (List.length G)) (
       (Zc n (⟨(⟨ac,ah,af,ab,ad,ae,ai⟩:Q3),List.drop (Int.toNat 1) (List.take (Int.toNat (Qb (List.map Zy G))) G),O⟩:GD)).bind fun ao =>
       (Zc n (⟨(⟨ao.2.article.Kind,ao.2.article.Days,ao.1,ao.2.article.To,ao.2.article.Price,ao.2.article.Unit,ao.2.article.Free⟩:Q3),ao.2.values,ao.2.good⟩:GD)).bind fun am =>
       aj (ar,am.2.article.Kind,am.2.article.Days,am.2.article.From,am.1,am.2.article.Price,am.2.article.Unit,am.2.article.Free,am.2.values,am.2.good,!Qt J [112,101,114]&&aa,!Qt J [102,114,101,101]&&U,!Qt J [111,110]&&Z,!Qt J [98,101,116,119,101,101,110]&&Y)) none)
      (some ((⟨0,0,0,0,0,0,0⟩:Q3),false))))))
  (XF ak ac ah af ab ad ae ai G O)
def X5 (n:Nat) (al:GN):Option (Q3 × Bool) :=
 (FL n al.Name).bind fun r1 =>
 (Zc n (⟨(⟨r1,7,0,1440,0,0,0⟩:Q3),al.Kids,true⟩:GD)).bind fun G =>
 ((Xp n G.2.article.Kind).bind fun r4 =>
 cond r4
  (some true)
  (some false)).bind fun j3 =>
 ((XE n G.2.article.Kind).bind fun r6 =>
 cond (!r6)
  (some true)
  (some false)).bind fun j5 =>
 (Xp n G.2.article.Kind).bind fun r7 =>
 Qo (fun Y (ak,ac,ah,af,ab,ad,ae,ai,aj,J,aa,O,Z,U)=>Vj n Y ak ac ah af ab ad ae ai aj J aa O Z U) n (!r7,G.2.article.Kind,G.2.article.Days,G.2.article.From,G.2.article.To,G.1,G.2.article.Unit,G.2.article.Free,G.2.values,G.2.good,j3,j3,j5,j5)
def QdB:=fun O G U J x4 Y Z=>(.box 183 [I O,I G,I U,I J,I x4,I Y,I Z]:Blk)
def LU:=fun G=>([(2,(QdB 0 0 0 0 0 0 0)),(13,(QdA G))]:List (Nat × Blk))
def QdC:=fun G=>([(1,I G),(2, .ptr 2 0),(5, .mv 6)]:List (Nat × AV))
def Qgp:List (Nat × Blk):=[(2, .box 251 [.ptr 1000 0]),(6, .mp [])]
def Qgq:=fun G=>([(2, .box 251 [.ptr 1000 0]),(6, .mf [(G,[112,101,114], .fn (.func 197) [] [.ptr 2 0]),(G,[102,114,101,101], .fn (.func 198) [] [.ptr 2 0])])]:List (Nat × Blk))
def Qif:=fun J G=>([(2, .box 251 [.ptr 1000 0]),(6, .mf [(J,[112,101,114], .fn (.func 197) [] [.ptr 2 0]),(J,[102,114,101,101], .fn (.func 198) [] [.ptr 2 0]),(G,[111,110], .fn (.func 199) [] [.ptr 2 0]),(G,[98,101,116,119,101,101,110], .fn (.func 201) [] [.ptr 2 0])])]:List (Nat × Blk))
def Qig:=fun J G=>([(402, .box 251 [.ptr 13 0]),(406, .mf [(J,[112,101,114], .fn (.func 197) [] [.ptr 402 0]),(J,[102,114,101,101], .fn (.func 198) [] [.ptr 402 0]),(G,[111,110], .fn (.func 199) [] [.ptr 402 0]),(G,[98,101,116,119,101,101,110], .fn (.func 201) [] [.ptr 402 0])])]:List (Nat × Blk))
def Qgr:=fun G=>([(2, .ptr 2 0),(4, .ptr 13 0),(5, .mv 406),(6,B G)]:List (Nat × AV))
def QdD:=fun Y J U O x4 Z x6 G=>(⟨[(2, .ptr 2 0),(3,B Y)],[(2,(QdB J U O x4 Z x6 G))]⟩:St)
def MJ:=fun U J O G=>([(402, .box 251 [.ptr 13 0]),(406, .mf [(U,[112,101,114], .fn (.func 197) [] [.ptr 402 0]),(J,[102,114,101,101], .fn (.func 198) [] [.ptr 402 0]),(O,[111,110], .fn (.func 199) [] [.ptr 402 0]),(G,[98,101,116,119,101,101,110], .fn (.func 201) [] [.ptr 402 0])])]:List (Nat × Blk))
def QdE:=fun O G J=>([(2, .ptr 2 0),(4, .ptr 13 0),(5, .mv 406),(6,B O),(7,S G),(8, .fn J [] [.ptr 402 0]),(9,B true)]:List (Nat × AV))
def QdF:=fun O G J=>([(2, .ptr 2 0),(4, .ptr 13 0),(5, .mv 406),(6,B O),(7,S G),(8, .fn J [] [.ptr 402 0]),(62,B false)]:List (Nat × AV))
def QjP:=fun O G J=>([(2, .ptr 2 0),(4, .ptr 13 0),(5, .mv 406),(6,B O),(7,S G),(8, .fn J [] [.ptr 402 0])]:List (Nat × AV))
def uJ:=fun Y J U O x4 Z x6 G=>(⟨QjP Y J U,LU O++MJ x4 Z x6 G⟩:St)
def QjQ:=fun J G=>([(2, .ptr 2 0),(4, .ptr 13 0),(5, .mv 406),(6,B J),(8, .fn G [] [.ptr 402 0])]:List (Nat × AV))
def uK:=fun U G O J Z Y x6=>(⟨QjQ U G,LU O++MJ J Z Y x6⟩:St)
def Qa2:=fun G=>([(1000,(QdA G)),(1001, .box 251 [.ptr 1000 0])]:List (Nat × Blk))
theorem uL (n:Nat) (a8:GN):∀ r,X5 n a8=some r→QB Tryz.prog 85 [ag (GN.cs a8)] (.ret (.tup [ag (Q3.cs r.1),B r.2])):=by
 refine Qj Tryz.func85 rfl Tryz.ntmps85 rfl ?_;unfold X5;refine Qf Qd ⟨[qq 1,qq 2],[(1,yx a8),(2,(QdB 0 0 0 0 0 0 0))]⟩ (Qf Qd ⟨[qq 1,qq 2,(4, .ptr 13 0)],[(1,yx a8),(2,(QdB 0 0 0 0 0 0 0)),(13,(QdA ⟨(⟨0,0,0,0,0,0,0⟩:Q3),a8.Kids,true⟩))]⟩ (sS (sG (xR 3 ?_))));refine xC [] (zX n a8.Name) QE (fun r1=>?_);refine xR 4 (xE (Qk ⟨[qq 2,(4, .ptr 13 0)],LU ⟨(⟨r1,7,0,1440,0,0,0⟩:Q3),a8.Kids,true⟩⟩ (sS (sG (xR 2 ?_)))));refine UU [(1000,13)] [] [] (Yd n (⟨(⟨r1,7,0,1440,0,0,0⟩:Q3),a8.Kids,true⟩:GD)) QE QE (fun r2=>?_);refine xR 4 (xE (Qk ⟨[qq 2,(4, .ptr 13 0)],LU ⟨(⟨r2.2.article.Kind,r2.2.article.Days,r2.2.article.From,r2.2.article.To,r2.1,r2.2.article.Unit,r2.2.article.Free⟩:Q3),r2.2.values,r2.2.good⟩⟩ (sS (sG (xR 6 (Gn (UH ⟨(⟨r2.2.article.Kind,r2.2.article.Days,r2.2.article.From,r2.2.article.To,r2.1,r2.2.article.Unit,r2.2.article.Free⟩:Q3),r2.2.values,r2.2.good⟩) [Zh,I r2.2.article.Kind] [(1000,13),(2,402),(6,406)] [] [] Tryz.func144 rfl Tryz.ntmps144 rfl (Qf Qd ⟨[(1,I r2.2.article.Kind),qq 2],[(2, .box 251 [Zh])]++UH ⟨(⟨r2.2.article.Kind,r2.2.article.Days,r2.2.article.From,r2.2.article.To,r2.1,r2.2.article.Unit,r2.2.article.Free⟩:Q3),r2.2.values,r2.2.good⟩⟩ (Qf Qd ⟨QdC r2.2.article.Kind,Qgp++UH ⟨(⟨r2.2.article.Kind,r2.2.article.Days,r2.2.article.From,r2.2.article.To,r2.1,r2.2.article.Unit,r2.2.article.Free⟩:Q3),r2.2.values,r2.2.good⟩⟩ (KI (fun j3=>⟨QdC r2.2.article.Kind,Qgq j3++UH ⟨(⟨r2.2.article.Kind,r2.2.article.Days,r2.2.article.From,r2.2.article.To,r2.1,r2.2.article.Unit,r2.2.article.Free⟩:Q3),r2.2.values,r2.2.good⟩⟩:Bool→St) ?_ ?_)))))))))
 ·refine sS (sG (xR 1 ?_));refine xC [] (LQ n r2.2.article.Kind) QE (fun r4=>?_);exact xE (Qk ⟨[(1,I r2.2.article.Kind),qq 2,(5, .mv 6),(8,B r4)],Qgp++UH ⟨(⟨r2.2.article.Kind,r2.2.article.Days,r2.2.article.From,r2.2.article.To,r2.1,r2.2.article.Unit,r2.2.article.Free⟩:Q3),r2.2.values,r2.2.good⟩⟩ (sC r4 (Qf Qd ⟨QdC r2.2.article.Kind,[(2, .box 251 [Zh]),(6, .mf [(true,[112,101,114], .fn (.func 197) [] [.ptr 2 0])])]++UH ⟨(⟨r2.2.article.Kind,r2.2.article.Days,r2.2.article.From,r2.2.article.To,r2.1,r2.2.article.Unit,r2.2.article.Free⟩:Q3),r2.2.values,r2.2.good⟩⟩ (sL Qd (QS true))) (sK (Qhx false ⟨[1,2,5],[2,6,1000],[],[]⟩ ⟨QdC r2.2.article.Kind,Qgp++UH ⟨(⟨r2.2.article.Kind,r2.2.article.Days,r2.2.article.From,r2.2.article.To,r2.1,r2.2.article.Unit,r2.2.article.Free⟩:Q3),r2.2.values,r2.2.good⟩⟩ Qc (bM 6 (es:=[]) [(false,[112,101,114], .fn (.func 197) [] [.ptr 2 0]),(false,[102,114,101,101], .fn (.func 198) [] [.ptr 2 0])] Qc Qc) ⟨[1,2,5],[2,6,1000],[],[]⟩ Qc))))
 rintro j3;refine KI (fun j5=>⟨[(5, .mv 6)],Qif j3 j5++UH ⟨(⟨r2.2.article.Kind,r2.2.article.Days,r2.2.article.From,r2.2.article.To,r2.1,r2.2.article.Unit,r2.2.article.Free⟩:Q3),r2.2.values,r2.2.good⟩⟩:Bool→St) ?_ ?_
 ·refine sS (sG (xR 1 ?_));refine xC [] (Be n r2.2.article.Kind) QE (fun r6=>?_);exact xR 1 (xE (Qk ⟨[qq 2,(5, .mv 6),(15,B (!r6))],Qgq j3++UH ⟨(⟨r2.2.article.Kind,r2.2.article.Days,r2.2.article.From,r2.2.article.To,r2.1,r2.2.article.Unit,r2.2.article.Free⟩:Q3),r2.2.values,r2.2.good⟩⟩ (sC (!r6) (Qf Qd ⟨[qq 2,(5, .mv 6)],[(2, .box 251 [Zh]),(6, .mf [(j3,[112,101,114], .fn (.func 197) [] [.ptr 2 0]),(j3,[102,114,101,101], .fn (.func 198) [] [.ptr 2 0]),(true,[111,110], .fn (.func 199) [] [.ptr 2 0])])]++UH ⟨(⟨r2.2.article.Kind,r2.2.article.Days,r2.2.article.From,r2.2.article.To,r2.1,r2.2.article.Unit,r2.2.article.Free⟩:Q3),r2.2.values,r2.2.good⟩⟩ (sL Qd (QS true))) (sK (Qhx false ⟨[5],[2,6,1000],[],[]⟩ ⟨[(5, .mv 6)],Qgq j3++UH ⟨(⟨r2.2.article.Kind,r2.2.article.Days,r2.2.article.From,r2.2.article.To,r2.1,r2.2.article.Unit,r2.2.article.Free⟩:Q3),r2.2.values,r2.2.good⟩⟩ Qc (bM 6 (es:=[(j3,[112,101,114], .fn (.func 197) [] [.ptr 2 0]),(j3,[102,114,101,101], .fn (.func 198) [] [.ptr 2 0])]) [(j3,[112,101,114], .fn (.func 197) [] [.ptr 2 0]),(j3,[102,114,101,101], .fn (.func 198) [] [.ptr 2 0]),(false,[111,110], .fn (.func 199) [] [.ptr 2 0]),(false,[98,101,116,119,101,101,110], .fn (.func 201) [] [.ptr 2 0])] Qc Qc) ⟨[5],[2,6,1000],[],[]⟩ Qc)))))
 rintro j5;refine Qf Qd ⟨[(4, .mv 6)],Qif j3 j5++UH ⟨(⟨r2.2.article.Kind,r2.2.article.Days,r2.2.article.From,r2.2.article.To,r2.1,r2.2.article.Unit,r2.2.article.Free⟩:Q3),r2.2.values,r2.2.good⟩⟩ (sT (QC (.id) [2,6,1000] [] (.mv 6) (VZ (xR 1 (xE (Qk ⟨[qq 2,(4, .ptr 13 0),(5, .mv 406)],LU ⟨(⟨r2.2.article.Kind,r2.2.article.Days,r2.2.article.From,r2.2.article.To,r2.1,r2.2.article.Unit,r2.2.article.Free⟩:Q3),r2.2.values,r2.2.good⟩++Qig j3 j5⟩ (sS (sG (xR 5 ?_)))))))));refine xC [] (LQ n r2.2.article.Kind) QE (fun r7=>?_);refine xR 2 (xE (Qk ⟨Qgr (!r7),LU ⟨(⟨r2.2.article.Kind,r2.2.article.Days,r2.2.article.From,r2.2.article.To,r2.1,r2.2.article.Unit,r2.2.article.Free⟩:Q3),r2.2.values,r2.2.good⟩++Qig j3 j5⟩ (K4 (fun (aw,am,ar,aq,an,av,au,ao,ax,al)=>⟨[qq 2,(4, .ptr 13 0),(6,B aw)],LU ⟨(⟨am,ar,aq,an,av,au,ao⟩:Q3),ax,al⟩⟩:(Bool × Int × Int × Int × Int × Int × Int × Int × (List (List PV)) × Bool)→St) (fun (aw,am,ar,aq,an,av,au,ao,ax,al)=>XF aw am ar aq an av au ao ax al) ?_ ?_)))
 ·rintro ⟨aw,am,ar,aq,an,av,au,ao,ax,al⟩;show QO (XF aw am ar aq an av au ao ax al) _ _ _ _ _ _;unfold XF;exact sS (CQ Qd rfl (xR 9 (xS al (fun h9=>xO (Qv h9) (xR 2 (xS aw (fun bo=>xO (Qv bo) (xR 8 (BZ (Qk (QdD (!Qr am 0) am ar aq an av au ao) (sT (qR (.id))))))) (fun bo=>xN (Qx bo) (xR 8 (BZ (Qk (QdD false am ar aq an av au ao) (sT (qR (.id)))))))))) (fun h9=>xN (Qx h9) (xR 11 (BZ (Qk (QdD false am ar aq an av au ao) (sT (qR (.id))))))))))
 refine sB (QF (fun (aj,ad,ah,af,ac,ab,ae,ai,G,J,Y,Z,U,O)=>⟨Qgr aj,LU ⟨(⟨ad,ah,af,ac,ab,ae,ai⟩:Q3),G,J⟩++MJ Y Z U O⟩:ty4→St) (H5) ?_);rintro bc ⟨aj,ad,ah,af,ac,ab,ae,ai,G,J,Y,Z,U,O⟩;show QO (Vj n bc aj ad ah af ac ab ae ai G J Y Z U O) _ _ _ _ _ _;unfold Vj;refine sS (KI (fun bn=>⟨[qq 2,(4, .ptr 13 0),(5, .mv 406),(6,B aj),(52,B bn)],LU ⟨(⟨ad,ah,af,ac,ab,ae,ai⟩:Q3),G,J⟩++MJ Y Z U O⟩:Bool→St) (sG (xR 5 (xS J (fun bm=>xO (Qv bm) (xR 6 (xE (QS (Qp 0 (Qb (mI G))))))) (fun bm=>xN (Qx bm) (xR 6 (xE (QS false))))))) ?_);rintro bn;refine sC bn (sK (Qk ⟨Qgr aj,LU ⟨(⟨ad,ah,af,ac,ab,ae,ai⟩:Q3),G,J⟩++MJ Y Z U O⟩ (sB (sS (sG (xR 1 ?_)))))) (Qq (ZR (Yp (QL (KP (k:=fun (aw,am,ar,aq,an,av,au,ao,ax,al)=>XF aw am ar aq an av au ao ax al) (aj,ad,ah,af,ac,ab,ae,ai,G,J))))));refine Xz [.ro []] (Xq n (⟨(⟨ad,ah,af,ac,ab,ae,ai⟩:Q3),G,J⟩:GD)) QE (fun aa=>?_);refine xR 1 (xE (Qk ⟨[qq 2,(4, .ptr 13 0),(5, .mv 406),(6,B aj),(7,S aa)],LU ⟨(⟨ad,ah,af,ac,ab,ae,ai⟩:Q3),G,J⟩++MJ Y Z U O⟩ (sS (sG (xR 2 (xS (Qt aa [112,101,114]&&Y) (fun ba=>?_) (fun ba=>?_)))))))
 ·refine zL (IZ (kt:=9) (e:=1) (b:=406) (w:=aa) (ok:=true) (es:=[(Y,[112,101,114], .fn (.func 197) [] [.ptr 402 0]),(Z,[102,114,101,101], .fn (.func 198) [] [.ptr 402 0]),(U,[111,110], .fn (.func 199) [] [.ptr 402 0]),(O,[98,101,116,119,101,101,110], .fn (.func 201) [] [.ptr 402 0])]) (v:=.fn (.func 197) [] [.ptr 402 0]) rfl Qc Qc Qc Qc Qc (IY ba)) (xR 5 (xE (Qk ⟨QdE aj aa (.func 197),LU ⟨(⟨ad,ah,af,ac,ab,ae,ai⟩:Q3),G,J⟩++MJ Y Z U O⟩ (sS (Qf Qd ⟨QdF aj aa (.func 197),LU ⟨(⟨ad,ah,af,ac,ab,ae,ai⟩:Q3),G,J⟩++MJ Y Z U O⟩ (QW (sK (Qk (uJ aj aa (.func 197) ⟨(⟨ad,ah,af,ac,ab,ae,ai⟩:Q3),G,J⟩ Y Z U O) (Qf Qd (uJ aj aa (.func 197) ⟨(⟨ad,ah,af,ac,ab,ae,ai⟩:Q3),G,J⟩ (!Qt aa [112,101,114]&&Y) (!Qt aa [102,114,101,101]&&Z) (!Qt aa [111,110]&&U) (!Qt aa [98,101,116,119,101,101,110]&&O)) (KI (fun be=>(uK be (.func 197) ⟨(⟨ad,ah,af,ac,ab,ae,ai⟩:Q3),G,J⟩ (!Qt aa [112,101,114]&&Y) (!Qt aa [102,114,101,101]&&Z) (!Qt aa [111,110]&&U) (!Qt aa [98,101,116,119,101,101,110]&&O)):Bool→St) (sG (xR 2 (xS aj (fun bp=>xN (Qy bp) (xR 3 (xE (QS true)))) (fun bp=>xO (Qw bp) (xR 3 (xE (QS (Qt aa [112,101,114])))))))) ?_))))))))));rintro be;refine sS (CQ Qd rfl (xR 15 (xF (UD (e:=25) (S:=5) (enc:=Zy) (l:=G) (sv:=.p (.sl 5 (mI G))) (a:=1) (b:=Qb (mI G)) (c:=Qb (mI G)) rfl Qc Qc Qc Qc Qc Qc Qc) (xR 3 (BZ (Qk (uK be (.func 197) ⟨(⟨ad,ah,af,ac,ab,ae,ai⟩:Q3),List.drop (Int.toNat 1) (List.take (Int.toNat (Qb (mI G))) G),J⟩ (!Qt aa [112,101,114]&&Y) (!Qt aa [102,114,101,101]&&Z) (!Qt aa [111,110]&&U) (!Qt aa [98,101,116,119,101,101,110]&&O)) (sG (xR 1 (Gn (Qa2 ⟨(⟨ad,ah,af,ac,ab,ae,ai⟩:Q3),List.drop (Int.toNat 1) (List.take (Int.toNat (Qb (mI G))) G),J⟩) [L8] [(1000,13),(1001,402)] [] [] Tryz.func197 rfl Tryz.ntmps197 rfl (KA [0,1] [0] [(2,[]),(3,[]),(4,[]),(5,[]),(6,[])] Qd rfl (ZF (f:=143) (args:=[Zh]) (dst:=some 3) ?_)))))))))));refine Zf [(1000,1000)] [] [] (Yd n (⟨(⟨ad,ah,af,ac,ab,ae,ai⟩:Q3),List.drop (Int.toNat 1) (List.take (Int.toNat (Qb (mI G))) G),J⟩:GD)) Qc Qc Qc QE QE (fun ay=>?_);exact kh [0] (Qn (Qz Zh rfl) (Qg)) (Yq [] (Qg) (Yq [] (Qg) (Yq [] (Qg) (Yq [] (Qg) (Ww (Dw (.id) [1000,1001] [] (.tup []) (VZ (xE (QR (KP (be,ay.2.article.Kind,ay.2.article.Days,ay.2.article.From,ay.2.article.To,ay.2.article.Price,ay.1,ay.2.article.Free,ay.2.values,ay.2.good,!Qt aa [112,101,114]&&Y,!Qt aa [102,114,101,101]&&Z,!Qt aa [111,110]&&U,!Qt aa [98,101,116,119,101,101,110]&&O)))))))))))
 refine xS (Qt aa [102,114,101,101]&&Z) (fun bb=>?_) (fun bb=>?_)
 ·refine zL (IZ (kt:=9) (e:=1) (b:=406) (w:=aa) (ok:=true) (es:=[(Y,[112,101,114], .fn (.func 197) [] [.ptr 402 0]),(Z,[102,114,101,101], .fn (.func 198) [] [.ptr 402 0]),(U,[111,110], .fn (.func 199) [] [.ptr 402 0]),(O,[98,101,116,119,101,101,110], .fn (.func 201) [] [.ptr 402 0])]) (v:=.fn (.func 198) [] [.ptr 402 0]) rfl Qc Qc Qc Qc Qc (UV ba (IY bb))) (xR 5 (xE (Qk ⟨QdE aj aa (.func 198),LU ⟨(⟨ad,ah,af,ac,ab,ae,ai⟩:Q3),G,J⟩++MJ Y Z U O⟩ (sS (Qf Qd ⟨QdF aj aa (.func 198),LU ⟨(⟨ad,ah,af,ac,ab,ae,ai⟩:Q3),G,J⟩++MJ Y Z U O⟩ (QW (sK (Qk (uJ aj aa (.func 198) ⟨(⟨ad,ah,af,ac,ab,ae,ai⟩:Q3),G,J⟩ Y Z U O) (Qf Qd (uJ aj aa (.func 198) ⟨(⟨ad,ah,af,ac,ab,ae,ai⟩:Q3),G,J⟩ (!Qt aa [112,101,114]&&Y) (!Qt aa [102,114,101,101]&&Z) (!Qt aa [111,110]&&U) (!Qt aa [98,101,116,119,101,101,110]&&O)) (KI (fun bd=>(uK bd (.func 198) ⟨(⟨ad,ah,af,ac,ab,ae,ai⟩:Q3),G,J⟩ (!Qt aa [112,101,114]&&Y) (!Qt aa [102,114,101,101]&&Z) (!Qt aa [111,110]&&U) (!Qt aa [98,101,116,119,101,101,110]&&O)):Bool→St) (sG (xR 2 (xS aj (fun bi=>xN (Qy bi) (xR 3 (xE (QS true)))) (fun bi=>xO (Qw bi) (xR 3 (xE (QS (Qt aa [112,101,114])))))))) ?_))))))))));rintro bd;refine sS (CQ Qd rfl (xR 15 (xF (UD (e:=25) (S:=5) (enc:=Zy) (l:=G) (sv:=.p (.sl 5 (mI G))) (a:=1) (b:=Qb (mI G)) (c:=Qb (mI G)) rfl Qc Qc Qc Qc Qc Qc Qc) (xR 3 (BZ (Qk (uK bd (.func 198) ⟨(⟨ad,ah,af,ac,ab,ae,ai⟩:Q3),List.drop (Int.toNat 1) (List.take (Int.toNat (Qb (mI G))) G),J⟩ (!Qt aa [112,101,114]&&Y) (!Qt aa [102,114,101,101]&&Z) (!Qt aa [111,110]&&U) (!Qt aa [98,101,116,119,101,101,110]&&O)) (sG (xR 1 (Gn (Qa2 ⟨(⟨ad,ah,af,ac,ab,ae,ai⟩:Q3),List.drop (Int.toNat 1) (List.take (Int.toNat (Qb (mI G))) G),J⟩) [L8] [(1000,13),(1001,402)] [] [] Tryz.func198 rfl Tryz.ntmps198 rfl (KA [0,1] [0] [(2,[]),(3,[]),(4,[]),(5,[]),(6,[])] Qd rfl (ZF (f:=143) (args:=[Zh]) (dst:=some 3) ?_)))))))))));refine Zf [(1000,1000)] [] [] (Yd n (⟨(⟨ad,ah,af,ac,ab,ae,ai⟩:Q3),List.drop (Int.toNat 1) (List.take (Int.toNat (Qb (mI G))) G),J⟩:GD)) Qc Qc Qc QE QE (fun az=>?_);exact kh [0] (Qn (Qz Zh rfl) (Qg)) (Yq [] (Qg) (Yq [] (Qg) (Yq [] (Qg) (Yq [] (Qg) (Ww (Dw (.id) [1000,1001] [] (.tup []) (VZ (xE (QR (KP (bd,az.2.article.Kind,az.2.article.Days,az.2.article.From,az.2.article.To,az.2.article.Price,az.2.article.Unit,az.1,az.2.values,az.2.good,!Qt aa [112,101,114]&&Y,!Qt aa [102,114,101,101]&&Z,!Qt aa [111,110]&&U,!Qt aa [98,101,116,119,101,101,110]&&O)))))))))))
 refine xS (Qt aa [111,110]&&U) (fun bf=>?_) (fun bf=>?_)
 ·refine zL (IZ (kt:=9) (e:=1) (b:=406) (w:=aa) (ok:=true) (es:=[(Y,[112,101,114], .fn (.func 197) [] [.ptr 402 0]),(Z,[102,114,101,101], .fn (.func 198) [] [.ptr 402 0]),(U,[111,110], .fn (.func 199) [] [.ptr 402 0]),(O,[98,101,116,119,101,101,110], .fn (.func 201) [] [.ptr 402 0])]) (v:=.fn (.func 199) [] [.ptr 402 0]) rfl Qc Qc Qc Qc Qc (UV ba (UV bb (IY bf)))) (xR 5 (xE (Qk ⟨QdE aj aa (.func 199),LU ⟨(⟨ad,ah,af,ac,ab,ae,ai⟩:Q3),G,J⟩++MJ Y Z U O⟩ (sS (Qf Qd ⟨QdF aj aa (.func 199),LU ⟨(⟨ad,ah,af,ac,ab,ae,ai⟩:Q3),G,J⟩++MJ Y Z U O⟩ (QW (sK (Qk (uJ aj aa (.func 199) ⟨(⟨ad,ah,af,ac,ab,ae,ai⟩:Q3),G,J⟩ Y Z U O) (Qf Qd (uJ aj aa (.func 199) ⟨(⟨ad,ah,af,ac,ab,ae,ai⟩:Q3),G,J⟩ (!Qt aa [112,101,114]&&Y) (!Qt aa [102,114,101,101]&&Z) (!Qt aa [111,110]&&U) (!Qt aa [98,101,116,119,101,101,110]&&O)) (KI (fun bh=>(uK bh (.func 199) ⟨(⟨ad,ah,af,ac,ab,ae,ai⟩:Q3),G,J⟩ (!Qt aa [112,101,114]&&Y) (!Qt aa [102,114,101,101]&&Z) (!Qt aa [111,110]&&U) (!Qt aa [98,101,116,119,101,101,110]&&O)):Bool→St) (sG (xR 2 (xS aj (fun bk=>xN (Qy bk) (xR 3 (xE (QS true)))) (fun bk=>xO (Qw bk) (xR 3 (xE (QS (Qt aa [112,101,114])))))))) ?_))))))))));rintro bh;refine sS (CQ Qd rfl (xR 15 (xF (UD (e:=25) (S:=5) (enc:=Zy) (l:=G) (sv:=.p (.sl 5 (mI G))) (a:=1) (b:=Qb (mI G)) (c:=Qb (mI G)) rfl Qc Qc Qc Qc Qc Qc Qc) (xR 3 (BZ (Qk (uK bh (.func 199) ⟨(⟨ad,ah,af,ac,ab,ae,ai⟩:Q3),List.drop (Int.toNat 1) (List.take (Int.toNat (Qb (mI G))) G),J⟩ (!Qt aa [112,101,114]&&Y) (!Qt aa [102,114,101,101]&&Z) (!Qt aa [111,110]&&U) (!Qt aa [98,101,116,119,101,101,110]&&O)) (sG (xR 1 (Gn (Qa2 ⟨(⟨ad,ah,af,ac,ab,ae,ai⟩:Q3),List.drop (Int.toNat 1) (List.take (Int.toNat (Qb (mI G))) G),J⟩) [L8] [(1000,13),(1001,402)] [] [] Tryz.func199 rfl Tryz.ntmps199 rfl (KA [0,1] [0] [(2,[]),(3,[]),(4,[]),(5,[]),(6,[])] Qd rfl (ZF (f:=200) (args:=[Zh]) (dst:=some 3) ?_)))))))))));refine Zf [(1000,1000)] [] [] (NS n (⟨(⟨ad,ah,af,ac,ab,ae,ai⟩:Q3),List.drop (Int.toNat 1) (List.take (Int.toNat (Qb (mI G))) G),J⟩:GD)) Qc Qc Qc QE QE (fun a6=>?_);exact kh [0] (Qn (Qz Zh rfl) (Qg)) (Yq [] (Qg) (Yq [] (Qg) (Yq [] (Qg) (Yq [] (Qg) (Ww (Dw (.id) [1000,1001] [] (.tup []) (VZ (xE (QR (KP (bh,a6.2.article.Kind,a6.1,a6.2.article.From,a6.2.article.To,a6.2.article.Price,a6.2.article.Unit,a6.2.article.Free,a6.2.values,a6.2.good,!Qt aa [112,101,114]&&Y,!Qt aa [102,114,101,101]&&Z,!Qt aa [111,110]&&U,!Qt aa [98,101,116,119,101,101,110]&&O)))))))))))
 refine xS (Qt aa [98,101,116,119,101,101,110]&&O) (fun bl=>?_) (fun bl=>zL (Qc5 (kt:=9) (e:=1) (b:=406) (w:=aa) (ok:=true) (es:=[(Y,[112,101,114], .fn (.func 197) [] [.ptr 402 0]),(Z,[102,114,101,101], .fn (.func 198) [] [.ptr 402 0]),(U,[111,110], .fn (.func 199) [] [.ptr 402 0]),(O,[98,101,116,119,101,101,110], .fn (.func 201) [] [.ptr 402 0])]) (z:=.nilFunc) rfl Qc Qc Qc Qc Qc Qc (UV ba (UV bb (UV bf (UV bl (Qc4)))))) (xR 5 (xE (Qk ⟨[qq 2,(4, .ptr 13 0),(5, .mv 406),(6,B aj),(7,S aa),(8, .p (.val (.nilFunc))),(9,B false)],LU ⟨(⟨ad,ah,af,ac,ab,ae,ai⟩:Q3),G,J⟩++MJ Y Z U O⟩ (sS (Qf Qd ⟨[qq 2,(4, .ptr 13 0),(5, .mv 406),(6,B aj),(7,S aa),(8, .p (.val (.nilFunc))),(62,B true)],LU ⟨(⟨ad,ah,af,ac,ab,ae,ai⟩:Q3),G,J⟩++MJ Y Z U O⟩ (ZQ (Qf Qd (QdD false 0 0 0 0 0 0 0) (sT (QA (Q4 (VX (Q4 (VX (qR (.id))))))))))))))));refine zL (IZ (kt:=9) (e:=1) (b:=406) (w:=aa) (ok:=true) (es:=[(Y,[112,101,114], .fn (.func 197) [] [.ptr 402 0]),(Z,[102,114,101,101], .fn (.func 198) [] [.ptr 402 0]),(U,[111,110], .fn (.func 199) [] [.ptr 402 0]),(O,[98,101,116,119,101,101,110], .fn (.func 201) [] [.ptr 402 0])]) (v:=.fn (.func 201) [] [.ptr 402 0]) rfl Qc Qc Qc Qc Qc (UV ba (UV bb (UV bf (IY bl))))) (xR 5 (xE (Qk ⟨QdE aj aa (.func 201),LU ⟨(⟨ad,ah,af,ac,ab,ae,ai⟩:Q3),G,J⟩++MJ Y Z U O⟩ (sS (Qf Qd ⟨QdF aj aa (.func 201),LU ⟨(⟨ad,ah,af,ac,ab,ae,ai⟩:Q3),G,J⟩++MJ Y Z U O⟩ (QW (sK (Qk (uJ aj aa (.func 201) ⟨(⟨ad,ah,af,ac,ab,ae,ai⟩:Q3),G,J⟩ Y Z U O) (Qf Qd (uJ aj aa (.func 201) ⟨(⟨ad,ah,af,ac,ab,ae,ai⟩:Q3),G,J⟩ (!Qt aa [112,101,114]&&Y) (!Qt aa [102,114,101,101]&&Z) (!Qt aa [111,110]&&U) (!Qt aa [98,101,116,119,101,101,110]&&O)) (KI (fun bg=>(uK bg (.func 201) ⟨(⟨ad,ah,af,ac,ab,ae,ai⟩:Q3),G,J⟩ (!Qt aa [112,101,114]&&Y) (!Qt aa [102,114,101,101]&&Z) (!Qt aa [111,110]&&U) (!Qt aa [98,101,116,119,101,101,110]&&O)):Bool→St) (sG (xR 2 (xS aj (fun bj=>xN (Qy bj) (xR 3 (xE (QS true)))) (fun bj=>xO (Qw bj) (xR 3 (xE (QS (Qt aa [112,101,114])))))))) ?_))))))))));rintro bg;refine sS (CQ Qd rfl (xR 15 (xF (UD (e:=25) (S:=5) (enc:=Zy) (l:=G) (sv:=.p (.sl 5 (mI G))) (a:=1) (b:=Qb (mI G)) (c:=Qb (mI G)) rfl Qc Qc Qc Qc Qc Qc Qc) (xR 3 (BZ (Qk (uK bg (.func 201) ⟨(⟨ad,ah,af,ac,ab,ae,ai⟩:Q3),List.drop (Int.toNat 1) (List.take (Int.toNat (Qb (mI G))) G),J⟩ (!Qt aa [112,101,114]&&Y) (!Qt aa [102,114,101,101]&&Z) (!Qt aa [111,110]&&U) (!Qt aa [98,101,116,119,101,101,110]&&O)) (sG (xR 1 (Gn (Qa2 ⟨(⟨ad,ah,af,ac,ab,ae,ai⟩:Q3),List.drop (Int.toNat 1) (List.take (Int.toNat (Qb (mI G))) G),J⟩) [L8] [(1000,13),(1001,402)] [] [] Tryz.func201 rfl Tryz.ntmps201 rfl (sS (KA [0,1] [0] [(2,[]),(3,[]),(4,[]),(5,[]),(6,[])] Qd rfl (ZF (f:=143) (args:=[Zh]) (dst:=some 3) ?_))))))))))));refine Zf [(1000,1000)] [] [] (Yd n (⟨(⟨ad,ah,af,ac,ab,ae,ai⟩:Q3),List.drop (Int.toNat 1) (List.take (Int.toNat (Qb (mI G))) G),J⟩:GD)) Qc Qc Qc QE QE (fun ak=>?_);refine kh [0] (Qn (Qz Zh rfl) (Qg)) (Yq [] (Qg) (Yq [] (Qg) (Yq [] (Qg) (Yq [] (Qg) (Ww (Qk ⟨[(0,L8)],Qa2 ⟨(⟨ak.2.article.Kind,ak.2.article.Days,ak.1,ak.2.article.To,ak.2.article.Price,ak.2.article.Unit,ak.2.article.Free⟩:Q3),ak.2.values,ak.2.good⟩⟩ (KA [0,1] [0] [(2,[]),(3,[]),(4,[]),(5,[]),(6,[])] Qd rfl (ZF (f:=143) (args:=[Zh]) (dst:=some 9) ?_))))))));refine Zf [(1000,1000)] [] [] (Yd n (⟨(⟨ak.2.article.Kind,ak.2.article.Days,ak.1,ak.2.article.To,ak.2.article.Price,ak.2.article.Unit,ak.2.article.Free⟩:Q3),ak.2.values,ak.2.good⟩:GD)) Qc Qc Qc QE QE (fun a7=>?_);exact kh [0] (Qn (Qz Zh rfl) (Qg)) (Yq [] (Qg) (Yq [] (Qg) (Yq [] (Qg) (Yq [] (Qg) (Ww (Dw (.id) [1000,1001] [] (.tup []) (VZ (xE (QR (KP (bg,a7.2.article.Kind,a7.2.article.Days,a7.2.article.From,a7.1,a7.2.article.Price,a7.2.article.Unit,a7.2.article.Free,a7.2.values,a7.2.good,!Qt aa [112,101,114]&&Y,!Qt aa [102,114,101,101]&&Z,!Qt aa [111,110]&&U,!Qt aa [98,101,116,119,101,101,110]&&O)))))))))))
def YT (n:Nat) (O:Int) (J:Int) (G:Int):Option Bool :=
 cond (leI J O)
  (some (leI O G))
  (some false)
def Qgs:=fun O G J=>(⟨[(0,I O),(1,I G),(2,I J)],[]⟩:St)
theorem Vy (n:Nat) (O:Int) (J:Int) (G:Int):∀ r,YT n O J G=some r→QB Tryz.prog 147 [I O,I J,I G] (.ret (B r)):=by
 refine Qj Tryz.func147 rfl Tryz.ntmps147 rfl ?_;unfold YT;exact Qf Qd (Qgs O J G) (sS (sG (xR 4 (xS (leI J O) (fun U=>xO (Qv U) (xR 4 (xE (Qk ⟨[(6,B (leI O G))],[]⟩ (sT (qR (.id))))))) (fun U=>xN (Qx U) (xR 4 (xE (Qk ⟨[(6,B false)],[]⟩ (sT (qR (.id)))))))))))
def Kn (n:Nat) (G:Q3):Option Bool :=
 ((YT n G.Kind 1 6).bind fun r2 =>
 cond (!r2)
  (some true)
  ((YT n G.From 0 1439).bind fun r4 =>
  cond (!r4)
   (some true)
   ((YT n G.To (wi (G.From+1)) 1440).bind fun r6 =>
   cond (!r6)
    (some true)
    ((YT n G.Days 1 7).bind fun r8 =>
    some (!r8))))).bind fun j1 =>
 cond j1
  (some false)
  (((XE n G.Kind).bind fun aa =>
  cond aa
   (cond (!Qr G.From 0)
    (some true)
    (cond (!Qr G.To 1440)
     (some true)
     (some (!Qr G.Days 7))))
   (some false)).bind fun j9 =>
  cond j9
   (some false)
   ((cond (Qr G.Kind 6)
    (some 10000)
    (some 1000000)).bind fun ab =>
   (YT n G.Price 0 ab).bind fun Y =>
   cond (!Y)
    (some false)
    ((Xp n G.Kind).bind fun Z =>
    cond Z
     (((YT n G.Unit 1 1440).bind fun J =>
     cond J
      ((YT n G.Free 0 1440).bind fun O =>
      some O)
      (some false)).bind fun U =>
     some U)
     (cond (Qr G.Unit 0)
      (some (Qr G.Free 0))
      (some false)))))
def Il:=fun G=>([(1, .box 183 (Yx (Q3.cs G)))]:List (Nat × Blk))
theorem JM (n:Nat) (G:Q3):∀ r,Kn n G=some r→QB Tryz.prog 86 [ag (Q3.cs G)] (.ret (B r)):=by
 refine Qj Tryz.func86 rfl Tryz.ntmps86 rfl ?_;unfold Kn;refine Qf Qd ⟨[qq 1],Il G⟩ (sS (KI (fun j1=>⟨[qq 1,(28,B j1)],Il G⟩:Bool→St) ?_ ?_))
 ·refine sG (xR 2 ?_);refine xC [] (Vy n G.Kind 1 6) QE (fun r2=>?_);refine xR 2 (xS (!r2) (fun h3=>xN (Qy h3) (xR 19 (xE (QS true)))) (fun h3=>xO (Qw h3) (xR 1 ?_)));refine xC [] (Vy n G.From 0 1439) QE (fun r4=>?_);refine xR 3 (xS (!r4) (fun h5=>xN (Qy h5) (xR 13 (xE (QS true)))) (fun h5=>xO (Qw h5) (xR 4 ?_)));refine xC [] (Vy n G.To (wi (G.From+1)) 1440) QE (fun r6=>?_);refine xR 3 (xS (!r6) (fun h7=>xN (Qy h7) (xR 4 (xE (QS true)))) (fun h7=>xO (Qw h7) (xR 1 ?_)));refine xC [] (Vy n G.Days 1 7) QE (fun r8=>?_);exact xR 2 (xE (QS (!r8)))
 rintro j1;refine sC j1 (Qf Qd ⟨[(2,B false)],[]⟩ (sT (QA (qR (.id))))) (sK (Qk ⟨[qq 1],Il G⟩ (sS (KI (fun j9=>⟨[qq 1,(46,B j9)],Il G⟩:Bool→St) ?_ ?_))))
 ·refine sG (xR 2 ?_);refine xC [] (Be n G.Kind) QE (fun ah=>?_);exact xR 1 (xS ah (fun Y=>xO (Qv Y) (xR 3 (xS (!Qr G.From 0) (fun U=>xN (Qy U) (xR 9 (xE (QS true)))) (fun U=>xO (Qw U) (xR 4 (xS (!Qr G.To 1440) (fun O=>xN (Qy O) (xR 4 (xE (QS true)))) (fun O=>xO (Qw O) (xR 4 (xE (QS (!Qr G.Days 7))))))))))) (fun Y=>xN (Qx Y) (xR 13 (xE (QS false)))))
 rintro j9;refine sC j9 (Qf Qd ⟨[(2,B false)],[]⟩ (sT (QA (qR (.id))))) (sK (Qk ⟨[qq 1],Il G⟩ (Qf Qd ⟨[qq 1,(3,I 1000000)],Il G⟩ (KI (fun aa=>⟨[qq 1,(3,I aa)],Il G⟩:Int→St) (Qf Qd ⟨[qq 1,(3,I 1000000),(49,B (Qr G.Kind 6))],Il G⟩ (sC (Qr G.Kind 6) (sL Qd (QS 10000)) (sK (QS 1000000)))) ?_))));rintro aa;refine sS (sS (sG (xR 3 ?_)));refine xC [] (Vy n G.Price 0 aa) QE (fun ab=>?_);refine xR 1 (xE (Qk ⟨[qq 1,(54,B (!ab))],Il G⟩ (sC (!ab) (Qf Qd ⟨[(2,B false)],[]⟩ (sT (QA (qR (.id))))) (sK (Qk ⟨[qq 1],Il G⟩ (sS (sS (sG (xR 2 ?_)))))))));refine xC [] (LQ n G.Kind) QE (fun ac=>?_);refine xE (Qk ⟨[qq 1,(57,B ac)],Il G⟩ (sC ac (KI (fun ad=>⟨[(2,B ad)],[]⟩:Bool→St) ?_ ?_) (sK (Qk ⟨[qq 1],Il G⟩ (sS (sG (xR 4 (xS (Qr G.Unit 0) (fun Z=>xO (Qv Z) (xR 4 (xE (Qk ⟨[(2,B (Qr G.Free 0))],[]⟩ (sT (qR (.id))))))) (fun Z=>xN (Qx Z) (xR 4 (xE (Qk ⟨[(2,B false)],[]⟩ (sT (qR (.id)))))))))))))))
 ·refine sG (xR 2 ?_);refine xC [] (Vy n G.Unit 1 1440) QE (fun ae=>?_);refine xR 1 (xS ae (fun J=>?_) (fun J=>?_))
  ·refine xO (Qv J) (xR 1 ?_);refine xC [] (Vy n G.Free 0 1440) QE (fun af=>?_);exact xR 2 (xE (QS af))
  exact xN (Qx J) (xR 4 (xE (QS false)))
 rintro ad;exact sT (QA (qR (.id)))
def Zr (n:Nat) (J:GN) (U:((List Q3) × Bool × Int)→Option ((List Q3) × ZH)) (G:List Q3) (Y:Bool) (O:Int):Option ((List Q3) × ZH) :=
 cond (Qp O (Qb (List.map Zy J.Kids)))
  ((Option.bind (QY J.Kids O) GN.of).bind fun x2 =>
  cond (Qr x2.Kind 3)
   (some ([],(⟨9,x2.At⟩:ZH)))
   (cond (Qr (Qb (List.map Q3.cs G)) 12)
    (some ([],(⟨2,x2.At⟩:ZH)))
    ((X5 n x2).bind fun Z =>
    cond (!Z.2)
     (some ([],(⟨9,x2.At⟩:ZH)))
     ((Kn n Z.1).bind fun r4 =>
     cond (!r4)
      (some ([],(⟨3,x2.At⟩:ZH)))
      ((cond (Qr Z.1.Kind 6)
       (some Y)
       (some false)).bind fun j5 =>
      cond j5
       (some ([],(⟨5,x2.At⟩:ZH)))
       (cond Y
        (cond (QM (List.length (G++[Z.1])) 56) (
         U (G++[Z.1],true,wi (O+1))) none)
        (cond (QM (List.length (G++[Z.1])) 56) (
         U (G++[Z.1],Qr Z.1.Kind 6,wi (O+1))) none)))))))
  (some (G,(⟨0,0⟩:ZH)))
def KD (n:Nat) (G:GN):Option ((List Q3) × ZH) :=
 Qo (fun J (Y,U,O)=>Zr n G J Y U O) n ([],false,0)
def Qgt:=fun G=>([(1, .box 25 (Yx (GN.cs G))),(3, .box 81 [I 0,I 0])]:List (Nat × Blk))
def Qih:=fun G=>([(3, .ptr 3 0),(4, .p (.val (.slice none 0 0))),(5,B false),(11, .p (.sl 5 (List.map Zy (GN.Kids G)))),(12,I (Qb (List.map Zy (GN.Kids G)))),(13,I 0)]:List (Nat × AV))
def nE:=fun J G=>([(3, .box 81 [I J,I G])]:List (Nat × Blk))
def QdG:=fun U O G J=>([(3, .ptr 3 0),(4, .tsl 7 (List.map Q3.cs U) 66),(5,B O),(11, .p (.sl 5 (List.map Zy (GN.Kids G)))),(12,I (Qb (List.map Zy (GN.Kids G)))),(13,I J)]:List (Nat × AV))
def QdH:=fun G=>(.arr 183 7 (List.map Q3.cs G).length:Blk)
def nG:=fun G=>([(3, .box 81 [I 0,I 0]),(66,(QdH G))]:List (Nat × Blk))
def Qgu:=fun U O G J=>([(3, .ptr 3 0),(4, .tsl 7 (List.map Q3.cs U) 66),(5,B O),(7, .ptr 7 0),(11, .p (.sl 5 (List.map Zy (GN.Kids G)))),(12,I (Qb (List.map Zy (GN.Kids G)))),(13,I J)]:List (Nat × AV))
def Qa3:=fun J G=>([(3, .box 81 [I 0,I 0]),(7, .box 25 (Yx (GN.cs J))),(66,(QdH G))]:List (Nat × Blk))
def Qa4:List (Nat × AV):=[(2, .p (.val (.slice none 0 0))),(3, .ptr 3 0)]
def QdI:=fun O G J=>([(3, .box 81 [I 0,I 0]),(7, .box 25 (Yx (GN.cs O))),(8, .box 183 (Yx (Q3.cs G))),(66,(QdH J))]:List (Nat × Blk))
def Qgv:=fun U O G J=>([(3, .ptr 3 0),(4, .tsl 7 (List.map Q3.cs U) 66),(5,B O),(8, .ptr 8 0),(11, .p (.sl 5 (List.map Zy (GN.Kids G)))),(12,I (Qb (List.map Zy (GN.Kids G)))),(13,I J)]:List (Nat × AV))
def Qgw:=fun J G=>([(3, .box 81 [I 0,I 0]),(8, .box 183 (Yx (Q3.cs J))),(66,(QdH G))]:List (Nat × Blk))
theorem Io (n:Nat) (G:GN):∀ r,KD n G=some r→QB Tryz.prog 35 [ag (GN.cs G)] (.ret (.tup [.p (.sl 7 (YX r.1)),ag (ZH.cs r.2)])):=by
 refine Qj Tryz.func35 rfl Tryz.ntmps35 rfl ?_;unfold KD;refine Qf Qd ⟨[qq 1,qq 3],Qgt G⟩ (Qf Qd ⟨[qq 1,qq 3,(4,zS)],Qgt G⟩ (Qf Qd ⟨[qq 1,qq 3,(4,zS),(5,B false)],Qgt G⟩ (sS (Qf Qd ⟨Qih G,nE 0 0⟩ (sB (NM ⟨Qih G,nE 0 0⟩ (Kz (Yk 183 7 66 [4] []) (QF (fun (J,U,O)=>⟨QdG J U G O,nG J⟩:((List Q3) × Bool × Int)→St) (H5) ?_))))))));rintro aa ⟨J,U,O⟩;show QO (Zr n G aa J U O) _ _ _ _ _ _;unfold Zr;refine Qf Qd ⟨[qq 3,(4, .tsl 7 (YX J) 66),(5,B U),(11, .p (.sl 5 (mI G.Kids))),(12,I (Qb (mI G.Kids))),(13,I O),(14,B (Qp O (Qb (mI G.Kids))))],nG J⟩ (sS (sC (Qp O (Qb (mI G.Kids))) (sK (Qk ⟨QdG J U G O,nG J⟩ (sS (sB (sS (sG (xG (K9 (e:=25) (S:=5) (enc:=GN.cs) (dec:=GN.of) (l:=G.Kids) (k:=.i64) (n:=O) (sv:=.p (.sl 5 (mI G.Kids))) GN.of_cs rfl Qc Qc Qc Qc Qc) (fun Z=>xR 3 (xE (Qk ⟨Qgu J U G O,Qa3 Z J⟩ (sS (Qf Qd ⟨[qq 3,(4, .tsl 7 (YX J) 66),(5,B U),qq 7,(11, .p (.sl 5 (mI G.Kids))),(12,I (Qb (mI G.Kids))),(13,I O),(19,B (Qr Z.Kind 3))],Qa3 Z J⟩ (sC (Qr Z.Kind 3) (Qf Qd ⟨Qa4,nE 9 Z.At⟩ (sT (QA (Q4 (QA (VX (Q4 (QA (qR (.agg [.sl 7, .id])))))))))) (sK (Qk ⟨Qgu J U G O,Qa3 Z J⟩ (sS (Qf Qd ⟨[qq 3,(4, .tsl 7 (YX J) 66),(5,B U),qq 7,(11, .p (.sl 5 (mI G.Kids))),(12,I (Qb (mI G.Kids))),(13,I O),(25,B (Qr (Qb (YX J)) 12))],Qa3 Z J⟩ (sC (Qr (Qb (YX J)) 12) (Qf Qd ⟨Qa4,nE 2 Z.At⟩ (sT (QA (Q4 (QA (VX (Q4 (QA (qR (.agg [.sl 7, .id])))))))))) (sK (Qk ⟨Qgu J U G O,Qa3 Z J⟩ (sS (sG (xR 1 ?_))))))))))))))))))))))) (Qq (ZR (Yp (QL (Qk ⟨[qq 3,(4, .tsl 7 (YX J) 66)],nG J⟩ (Qf Qd ⟨[(2, .tsl 7 (YX J) 66),qq 3],nG J⟩ (sT (qR (.agg [.sl 7, .id])))))))))));refine xC [] (uL n Z) QE (fun Y=>?_);refine xR 6 (xE (Qk ⟨[qq 3,(4, .tsl 7 (YX J) 66),(5,B U),qq 7,qq 8,(9,B Y.2),(11, .p (.sl 5 (mI G.Kids))),(12,I (Qb (mI G.Kids))),(13,I O)],QdI Z Y.1 J⟩ (sS (sB (Qf Qd ⟨[qq 3,(4, .tsl 7 (YX J) 66),(5,B U),qq 7,qq 8,(11, .p (.sl 5 (mI G.Kids))),(12,I (Qb (mI G.Kids))),(13,I O),(34,B (!Y.2))],QdI Z Y.1 J⟩ (sC (!Y.2) (Qf Qd ⟨Qa4,nE 9 Z.At⟩ (sT (Q4 (QA (Q4 (QA (VX (Q4 (QA (qR (.agg [.sl 7, .id]))))))))))) (sS (sG (xR 1 ?_)))))))));refine xC [] (JM n Y.1) QE (fun r4=>?_);refine xR 2 (xE (Qk ⟨[qq 3,(4, .tsl 7 (YX J) 66),(5,B U),qq 7,qq 8,(11, .p (.sl 5 (mI G.Kids))),(12,I (Qb (mI G.Kids))),(13,I O),(40,B (!r4))],QdI Z Y.1 J⟩ (sC (!r4) (Qf Qd ⟨Qa4,nE 3 Z.At⟩ (sT (Q4 (QA (Q4 (QA (VX (Q4 (QA (qR (.agg [.sl 7, .id]))))))))))) (KI (fun j5=>⟨[qq 3,(4, .tsl 7 (YX J) 66),(5,B U),qq 7,qq 8,(11, .p (.sl 5 (mI G.Kids))),(12,I (Qb (mI G.Kids))),(13,I O),(47,B j5)],QdI Z Y.1 J⟩:Bool→St) (sG (xR 4 (xS (Qr Y.1.Kind 6) (fun h6=>xO (Qv h6) (xR 2 (xE (QS U)))) (fun h6=>xN (Qx h6) (xR 2 (xE (QS false))))))) ?_))));rintro j5;exact sC j5 (Qf Qd ⟨Qa4,nE 5 Z.At⟩ (sT (Q4 (QA (Q4 (QA (VX (Q4 (QA (qR (.agg [.sl 7, .id]))))))))))) (sK (QR (Qk ⟨Qgv J U G O,Qgw Y.1 J⟩ (sS (sG (xR 2 (xS U (fun h7=>xN (Qy h7) (xR 4 (xE (Qk ⟨Qgv J true G O,Qgw Y.1 J⟩ (sG (xR 3 (xF (YV (e:=183) (S:=7) (by_:=56) (enc:=Q3.cs) (tk:=66) (l:=J) (l2:=[Y.1]) (xv:=.tsl 7 (YX [Y.1]) 65) rfl Qc Qc rfl Qc Qc Qc rfl Qc) (xR 1 (xE (QR (Qk ⟨QdG (J++[Y.1]) true G O,nG (J++[Y.1])⟩ (sL Qd (KP (J++[Y.1],true,wi (O+1))))))))))))))) (fun h7=>xO (Qw h7) (xR 4 (xE (Qk ⟨Qgv J (Qr Y.1.Kind 6) G O,Qgw Y.1 J⟩ (sG (xR 3 (xF (YV (e:=183) (S:=7) (by_:=56) (enc:=Q3.cs) (tk:=66) (l:=J) (l2:=[Y.1]) (xv:=.tsl 7 (YX [Y.1]) 65) rfl Qc Qc rfl Qc Qc Qc rfl Qc) (xR 1 (xE (QR (Qk ⟨QdG (J++[Y.1]) (Qr Y.1.Kind 6) G O,nG (J++[Y.1])⟩ (sL Qd (KP (J++[Y.1],Qr Y.1.Kind 6,wi (O+1))))))))))))))))))))))
def Wq (n:Nat) (ad:GN) (U:((List K5) × (List ZH) × Int × Int × (List ((List UInt8) × Bool)))→Option ((List K5) × (List ZH))) (J:List K5) (G:List ZH) (Z:Int) (O:Int) (aa:List ((List UInt8) × Bool)):Option ((List K5) × (List ZH)) :=
 cond (Qp O (Qb (List.map Zy ad.Kids)))
  ((Option.bind (QY ad.Kids O) GN.of).bind fun x4 =>
  cond (!Qr x4.N 7)
   (U (J,G,Z,wi (O+1),aa))
   ((cond (CZ YZ x4.Name false aa)
    (some ([],5,x4.At))
    (cond (leI 8 Z)
     (some ([],2,x4.At))
     ((KD n x4).bind fun r6 =>
     some (r6.1,r6.2.Err,r6.2.At)))).bind fun (ac,Y,ab) =>
   (cond (!Qr Y 0)
    (cond (QM (List.length (G++[(⟨Y,ab⟩:ZH)])) 16) (
     some (G++[(⟨Y,ab⟩:ZH)])) none)
    (some G)).bind fun j7 =>
   cond (Qr (Qb (List.map ZH.cs j7)) 20)
    (some (J,j7))
    (cond (QM (List.length (J++[(⟨x4.Name,ac⟩:K5)])) 40) (
     U (J++[(⟨x4.Name,ac⟩:K5)],j7,wi (Z+1),wi (O+1),FD YZ x4.Name true aa)) none)))
  (some (J,G))
def YK (n:Nat) (U:GN):Option ((List K5) × (List ZH)) :=
 (WI n U).bind fun r1 =>
 cond (!r1)
  (some ([],[(⟨1,0⟩:ZH)]))
  ((Qo (fun J (ab,Y,Z,O,ac)=>Wq n U J ab Y Z O ac) n ([],[],0,0,[])).bind fun (aa,G) =>
  cond (Qp 0 (Qb (List.map ZH.cs G)))
   (some ([],G))
   (some (aa,[])))
def Qii:=fun G=>([(1, .box 25 (Yx (GN.cs G))),(17, .mp (qI TM TN []))]:List (Nat × Blk))
def wK:=fun G=>(.arr 59 2 (List.map K5.cs G).length:Blk)
def Qij:=fun G=>([(4, .p (.val (.slice none 0 0))),(5, .p (.val (.slice none 0 0))),(6, .mv 17),(7,I 0),(19, .p (.sl 5 (List.map Zy (GN.Kids G)))),(20,I (Qb (List.map Zy (GN.Kids G)))),(21,I 0)]:List (Nat × AV))
def Qik:List (Nat × Blk):=[(17, .mp (qI TM TN []))]
def QdJ:=fun U J O G Y=>([(4, .tsl 2 (List.map K5.cs U) 68),(5, .tsl 2 (List.map ZH.cs J) 58),(6, .mv 17),(7,I O),(19, .p (.sl 5 (List.map Zy (GN.Kids G)))),(20,I (Qb (List.map Zy (GN.Kids G)))),(21,I Y)]:List (Nat × AV))
def QdK:=fun O G J=>([(17, .mp (qI TM TN O)),(58,(Xo G)),(68,(wK J))]:List (Nat × Blk))
def Qil:=fun U J O G Y=>([(4, .tsl 2 (List.map K5.cs U) 68),(5, .tsl 2 (List.map ZH.cs J) 58),(6, .mv 17),(7,I O),(9, .ptr 9 0),(19, .p (.sl 5 (List.map Zy (GN.Kids G)))),(20,I (Qb (List.map Zy (GN.Kids G)))),(21,I Y)]:List (Nat × AV))
def QdL:=fun U J O G=>([(9, .box 25 (Yx (GN.cs U))),(17, .mp (qI TM TN J)),(58,(Xo O)),(68,(wK G))]:List (Nat × Blk))
def nH:=fun U G O J Z Y=>([(9, .box 25 (Yx (GN.cs U))),(11, .box 81 [I G,I O]),(17, .mp (qI TM TN J)),(58,(Xo Z)),(68,(wK Y))]:List (Nat × Blk))
def Qgx:=fun Y J U O G Z=>([(4, .tsl 2 (List.map K5.cs Y) 68),(5, .tsl 2 (List.map ZH.cs J) 58),(6, .mv 17),(7,I U),(9, .ptr 9 0),(10, .p (.sl 7 (List.map Q3.cs O))),(11, .ptr 11 0),(19, .p (.sl 5 (List.map Zy (GN.Kids G)))),(20,I (Qb (List.map Zy (GN.Kids G)))),(21,I Z)]:List (Nat × AV))
def Qim:=fun Y J U O G Z=>([(4, .tsl 2 (List.map K5.cs Y) 68),(5, .tsl 2 (List.map ZH.cs J) 58),(6, .mv 17),(7,I U),(9, .ptr 9 0),(10, .p (.sl 7 (List.map Q3.cs O))),(19, .p (.sl 5 (List.map Zy (GN.Kids G)))),(20,I (Qb (List.map Zy (GN.Kids G)))),(21,I Z)]:List (Nat × AV))
def Qgy:=fun U J O G=>([(9, .box 25 (Yx (GN.cs U))),(17, .mp (qI TM TN J)),(58, .arr 81 2 (List.map ZH.cs O).length),(68,(wK G))]:List (Nat × Blk))
theorem TV (n:Nat) (O:GN):∀ r,YK n O=some r→QB Tryz.prog 11 [ag (GN.cs O)] (.ret (.tup [.p (.sl 2 (XM r.1)), .p (.sl 2 (Ue r.2))])):=by
 refine Qj Tryz.func11 rfl Tryz.ntmps11 rfl ?_;unfold YK;refine Qf Qd ⟨[qq 1],Ik O⟩ (sS (sS (sG (xR 1 ?_))));refine xC [] (TU n O) QE (fun r1=>?_);refine xR 1 (xE (Qk ⟨[qq 1,(14,B (!r1))],Ik O⟩ (sC (!r1) (Qf Qd ⟨[(2,zS),(3, .tsl 2 (Ue [(⟨1,0⟩:ZH)]) 16)],[(16,(Qgf (⟨1,0⟩:ZH)))]⟩ (sT (QA (qR (.agg [.sl 2, .sl 2]))))) (sK (Qk ⟨[qq 1],Ik O⟩ (Qf Qd ⟨[qq 1,(4,zS)],Ik O⟩ (Qf Qd ⟨[qq 1,(4,zS),(5,zS)],Ik O⟩ (sS (sG (zL (QfU (d:=17) (rsv:=none) rfl rfl Qc) (xR 1 (xE (Qk ⟨[qq 1,(4,zS),(5,zS),(6, .mv 17)],Qii O⟩ (Qf Qd ⟨[qq 1,(4,zS),(5,zS),(6, .mv 17),(7,I 0)],Qii O⟩ (KI (fun (ad,ac)=>⟨[(4, .tsl 2 (XM ad) 68),(5, .tsl 2 (Ue ac) 58)],[(58,(Xo ac)),(68,(wK ad))]⟩:((List K5) × (List ZH))→St) ?_ ?_)))))))))))))));rotate_left
 ·rintro ⟨ad,ac⟩;exact sS (Qf Qd ⟨[(4, .tsl 2 (XM ad) 68),(5, .tsl 2 (Ue ac) 58),(72,B (Qp 0 (Qb (Ue ac))))],[(58,(Xo ac)),(68,(wK ad))]⟩ (sC (Qp 0 (Qb (Ue ac))) (Qf Qd ⟨[(2,zS),(3, .tsl 2 (Ue ac) 58)],[(58,(Xo ac))]⟩ (sT (QA (qR (.agg [.sl 2, .sl 2]))))) (sK (Qk ⟨[(4, .tsl 2 (XM ad) 68)],[(68,(wK ad))]⟩ (Qf Qd ⟨[(2, .tsl 2 (XM ad) 68),(3,zS)],[(68,(wK ad))]⟩ (sT (qR (.agg [.sl 2, .sl 2]))))))))
 refine Qf Qd ⟨Qij O,Qik⟩ (sB (NM ⟨Qij O,Qik⟩ (Kz (Weak.trans (Yk 81 2 58 [5] []) (Yk 59 2 68 [4] [])) (QF (fun (G,J,Z,Y,U)=>⟨QdJ G J Z O Y,QdK U J G⟩:((List K5) × (List ZH) × Int × Int × (List ((List UInt8) × Bool)))→St) (H5) ?_))));rintro af ⟨G,J,Z,Y,U⟩;show QO (Wq n O af G J Z Y U) _ _ _ _ _ _;unfold Wq;refine Qf Qd ⟨[(4, .tsl 2 (XM G) 68),(5, .tsl 2 (Ue J) 58),(6, .mv 17),(7,I Z),(19, .p (.sl 5 (mI O.Kids))),(20,I (Qb (mI O.Kids))),(21,I Y),(22,B (Qp Y (Qb (mI O.Kids))))],QdK U J G⟩ (sS (sC (Qp Y (Qb (mI O.Kids))) (sK (Qk ⟨QdJ G J Z O Y,QdK U J G⟩ (sS (sB (sS (sG (xG (K9 (e:=25) (S:=5) (enc:=GN.cs) (dec:=GN.of) (l:=O.Kids) (k:=.i64) (n:=Y) (sv:=.p (.sl 5 (mI O.Kids))) GN.of_cs rfl Qc Qc Qc Qc Qc) (fun x4=>xR 3 (xE (Qk ⟨Qil G J Z O Y,QdL x4 U J G⟩ (sS (Qf Qd ⟨[(4, .tsl 2 (XM G) 68),(5, .tsl 2 (Ue J) 58),(6, .mv 17),(7,I Z),qq 9,(19, .p (.sl 5 (mI O.Kids))),(20,I (Qb (mI O.Kids))),(21,I Y),(27,B (!Qr x4.N 7))],QdL x4 U J G⟩ (sC (!Qr x4.N 7) (Qq (ZR (QL (Qk ⟨QdJ G J Z O Y,QdK U J G⟩ (sL Qd (KP (G,J,Z,wi (Y+1),U))))))) (sK (Qk ⟨Qil G J Z O Y,QdL x4 U J G⟩ (Qf Qd ⟨[(4, .tsl 2 (XM G) 68),(5, .tsl 2 (Ue J) 58),(6, .mv 17),(7,I Z),qq 9,(10,zS),(19, .p (.sl 5 (mI O.Kids))),(20,I (Qb (mI O.Kids))),(21,I Y)],QdL x4 U J G⟩ (Qf Qd ⟨[(4, .tsl 2 (XM G) 68),(5, .tsl 2 (Ue J) 58),(6, .mv 17),(7,I Z),qq 9,(10,zS),qq 11,(19, .p (.sl 5 (mI O.Kids))),(20,I (Qb (mI O.Kids))),(21,I Y)],nH x4 0 0 U J G⟩ (KI (fun (aa,ab,ae)=>⟨Qgx G J Z aa O Y,nH x4 ab ae U J G⟩:((List Q3) × Int × Int)→St) ?_ ?_)))))))))))))))))) (Qq (ZR (Yp (QL (QS (G,J))))))))
 ·refine sB (sS (sG (xR 3 ?_)));refine zL (QaF (kt:=9) (e:=4) (ke:=TM) (ve:=TN) (eq:=YZ) (b:=17) (m:=U) (k:=x4.Name) (z0:=false) rfl Qc Qc Qc Qc Qc QE (fun _ _=>uy rfl _ _) Qc) ?_;refine xR 1 (xE (Qk ⟨[(4, .tsl 2 (XM G) 68),(5, .tsl 2 (Ue J) 58),(6, .mv 17),(7,I Z),qq 9,(10,zS),qq 11,(19, .p (.sl 5 (mI O.Kids))),(20,I (Qb (mI O.Kids))),(21,I Y),(33,B (CZ YZ x4.Name false U))],nH x4 0 0 U J G⟩ (sC (CZ YZ x4.Name false U) (sL Qd (QR (Qao ([],5,x4.At) ⟨[4,5,6,7,9,10,11,19,20,21],[9,11,17,58,68],[(10, .sl 7)],[]⟩ Qc))) (Qf Qd ⟨[(4, .tsl 2 (XM G) 68),(5, .tsl 2 (Ue J) 58),(6, .mv 17),(7,I Z),qq 9,(10,zS),qq 11,(19, .p (.sl 5 (mI O.Kids))),(20,I (Qb (mI O.Kids))),(21,I Y),(41,B (leI 8 Z))],nH x4 0 0 U J G⟩ (sC (leI 8 Z) (sL Qd (QR (Qao ([],2,x4.At) ⟨[4,5,6,7,9,10,11,19,20,21],[9,11,17,58,68],[(10, .sl 7)],[]⟩ Qc))) (sG (xR 1 ?_)))))));refine xC [] (Io n x4) QE (fun r6=>?_);exact xR 5 (xE (QR (QS (r6.1,r6.2.Err,r6.2.At))))
 rintro ⟨aa,ab,ae⟩;refine sS (sG (xR 3 ?_));refine zL (QaG (kt:=9) (e:=4) (ke:=TM) (ve:=TN) (eq:=YZ) (b:=17) (m:=U) (k:=x4.Name) (v:=true) rfl Qc Qc Qc Qc Qc Qc QE (fun _ _=>uy rfl _ _)) ?_;refine xE (Qk ⟨Qgx G J Z aa O Y,nH x4 ab ae (FD YZ x4.Name true U) J G⟩ (Qf Qd ⟨Qgx G J (wi (Z+1)) aa O Y,nH x4 ab ae (FD YZ x4.Name true U) J G⟩ (KI (fun j7=>⟨Qim G j7 (wi (Z+1)) aa O Y,Qgy x4 (FD YZ x4.Name true U) j7 G⟩:(List ZH)→St) (Qf Qd ⟨[(4, .tsl 2 (XM G) 68),(5, .tsl 2 (Ue J) 58),(6, .mv 17),(7,I (wi (Z+1))),qq 9,(10, .p (.sl 7 (YX aa))),qq 11,(19, .p (.sl 5 (mI O.Kids))),(20,I (Qb (mI O.Kids))),(21,I Y),(54,B (!Qr ab 0))],nH x4 ab ae (FD YZ x4.Name true U) J G⟩ (sC (!Qr ab 0) (sG (xR 3 (xF (YV (e:=81) (S:=2) (by_:=16) (enc:=ZH.cs) (tk:=58) (l:=J) (l2:=[(⟨ab,ae⟩:ZH)]) (xv:=.tsl 2 (Ue [(⟨ab,ae⟩:ZH)]) 57) rfl Qc Qc rfl Qc Qc Qc rfl Qc) (xR 1 (xE (QS (J++[(⟨ab,ae⟩:ZH)]))))))) (sK (QS J)))) ?_)));rintro j7;exact sS (Qf Qd ⟨[(4, .tsl 2 (XM G) 68),(5, .tsl 2 (Ue j7) 58),(6, .mv 17),(7,I (wi (Z+1))),qq 9,(10, .p (.sl 7 (YX aa))),(19, .p (.sl 5 (mI O.Kids))),(20,I (Qb (mI O.Kids))),(21,I Y),(61,B (Qr (Qb (Ue j7)) 20))],Qgy x4 (FD YZ x4.Name true U) j7 G⟩ (sC (Qr (Qb (Ue j7)) 20) (Qq (ZR (vR rfl (ZR (Yp (QL (QS (G,j7)))))))) (sK (Qk ⟨Qim G j7 (wi (Z+1)) aa O Y,Qgy x4 (FD YZ x4.Name true U) j7 G⟩ (sG (xR 6 (xF (YV (e:=59) (S:=2) (by_:=40) (enc:=K5.cs) (tk:=68) (l:=G) (l2:=[(⟨x4.Name,aa⟩:K5)]) (xv:=.tsl 2 (XM [(⟨x4.Name,aa⟩:K5)]) 67) rfl Qc Qc rfl Qc Qc Qc rfl Qc) (xR 1 (xE (QR (Qk ⟨QdJ (G++[(⟨x4.Name,aa⟩:K5)]) j7 (wi (Z+1)) O Y,[(17, .mp (qI TM TN (FD YZ x4.Name true U))),(58,wF j7),(68,(wK (G++[(⟨x4.Name,aa⟩:K5)])))]⟩ (sL Qd (KP (G++[(⟨x4.Name,aa⟩:K5)],j7,wi (Z+1),wi (Y+1),FD YZ x4.Name true U))))))))))))))
def Jy (n:Nat) (U:K5) (O:(Int × Int)→Option Bool) (J:Int) (G:Int):Option Bool :=
 cond (Qp G (Qb (List.map Q3.cs U.Articles)))
  ((QY U.Articles G).bind fun Y =>
  (Kn n Y).bind fun Z =>
  cond (!Z)
   (some false)
   (cond (Qr Y.Kind 6)
    (O (wi (J+1),wi (G+1)))
    (O (J,wi (G+1)))))
  (some (leI J 1))
def UI (n:Nat) (J:K5):Option Bool :=
 ((WI n (⟨1,[],0,0,[GN.cs (⟨2,J.Name,3,0,[]⟩:GN)]⟩:GN)).bind fun Z =>
 cond (!Z)
  (some true)
  (some (Qp 12 (Qb (List.map Q3.cs J.Articles))))).bind fun Y =>
 cond Y
  (some false)
  (Qo (fun G (U,O)=>Jy n J G U O) n (0,0))
def QdM:=fun G=>([(1, .box 59 (Yx (K5.cs G)))]:List (Nat × Blk))
def Qa5:=fun O G J=>([(4,I O),(22, .p (.sl 7 (List.map Q3.cs (K5.Articles G)))),(23,I (Qb (List.map Q3.cs (K5.Articles G)))),(24,I J)]:List (Nat × AV))
def Qin:=fun O G J=>([(4,I O),(6, .ptr 6 0),(22, .p (.sl 7 (List.map Q3.cs (K5.Articles G)))),(23,I (Qb (List.map Q3.cs (K5.Articles G)))),(24,I J)]:List (Nat × AV))
def Qgz:=fun G=>([(6, .box 183 (Yx (Q3.cs G)))]:List (Nat × Blk))
abbrev nI (x:K5):Go.Abs.Blk:=.box 59 (Yx (K5.cs x))
theorem TW (n:Nat) (G:K5):∀ r,UI n G=some r→QB Tryz.prog 44 [ag (K5.cs G)] (.ret (B r)):=by
 refine Qj Tryz.func44 rfl Tryz.ntmps44 rfl ?_;unfold UI;refine Qf Qd ⟨[qq 1],QdM G⟩ (sR Qd ⟨[1,3],[1,3],[],[(3,[.id, .id, .id, .id, .sl 5])]⟩ ⟨[qq 1,qq 3],[(1,nI G),(3,(bQ ⟨2,G.Name,3,0,[]⟩))]⟩ Qc (sS (KI (fun j1=>⟨[qq 1,(20,B j1)],QdM G⟩:Bool→St) ?_ ?_)))
 ·refine sG (xR 3 ?_);refine xC [.agg [.id, .id, .id, .id, .sl 5]] (TU n (⟨1,[],0,0,[GN.cs (⟨2,G.Name,3,0,[]⟩:GN)]⟩:GN)) QE (fun r2=>?_);exact xR 2 (xS (!r2) (fun Z=>xN (Qy Z) (xR 4 (xE (QS true)))) (fun Z=>xO (Qw Z) (xR 4 (xE (QS (Qp 12 (Qb (YX G.Articles))))))))
 rintro j1;refine sC j1 (Qf Qd ⟨[(2,B false)],[]⟩ (sT (QA (qR (.id))))) (sK (Qk ⟨[qq 1],QdM G⟩ (Qf Qd ⟨[qq 1,(4,I 0)],QdM G⟩ (sS (Qf Qd ⟨Qa5 0 G 0,[]⟩ (sB (QF (fun (O,J)=>⟨Qa5 O G J,[]⟩:(Int × Int)→St) (H5) ?_)))))));rintro U ⟨O,J⟩;show QO (Jy n G U O J) _ _ _ _ _ _;unfold Jy;refine Qf Qd ⟨[(4,I O),(22, .p (.sl 7 (YX G.Articles))),(23,I (Qb (YX G.Articles))),(24,I J),(25,B (Qp J (Qb (YX G.Articles))))],[]⟩ (sS (sC (Qp J (Qb (YX G.Articles))) (sK (Qk ⟨Qa5 O G J,[]⟩ (sS (sB (sS (sG (xG (Zx (e:=183) (S:=7) (enc:=Q3.cs) (l:=G.Articles) (k:=.i64) (n:=J) (sv:=.p (.sl 7 (YX G.Articles))) rfl Qc Qc Qc Qc Qc) (fun Y=>xR 3 (xE (Qk ⟨Qin O G J,Qgz Y⟩ (sS (sS (sG (xR 1 ?_)))))))))))))) (Qq (ZR (Yp (QL (Qk ⟨[(4,I O)],[]⟩ (Qf Qd ⟨[(2,B (leI O 1))],[]⟩ (sT (qR (.id)))))))))));refine xC [] (JM n Y) QE (fun r6=>?_);exact xR 1 (xE (Qk ⟨[(4,I O),qq 6,(22, .p (.sl 7 (YX G.Articles))),(23,I (Qb (YX G.Articles))),(24,I J),(30,B (!r6))],Qgz Y⟩ (sC (!r6) (Qf Qd ⟨[(2,B false)],[]⟩ (sT (QA (Q4 (QA (VX (Q4 (QA (qR (.id)))))))))) (sK (Qk ⟨Qin O G J,Qgz Y⟩ (Qf Qd ⟨[(4,I O),(22, .p (.sl 7 (YX G.Articles))),(23,I (Qb (YX G.Articles))),(24,I J),(33,B (Qr Y.Kind 6))],[]⟩ (sC (Qr Y.Kind 6) (sL Qd (QR (Qk ⟨Qa5 (wi (O+1)) G J,[]⟩ (sL Qd (KP (wi (O+1),wi (J+1))))))) (sK (QR (Qk ⟨Qa5 O G J,[]⟩ (sL Qd (KP (O,wi (J+1))))))))))))))
def YC (n:Nat) (O:Int) (J:Int) (G:Int):Option Bool :=
 cond (leI J O)
  (some (leI O G))
  (some false)
theorem Jz (n:Nat) (O:Int) (J:Int) (G:Int):∀ r,YC n O J G=some r→QB Tryz.prog 93 [I O,I J,I G] (.ret (B r)):=by
 refine Qj Tryz.func93 rfl Tryz.ntmps93 rfl ?_;unfold YC;exact Qf Qd (Qgs O J G) (sS (sG (xR 4 (xS (leI J O) (fun U=>xO (Qv U) (xR 4 (xE (Qk ⟨[(6,B (leI O G))],[]⟩ (sT (qR (.id))))))) (fun U=>xN (Qx U) (xR 4 (xE (Qk ⟨[(6,B false)],[]⟩ (sT (qR (.id)))))))))))
def WJ (n:Nat) (G:XC):Option Int :=
 some G.At
abbrev bR (x:XC):Go.Abs.Blk:=.box 199 (Yx (XC.cs x))
theorem UJ (n:Nat) (G:XC):∀ r,WJ n G=some r→QB Tryz.prog 162 [ag (XC.cs G)] (.ret (I r)):=by
 refine Qj Tryz.func162 rfl Tryz.ntmps162 rfl ?_;unfold WJ;exact Qf Qd ⟨[qq 1],[(1,bR G)]⟩ (Qf Qd ⟨[(2,I G.At)],[]⟩ (sT (qR (.id))))
def KY (n:Nat) (G:List XC) (O:Int) (U:(Int × Int)→Option Bool) (Y:Int) (J:Int):Option Bool :=
 cond (Qp J (Qb (List.map XC.cs G)))
  ((QY G J).bind fun Z =>
  (WJ n Z).bind fun r3 =>
  (cond (leI r3 Y)
   (some true)
   (some (Qp O r3))).bind fun j4 =>
  cond j4
   (some false)
   ((WJ n Z).bind fun r6 =>
   U (r6,wi (J+1))))
  (some true)
def Wy (n:Nat) (G:List XC) (J:Int):Option Bool :=
 Qo (fun O (Y,U)=>KY n G J O Y U) n ((-1),0)
def QdN:=fun U O G J=>([(1,I U),(2, .p (.val (.func (.func 162) #[] #[]))),(7,I O),(11, .p (.sl 2 (List.map XC.cs G))),(12,I (Qb (List.map XC.cs G))),(13,I J)]:List (Nat × AV))
def QdO:=fun G=>([(9, .box 199 (Yx (XC.cs G)))]:List (Nat × Blk))
theorem NT (n:Nat) (G:List XC) (J:Int):∀ r,Wy n G J=some r→QB Tryz.prog 95 [.p (.sl 2 (Ba G)),I J, .p (.val (.func (.func 162) #[] #[]))] (.ret (B r)):=by
 refine Qj Tryz.func95 rfl Tryz.ntmps95 rfl ?_;unfold Wy;refine Qf Qd ⟨[(0, .p (.sl 2 (Ba G))),(1,I J),(2, .p (.val (.func (.func 162) #[] #[])))],[]⟩ (Qf Qd ⟨[(0, .p (.sl 2 (Ba G))),(1,I J),(2, .p (.val (.func (.func 162) #[] #[]))),(7,I (-1))],[]⟩ (sS (Qf Qd ⟨QdN J (-1) G 0,[]⟩ (sB (QF (fun (U,O)=>⟨QdN J U G O,[]⟩:(Int × Int)→St) (H5) ?_)))));rintro Y ⟨U,O⟩;show QO (KY n G J Y U O) _ _ _ _ _ _;unfold KY;refine Qf Qd ⟨[(1,I J),(2, .p (.val (.func (.func 162) #[] #[]))),(7,I U),(11, .p (.sl 2 (Ba G))),(12,I (Qb (Ba G))),(13,I O),(14,B (Qp O (Qb (Ba G))))],[]⟩ (sS (sC (Qp O (Qb (Ba G))) (sK (Qk ⟨QdN J U G O,[]⟩ (sS (sB (sS (sG (xG (Zx (e:=199) (S:=2) (enc:=XC.cs) (l:=G) (k:=.i64) (n:=O) (sv:=.p (.sl 2 (Ba G))) rfl Qc Qc Qc Qc Qc) (fun Z=>xR 3 (xE (Qk ⟨[(1,I J),(2, .p (.val (.func (.func 162) #[] #[]))),(7,I U),qq 9,(11, .p (.sl 2 (Ba G))),(12,I (Qb (Ba G))),(13,I O)],QdO Z⟩ (sS (sS (sG (xR 2 ?_)))))))))))))) (Qq (ZR (Yp (QL (Qk ⟨[],[]⟩ (Qf Qd ⟨[(6,B true)],[]⟩ (sT (qR (.id)))))))))));refine xC [] (UJ n Z) QE (fun r3=>?_);refine xR 1 (xE (Qk ⟨[(1,I J),(2, .p (.val (.func (.func 162) #[] #[]))),(7,I U),qq 9,(10,I r3),(11, .p (.sl 2 (Ba G))),(12,I (Qb (Ba G))),(13,I O)],QdO Z⟩ (KI (fun j4=>⟨[(1,I J),(2, .p (.val (.func (.func 162) #[] #[]))),qq 9,(11, .p (.sl 2 (Ba G))),(12,I (Qb (Ba G))),(13,I O),(27,B j4)],QdO Z⟩:Bool→St) (sG (xR 4 (xS (leI r3 U) (fun h5=>xN (Qy h5) (xR 3 (xE (QS true)))) (fun h5=>xO (Qw h5) (xR 3 (xE (QS (Qp J r3)))))))) ?_)));rintro j4;refine sC j4 (Qf Qd ⟨[(6,B false)],[]⟩ (sT (QA (Q4 (QA (VX (Q4 (QA (qR (.id)))))))))) (sK (Qk ⟨[(1,I J),(2, .p (.val (.func (.func 162) #[] #[]))),qq 9,(11, .p (.sl 2 (Ba G))),(12,I (Qb (Ba G))),(13,I O)],QdO Z⟩ (sG (xR 2 ?_))));refine xC [] (UJ n Z) QE (fun r6=>?_);exact xR 1 (xE (QR (Qk ⟨QdN J r6 G O,[]⟩ (sL Qd (KP (r6,wi (O+1)))))))
def WK (n:Nat) (G:Int):Option Int :=
 some G
theorem UK (n:Nat) (G:Int):∀ r,WK n G=some r→QB Tryz.prog 163 [I G] (.ret (I r)):=by
 refine Qj Tryz.func163 rfl Tryz.ntmps163 rfl ?_;unfold WK;exact Qf Qd ⟨[(0,I G)],[]⟩ (Qf Qd ⟨[(2,I G)],[]⟩ (sT (qR (.id))))
def XG (n:Nat) (G:List Int) (O:Int) (U:(Int × Int)→Option Bool) (Y:Int) (J:Int):Option Bool :=
 cond (Qp J (Qb (List.map ci G)))
  ((QY G J).bind fun Z =>
  (WK n Z).bind fun r3 =>
  (cond (leI r3 Y)
   (some true)
   (some (Qp O r3))).bind fun j4 =>
  cond j4
   (some false)
   ((WK n Z).bind fun r6 =>
   U (r6,wi (J+1))))
  (some true)
def Bf (n:Nat) (G:List Int) (J:Int):Option Bool :=
 Qo (fun O (Y,U)=>XG n G J O Y U) n ((-1),0)
def QdP:=fun U O G J=>([(1,I U),(2, .p (.val (.func (.func 163) #[] #[]))),(7,I O),(11, .p (.sl 1 (List.map ci G))),(12,I (Qb (List.map ci G))),(13,I J)]:List (Nat × AV))
theorem uM (n:Nat) (G:List Int) (J:Int):∀ r,Bf n G J=some r→QB Tryz.prog 96 [.p (.sl 1 (List.map ci G)),I J, .p (.val (.func (.func 163) #[] #[]))] (.ret (B r)):=by
 refine Qj Tryz.func96 rfl Tryz.ntmps96 rfl ?_;unfold Bf;refine Qf Qd ⟨[(0, .p (.sl 1 (List.map ci G))),(1,I J),(2, .p (.val (.func (.func 163) #[] #[])))],[]⟩ (Qf Qd ⟨[(0, .p (.sl 1 (List.map ci G))),(1,I J),(2, .p (.val (.func (.func 163) #[] #[]))),(7,I (-1))],[]⟩ (sS (Qf Qd ⟨QdP J (-1) G 0,[]⟩ (sB (QF (fun (U,O)=>⟨QdP J U G O,[]⟩:(Int × Int)→St) (H5) ?_)))));rintro Y ⟨U,O⟩;show QO (XG n G J Y U O) _ _ _ _ _ _;unfold XG;refine Qf Qd ⟨[(1,I J),(2, .p (.val (.func (.func 163) #[] #[]))),(7,I U),(11, .p (.sl 1 (List.map ci G))),(12,I (Qb (List.map ci G))),(13,I O),(14,B (Qp O (Qb (List.map ci G))))],[]⟩ (sS (sC (Qp O (Qb (List.map ci G))) (sK (Qk ⟨QdP J U G O,[]⟩ (sS (sB (sS (sG (xG (Zx (e:=3) (S:=1) (enc:=ci) (l:=G) (k:=.i64) (n:=O) (sv:=.p (.sl 1 (List.map ci G))) rfl Qc Qc Qc Qc Qc) (fun Z=>xR 2 (xE (Qk ⟨[(1,I J),(2, .p (.val (.func (.func 163) #[] #[]))),(7,I U),(9,I Z),(11, .p (.sl 1 (List.map ci G))),(12,I (Qb (List.map ci G))),(13,I O)],[]⟩ (sS (sS (sG (xR 2 ?_)))))))))))))) (Qq (ZR (Yp (QL (Qk ⟨[],[]⟩ (Qf Qd ⟨[(6,B true)],[]⟩ (sT (qR (.id)))))))))));refine xC [] (UK n Z) QE (fun r3=>?_);refine xR 1 (xE (Qk ⟨[(1,I J),(2, .p (.val (.func (.func 163) #[] #[]))),(7,I U),(9,I Z),(10,I r3),(11, .p (.sl 1 (List.map ci G))),(12,I (Qb (List.map ci G))),(13,I O)],[]⟩ (KI (fun j4=>⟨[(1,I J),(2, .p (.val (.func (.func 163) #[] #[]))),(9,I Z),(11, .p (.sl 1 (List.map ci G))),(12,I (Qb (List.map ci G))),(13,I O),(27,B j4)],[]⟩:Bool→St) (sG (xR 4 (xS (leI r3 U) (fun h5=>xN (Qy h5) (xR 3 (xE (QS true)))) (fun h5=>xO (Qw h5) (xR 3 (xE (QS (Qp J r3)))))))) ?_)));rintro j4;refine sC j4 (Qf Qd ⟨[(6,B false)],[]⟩ (sT (QA (Q4 (QA (VX (Q4 (QA (qR (.id)))))))))) (sK (Qk ⟨[(1,I J),(2, .p (.val (.func (.func 163) #[] #[]))),(9,I Z),(11, .p (.sl 1 (List.map ci G))),(12,I (Qb (List.map ci G))),(13,I O)],[]⟩ (sG (xR 2 ?_))));refine xC [] (UK n Z) QE (fun r6=>?_);exact xR 1 (xE (QR (Qk ⟨QdP J r6 G O,[]⟩ (sL Qd (KP (r6,wi (O+1)))))))
def Y3 (n:Nat) (G:Kj):Option Bool :=
 (Wy n G.Changes 52560000).bind fun J =>
 cond J
  ((Bf n G.Holidays 36500).bind fun O =>
  some O)
  (some false)
def Yu (n:Nat) (G:Kj) (J:Int→Option Bool) (O:Int):Option Bool :=
 cond (Qp O (Qb (List.map XC.cs G.Changes)))
  ((QY G.Changes O).bind fun U =>
  (YC n U.Offset (-1440) 1440).bind fun Y =>
  cond (!Y)
   (some false)
   (J (wi (O+1))))
  (Y3 n G)
def Yz (n:Nat) (G:Kj):Option Bool :=
 (cond (Qp 16 (Qb (List.map XC.cs G.Changes)))
  (some true)
  (cond (Qp 32 (Qb (List.map ci G.Holidays)))
   (some true)
   ((YC n G.Offset (-1440) 1440).bind fun U =>
   some (!U)))).bind fun Y =>
 cond Y
  (some false)
  (Qo (fun J O=>Yu n G J O) n 0)
def Ip:=fun G=>([(1, .box 52 (Yx (Kj.cs G)))]:List (Nat × Blk))
def QgA:List (Nat × AV):=[(0, .p (.val (.func (.func 162) #[] #[]))),(1, .p (.val (.func (.func 163) #[] #[])))]
def QdQ:=fun G J=>([(1, .ptr 1 0),(24, .p (.sl 2 (List.map XC.cs (Kj.Changes G)))),(25,I (Qb (List.map XC.cs (Kj.Changes G)))),(26,I J)]:List (Nat × AV))
abbrev qX (x:Kj):Go.Abs.Blk:=.box 52 (Yx (Kj.cs x))
theorem Wz (n:Nat) (G:Kj):∀ r,Yz n G=some r→QB Tryz.prog 45 [ag (Kj.cs G)] (.ret (B r)):=by
 refine Qj Tryz.func45 rfl Tryz.ntmps45 rfl ?_;unfold Yz;refine Qf Qd ⟨[qq 1],Ip G⟩ (sS (KI (fun j1=>⟨[qq 1,(22,B j1)],Ip G⟩:Bool→St) ?_ ?_))
 ·refine sG (xR 5 (xS (Qp 16 (Qb (Ba G.Changes))) (fun Z=>xN (Qy Z) (xR 10 (xE (QS true)))) (fun Z=>xO (Qw Z) (xR 5 (xS (Qp 32 (Qb (List.map ci G.Holidays))) (fun h3=>xN (Qy h3) (xR 4 (xE (QS true)))) (fun h3=>xO (Qw h3) (xR 1 ?_)))))));refine xC [] (Jz n G.Offset (-1440) 1440) QE (fun r4=>?_);exact xR 2 (xE (QS (!r4)))
 rintro j1;refine sC j1 (Qf Qd ⟨[(2,B false)],[]⟩ (sT (QA (qR (.id))))) (sK (Qk ⟨[qq 1],Ip G⟩ (K4 (fun _=>⟨[qq 1],Ip G⟩:Unit→St) (fun _=>Y3 n G) ?_ ?_)))
 ·rintro _;show QO (Y3 n G) _ _ _ _ _ _;unfold Y3;refine sS (sG (Gn [] [] [] [] [] Tryz.func94 rfl Tryz.ntmps94 rfl (Qf Qd ⟨[],[]⟩ (Qf Qd ⟨QgA,[]⟩ (sT (QC (.id) [] [] (.tup [.p (.val (.func (.func 162) #[] #[])), .p (.val (.func (.func 163) #[] #[]))]) (VZ (xR 5 (xE (Qk ⟨[qq 1,(5, .p (.val (.func (.func 162) #[] #[]))),(6, .p (.val (.func (.func 163) #[] #[])))],Ip G⟩ (sS (sG (xR 3 ?_)))))))))))));refine xC [] (NT n G.Changes 52560000) QE (fun r6=>?_);refine xR 1 (xS r6 (fun h7=>?_) (fun h7=>?_))
  ·refine xO (Qv h7) (xR 2 ?_);refine xC [] (uM n G.Holidays 36500) QE (fun r8=>?_);exact xR 2 (xE (Qk ⟨[(2,B r8)],[]⟩ (sT (qR (.id)))))
  exact xN (Qx h7) (xR 5 (xE (Qk ⟨[(2,B false)],[]⟩ (sT (qR (.id))))))
 refine Qf Qd ⟨QdQ G 0,Ip G⟩ (sB (QF (fun J=>⟨QdQ G J,Ip G⟩:Int→St) (H5) ?_));rintro O J;show QO (Yu n G O J) _ _ _ _ _ _;unfold Yu;refine Qf Qd ⟨[qq 1,(24, .p (.sl 2 (Ba G.Changes))),(25,I (Qb (Ba G.Changes))),(26,I J),(27,B (Qp J (Qb (Ba G.Changes))))],Ip G⟩ (sS (sC (Qp J (Qb (Ba G.Changes))) (sK (Qk ⟨QdQ G J,Ip G⟩ (sS (sB (sS (sG (xG (Zx (e:=199) (S:=2) (enc:=XC.cs) (l:=G.Changes) (k:=.i64) (n:=J) (sv:=.p (.sl 2 (Ba G.Changes))) rfl Qc Qc Qc Qc Qc) (fun U=>xR 3 (xE (Qk ⟨[qq 1,qq 4,(24, .p (.sl 2 (Ba G.Changes))),(25,I (Qb (Ba G.Changes))),(26,I J)],[(1,qX G),(4,bR U)]⟩ (sS (sG (xR 2 ?_))))))))))))) (Qq (ZR (Yp (QL (KP (k:=fun _=>Y3 n G) ())))))));refine xC [] (Jz n U.Offset (-1440) 1440) QE (fun Y=>?_);exact xR 1 (xE (Qk ⟨[qq 1,(24, .p (.sl 2 (Ba G.Changes))),(25,I (Qb (Ba G.Changes))),(26,I J),(33,B (!Y))],Ip G⟩ (sC (!Y) (Qf Qd ⟨[(2,B false)],[]⟩ (sT (Q4 (QA (VX (Q4 (VX (qR (.id))))))))) (sK (QR (Qk ⟨QdQ G J,Ip G⟩ (sL Qd (KP (wi (J+1))))))))))
def Y4 (O:YG) (J:(Int × Int)→Option Bool) (Y:Int) (G:Int):Option Bool :=
 cond (Qp G (Qb (List.map Ho.cs O.Slices)))
  ((QY O.Slices G).bind fun U =>
  (cond (leI U.Minute Y)
   (some true)
   (cond (leI O.End U.Minute)
    (some true)
    (cond (Qp U.Energy 0)
     (some true)
     (some (Qp 10000 U.Energy))))).bind fun Z =>
  cond Z
   (some false)
   (J (U.Minute,wi (G+1))))
  (some true)
def JA (n:Nat) (G:YG):Option Bool :=
 (cond (Qp G.From 0)
  (some true)
  (cond (leI G.To G.From)
   (some true)
   (cond (Qp 2880 (wi (G.To - G.From)))
    (some true)
    (some (Qp 52560000 G.To))))).bind fun Z =>
 cond Z
  (some false)
  ((cond (Qp G.End G.From)
   (some true)
   (cond (Qp G.To G.End)
    (some true)
    (some (Qp 48 (Qb (List.map Ho.cs G.Slices)))))).bind fun Y =>
  cond Y
   (some false)
   (Qo (fun J (U,O)=>Y4 G J U O) n (wi (G.From - 1),0)))
def qY:=fun G=>([(1, .box 55 (Yx (YG.cs G)))]:List (Nat × Blk))
def QdR:=fun O G J=>([(1, .ptr 1 0),(3,I O),(51, .p (.sl 2 (List.map Ho.cs (YG.Slices G)))),(52,I (Qb (List.map Ho.cs (YG.Slices G)))),(53,I J)]:List (Nat × AV))
def QgB:=fun J G=>([(1, .box 55 (Yx (YG.cs J))),(5, .box 207 (Yx (Ho.cs G)))]:List (Nat × Blk))
theorem Dm (n:Nat) (G:YG):∀ r,JA n G=some r→QB Tryz.prog 46 [ag (YG.cs G)] (.ret (B r)):=by
 refine Qj Tryz.func46 rfl Tryz.ntmps46 rfl ?_;unfold JA;refine Qf Qd ⟨[qq 1],qY G⟩ (sS (KI (fun j1=>⟨[qq 1,(28,B j1)],qY G⟩:Bool→St) (sG (xR 4 (xS (Qp G.From 0) (fun h2=>xN (Qy h2) (xR 18 (xE (QS true)))) (fun h2=>xO (Qw h2) (xR 6 (xS (leI G.To G.From) (fun h3=>xN (Qy h3) (xR 11 (xE (QS true)))) (fun h3=>xO (Qw h3) (xR 7 (xS (Qp 2880 (wi (G.To - G.From))) (fun h4=>xN (Qy h4) (xR 3 (xE (QS true)))) (fun h4=>xO (Qw h4) (xR 3 (xE (QS (Qp 52560000 G.To)))))))))))))) ?_));rintro j1;refine sC j1 (Qf Qd ⟨[(2,B false)],[]⟩ (sT (QA (qR (.id))))) (sK (Qk ⟨[qq 1],qY G⟩ (sS (KI (fun j5=>⟨[qq 1,(46,B j5)],qY G⟩:Bool→St) (sG (xR 6 (xS (Qp G.End G.From) (fun h6=>xN (Qy h6) (xR 11 (xE (QS true)))) (fun h6=>xO (Qw h6) (xR 6 (xS (Qp G.To G.End) (fun h7=>xN (Qy h7) (xR 4 (xE (QS true)))) (fun h7=>xO (Qw h7) (xR 4 (xE (QS (Qp 48 (Qb (M5 G.Slices))))))))))))) ?_))));rintro j5;refine sC j5 (Qf Qd ⟨[(2,B false)],[]⟩ (sT (QA (qR (.id))))) (sK (Qk ⟨[qq 1],qY G⟩ (Qf Qd ⟨[qq 1,(3,I (wi (G.From - 1)))],qY G⟩ (sS (Qf Qd ⟨QdR (wi (G.From - 1)) G 0,qY G⟩ (sB (QF (fun (O,J)=>⟨QdR O G J,qY G⟩:(Int × Int)→St) (H5) ?_)))))));rintro Y ⟨O,J⟩;show QO (Y4 G Y O J) _ _ _ _ _ _;unfold Y4;refine Qf Qd ⟨[qq 1,(3,I O),(51, .p (.sl 2 (M5 G.Slices))),(52,I (Qb (M5 G.Slices))),(53,I J),(54,B (Qp J (Qb (M5 G.Slices))))],qY G⟩ (sS (sC (Qp J (Qb (M5 G.Slices))) (sK (Qk ⟨QdR O G J,qY G⟩ (sS (sB (sS (sG (xG (Zx (e:=207) (S:=2) (enc:=Ho.cs) (l:=G.Slices) (k:=.i64) (n:=J) (sv:=.p (.sl 2 (M5 G.Slices))) rfl Qc Qc Qc Qc Qc) (fun U=>xR 3 (xE (Qk ⟨[qq 1,(3,I O),qq 5,(51, .p (.sl 2 (M5 G.Slices))),(52,I (Qb (M5 G.Slices))),(53,I J)],QgB G U⟩ (sS (KI (fun Z=>⟨[qq 1,qq 5,(51, .p (.sl 2 (M5 G.Slices))),(52,I (Qb (M5 G.Slices))),(53,I J),(77,B Z)],QgB G U⟩:Bool→St) ?_ ?_)))))))))))) (Qq (ZR (Yp (QL (Qk ⟨[],[]⟩ (Qf Qd ⟨[(2,B true)],[]⟩ (sT (qR (.id)))))))))));rotate_left
 ·rintro Z;exact sC Z (Qf Qd ⟨[(2,B false)],[]⟩ (sT (QA (Q4 (QA (VX (Q4 (QA (qR (.id)))))))))) (sK (Qk ⟨[qq 1,qq 5,(51, .p (.sl 2 (M5 G.Slices))),(52,I (Qb (M5 G.Slices))),(53,I J)],QgB G U⟩ (sL Qd (QR (Qk ⟨QdR U.Minute G J,qY G⟩ (sL Qd (KP (U.Minute,wi (J+1)))))))))
 exact sG (xR 5 (xS (leI U.Minute O) (fun ab=>xN (Qy ab) (xR 15 (xE (QS true)))) (fun ab=>xO (Qw ab) (xR 6 (xS (leI G.End U.Minute) (fun ac=>xN (Qy ac) (xR 8 (xE (QS true)))) (fun ac=>xO (Qw ac) (xR 4 (xS (Qp U.Energy 0) (fun aa=>xN (Qy aa) (xR 3 (xE (QS true)))) (fun aa=>xO (Qw aa) (xR 3 (xE (QS (Qp 10000 U.Energy)))))))))))))
def SV (n:Nat) (O:K5) (G:Kj) (J:YG):Option Bool :=
 (UI n O).bind fun r1 =>
 cond r1
  ((Yz n G).bind fun U =>
  cond U
   ((JA n J).bind fun Y =>
   some Y)
   (some false))
  (some false)
def Qio:List (Nat × AV):=[(3, .ptr 3 0),(4, .ptr 4 0),(5, .ptr 5 0)]
def Qip:=fun O G J=>([(3, .box 59 (Yx (K5.cs O))),(4, .box 52 (Yx (Kj.cs G))),(5, .box 55 (Yx (YG.cs J)))]:List (Nat × Blk))
theorem wL (n:Nat) (J:K5) (G:Kj) (O:YG):∀ r,SV n J G O=some r→QB Tryz.prog 87 [ag (K5.cs J),ag (Kj.cs G),ag (YG.cs O)] (.ret (B r)):=by
 refine Qj Tryz.func87 rfl Tryz.ntmps87 rfl ?_;unfold SV;refine Qf Qd ⟨Qio,Qip J G O⟩ (sS (sG (xR 1 ?_)));refine xC [] (TW n J) QE (fun r1=>?_);refine xR 1 (xS r1 (fun Y=>xO (Qv Y) ?_) (fun Y=>xN (Qx Y) (xR 7 (xE (Qk ⟨[(6,B false)],[]⟩ (sT (qR (.id))))))));refine xC [] (Wz n G) QE (fun r3=>?_);refine xR 2 (xS r3 (fun U=>?_) (fun U=>?_))
 ·refine xO (Qv U) ?_;refine xC [] (Dm n O) QE (fun Z=>?_);exact xR 2 (xE (Qk ⟨[(6,B Z)],[]⟩ (sT (qR (.id)))))
 exact xN (Qx U) (xR 3 (xE (Qk ⟨[(6,B false)],[]⟩ (sT (qR (.id))))))
def UL (Z:YG) (G:List Int) (O:(Int × Int)→Option Bool) (U:Int) (J:Int):Option Bool :=
 cond (Qp J (Qb (List.map ci G)))
  ((QY G J).bind fun Y =>
  (cond (leI Y U)
   (some true)
   (some (leI Z.To Y))).bind fun j3 =>
  cond j3
   (some false)
   (O (Y,wi (J+1))))
  (some true)
def LV (n:Nat) (Y:YG) (G:List Int):Option Bool :=
 cond (Qp 4 (Qb (List.map ci G)))
  (some false)
  (Qo (fun J (U,O)=>UL Y G J U O) n (Y.From,0))
def Qiq:=fun G=>([(1, .p (.sl 1 (List.map ci G))),(2, .ptr 2 0)]:List (Nat × AV))
def Iq:=fun G=>([(2, .box 55 (Yx (YG.cs G)))]:List (Nat × Blk))
def QgC:=fun O G J=>([(2, .ptr 2 0),(5,I O),(13, .p (.sl 1 (List.map ci G))),(14,I (Qb (List.map ci G))),(15,I J)]:List (Nat × AV))
theorem SX (n:Nat) (O:YG) (G:List Int):∀ r,LV n O G=some r→QB Tryz.prog 88 [ag (YG.cs O), .p (.sl 1 (List.map ci G))] (.ret (B r)):=by
 refine Qj Tryz.func88 rfl Tryz.ntmps88 rfl ?_;unfold LV;refine Qf Qd ⟨Qiq G,Iq O⟩ (sS (Qf Qd ⟨[(1, .p (.sl 1 (List.map ci G))),qq 2,(10,B (Qp 4 (Qb (List.map ci G))))],Iq O⟩ (sC (Qp 4 (Qb (List.map ci G))) (Qf Qd ⟨[(4,B false)],[]⟩ (sT (QA (qR (.id))))) (sK (Qk ⟨Qiq G,Iq O⟩ (Qf Qd ⟨[(1, .p (.sl 1 (List.map ci G))),qq 2,(5,I O.From)],Iq O⟩ (sS (Qf Qd ⟨[qq 2,(5,I O.From),(13, .p (.sl 1 (List.map ci G))),(14,I (Qb (List.map ci G))),(15,I 0)],Iq O⟩ (sB (QF (fun (U,J)=>⟨QgC U G J,Iq O⟩:(Int × Int)→St) (H5) ?_))))))))));rintro Z ⟨U,J⟩;show QO (UL O G Z U J) _ _ _ _ _ _;unfold UL;refine Qf Qd ⟨[qq 2,(5,I U),(13, .p (.sl 1 (List.map ci G))),(14,I (Qb (List.map ci G))),(15,I J),(16,B (Qp J (Qb (List.map ci G))))],Iq O⟩ (sS (sC (Qp J (Qb (List.map ci G))) (sK (Qk ⟨QgC U G J,Iq O⟩ (sS (sB (sS (sG (xG (Zx (e:=3) (S:=1) (enc:=ci) (l:=G) (k:=.i64) (n:=J) (sv:=.p (.sl 1 (List.map ci G))) rfl Qc Qc Qc Qc Qc) (fun Y=>xR 2 (xE (Qk ⟨[qq 2,(5,I U),(7,I Y),(13, .p (.sl 1 (List.map ci G))),(14,I (Qb (List.map ci G))),(15,I J)],Iq O⟩ (sS (KI (fun j3=>⟨[qq 2,(7,I Y),(13, .p (.sl 1 (List.map ci G))),(14,I (Qb (List.map ci G))),(15,I J),(27,B j3)],Iq O⟩:Bool→St) (sG (xR 4 (xS (leI Y U) (fun h4=>xN (Qy h4) (xR 4 (xE (QS true)))) (fun h4=>xO (Qw h4) (xR 4 (xE (QS (leI O.To Y)))))))) ?_)))))))))))) (Qq (ZR (Yp (QL (Qk ⟨[],[]⟩ (Qf Qd ⟨[(4,B true)],[]⟩ (sT (qR (.id)))))))))));rintro j3;exact sC j3 (Qf Qd ⟨[(4,B false)],[]⟩ (sT (QA (Q4 (QA (VX (Q4 (QA (qR (.id)))))))))) (sK (Qk ⟨[qq 2,(7,I Y),(13, .p (.sl 1 (List.map ci G))),(14,I (Qb (List.map ci G))),(15,I J)],Iq O⟩ (sL Qd (QR (Qk ⟨QgC Y G J,Iq O⟩ (sL Qd (KP (Y,wi (J+1)))))))))
def Bg (Z:YG) (G:Int) (Y:Int) (U:(Int × (List Ho))→Option YG) (O:Int) (J:List Ho):Option YG :=
 cond (Qp O (Qb (List.map Ho.cs Z.Slices)))
  ((QY Z.Slices O).bind fun x2 =>
  (cond (leI G x2.Minute)
   (some (Qp x2.Minute Y))
   (some false)).bind fun j3 =>
  cond j3
   (cond (QM (List.length (J++[x2])) 16) (
    U (wi (O+1),J++[x2])) none)
   (U (wi (O+1),J)))
  (some (⟨G,Y,F4 (Jb Z.End G) Y,J⟩:YG))
def qZ (n:Nat) (Z:YG) (G:Int) (U:Int):Option YG :=
 Qo (fun J (Y,O)=>Bg Z G U J Y O) n (0,[])
def q8:=fun O G J=>(.box 55 [I O,I G,I J, .p (.val (.slice none 0 0))]:Blk)
def QgD:=fun U O G J=>([(1,I U),(2,I O),(6, .ptr 6 0),(7, .ptr 7 0),(20, .p (.sl 2 (List.map Ho.cs (YG.Slices G)))),(21,I (Qb (List.map Ho.cs (YG.Slices G)))),(22,I J)]:List (Nat × AV))
def QgE:=fun U J O G=>(.box 55 [I U,I J,I O, .tsl 2 (List.map Ho.cs G) 40]:Blk)
def QgF:=fun G=>(.arr 207 2 (List.map Ho.cs G).length:Blk)
def QgG:=fun U J O G=>([(6,(q8 0 0 0)),(7,(QgE U J O G)),(40,(QgF G))]:List (Nat × Blk))
def QdS:=fun J G U O Z Y=>(⟨QgD J G U O,QgG J G Z Y⟩:St)
def Qir:=fun U J O G Y=>([(6,(q8 0 0 0)),(7,(QgE U J O G)),(9, .box 207 (Yx (Ho.cs Y))),(40,(QgF G))]:List (Nat × Blk))
abbrev NU (x:YG):Go.Abs.Blk:=.box 55 (Yx (YG.cs x))
theorem uN (n:Nat) (O:YG) (G:Int) (J:Int):∀ r,qZ n O G J=some r→QB Tryz.prog 89 [ag (YG.cs O),I G,I J] (.ret (ag (YG.cs r))):=by
 refine Qj Tryz.func89 rfl Tryz.ntmps89 rfl ?_;unfold qZ;refine Qf Qd ⟨[(1,I G),(2,I J),qq 3,qq 6],[(3,NU O),(6,(q8 0 0 0))]⟩ (Qf Qd ⟨[(1,I G),(2,I J),qq 3,qq 6,qq 7],[(3,NU O),(6,(q8 0 0 0)),(7,(q8 G J (F4 (Jb O.End G) J)))]⟩ (sS (Qf Qd ⟨QgD G J O 0,[(6,(q8 0 0 0)),(7,(q8 G J (F4 (Jb O.End G) J)))]⟩ (sB (NM ⟨QgD G J O 0,[(6,(q8 0 0 0)),(7,(q8 G J (F4 (Jb O.End G) J)))]⟩ (Kz (Yk 207 2 40 [] [(7,3)]) (QF (fun (Y,U)=>(QdS G J O Y (F4 (Jb O.End G) J) U):(Int × (List Ho))→St) (H5) ?_)))))));rintro aa ⟨Y,U⟩;show QO (Bg O G J aa Y U) _ _ _ _ _ _;unfold Bg;refine Qf Qd ⟨[(1,I G),(2,I J),qq 6,qq 7,(20, .p (.sl 2 (M5 O.Slices))),(21,I (Qb (M5 O.Slices))),(22,I Y),(23,B (Qp Y (Qb (M5 O.Slices))))],QgG G J (F4 (Jb O.End G) J) U⟩ (sS (sC (Qp Y (Qb (M5 O.Slices))) (sK (Qk (QdS G J O Y (F4 (Jb O.End G) J) U) (sS (sB (sS (sG (xG (Zx (e:=207) (S:=2) (enc:=Ho.cs) (l:=O.Slices) (k:=.i64) (n:=Y) (sv:=.p (.sl 2 (M5 O.Slices))) rfl Qc Qc Qc Qc Qc) (fun Z=>xR 3 (xE (Qk ⟨[(1,I G),(2,I J),qq 6,qq 7,qq 9,(20, .p (.sl 2 (M5 O.Slices))),(21,I (Qb (M5 O.Slices))),(22,I Y)],Qir G J (F4 (Jb O.End G) J) U Z⟩ (KI (fun j3=>⟨[(1,I G),(2,I J),qq 6,qq 7,qq 9,(20, .p (.sl 2 (M5 O.Slices))),(21,I (Qb (M5 O.Slices))),(22,I Y),(35,B j3)],Qir G J (F4 (Jb O.End G) J) U Z⟩:Bool→St) (sG (xR 5 (xS (leI G Z.Minute) (fun h4=>xO (Qv h4) (xR 4 (xE (QS (Qp Z.Minute J))))) (fun h4=>xN (Qx h4) (xR 4 (xE (QS false))))))) ?_))))))))))) (Qq (ZR (Yp (QL (Qk ⟨[qq 6,qq 7],QgG G J (F4 (Jb O.End G) J) U⟩ (Qf Qd ⟨[qq 6],[(6,(QgE G J (F4 (Jb O.End G) J) U)),(40,(QgF U))]⟩ (sT (qR (.agg [.id, .id, .id, .sl 2])))))))))));rintro j3;exact sC j3 (sG (xR 4 (xF (YV (e:=207) (S:=2) (by_:=16) (enc:=Ho.cs) (tk:=40) (l:=U) (l2:=[Z]) (xv:=.tsl 2 (M5 [Z]) 39) rfl Qc Qc rfl Qc Qc Qc rfl Qc) (xR 2 (xE (QR (Qk (QdS G J O Y (F4 (Jb O.End G) J) (U++[Z])) (sL Qd (KP (wi (Y+1),U++[Z])))))))))) (sK (QR (Qk (QdS G J O Y (F4 (Jb O.End G) J) U) (sL Qd (KP (wi (Y+1),U))))))
def U3 (n:Nat) (G:Int):Option Int :=
 some G
def MK:=fun G=>([(1001, .box 29 [I G])]:List (Nat × Blk))
def Qis:List (Nat × AV):=[(0, .p (.val (.nilIface))),(1, .ptr 1001 0),(6, .p (.val (.nilIface))),(7,B true)]
theorem RU (n:Nat) (G:Int):∀ r,U3 n G=some r→Kw Tryz.prog 43 [.p (.val (.nilIface)),L8] (Go.Abs.look [(1001, .box 29 [I G])]) (Ya (fun r:Int=>((.ret (.tup []),[(1001, .box 29 [I r])]):Zz × List (Nat × Blk))) r):=by
 refine Km (MK G) Tryz.func43 rfl Tryz.ntmps43 rfl ?_;unfold U3;exact sS (Qf Qd ⟨Qis,MK G⟩ (ZQ (sT (QA (Kr (.id) [1001] [])))))
def KQ (n:Nat) (Y:List XC) (O:Int) (U:(Int × Int)→Option Int) (G:Int) (J:Int):Option Int :=
 cond (Qp G J)
  ((QY Y (wi (G+(wi (Int.tdiv (wi ((wi (J - G))+1)) 2))))).bind fun Z =>
  (WJ n Z).bind fun r3 =>
  cond (leI r3 O)
   (U (wi (G+(wi (Int.tdiv (wi ((wi (J - G))+1)) 2))),J))
   (U (G,wi ((wi (G+(wi (Int.tdiv (wi ((wi (J - G))+1)) 2)))) - 1))))
  (some G)
def KE (n:Nat) (G:List XC) (J:Int):Option Int :=
 Qo (fun O (Y,U)=>KQ n G J O Y U) n ((-1),wi ((Qb (List.map XC.cs G)) - 1))
def QgH:=fun U J O G=>([(0, .p (.sl 2 (List.map XC.cs U))),(1,I J),(2, .p (.val (.func (.func 162) #[] #[]))),(6,I 0),(7,I O),(8,I G)]:List (Nat × AV))
theorem F6 (n:Nat) (J:List XC) (G:Int):∀ r,KE n J G=some r→QB Tryz.prog 230 [.p (.sl 2 (Ba J)),I G, .p (.val (.func (.func 162) #[] #[]))] (.ret (I r)):=by
 refine Qj Tryz.func230 rfl Tryz.ntmps230 rfl ?_;unfold KE;refine Qf Qd ⟨[(0, .p (.sl 2 (Ba J))),(1,I G),(2, .p (.val (.func (.func 162) #[] #[]))),(6,I 0)],[]⟩ (Qf Qd ⟨QgH J G (-1) (wi ((Qb (Ba J)) - 1)),[]⟩ (sS (sB (QF (fun (O,U)=>⟨QgH J G O U,[]⟩:(Int × Int)→St) (H5) ?_))));rintro Y ⟨O,U⟩;show QO (KQ n J G Y O U) _ _ _ _ _ _;unfold KQ;refine sS (Qf Qd ⟨[(0, .p (.sl 2 (Ba J))),(1,I G),(2, .p (.val (.func (.func 162) #[] #[]))),(6,I 0),(7,I O),(8,I U),(15,B (Qp O U))],[]⟩ (sC (Qp O U) (sK (Qk ⟨QgH J G O U,[]⟩ (sB (Qf Qd ⟨[(0, .p (.sl 2 (Ba J))),(1,I G),(2, .p (.val (.func (.func 162) #[] #[]))),(6,I 0),(7,I O),(8,I U),(9,I (wi (O+(wi (Int.tdiv (wi ((wi (U - O))+1)) 2)))))],[]⟩ (sS (sG (xR 3 (xG (Zx (e:=199) (S:=2) (enc:=XC.cs) (l:=J) (k:=.i64) (n:=wi (O+(wi (Int.tdiv (wi ((wi (U - O))+1)) 2)))) (sv:=.p (.sl 2 (Ba J))) rfl Qc Qc Qc Qc Qc) (fun x2=>xR 1 ?_))))))))) (Qq (ZR (Yp (QL (Qk ⟨[(6,I 0),(7,I O)],[]⟩ (Qf Qd ⟨[(6,I O)],[]⟩ (sT (qR (.id)))))))))));refine xC [] (UJ n x2) QE (fun Z=>?_);exact xR 2 (xE (Qk ⟨[(0, .p (.sl 2 (Ba J))),(1,I G),(2, .p (.val (.func (.func 162) #[] #[]))),(6,I 0),(7,I O),(8,I U),(9,I (wi (O+(wi (Int.tdiv (wi ((wi (U - O))+1)) 2))))),(30,B (leI Z G))],[]⟩ (sC (leI Z G) (sL Qd (QR (KP (wi (O+(wi (Int.tdiv (wi ((wi (U - O))+1)) 2))),U)))) (sL Qd (QR (KP (O,wi ((wi (O+(wi (Int.tdiv (wi ((wi (U - O))+1)) 2)))) - 1))))))))
def Vk (n:Nat) (J:Int) (G:Int):Option (Int × Int) :=
 cond (!Qr G 0) (
  cond (!Qr G 0) (
   cond (Qp (Int.tmod J G) 0)
    (some (wi ((wi (Int.tdiv J G)) - 1),wi ((Int.tmod J G)+G)))
    (some (wi (Int.tdiv J G),Int.tmod J G))) none) none
theorem Dn (n:Nat) (J:Int) (G:Int):∀ r,Vk n J G=some r→QB Tryz.prog 231 [I J,I G] (.ret (.tup [I r.1,I r.2])):=by
 refine Qj Tryz.func231 rfl Tryz.ntmps231 rfl ?_;unfold Vk;exact Qf Qd ⟨[(0,I J),(1,I G)],[]⟩ (sS (CQ Qd rfl (xR 2 (xF (vS (k:=.i64) (a:=J) (b:=G) rfl Qc Qc) (xR 2 (xF (QcM (k:=.i64) (a:=J) (b:=G) rfl Qc Qc) (xR 2 (BZ (Qk ⟨[(1,I G),(6,I (wi (Int.tdiv J G))),(7,I (Int.tmod J G))],[]⟩ (sS (Qf Qd ⟨[(1,I G),(6,I (wi (Int.tdiv J G))),(7,I (Int.tmod J G)),(15,B (Qp (Int.tmod J G) 0))],[]⟩ (sC (Qp (Int.tmod J G) 0) (sL Qd (Qk ⟨[(6,I (wi ((wi (Int.tdiv J G)) - 1))),(7,I (wi ((Int.tmod J G)+G)))],[]⟩ (Qf Qd ⟨[(4,I (wi ((wi (Int.tdiv J G)) - 1))),(5,I (wi ((Int.tmod J G)+G)))],[]⟩ (sT (qR (.id)))))) (sK (Qk ⟨[(6,I (wi (Int.tdiv J G))),(7,I (Int.tmod J G))],[]⟩ (Qf Qd ⟨[(4,I (wi (Int.tdiv J G))),(5,I (Int.tmod J G))],[]⟩ (sT (qR (.id))))))))))))))))))
def X6 (n:Nat) (J:Kj) (G:Int):Option (Int × Int × Int) :=
 ((Yz n J).bind fun r2 =>
 cond (!r2)
  (some true)
  ((YC n G 0 52560000).bind fun Z =>
  some (!Z))).bind fun j1 =>
 cond j1
  (some (0,0,1))
  (((KE n J.Changes G).bind fun O =>
  cond (leI 0 O)
   ((QY J.Changes O).bind fun Y =>
   some Y.Offset)
   (some J.Offset)).bind fun j5 =>
  (Vk n (wi (G+j5)) 1440).bind fun U =>
  some (U.1,U.2,0))
def Ir:=fun G=>([(2, .box 52 (Yx (Kj.cs G)))]:List (Nat × Blk))
theorem Iu (n:Nat) (J:Kj) (G:Int):∀ r,X6 n J G=some r→QB Tryz.prog 224 [ag (Kj.cs J),I G] (.ret (.tup [I r.1,I r.2.1,I r.2.2])):=by
 refine Qj Tryz.func224 rfl Tryz.ntmps224 rfl ?_;unfold X6;refine Qf Qd ⟨[(1,I G),qq 2,(6,I 0)],Ir J⟩ (sS (KI (fun j1=>⟨[(1,I G),qq 2,(6,I 0),(20,B j1)],Ir J⟩:Bool→St) ?_ ?_))
 ·refine sG (xR 1 ?_);refine xC [] (Wz n J) QE (fun r2=>?_);refine xR 2 (xS (!r2) (fun Z=>xN (Qy Z) (xR 3 (xE (QS true)))) (fun Z=>xO (Qw Z) ?_));refine xC [] (Jz n G 0 52560000) QE (fun r4=>?_);exact xR 2 (xE (QS (!r4)))
 rintro j1;refine sC j1 (Qf Qd ⟨[(4,I 0),(5,I 0),(6,I 1)],[]⟩ (sT (QA (qR (.id))))) (sK (Qk ⟨[(1,I G),qq 2,(6,I 0)],Ir J⟩ (Qf Qd ⟨[(1,I G),qq 2,(6,I 0),(7,I J.Offset)],Ir J⟩ (sS (sG (Gn [] [] [] [] [] Tryz.func94 rfl Tryz.ntmps94 rfl (Qf Qd ⟨[],[]⟩ (Qf Qd ⟨QgA,[]⟩ (sT (QC (.id) [] [] (.tup [.p (.val (.func (.func 162) #[] #[])), .p (.val (.func (.func 163) #[] #[]))]) (VZ (xR 5 (xE (Qk ⟨[(1,I G),qq 2,(6,I 0),(7,I J.Offset),(8, .p (.val (.func (.func 162) #[] #[])))],Ir J⟩ (KI (fun Y=>⟨[(1,I G),(6,I 0),(7,I Y)],[]⟩:Int→St) ?_ ?_)))))))))))))));rotate_left
 ·rintro Y;refine sS (sG (xR 3 ?_));refine xC [] (Dn n (wi (G+Y)) 1440) QE (fun U=>?_);exact xR 5 (xE (Qk ⟨[(6,I 0),(7,I Y),(11,I U.1),(12,I U.2)],[]⟩ (Qf Qd ⟨[(4,I U.1),(5,I U.2),(6,I 0)],[]⟩ (sT (qR (.id))))))
 refine sS (sG (xR 4 ?_));refine xC [] (F6 n J.Changes G) QE (fun O=>?_);exact xR 1 (xE (Qk ⟨[(1,I G),qq 2,(6,I 0),(7,I J.Offset),(10,I O)],Ir J⟩ (Qf Qd ⟨[(1,I G),qq 2,(6,I 0),(7,I J.Offset),(10,I O),(33,B (leI 0 O))],Ir J⟩ (sC (leI 0 O) (sG (xR 3 (xG (Zx (e:=199) (S:=2) (enc:=XC.cs) (l:=J.Changes) (k:=.i64) (n:=O) (sv:=.p (.sl 2 (Ba J.Changes))) rfl Qc Qc Qc Qc Qc) (fun x7=>xR 3 (xE (QS x7.Offset)))))) (sK (QS J.Offset))))))
def Ws (n:Nat) (Y:List Int) (O:Int) (U:(Int × Int)→Option Int) (G:Int) (J:Int):Option Int :=
 cond (Qp G J)
  ((QY Y (wi (G+(wi (Int.tdiv (wi ((wi (J - G))+1)) 2))))).bind fun Z =>
  (WK n Z).bind fun r3 =>
  cond (leI r3 O)
   (U (wi (G+(wi (Int.tdiv (wi ((wi (J - G))+1)) 2))),J))
   (U (G,wi ((wi (G+(wi (Int.tdiv (wi ((wi (J - G))+1)) 2)))) - 1))))
  (some G)
def WA (n:Nat) (G:List Int) (J:Int):Option Int :=
 Qo (fun O (Y,U)=>Ws n G J O Y U) n ((-1),wi ((Qb (List.map ci G)) - 1))
def QgI:=fun U J O G=>([(0, .p (.sl 1 (List.map ci U))),(1,I J),(2, .p (.val (.func (.func 163) #[] #[]))),(6,I 0),(7,I O),(8,I G)]:List (Nat × AV))
theorem NV (n:Nat) (J:List Int) (G:Int):∀ r,WA n J G=some r→QB Tryz.prog 232 [.p (.sl 1 (List.map ci J)),I G, .p (.val (.func (.func 163) #[] #[]))] (.ret (I r)):=by
 refine Qj Tryz.func232 rfl Tryz.ntmps232 rfl ?_;unfold WA;refine Qf Qd ⟨[(0, .p (.sl 1 (List.map ci J))),(1,I G),(2, .p (.val (.func (.func 163) #[] #[]))),(6,I 0)],[]⟩ (Qf Qd ⟨QgI J G (-1) (wi ((Qb (List.map ci J)) - 1)),[]⟩ (sS (sB (QF (fun (O,U)=>⟨QgI J G O U,[]⟩:(Int × Int)→St) (H5) ?_))));rintro Y ⟨O,U⟩;show QO (Ws n J G Y O U) _ _ _ _ _ _;unfold Ws;refine sS (Qf Qd ⟨[(0, .p (.sl 1 (List.map ci J))),(1,I G),(2, .p (.val (.func (.func 163) #[] #[]))),(6,I 0),(7,I O),(8,I U),(15,B (Qp O U))],[]⟩ (sC (Qp O U) (sK (Qk ⟨QgI J G O U,[]⟩ (sB (Qf Qd ⟨[(0, .p (.sl 1 (List.map ci J))),(1,I G),(2, .p (.val (.func (.func 163) #[] #[]))),(6,I 0),(7,I O),(8,I U),(9,I (wi (O+(wi (Int.tdiv (wi ((wi (U - O))+1)) 2)))))],[]⟩ (sS (sG (xR 3 (xG (Zx (e:=3) (S:=1) (enc:=ci) (l:=J) (k:=.i64) (n:=wi (O+(wi (Int.tdiv (wi ((wi (U - O))+1)) 2)))) (sv:=.p (.sl 1 (List.map ci J))) rfl Qc Qc Qc Qc Qc) (fun x2=>xR 1 ?_))))))))) (Qq (ZR (Yp (QL (Qk ⟨[(6,I 0),(7,I O)],[]⟩ (Qf Qd ⟨[(6,I O)],[]⟩ (sT (qR (.id)))))))))));refine xC [] (UK n x2) QE (fun Z=>?_);exact xR 2 (xE (Qk ⟨[(0, .p (.sl 1 (List.map ci J))),(1,I G),(2, .p (.val (.func (.func 163) #[] #[]))),(6,I 0),(7,I O),(8,I U),(9,I (wi (O+(wi (Int.tdiv (wi ((wi (U - O))+1)) 2))))),(30,B (leI Z G))],[]⟩ (sC (leI Z G) (sL Qd (QR (KP (wi (O+(wi (Int.tdiv (wi ((wi (U - O))+1)) 2))),U)))) (sL Qd (QR (KP (O,wi ((wi (O+(wi (Int.tdiv (wi ((wi (U - O))+1)) 2)))) - 1))))))))
def Lm (n:Nat):Option (Int × Int × Int × Int × Int × Int × Int) :=
 some (0,0,0,0,0,1,2)
def QdT:=fun O G U J x4 Y Z=>(.box 299 [I O,I G,I U,I J,I x4,I Y,I Z]:Blk)
theorem q9 (n:Nat):∀ r,Lm n=some r→QB Tryz.prog 233 [] (.ret (.agg [I r.1,I r.2.1,I r.2.2.1,I r.2.2.2.1,I r.2.2.2.2.1,I r.2.2.2.2.2.1,I r.2.2.2.2.2.2])):=by
 refine Qj Tryz.func233 rfl Tryz.ntmps233 rfl ?_;unfold Lm;exact Qf Qd ⟨[qq 0],[(0,(QdT 0 0 0 0 0 0 0))]⟩ (Qf Qd ⟨[qq 0],[(0,(QdT 0 0 0 0 0 1 2))]⟩ (sT (qR (.id))))
def Hw (n:Nat) (O:Kj) (G:Int):Option (Int × Int) :=
 ((Yz n O).bind fun r2 =>
 cond (!r2)
  (some true)
  ((YC n G (-1) 36501).bind fun r4 =>
  some (!r4))).bind fun j1 =>
 cond j1
  (some (0,1))
  ((WA n O.Holidays G).bind fun Z =>
  (cond (leI 0 Z)
   ((QY O.Holidays Z).bind fun x8 =>
   some (Qr x8 G))
   (some false)).bind fun j6 =>
  cond j6
   (some (2,0))
   ((Lm n).bind fun J =>
   (Vk n G 7).bind fun Y =>
   (QY [J.1,J.2.1,J.2.2.1,J.2.2.2.1,J.2.2.2.2.1,J.2.2.2.2.2.1,J.2.2.2.2.2.2] Y.2).bind fun U =>
   some (U,0)))
end Go.Proofs
