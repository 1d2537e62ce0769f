/-
  A part of the proof of a statement of the seat YtkhhdppjbakngaaGreatDoor.
-/
import Derived.Test.YtkhhdppjbakngaaGreatDoorTpr03
set_option linter.unusedVariables false
namespace Go.Proofs
open Go Go.Abs
set_option maxRecDepth 100000
def Gv.cs (x:Gv):List PV:=[VI x.article.Kind,VI x.article.Days,VI x.article.From,VI x.article.To,VI x.article.Price,VI x.article.Unit,VI x.article.Free,VI x.calendar.Offset, .sl 2 (List.map XN.cs x.calendar.Changes), .sl 1 (List.map ci x.calendar.Holidays),VI x.session.From,VI x.session.To,VI x.session.End, .sl 2 (List.map HZ.cs x.session.Slices)]
structure Qa where
 Tariff:Ky
 calendar:Kn
 from_:Int
 to_:Int
deriving DecidableEq
def Qa.cs (x:Qa):List PV:=[VS x.Tariff.Name, .sl 7 (List.map QT.cs x.Tariff.Articles),VI x.calendar.Offset, .sl 2 (List.map XN.cs x.calendar.Changes), .sl 1 (List.map ci x.calendar.Holidays),VI x.from_,VI x.to_]
structure DY where
 text:List UInt8
deriving DecidableEq
def Fu (n:Nat) (G:Int):Option Bool :=
 cond (Qp G 32)
  (some true)
  (cond (Qp G 9)
   (some true)
   (some (Qp G 10)))
theorem EI (n:Nat) (G:Int):∀ r,Fu n G=some r→QC Tryz.prog 54 [B8 G] (.ret (B r)):=by
 refine Qj Tryz.func54 rfl Tryz.ntmps54 rfl ?_;unfold Fu;exact Qf Qd ⟨[(0,B8 G)],[]⟩ (sS (sG (xR 3 (xS (Qp G 32) (fun O=>xN (Qy O) (xR 7 (xE (Ql ⟨[(2,B true)],[]⟩ (sT (qR (.id))))))) (fun O=>xO (Qw O) (xR 3 (xS (Qp G 9) (fun J=>xN (Qy J) (xR 3 (xE (Ql ⟨[(2,B true)],[]⟩ (sT (qR (.id))))))) (fun J=>xO (Qw J) (xR 3 (xE (Ql ⟨[(2,B (Qp G 10))],[]⟩ (sT (qR (.id))))))))))))))
def XO (n:Nat) (G:Int):Option Bool :=
 cond (leI 97 G)
  (some (leI G 122))
  (some false)
theorem BA (n:Nat) (G:Int):∀ r,XO n G=some r→QC Tryz.prog 112 [B8 G] (.ret (B r)):=by
 refine Qj Tryz.func112 rfl Tryz.ntmps112 rfl ?_;unfold XO;exact Qf Qd ⟨[(0,B8 G)],[]⟩ (sS (sG (xR 3 (xS (leI 97 G) (fun J=>xO (Qv J) (xR 3 (xE (Ql ⟨[(2,B (leI G 122))],[]⟩ (sT (qR (.id))))))) (fun J=>xN (Qx J) (xR 3 (xE (Ql ⟨[(2,B false)],[]⟩ (sT (qR (.id)))))))))))
def Jv (n:Nat) (G:Int):Option Bool :=
 cond (leI 48 G)
  (some (leI G 57))
  (some false)
theorem FY (n:Nat) (G:Int):∀ r,Jv n G=some r→QC Tryz.prog 113 [B8 G] (.ret (B r)):=by
 refine Qj Tryz.func113 rfl Tryz.ntmps113 rfl ?_;unfold Jv;exact Qf Qd ⟨[(0,B8 G)],[]⟩ (sS (sG (xR 3 (xS (leI 48 G) (fun J=>xO (Qv J) (xR 3 (xE (Ql ⟨[(2,B (leI G 57))],[]⟩ (sT (qR (.id))))))) (fun J=>xN (Qx J) (xR 3 (xE (Ql ⟨[(2,B false)],[]⟩ (sT (qR (.id)))))))))))
def H5 (n:Nat) (G:Int):Option Bool :=
 cond (Qp G 59)
  (some true)
  (cond (Qp G 123)
   (some true)
   (some (Qp G 125)))
theorem zt (n:Nat) (G:Int):∀ r,H5 n G=some r→QC Tryz.prog 114 [B8 G] (.ret (B r)):=by
 refine Qj Tryz.func114 rfl Tryz.ntmps114 rfl ?_;unfold H5;exact Qf Qd ⟨[(0,B8 G)],[]⟩ (sS (sG (xR 3 (xS (Qp G 59) (fun O=>xN (Qy O) (xR 7 (xE (Ql ⟨[(2,B true)],[]⟩ (sT (qR (.id))))))) (fun O=>xO (Qw O) (xR 3 (xS (Qp G 123) (fun J=>xN (Qy J) (xR 3 (xE (Ql ⟨[(2,B true)],[]⟩ (sT (qR (.id))))))) (fun J=>xO (Qw J) (xR 3 (xE (Ql ⟨[(2,B (Qp G 125))],[]⟩ (sT (qR (.id))))))))))))))
def FZ (n:Nat) (G:Int):Option Int :=
 (Fu n G).bind fun r1 =>
 cond r1
  (some 1)
  (cond (Qp G 35)
   (some 2)
   ((XO n G).bind fun Y =>
   cond Y
    (some 3)
    ((Jv n G).bind fun J =>
    cond J
     (some 4)
     ((H5 n G).bind fun O =>
     cond O
      (some 5)
      (some 0)))))
theorem kK (n:Nat) (G:Int):∀ r,FZ n G=some r→QC Tryz.prog 52 [B8 G] (.ret (I r)):=by
 refine Qj Tryz.func52 rfl Tryz.ntmps52 rfl ?_;unfold FZ;refine Qf Qd ⟨[(0,B8 G)],[]⟩ (sS (sB (sS (sG (xR 1 ?_)))));refine xC [] (EI n G) QF (fun r1=>?_);refine xR 1 (xE (Ql ⟨[(0,B8 G),(3,B r1)],[]⟩ (sC r1 (Qf Qd ⟨[(2,I 1)],[]⟩ (sT (Q4 (QB (qR (.id)))))) (Qf Qd ⟨[(0,B8 G),(6,B (Qp G 35))],[]⟩ (sC (Qp G 35) (Qf Qd ⟨[(2,I 2)],[]⟩ (sT (Q4 (QB (qR (.id)))))) (sS (sG (xR 1 ?_))))))));refine xC [] (BA n G) QF (fun Y=>?_);refine xR 1 (xE (Ql ⟨[(0,B8 G),(9,B Y)],[]⟩ (sC Y (Qf Qd ⟨[(2,I 3)],[]⟩ (sT (Q4 (QB (qR (.id)))))) (sS (sG (xR 1 ?_))))));refine xC [] (FY n G) QF (fun J=>?_);refine xR 1 (xE (Ql ⟨[(0,B8 G),(12,B J)],[]⟩ (sC J (Qf Qd ⟨[(2,I 4)],[]⟩ (sT (Q4 (QB (qR (.id)))))) (sS (sG (xR 1 ?_))))));refine xC [] (zt n G) QF (fun O=>?_);exact xR 1 (xE (Ql ⟨[(15,B O)],[]⟩ (sC O (Qf Qd ⟨[(2,I 5)],[]⟩ (sT (Q4 (QB (qR (.id)))))) (sK (QR (Ql ⟨[],[]⟩ (Qf Qd ⟨[(2,I 0)],[]⟩ (sT (qR (.id))))))))))
def LP (n:Nat) (J:List UInt8) (G:Int→Option Int) (O:Int):Option Int :=
 (cond (Qs O (Qb J))
  ((QU J O).bind fun Z =>
  (Fu n (Zy Z)).bind fun r5 =>
  some r5)
  (some false)).bind fun Y =>
 cond Y
  (G (wi (O+1)))
  (some O)
def EJ (n:Nat) (O:List UInt8) (G:Int):Option Int :=
 Qn (fun J Y=>LP n O J Y) n G
def tq0:=fun J O G=>([(0,S J),(1,I O),(2, .p (.val G))]:List (Nat × AV))
def tq1:=fun J O G=>([(0,S J),(2, .p (.val O)),(7,I G)]:List (Nat × AV))
def aS:=fun J O G=>(⟨tq1 J O G,[]⟩:St)
def tq2:=fun J O G Y=>([(0,S J),(2, .p (.val O)),(7,I G),(19,B Y)]:List (Nat × AV))
theorem gu (n:Nat) (J:List UInt8) (G:Int):∀ r,EJ n J G=some r→QC Tryz.prog 53 [S J,I G, .p (.val (.func (.func 54) #[] #[]))] (.ret (I r)):=by
 refine Qj Tryz.func53 rfl Tryz.ntmps53 rfl ?_;unfold EJ;refine Qf Qd ⟨tq0 J G (.func (.func 54) #[] #[]),[]⟩ (Qf Qd (aS J (.func (.func 54) #[] #[]) G) (sS (sB (QG (fun O=>(aS J (.func (.func 54) #[] #[]) O):Int→St) (Gm) ?_))));rintro Y O;show QP (LP n J Y O) _ _ _ _ _ _;unfold LP;refine sS (KQ (fun j2=>⟨tq2 J (.func (.func 54) #[] #[]) O j2,[]⟩:Bool→St) ?_ ?_)
 ·refine sG (xR 5 (xS (Qs O (Qb J)) (fun Z=>?_) (fun Z=>?_)))
  ·refine xO (Qv Z) (xR 2 (xG (J9 (l:=J) (k:=.i64) (n:=O) rfl Qc Qc Qc) (fun x4=>?_)));refine xC [] (EI n (Zy x4)) QF (fun r5=>?_);exact xR 1 (xE (QS r5))
  exact xN (Qx Z) (xR 5 (xE (QS false)))
 rintro j2;exact sC j2 (sK (Ql (aS J (.func (.func 54) #[] #[]) O) (sB (sL Qd (QR (KW (wi (O+1)))))))) (Qt (ZR (Yw (QM (Ql ⟨[(7,I O)],[]⟩ (Qf Qd ⟨[(6,I O)],[]⟩ (sT (qR (.id)))))))))
def R7 (n:Nat) (G:Int):Option Bool :=
 some (!Qp G 10)
theorem wZ (n:Nat) (G:Int):∀ r,R7 n G=some r→QC Tryz.prog 51 [B8 G] (.ret (B r)):=by
 refine Qj Tryz.func51 rfl Tryz.ntmps51 rfl ?_;unfold R7;exact Qf Qd ⟨[(0,B8 G)],[]⟩ (Qf Qd ⟨[(2,B (!Qp G 10))],[]⟩ (sT (qR (.id))))
def U7 (n:Nat) (J:List UInt8) (G:Int→Option Int) (O:Int):Option Int :=
 (cond (Qs O (Qb J))
  ((QU J O).bind fun Z =>
  (R7 n (Zy Z)).bind fun r5 =>
  some r5)
  (some false)).bind fun Y =>
 cond Y
  (G (wi (O+1)))
  (some O)
def Dh (n:Nat) (O:List UInt8) (G:Int):Option Int :=
 Qn (fun J Y=>U7 n O J Y) n G
theorem kL (n:Nat) (J:List UInt8) (G:Int):∀ r,Dh n J G=some r→QC Tryz.prog 53 [S J,I G, .p (.val (.func (.func 51) #[] #[]))] (.ret (I r)):=by
 refine Qj Tryz.func53 rfl Tryz.ntmps53 rfl ?_;unfold Dh;refine Qf Qd ⟨tq0 J G (.func (.func 51) #[] #[]),[]⟩ (Qf Qd (aS J (.func (.func 51) #[] #[]) G) (sS (sB (QG (fun O=>(aS J (.func (.func 51) #[] #[]) O):Int→St) (Gm) ?_))));rintro Y O;show QP (U7 n J Y O) _ _ _ _ _ _;unfold U7;refine sS (KQ (fun j2=>⟨tq2 J (.func (.func 51) #[] #[]) O j2,[]⟩:Bool→St) ?_ ?_)
 ·refine sG (xR 5 (xS (Qs O (Qb J)) (fun Z=>?_) (fun Z=>?_)))
  ·refine xO (Qv Z) (xR 2 (xG (J9 (l:=J) (k:=.i64) (n:=O) rfl Qc Qc Qc) (fun x4=>?_)));refine xC [] (wZ n (Zy x4)) QF (fun r5=>?_);exact xR 1 (xE (QS r5))
  exact xN (Qx Z) (xR 5 (xE (QS false)))
 rintro j2;exact sC j2 (sK (Ql (aS J (.func (.func 51) #[] #[]) O) (sB (sL Qd (QR (KW (wi (O+1)))))))) (Qt (ZR (Yw (QM (Ql ⟨[(7,I O)],[]⟩ (Qf Qd ⟨[(6,I O)],[]⟩ (sT (qR (.id)))))))))
def Jw (n:Nat) (G:Int):Option Bool :=
 (XO n G).bind fun r1 =>
 cond r1
  (some true)
  ((Jv n G).bind fun J =>
  cond J
   (some true)
   (some (Qp G 95)))
theorem EK (n:Nat) (G:Int):∀ r,Jw n G=some r→QC Tryz.prog 115 [B8 G] (.ret (B r)):=by
 refine Qj Tryz.func115 rfl Tryz.ntmps115 rfl ?_;unfold Jw;refine Qf Qd ⟨[(0,B8 G)],[]⟩ (sS (sG (xR 1 ?_)));refine xC [] (BA n G) QF (fun r1=>?_);refine xR 1 (xS r1 (fun J=>xN (Qy J) (xR 7 (xE (Ql ⟨[(2,B true)],[]⟩ (sT (qR (.id))))))) (fun J=>xO (Qw J) ?_));refine xC [] (FY n G) QF (fun Y=>?_);exact xR 2 (xS Y (fun O=>xN (Qy O) (xR 3 (xE (Ql ⟨[(2,B true)],[]⟩ (sT (qR (.id))))))) (fun O=>xO (Qw O) (xR 3 (xE (Ql ⟨[(2,B (Qp G 95))],[]⟩ (sT (qR (.id))))))))
def U8 (n:Nat) (J:List UInt8) (G:Int→Option Int) (O:Int):Option Int :=
 (cond (Qs O (Qb J))
  ((QU J O).bind fun Z =>
  (Jw n (Zy Z)).bind fun r5 =>
  some r5)
  (some false)).bind fun Y =>
 cond Y
  (G (wi (O+1)))
  (some O)
def Di (n:Nat) (O:List UInt8) (G:Int):Option Int :=
 Qn (fun J Y=>U8 n O J Y) n G
theorem kM (n:Nat) (J:List UInt8) (G:Int):∀ r,Di n J G=some r→QC Tryz.prog 53 [S J,I G, .p (.val (.func (.func 115) #[] #[]))] (.ret (I r)):=by
 refine Qj Tryz.func53 rfl Tryz.ntmps53 rfl ?_;unfold Di;refine Qf Qd ⟨tq0 J G (.func (.func 115) #[] #[]),[]⟩ (Qf Qd (aS J (.func (.func 115) #[] #[]) G) (sS (sB (QG (fun O=>(aS J (.func (.func 115) #[] #[]) O):Int→St) (Gm) ?_))));rintro Y O;show QP (U8 n J Y O) _ _ _ _ _ _;unfold U8;refine sS (KQ (fun j2=>⟨tq2 J (.func (.func 115) #[] #[]) O j2,[]⟩:Bool→St) ?_ ?_)
 ·refine sG (xR 5 (xS (Qs O (Qb J)) (fun Z=>?_) (fun Z=>?_)))
  ·refine xO (Qv Z) (xR 2 (xG (J9 (l:=J) (k:=.i64) (n:=O) rfl Qc Qc Qc) (fun x4=>?_)));refine xC [] (EK n (Zy x4)) QF (fun r5=>?_);exact xR 1 (xE (QS r5))
  exact xN (Qx Z) (xR 5 (xE (QS false)))
 rintro j2;exact sC j2 (sK (Ql (aS J (.func (.func 115) #[] #[]) O) (sB (sL Qd (QR (KW (wi (O+1)))))))) (Qt (ZR (Yw (QM (Ql ⟨[(7,I O)],[]⟩ (Qf Qd ⟨[(6,I O)],[]⟩ (sT (qR (.id)))))))))
def U9 (n:Nat) (J:List UInt8) (G:Int→Option Int) (O:Int):Option Int :=
 (cond (Qs O (Qb J))
  ((QU J O).bind fun Z =>
  (Jv n (Zy Z)).bind fun r5 =>
  some r5)
  (some false)).bind fun Y =>
 cond Y
  (G (wi (O+1)))
  (some O)
def Dj (n:Nat) (O:List UInt8) (G:Int):Option Int :=
 Qn (fun J Y=>U9 n O J Y) n G
theorem kN (n:Nat) (J:List UInt8) (G:Int):∀ r,Dj n J G=some r→QC Tryz.prog 53 [S J,I G, .p (.val (.func (.func 113) #[] #[]))] (.ret (I r)):=by
 refine Qj Tryz.func53 rfl Tryz.ntmps53 rfl ?_;unfold Dj;refine Qf Qd ⟨tq0 J G (.func (.func 113) #[] #[]),[]⟩ (Qf Qd (aS J (.func (.func 113) #[] #[]) G) (sS (sB (QG (fun O=>(aS J (.func (.func 113) #[] #[]) O):Int→St) (Gm) ?_))));rintro Y O;show QP (U9 n J Y O) _ _ _ _ _ _;unfold U9;refine sS (KQ (fun j2=>⟨tq2 J (.func (.func 113) #[] #[]) O j2,[]⟩:Bool→St) ?_ ?_)
 ·refine sG (xR 5 (xS (Qs O (Qb J)) (fun Z=>?_) (fun Z=>?_)))
  ·refine xO (Qv Z) (xR 2 (xG (J9 (l:=J) (k:=.i64) (n:=O) rfl Qc Qc Qc) (fun x4=>?_)));refine xC [] (FY n (Zy x4)) QF (fun r5=>?_);exact xR 1 (xE (QS r5))
  exact xN (Qx Z) (xR 5 (xE (QS false)))
 rintro j2;exact sC j2 (sK (Ql (aS J (.func (.func 113) #[] #[]) O) (sB (sL Qd (QR (KW (wi (O+1)))))))) (Qt (ZR (Yw (QM (Ql ⟨[(7,I O)],[]⟩ (Qf Qd ⟨[(6,I O)],[]⟩ (sT (qR (.id)))))))))
def Vk (G:List UInt8) (Y:(Int × Int)→Option (Int × Int)) (O:Int) (J:Int):Option (Int × Int) :=
 cond (Qs J (Qb G))
  ((QU G J).bind fun Z =>
  cond (Qs 1000000 (wi ((wi (10 * O))+(wi (w8 ((Zy Z) - 48))))))
   (some (0,3))
   (Y (wi ((wi (10 * O))+(wi (w8 ((Zy Z) - 48)))),wi (J+1))))
  (some (O,0))
def R8 (n:Nat) (G:List UInt8):Option (Int × Int) :=
 (cond (Qs 1 (Qb G))
  ((QU G 0).bind fun x3 =>
  some (Qp (Zy x3) 48))
  (some false)).bind fun Z =>
 cond Z
  (some (0,7))
  (Qn (fun J (Y,O)=>Vk G J Y O) n (0,0))
def tq3:=fun J O G=>([(0,S J),(4,I O),(5,I G)]:List (Nat × AV))
theorem w9 (n:Nat) (G:List UInt8):∀ r,R8 n G=some r→QC Tryz.prog 116 [S G] (.ret (.tup [I r.1,I r.2])):=by
 refine Qj Tryz.func116 rfl Tryz.ntmps116 rfl ?_;unfold R8;refine Qf Qd ⟨[(0,S G)],[]⟩ (sS (KQ (fun j1=>⟨[(0,S G),(13,B j1)],[]⟩:Bool→St) (sG (xR 4 (xS (Qs 1 (Qb G)) (fun h2=>xO (Qv h2) (xG (J9 (l:=G) (k:=.i64) (n:=0) rfl Qc Qc Qc) (fun x3=>xR 2 (xE (QS (Qp (Zy x3) 48)))))) (fun h2=>xN (Qx h2) (xR 3 (xE (QS false))))))) ?_));rintro j1;refine sC j1 (Qf Qd ⟨[(2,I 0),(3,I 7)],[]⟩ (sT (QB (qR (.id))))) (sK (Ql ⟨[(0,S G)],[]⟩ (Qf Qd ⟨[(0,S G),(4,I 0)],[]⟩ (sS (Qf Qd ⟨[(0,S G),(4,I 0),(5,I 0)],[]⟩ (sB (QG (fun (J,O)=>⟨tq3 G J O,[]⟩:(Int × Int)→St) (Gm) ?_)))))));rintro Y ⟨J,O⟩;show QP (Vk G Y J O) _ _ _ _ _ _;unfold Vk;exact sS (Qf Qd ⟨[(0,S G),(4,I J),(5,I O),(17,B (Qs O (Qb G)))],[]⟩ (sC (Qs O (Qb G)) (sK (Ql ⟨tq3 G J O,[]⟩ (sS (sB (sS (sG (xR 4 (xG (J9 (l:=G) (k:=.i64) (n:=O) rfl Qc Qc Qc) (fun Z=>xR 4 (xE (Ql ⟨tq3 G (wi ((wi (10 * J))+(wi (w8 ((Zy Z) - 48))))) O,[]⟩ (Qf Qd ⟨[(0,S G),(4,I (wi ((wi (10 * J))+(wi (w8 ((Zy Z) - 48)))))),(5,I O),(29,B (Qs 1000000 (wi ((wi (10 * J))+(wi (w8 ((Zy Z) - 48)))))))],[]⟩ (sC (Qs 1000000 (wi ((wi (10 * J))+(wi (w8 ((Zy Z) - 48)))))) (Qf Qd ⟨[(2,I 0),(3,I 3)],[]⟩ (sT (Q4 (QB (V9 (Q4 (QB (qR (.id))))))))) (sK (QR (Ql ⟨tq3 G (wi ((wi (10 * J))+(wi (w8 ((Zy Z) - 48))))) O,[]⟩ (sL Qd (KW (wi ((wi (10 * J))+(wi (w8 ((Zy Z) - 48)))),wi (O+1)))))))))))))))))))) (Qt (ZR (Yw (QM (Ql ⟨[(4,I J)],[]⟩ (Qf Qd ⟨[(2,I J),(3,I 0)],[]⟩ (sT (qR (.id)))))))))))
def R9 (n:Nat) (O:List UInt8) (G:Int) (J:Int):Option (Q0 × Int × Int) :=
 cond (Qp J 3)
  ((Di n O G).bind fun r1 =>
  cond (Qs 12 (wi (r1 - G)))
   (some ((⟨0,[],0,0⟩:Q0),r1,3))
   (cond (sliceB G r1 (List.length O)) (
    some ((⟨1,List.drop (Int.toNat G) (List.take (Int.toNat r1) O),0,G⟩:Q0),r1,0)) none))
  (cond (Qp J 4)
   ((Dj n O G).bind fun Y =>
   cond (sliceB G Y (List.length O)) (
    (R8 n (List.drop (Int.toNat G) (List.take (Int.toNat Y) O))).bind fun Z =>
    cond (!Qp Z.2 0)
     (some ((⟨0,[],0,0⟩:Q0),Y,Z.2))
     (some ((⟨2,[],Z.1,G⟩:Q0),Y,0))) none)
   (cond (Qp J 5)
    (cond (sliceB G (wi (G+1)) (List.length O)) (
     some ((⟨3,List.drop (Int.toNat G) (List.take (Int.toNat (wi (G+1))) O),0,G⟩:Q0),wi (G+1),0)) none)
    (some ((⟨0,[],0,0⟩:Q0),G,7))))
def d9:=fun J O G=>([(6, .box 87 [I J,S [],I O,I G])]:List (Nat × Blk))
def sq1:=fun J Y G Z O=>(⟨[(6, .ptr 6 0),(7,I J),(8,I Y)],d9 G Z O⟩:St)
def bq0:=fun J O G Y=>(.box 87 [I J,S O,I G,I Y]:Blk)
theorem ja (n:Nat) (O:List UInt8) (G:Int) (J:Int):∀ r,R9 n O G J=some r→QC Tryz.prog 55 [S O,I G,I J] (.ret (.tup [ag (Q0.cs r.1),I r.2.1,I r.2.2])):=by
 refine Qj Tryz.func55 rfl Tryz.ntmps55 rfl ?_;unfold R9;refine Qf Qd ⟨[(0,S O),(1,I G),(2,I J),qq 6],d9 0 0 0⟩ (sS (Qf Qd ⟨[(0,S O),(1,I G),qq 6,(13,I J)],d9 0 0 0⟩ (sB (Qf Qd ⟨[(0,S O),(1,I G),qq 6,(13,I J),(14,B (Qp J 3))],d9 0 0 0⟩ (sC (Qp J 3) ?_ ?_)))))
 ·refine sS (sG (xR 2 ?_));refine xC [] (kM n O G) QF (fun r1=>?_);exact xR 1 (xE (Ql ⟨[(0,S O),(1,I G),qq 6,(9,I r1)],d9 0 0 0⟩ (sS (Qf Qd ⟨[(0,S O),(1,I G),qq 6,(9,I r1),(22,B (Qs 12 (wi (r1 - G))))],d9 0 0 0⟩ (sC (Qs 12 (wi (r1 - G))) (Qf Qd (sq1 r1 3 0 0 0) (sT (QB (Q4 (QB (qR (.id))))))) (sK (Ql ⟨[(0,S O),(1,I G),qq 6,(9,I r1)],d9 0 0 0⟩ (sS (sG (xR 3 (xF (Pd (l:=O) (a:=G) (b:=r1) rfl Qc Qc Qc Qc) (xR 6 (xE (Ql ⟨[qq 6,(7,I r1),(8,I 0)],[(6,(bq0 1 (List.drop (Int.toNat G) (List.take (Int.toNat r1) O)) 0 G))]⟩ (sT (Q4 (QB (qR (.id)))))))))))))))))))
 refine Qf Qd ⟨[(0,S O),(1,I G),qq 6,(13,I J),(32,B (Qp J 4))],d9 0 0 0⟩ (sC (Qp J 4) (sS (sG (xR 2 ?_))) (Qf Qd ⟨[(0,S O),(1,I G),qq 6,(54,B (Qp J 5))],d9 0 0 0⟩ (sC (Qp J 5) (sS (sG (xR 4 (xF (Pd (l:=O) (a:=G) (b:=wi (G+1)) rfl Qc Qc Qc Qc) (xR 7 (xE (Ql ⟨[qq 6,(7,I (wi (G+1))),(8,I 0)],[(6,(bq0 3 (List.drop (Int.toNat G) (List.take (Int.toNat (wi (G+1))) O)) 0 G))]⟩ (sT (Q4 (QB (qR (.id)))))))))))) (sK (QR (Ql ⟨[(1,I G),qq 6],d9 0 0 0⟩ (Qf Qd (sq1 G 7 0 0 0) (sT (qR (.id))))))))));refine xC [] (kN n O G) QF (fun Z=>?_);refine xR 1 (xE (Ql ⟨[(0,S O),(1,I G),qq 6,(10,I Z)],d9 0 0 0⟩ (sS (sG (xR 3 (xF (Pd (l:=O) (a:=G) (b:=Z) rfl Qc Qc Qc Qc) ?_))))));refine xC [] (w9 n (List.drop (Int.toNat G) (List.take (Int.toNat Z) O))) QF (fun Y=>?_);exact xR 5 (xE (Ql ⟨[(1,I G),qq 6,(10,I Z),(11,I Y.1),(12,I Y.2)],d9 0 0 0⟩ (sS (Qf Qd ⟨[(1,I G),qq 6,(10,I Z),(11,I Y.1),(12,I Y.2),(46,B (!Qp Y.2 0))],d9 0 0 0⟩ (sC (!Qp Y.2 0) (Qf Qd (sq1 Z Y.2 0 0 0) (sT (QB (Q4 (QB (qR (.id))))))) (sK (Ql ⟨[(1,I G),qq 6,(10,I Z),(11,I Y.1)],d9 0 0 0⟩ (Qf Qd (sq1 Z 0 2 Y.1 G) (sT (Q4 (QB (qR (.id)))))))))))))
def Wv (n:Nat) (Y:List UInt8) (O:((List Q0) × Int)→Option ((List Q0) × Int × Int)) (J:List Q0) (G:Int):Option ((List Q0) × Int × Int) :=
 cond (Qs G (Qb Y))
  ((QU Y G).bind fun x2 =>
  (FZ n (Zy x2)).bind fun r3 =>
  cond (Qp r3 1)
   ((EJ n Y G).bind fun r4 =>
   O (J,r4))
   (cond (Qp r3 2)
    ((Dh n Y G).bind fun r5 =>
    O (J,r5))
    (cond (Qp (Qb (List.map Q0.cs J)) 2000)
     (some ([],2,G))
     ((R9 n Y G r3).bind fun Z =>
     cond (!Qp Z.2.2 0)
      (some ([],Z.2.2,G))
      (cond (QK (List.length (J++[Z.1])) 40) (
       O (J++[Z.1],Z.2.1)) none)))))
  (some (J,0,0))
def EL (n:Nat) (O:List UInt8):Option ((List Q0) × Int × Int) :=
 cond (Qs 8000 (Qb O))
  (some ([],2,0))
  (Qn (fun G (J,Y)=>Wv n O G J Y) n ([],0))
def tq4:=fun G J=>([(2, .p (.val (.slice none 0 0))),(3,I G),(4,I J)]:List (Nat × AV))
def tq5:=fun G=>([(0,S G),(5, .p (.val (.slice none 0 0))),(6, .p (.val (.func (.func 51) #[] #[]))),(7,I 0)]:List (Nat × AV))
def tq6:=fun J O G=>([(0,S J),(5, .tsl 4 (List.map Q0.cs O) 54),(6, .p (.val (.func (.func 51) #[] #[]))),(7,I G)]:List (Nat × AV))
def bq1:=fun G=>(.arr 87 4 (List.map Q0.cs G).length:Blk)
def Pg:=fun G=>([(54,(bq1 G))]:List (Nat × Blk))
def tq7:=fun J O G Y=>([(0,S J),(5, .tsl 4 (List.map Q0.cs O) 54),(6, .p (.val (.func (.func 51) #[] #[]))),(7,I G),(8,I Y)]:List (Nat × AV))
def DD:=fun G J=>([(9, .box 87 (YE (Q0.cs G))),(54,(bq1 J))]:List (Nat × Blk))
theorem pF (n:Nat) (J:List UInt8):∀ r,EL n J=some r→QC Tryz.prog 24 [S J] (.ret (.tup [.p (.sl 4 (Lu r.1)),I r.2.1,I r.2.2])):=by
 refine Qj Tryz.func24 rfl Tryz.ntmps24 rfl ?_;unfold EL;refine Qf Qd ⟨[(0,S J)],[]⟩ (lD (sS (Qf Qd ⟨[(0,S J),(14,B (Qs 8000 (Qb J)))],[]⟩ (sC (Qs 8000 (Qb J)) (Qf Qd ⟨tq4 2 0,[]⟩ (sT (QB (qR (.agg [.sl 4, .id, .id]))))) (sK (Ql ⟨[(0,S J)],[]⟩ (Qf Qd ⟨[(0,S J),(5,zS)],[]⟩ (Qf Qd ⟨[(0,S J),(5,zS),(6, .p (.val (.func (.func 51) #[] #[])))],[]⟩ (Qf Qd ⟨tq5 J,[]⟩ (sS (lC (Ql ⟨tq5 J,[]⟩ (sS (sB (Pe ⟨tq5 J,[]⟩ (KF (Yr 87 4 54 [5] []) (QG (fun (G,O)=>⟨tq6 J G O,Pg G⟩:((List Q0) × Int)→St) (Gm) ?_)))))))))))))))));rintro aa ⟨G,O⟩;show QP (Wv n J aa G O) _ _ _ _ _ _;unfold Wv;refine sS (Qf Qd ⟨[(0,S J),(5, .tsl 4 (Lu G) 54),(6, .p (.val (.func (.func 51) #[] #[]))),(7,I O),(18,B (Qs O (Qb J)))],Pg G⟩ (sC (Qs O (Qb J)) (sK (Ql ⟨tq6 J G O,Pg G⟩ (sB (sS (sG (xR 2 (xG (J9 (l:=J) (k:=.i64) (n:=O) rfl Qc Qc Qc) (fun x2=>?_)))))))) (Qt (ZR (Yw (QM (Ql ⟨[(5, .tsl 4 (Lu G) 54)],Pg G⟩ (Qf Qd ⟨[(2, .tsl 4 (Lu G) 54),(3,I 0),(4,I 0)],Pg G⟩ (sT (qR (.agg [.sl 4, .id, .id])))))))))));refine xC [] (kK n (Zy x2)) QF (fun Z=>?_);refine xR 1 (xE (Ql ⟨tq7 J G O Z,Pg G⟩ (sS (Qf Qd ⟨[(0,S J),(5, .tsl 4 (Lu G) 54),(6, .p (.val (.func (.func 51) #[] #[]))),(7,I O),(8,I Z),(23,I Z)],Pg G⟩ (sB (Qf Qd ⟨[(0,S J),(5, .tsl 4 (Lu G) 54),(6, .p (.val (.func (.func 51) #[] #[]))),(7,I O),(8,I Z),(23,I Z),(24,B (Qp Z 1))],Pg G⟩ (sC (Qp Z 1) ?_ ?_)))))))
 ·refine sS (sG (xR 2 ?_));refine xC [] (gu n J O) QF (fun r4=>?_);exact xR 1 (xE (Ql ⟨tq6 J G r4,Pg G⟩ (Qt (wO rfl (ZR (QM (KW (G,r4))))))))
 refine Qf Qd ⟨[(0,S J),(5, .tsl 4 (Lu G) 54),(6, .p (.val (.func (.func 51) #[] #[]))),(7,I O),(8,I Z),(29,B (Qp Z 2))],Pg G⟩ (sC (Qp Z 2) ?_ ?_)
 ·refine sS (sG (xR 3 ?_));refine xC [] (kL n J O) QF (fun r5=>?_);exact xR 1 (xE (Ql ⟨tq6 J G r5,Pg G⟩ (Qt (wO rfl (ZR (QM (KW (G,r5))))))))
 refine sK (QR (Ql ⟨tq7 J G O Z,Pg G⟩ (sS (Qf Qd ⟨[(0,S J),(5, .tsl 4 (Lu G) 54),(6, .p (.val (.func (.func 51) #[] #[]))),(7,I O),(8,I Z),(37,B (Qp (Qb (Lu G)) 2000))],Pg G⟩ (sC (Qp (Qb (Lu G)) 2000) (Qf Qd ⟨tq4 2 O,[]⟩ (sT (QB (Q4 (V9 (Q4 (QB (qR (.agg [.sl 4, .id, .id]))))))))) (sK (Ql ⟨tq7 J G O Z,Pg G⟩ (sS (sG (xR 3 ?_))))))))));refine xC [] (ja n J O Z) QF (fun Y=>?_);exact xR 8 (xE (Ql ⟨[(0,S J),(5, .tsl 4 (Lu G) 54),(6, .p (.val (.func (.func 51) #[] #[]))),(7,I O),qq 9,(10,I Y.2.1),(11,I Y.2.2)],DD Y.1 G⟩ (sS (Qf Qd ⟨[(0,S J),(5, .tsl 4 (Lu G) 54),(6, .p (.val (.func (.func 51) #[] #[]))),(7,I O),qq 9,(10,I Y.2.1),(11,I Y.2.2),(48,B (!Qp Y.2.2 0))],DD Y.1 G⟩ (sC (!Qp Y.2.2 0) (Qf Qd ⟨tq4 Y.2.2 O,[]⟩ (sT (QB (Q4 (V9 (Q4 (QB (qR (.agg [.sl 4, .id, .id]))))))))) (sK (Ql ⟨[(0,S J),(5, .tsl 4 (Lu G) 54),(6, .p (.val (.func (.func 51) #[] #[]))),qq 9,(10,I Y.2.1)],DD Y.1 G⟩ (sS (sG (xR 3 (xF (Y1 (e:=87) (S:=4) (by_:=40) (enc:=Q0.cs) (tk:=54) (l:=G) (l2:=[Y.1]) (xv:=.tsl 4 (Lu [Y.1]) 53) rfl Qc Qc rfl Qc Qc Qc rfl Qc) (xR 1 (xE (Ql ⟨[(0,S J),(5, .tsl 4 (Lu (G++[Y.1])) 54),(6, .p (.val (.func (.func 51) #[] #[]))),(10,I Y.2.1)],Pg (G++[Y.1])⟩ (sL Qd (QR (KW (G++[Y.1],Y.2.1))))))))))))))))))
def Ta (n:Nat) (G:ZK):Option Bool :=
 some (leI 20 (Qb (List.map Zw.cs G.dg)))
theorem Ik (n:Nat) (G:ZK):∀ r,Ta n G=some r→QC Tryz.prog 56 [.eptr (ZK.cs G)] (.ret (B r)):=by
 refine Qj Tryz.func56 rfl Tryz.ntmps56 rfl ?_;unfold Ta;exact Qf Qd ⟨[(0, .eptr (ZK.cs G))],[]⟩ (Qf Qd ⟨[(2,B (leI 20 (Qb (Um G.dg))))],[]⟩ (sT (qR (.id))))
def X9 (n:Nat) (G:ZK):Option Q0 :=
 cond (Qs G.pos (Qb (List.map Q0.cs G.tks)))
  ((QU G.tks G.pos).bind fun J =>
  some J)
  (some (⟨0,[],0,G.length⟩:Q0))
def tq8:=fun G=>([(0,G),(2, .ptr 2 0)]:List (Nat × AV))
def hq3:=fun G=>([(2, .box 87 [I 0,S [],I 0,I G])]:List (Nat × Blk))
def hq4:=fun G=>([(2, .box 87 (YE (Q0.cs G)))]:List (Nat × Blk))
theorem H6 (n:Nat) (G:ZK) (O:Option Addr) (J Y:Nat):∀ r,X9 n G=some r→QC Tryz.prog 181 [.eptr [.sl 4 (Lu G.tks),VI G.pos,VI G.length, .val (.slice O J Y)]] (.ret (ag (Q0.cs r))):=by
 refine Qj Tryz.func181 rfl Tryz.ntmps181 rfl ?_;unfold X9;exact Qf Qd ⟨tq8 (.eptr [.sl 4 (Lu G.tks),VI G.pos,VI G.length, .val (.slice O J Y)]),hq3 0⟩ (sS (Qf Qd ⟨[(0, .eptr [.sl 4 (Lu G.tks),VI G.pos,VI G.length, .val (.slice O J Y)]),qq 2,(12,B (Qs G.pos (Qb (Lu G.tks))))],hq3 0⟩ (sC (Qs G.pos (Qb (Lu G.tks))) (sS (Bh Qd rfl (xR 8 (xG (ZA (e:=87) (S:=4) (enc:=Q0.cs) (l:=G.tks) (k:=.i64) (n:=G.pos) (sv:=.p (.sl 4 (Lu G.tks))) rfl Qc Qc Qc Qc Qc) (fun Z=>xR 2 (MN (Ql ⟨[qq 2],hq4 Z⟩ (sT (QB (qR (.id))))))))))) (sK (Ql ⟨tq8 (.eptr [.sl 4 (Lu G.tks),VI G.pos,VI G.length, .val (.slice O J Y)]),hq3 0⟩ (Qf Qd ⟨[qq 2],hq3 G.length⟩ (sT (qR (.id)))))))))
def VD (n:Nat) (G:List UInt8):Option Int :=
 cond (Qr G [102,101,101,100,101,114])
  (some 1)
  (cond (Qr G [99,97,98,108,101])
   (some 2)
   (cond (Qr G [111,119,110,101,114])
    (some 3)
    (cond (Qr G [99,111,110,116,114,97,99,116])
     (some 4)
     (cond (Qr G [99,104,97,114,103,101,114])
      (some 5)
      (cond (Qr G [98,97,121])
       (some 6)
       (cond (Qr G [116,97,114,105,102,102])
        (some 7)
        (some 0)))))))
def tq9:=fun G J=>([(3,S G),(4,B J)]:List (Nat × AV))
def II:=fun G J=>(⟨tq9 G J,[]⟩:St)
theorem Rb (n:Nat) (G:List UInt8):∀ r,VD n G=some r→QC Tryz.prog 122 [S G] (.ret (I r)):=by
 refine Qj Tryz.func122 rfl Tryz.ntmps122 rfl ?_;unfold VD;exact Qf Qd ⟨[(0,S G)],[]⟩ (sS (Qf Qd ⟨[(3,S G)],[]⟩ (sB (Qf Qd (II G (Qr G [102,101,101,100,101,114])) (sC (Qr G [102,101,101,100,101,114]) (Qf Qd ⟨[(2,I 1)],[]⟩ (sT (Q4 (QB (qR (.id)))))) (Qf Qd ⟨[(3,S G),(6,B (Qr G [99,97,98,108,101]))],[]⟩ (sC (Qr G [99,97,98,108,101]) (Qf Qd ⟨[(2,I 2)],[]⟩ (sT (Q4 (QB (qR (.id)))))) (Qf Qd ⟨[(3,S G),(8,B (Qr G [111,119,110,101,114]))],[]⟩ (sC (Qr G [111,119,110,101,114]) (Qf Qd ⟨[(2,I 3)],[]⟩ (sT (Q4 (QB (qR (.id)))))) (Qf Qd ⟨[(3,S G),(10,B (Qr G [99,111,110,116,114,97,99,116]))],[]⟩ (sC (Qr G [99,111,110,116,114,97,99,116]) (Qf Qd ⟨[(2,I 4)],[]⟩ (sT (Q4 (QB (qR (.id)))))) (Qf Qd ⟨[(3,S G),(12,B (Qr G [99,104,97,114,103,101,114]))],[]⟩ (sC (Qr G [99,104,97,114,103,101,114]) (Qf Qd ⟨[(2,I 5)],[]⟩ (sT (Q4 (QB (qR (.id)))))) (Qf Qd ⟨[(3,S G),(14,B (Qr G [98,97,121]))],[]⟩ (sC (Qr G [98,97,121]) (Qf Qd ⟨[(2,I 6)],[]⟩ (sT (Q4 (QB (qR (.id)))))) (Qf Qd ⟨[(16,B (Qr G [116,97,114,105,102,102]))],[]⟩ (sC (Qr G [116,97,114,105,102,102]) (Qf Qd ⟨[(2,I 7)],[]⟩ (sT (Q4 (QB (qR (.id)))))) (sK (QR (Ql ⟨[],[]⟩ (Qf Qd ⟨[(2,I 0)],[]⟩ (sT (qR (.id))))))))))))))))))))))))
def F3 (n:Nat) (G:List UInt8):Option Bool :=
 (VD n G).bind fun r1 =>
 some (!Qp r1 0)
theorem kP (n:Nat) (G:List UInt8):∀ r,F3 n G=some r→QC Tryz.prog 121 [S G] (.ret (B r)):=by
 refine Qj Tryz.func121 rfl Tryz.ntmps121 rfl ?_;unfold F3;refine Qf Qd ⟨[(0,S G)],[]⟩ (sS (sG (xR 1 ?_)));refine xC [] (Rb n G) QF (fun r1=>?_);exact xR 2 (xE (Ql ⟨[(2,B (!Qp r1 0))],[]⟩ (sT (qR (.id)))))
def Tc (n:Nat) (G:ZK):Option (Except Int Unit) :=
 (X9 n (⟨G.tks,G.pos,G.length,[]⟩:ZK)).bind fun r1 =>
 some (.error r1.At)
theorem Il (n:Nat) (G:ZK) (Y:Option Addr) (J O:Nat):∀ r,Tc n G=some r→QC Tryz.prog 182 [.eptr [.sl 4 (Lu G.tks),VI G.pos,VI G.length, .val (.slice Y J O)]] (kG (fun r:Unit=>(.tup []:AV)) (fun e:Int=>(.ifc 235 (.agg [I e]):AV)) r):=by
 refine Qj Tryz.func182 rfl Tryz.ntmps182 rfl ?_;unfold Tc;refine sG (xR 1 ?_);refine xC [] (H6 n (⟨G.tks,G.pos,G.length,[]⟩:ZK) Y J O) QF (fun r1=>?_);exact xR 3 (xPa 235 (.agg [I r1.At]) Qc rfl Qc (qU))
def Yy (n:Nat) (G:List UInt8):Option Bool :=
 (cond (Qr G [108,105,109,105,116])
  (some (Qr G [108,105,109,105,116]))
  (cond (Qr G [110,101,117,116,114,97,108])
   (some (Qr G [110,101,117,116,114,97,108]))
   (cond (Qr G [102,117,115,101])
    (some (Qr G [102,117,115,101]))
    (cond (Qr G [116,104,101,114,109,97,108])
     (some (Qr G [116,104,101,114,109,97,108]))
     (cond (Qr G [102,114,111,109])
      (some (Qr G [102,114,111,109]))
      (cond (Qr G [97,116])
       (some (Qr G [97,116]))
       (cond (Qr G [112,104,97,115,101,115])
        (some (Qr G [112,104,97,115,101,115]))
        (cond (Qr G [97,109,112,115])
         (some (Qr G [97,109,112,115]))
         (cond (Qr G [102,97,108,108,98,97,99,107])
          (some (Qr G [102,97,108,108,98,97,99,107]))
          (cond (Qr G [111,119,110,101,114])
           (some (Qr G [111,119,110,101,114]))
           (cond (Qr G [99,97,114,100])
            (some (Qr G [99,97,114,100]))
            (cond (Qr G [114,97,110,107])
             (some (Qr G [114,97,110,107]))
             (some (Qr G [99,104,97,114,103,101,114])))))))))))))).bind fun J =>
 cond J
  (some true)
  (some false)
theorem He (n:Nat) (G:List UInt8):∀ r,Yy n G=some r→QC Tryz.prog 186 [S G] (.ret (B r)):=by
 refine Qj Tryz.func186 rfl Tryz.ntmps186 rfl ?_;unfold Yy;refine Qf Qd ⟨[(0,S G)],[]⟩ (sS (Qf Qd ⟨[(3,S G)],[]⟩ (sB (KQ (fun J=>⟨[(4,B J)],[]⟩:Bool→St) ?_ ?_))));rotate_left
 ·rintro J;exact sC J (Qf Qd ⟨[(2,B true)],[]⟩ (sT (Q4 (QB (qR (.id)))))) (sK (QR (Ql ⟨[],[]⟩ (Qf Qd ⟨[(2,B false)],[]⟩ (sT (qR (.id)))))))
 exact Qf Qd (II G (Qr G [108,105,109,105,116])) (sC (Qr G [108,105,109,105,116]) (sK (QS (Qr G [108,105,109,105,116]))) (Qf Qd (II G (Qr G [110,101,117,116,114,97,108])) (sC (Qr G [110,101,117,116,114,97,108]) (sK (QS (Qr G [110,101,117,116,114,97,108]))) (Qf Qd (II G (Qr G [102,117,115,101])) (sC (Qr G [102,117,115,101]) (sK (QS (Qr G [102,117,115,101]))) (Qf Qd (II G (Qr G [116,104,101,114,109,97,108])) (sC (Qr G [116,104,101,114,109,97,108]) (sK (QS (Qr G [116,104,101,114,109,97,108]))) (Qf Qd (II G (Qr G [102,114,111,109])) (sC (Qr G [102,114,111,109]) (sK (QS (Qr G [102,114,111,109]))) (Qf Qd ⟨tq9 G (Qr G [97,116]),[]⟩ (sC (Qr G [97,116]) (sK (QS (Qr G [97,116]))) (Qf Qd (II G (Qr G [112,104,97,115,101,115])) (sC (Qr G [112,104,97,115,101,115]) (sK (QS (Qr G [112,104,97,115,101,115]))) (Qf Qd (II G (Qr G [97,109,112,115])) (sC (Qr G [97,109,112,115]) (sK (QS (Qr G [97,109,112,115]))) (Qf Qd (II G (Qr G [102,97,108,108,98,97,99,107])) (sC (Qr G [102,97,108,108,98,97,99,107]) (sK (QS (Qr G [102,97,108,108,98,97,99,107]))) (Qf Qd (II G (Qr G [111,119,110,101,114])) (sC (Qr G [111,119,110,101,114]) (sK (QS (Qr G [111,119,110,101,114]))) (Qf Qd (II G (Qr G [99,97,114,100])) (sC (Qr G [99,97,114,100]) (sK (QS (Qr G [99,97,114,100]))) (Qf Qd (II G (Qr G [114,97,110,107])) (sC (Qr G [114,97,110,107]) (sK (QS (Qr G [114,97,110,107]))) (sL Qd (QS (Qr G [99,104,97,114,103,101,114]))))))))))))))))))))))))))
def Kg (n:Nat) (G:List UInt8):Option Bool :=
 (cond (Qr G [115,116,97,114,116])
  (some (Qr G [115,116,97,114,116]))
  (cond (Qr G [101,110,101,114,103,121])
   (some (Qr G [101,110,101,114,103,121]))
   (cond (Qr G [116,105,109,101])
    (some (Qr G [116,105,109,101]))
    (cond (Qr G [105,100,108,101])
     (some (Qr G [105,100,108,101]))
     (cond (Qr G [99,97,112])
      (some (Qr G [99,97,112]))
      (some (Qr G [116,97,120]))))))).bind fun J =>
 cond J
  (some true)
  (some false)
theorem UM (n:Nat) (G:List UInt8):∀ r,Kg n G=some r→QC Tryz.prog 192 [S G] (.ret (B r)):=by
 refine Qj Tryz.func192 rfl Tryz.ntmps192 rfl ?_;unfold Kg;refine Qf Qd ⟨[(0,S G)],[]⟩ (sS (Qf Qd ⟨[(3,S G)],[]⟩ (sB (KQ (fun J=>⟨[(4,B J)],[]⟩:Bool→St) ?_ ?_))));rotate_left
 ·rintro J;exact sC J (Qf Qd ⟨[(2,B true)],[]⟩ (sT (Q4 (QB (qR (.id)))))) (sK (QR (Ql ⟨[],[]⟩ (Qf Qd ⟨[(2,B false)],[]⟩ (sT (qR (.id)))))))
 exact Qf Qd (II G (Qr G [115,116,97,114,116])) (sC (Qr G [115,116,97,114,116]) (sK (QS (Qr G [115,116,97,114,116]))) (Qf Qd (II G (Qr G [101,110,101,114,103,121])) (sC (Qr G [101,110,101,114,103,121]) (sK (QS (Qr G [101,110,101,114,103,121]))) (Qf Qd (II G (Qr G [116,105,109,101])) (sC (Qr G [116,105,109,101]) (sK (QS (Qr G [116,105,109,101]))) (Qf Qd (II G (Qr G [105,100,108,101])) (sC (Qr G [105,100,108,101]) (sK (QS (Qr G [105,100,108,101]))) (Qf Qd (II G (Qr G [99,97,112])) (sC (Qr G [99,97,112]) (sK (QS (Qr G [99,97,112]))) (sL Qd (QS (Qr G [116,97,120]))))))))))))
def YX (n:Nat) (G:List UInt8):Option Bool :=
 (cond (Qr G [111,110])
  (some (Qr G [111,110]))
  (cond (Qr G [119,111,114,107])
   (some (Qr G [119,111,114,107]))
   (cond (Qr G [115,97,116,117,114,100,97,121])
    (some (Qr G [115,97,116,117,114,100,97,121]))
    (cond (Qr G [115,117,110,100,97,121])
     (some (Qr G [115,117,110,100,97,121]))
     (cond (Qr G [98,101,116,119,101,101,110])
      (some (Qr G [98,101,116,119,101,101,110]))
      (cond (Qr G [112,101,114])
       (some (Qr G [112,101,114]))
       (some (Qr G [102,114,101,101])))))))).bind fun J =>
 cond J
  (some true)
  (some false)
theorem Rf (n:Nat) (G:List UInt8):∀ r,YX n G=some r→QC Tryz.prog 218 [S G] (.ret (B r)):=by
 refine Qj Tryz.func218 rfl Tryz.ntmps218 rfl ?_;unfold YX;refine Qf Qd ⟨[(0,S G)],[]⟩ (sS (Qf Qd ⟨[(3,S G)],[]⟩ (sB (KQ (fun J=>⟨[(4,B J)],[]⟩:Bool→St) ?_ ?_))));rotate_left
 ·rintro J;exact sC J (Qf Qd ⟨[(2,B true)],[]⟩ (sT (Q4 (QB (qR (.id)))))) (sK (QR (Ql ⟨[],[]⟩ (Qf Qd ⟨[(2,B false)],[]⟩ (sT (qR (.id)))))))
 exact Qf Qd (II G (Qr G [111,110])) (sC (Qr G [111,110]) (sK (QS (Qr G [111,110]))) (Qf Qd (II G (Qr G [119,111,114,107])) (sC (Qr G [119,111,114,107]) (sK (QS (Qr G [119,111,114,107]))) (Qf Qd (II G (Qr G [115,97,116,117,114,100,97,121])) (sC (Qr G [115,97,116,117,114,100,97,121]) (sK (QS (Qr G [115,97,116,117,114,100,97,121]))) (Qf Qd (II G (Qr G [115,117,110,100,97,121])) (sC (Qr G [115,117,110,100,97,121]) (sK (QS (Qr G [115,117,110,100,97,121]))) (Qf Qd (II G (Qr G [98,101,116,119,101,101,110])) (sC (Qr G [98,101,116,119,101,101,110]) (sK (QS (Qr G [98,101,116,119,101,101,110]))) (Qf Qd (II G (Qr G [112,101,114])) (sC (Qr G [112,101,114]) (sK (QS (Qr G [112,101,114]))) (sL Qd (QS (Qr G [102,114,101,101]))))))))))))))
def UN (n:Nat) (G:List UInt8):Option Bool :=
 (VD n G).bind fun r1 =>
 cond (!Qp r1 0)
  (some true)
  ((Yy n G).bind fun J =>
  cond J
   (some true)
   ((Kg n G).bind fun O =>
   cond O
    (some true)
    ((YX n G).bind fun Y =>
    some Y)))
theorem EM (n:Nat) (G:List UInt8):∀ r,UN n G=some r→QC Tryz.prog 184 [S G] (.ret (B r)):=by
 refine Qj Tryz.func184 rfl Tryz.ntmps184 rfl ?_;unfold UN;refine Qf Qd ⟨[(0,S G)],[]⟩ (sS (sG (xR 1 ?_)));refine xC [] (Rb n G) QF (fun r1=>?_);refine xR 2 (xS (!Qp r1 0) (fun Y=>xN (Qy Y) (xR 11 (xE (Ql ⟨[(2,B true)],[]⟩ (sT (qR (.id))))))) (fun Y=>xO (Qw Y) ?_));refine xC [] (He n G) QF (fun Z=>?_);refine xR 2 (xS Z (fun J=>xN (Qy J) (xR 7 (xE (Ql ⟨[(2,B true)],[]⟩ (sT (qR (.id))))))) (fun J=>xO (Qw J) ?_));refine xC [] (UM n G) QF (fun r5=>?_);refine xR 2 (xS r5 (fun O=>xN (Qy O) (xR 3 (xE (Ql ⟨[(2,B true)],[]⟩ (sT (qR (.id))))))) (fun O=>xO (Qw O) ?_));refine xC [] (Rf n G) QF (fun r7=>?_);exact xR 2 (xE (Ql ⟨[(2,B r7)],[]⟩ (sT (qR (.id)))))
def XA (n:Nat) (G:List UInt8):Option Bool :=
 (UN n G).bind fun r1 =>
 some (!r1)
theorem Rh (n:Nat) (G:List UInt8):∀ r,XA n G=some r→QC Tryz.prog 123 [S G] (.ret (B r)):=by
 refine Qj Tryz.func123 rfl Tryz.ntmps123 rfl ?_;unfold XA;refine Qf Qd ⟨[(0,S G)],[]⟩ (sS (sG (xR 1 ?_)));refine xC [] (EM n G) QF (fun r1=>?_);exact xR 2 (xE (Ql ⟨[(2,B (!r1))],[]⟩ (sT (qR (.id)))))
def WU (n:Nat) (Z:ZK) (O:((List (List PV)) × Int)→Option ((List (List PV)) × ZK)) (G:List (List PV)) (J:Int):Option ((List (List PV)) × ZK) :=
 (X9 n (⟨Z.tks,J,Z.length,[]⟩:ZK)).bind fun Y =>
 cond (Qp Y.Kind 2)
  ((some ()).bind fun _ =>
  cond (QK (List.length (G++[GN.cs (⟨6,[],Y.N,Y.At,[]⟩:GN)])) 64) (
   O (G++[GN.cs (⟨6,[],Y.N,Y.At,[]⟩:GN)],wi (J+1))) none)
  ((cond (Qp Y.Kind 1)
   ((XA n Y.Text).bind fun r6 =>
   some r6)
   (some false)).bind fun j4 =>
  cond j4
   ((some ()).bind fun _ =>
   cond (QK (List.length (G++[GN.cs (⟨5,Y.Text,0,Y.At,[]⟩:GN)])) 64) (
    O (G++[GN.cs (⟨5,Y.Text,0,Y.At,[]⟩:GN)],wi (J+1))) none)
   (some (G,(⟨Z.tks,J,Z.length,[]⟩:ZK))))
def UO (n:Nat) (O:ZK):Option ((List (List PV)) × ZK) :=
 Qn (fun G (J,Y)=>WU n O G J Y) n ([],O.pos)
def bq2:=fun J O G Y=>(.box 84 [.p (.sl 4 (List.map Q0.cs J)),I O,I G, .p (.val Y)]:Blk)
def DZ:=fun J O G Y=>([(1000,(bq2 J O G Y))]:List (Nat × Blk))
def Qd1:=fun G=>([(0, .ptr 1000 0),(1, .p (.val G)),(5, .p (.val (.slice none 0 0)))]:List (Nat × AV))
def QgS:=fun G J=>([(0, .ptr 1000 0),(1, .p (.val G)),(5, .tsl 5 (List.map Zq J) 300)]:List (Nat × AV))
def Ns:=fun G=>([(300, .arr 25 5 (List.map Zq G).length)]:List (Nat × Blk))
def Qiw:=fun G J=>([(0, .ptr 1000 0),(1, .p (.val G)),(5, .tsl 5 (List.map Zq J) 300),(6, .ptr 6 0)]:List (Nat × AV))
def hq7:=fun G=>([(6, .box 87 (YE (Q0.cs G)))]:List (Nat × Blk))
def Qix:=fun J O G=>([(0, .ptr 1000 0),(1, .p (.val J)),(5, .tsl 5 (List.map Zq O) 300),(6, .ptr 6 0),(10,B G)]:List (Nat × AV))
def Qd2:=fun J O G=>([(1,I J),(2,S O),(3,I G),(4, .p (.val (.slice none 0 0))),(5, .ptr 5 0),(10, .ptr 10 0)]:List (Nat × AV))
def Cc:=fun J O G Y=>(.box 25 [I J,S O,I G,I Y, .p (.val (.slice none 0 0))]:Blk)
def hq8:=fun G=>([(5, .box 87 (YE (Q0.cs G))),(10,(Cc 0 [] 0 0))]:List (Nat × Blk))
def Qd3:List (Nat × AV):=[(4, .p (.val (.slice none 0 0))),(10, .ptr 10 0),(11, .ptr 11 0)]
def Ph:=fun J O G Y=>([(10,(Cc 0 [] 0 0)),(11,(Cc J O G Y))]:List (Nat × Blk))
def sq3:=fun J O G Y=>(⟨[(10, .ptr 10 0),(11, .ptr 11 0)],Ph J O G Y⟩:St)
def Qd4:List (Nat × AV):=[(10, .ptr 10 0),(11, .ptr 11 0),(20, .p (.val (.slice none 0 0))),(21,I 0),(22,I 0)]
def Qd5:List (Nat × AV):=[(10, .ptr 10 0),(11, .ptr 11 0),(20, .p (.val (.slice none 0 0))),(21,I 0),(22,I 0),(23,B false)]
def sq4:=fun J O G Y=>(⟨[(10, .ptr 10 0)],[(10,(Cc J O G Y))]⟩:St)
def bq4:=fun G=>(.arr 25 5 (List.map Zq G).length:Blk)
def Ri:=fun G=>([(300,(bq4 G))]:List (Nat × Blk))
def sq5:=fun O G J x3 Z Y=>(⟨QgS O G,Ri G++DZ J x3 Z Y⟩:St)
def Qiy:=fun J O G=>([(0, .ptr 1000 0),(1, .p (.val J)),(5, .tsl 5 (List.map Zq O) 300),(6, .ptr 6 0),(21,B G)]:List (Nat × AV))
theorem Nu (n:Nat) (G:ZK) (Y:Option Addr) (Z aa:Nat):∀ r,UO n G=some r→KD Tryz.prog 188 [Zj, .p (.val (.func (.func 123) #[] #[]))] (Go.Abs.look [(1000, .box 84 [.p (.sl 4 (Lu G.tks)),I G.pos,I G.length,hS Y Z aa])]) (Yh (fun r:(List (List PV)) × ZK=>((.ret (.p (.sl 5 (mI r.1))),[(1000, .box 84 [.p (.sl 4 (Lu r.2.tks)),I r.2.pos,I r.2.length,hS Y Z aa])]):ZB × List (Nat × Blk))) r):=by
 refine Kq (DZ G.tks G.pos G.length (.slice Y Z aa)) Tryz.func188 rfl Tryz.ntmps188 rfl ?_;unfold UO;refine Qf Qd ⟨[(0,Zj),(1, .p (.val (.func (.func 123) #[] #[])))],DZ G.tks G.pos G.length (.slice Y Z aa)⟩ (Qf Qd ⟨Qd1 (.func (.func 123) #[] #[]),DZ G.tks G.pos G.length (.slice Y Z aa)⟩ (sB (Pe ⟨Qd1 (.func (.func 123) #[] #[]),DZ G.tks G.pos G.length (.slice Y Z aa)⟩ (KF (Yr 25 5 300 [5] []) (QG (fun (O,ab)=>⟨QgS (.func (.func 123) #[] #[]) O,Ns O++DZ G.tks ab G.length (.slice Y Z aa)⟩:((List (List PV)) × Int)→St) (Gm) ?_)))));rintro ac ⟨O,ab⟩;show QP (WU n G ac O ab) _ _ _ _ _ _;unfold WU;refine sB (sS (sG (xR 1 ?_)));refine XK [.ro []] (H6 n (⟨G.tks,ab,G.length,[]⟩:ZK) Y Z aa) QF (fun J=>?_);refine xR 2 (xE (Ql ⟨Qiw (.func (.func 123) #[] #[]) O,hq7 J++Ns O++DZ G.tks ab G.length (.slice Y Z aa)⟩ (sS (sB (Qf Qd ⟨Qix (.func (.func 123) #[] #[]) O (Qp J.Kind 2),hq7 J++Ns O++DZ G.tks ab G.length (.slice Y Z aa)⟩ (sC (Qp J.Kind 2) ?_ ?_))))))
 ·refine sG (xR 4 (GD [] [.agg [I J.Kind,S J.Text,I J.N,I J.At],I 6,S [],I J.N,zS] [] [] [] Tryz.func25 rfl Tryz.ntmps25 rfl (Qf Qd ⟨Qd2 6 [] J.N,hq8 J⟩ (Qf Qd ⟨Qd3,Ph 6 [] J.N J.At⟩ (KQ (fun _=>(sq3 6 [] J.N J.At):Unit→St) (Qf Qd ⟨Qd4,Ph 6 [] J.N J.At⟩ (sB (Z7 0 (Qf Qd ⟨Qd5,Ph 6 [] J.N J.At⟩ (sS (QZ (Qt (ZR (M5 (QM (QS ()))))))))))) ?_)))));rintro _;exact Qf Qd (sq4 6 [] J.N J.At) (sT (QD (.agg [.id, .id, .id, .id, .sl 5]) [] [] (.agg [I 6,S [],I J.N,I J.At, .p (.sl 5 (mI []))]) (Wh (xR 1 (xF (Y1 (e:=25) (S:=5) (by_:=64) (enc:=Zq) (tk:=300) (l:=O) (l2:=[GN.cs (⟨6,[],J.N,J.At,[]⟩:GN)]) (xv:=.tsl 5 (mI [GN.cs (⟨6,[],J.N,J.At,[]⟩:GN)]) 19) rfl Qc Qc rfl Qc Qc Qc rfl Qc) (xR 1 (xE (QR (Ql (sq5 (.func (.func 123) #[] #[]) (O++[GN.cs (⟨6,[],J.N,J.At,[]⟩:GN)]) G.tks ab G.length (.slice Y Z aa)) (sL Qd (QR (KW (O++[GN.cs (⟨6,[],J.N,J.At,[]⟩:GN)],wi (ab+1))))))))))))))
 refine KQ (fun j4=>⟨Qiy (.func (.func 123) #[] #[]) O j4,hq7 J++Ns O++DZ G.tks ab G.length (.slice Y Z aa)⟩:Bool→St) ?_ ?_
 ·refine sG (xR 4 (xS (Qp J.Kind 1) (fun h5=>?_) (fun h5=>?_)))
  ·refine xO (Qv h5) (xR 2 ?_);refine xC [] (Rh n J.Text) QF (fun r6=>?_);exact xR 2 (xE (QS r6))
  exact xN (Qx h5) (xR 5 (xE (QS false)))
 rintro j4;refine sC j4 (sG (xR 4 (GD [] [.agg [I J.Kind,S J.Text,I J.N,I J.At],I 5,S J.Text,I 0,zS] [] [] [] Tryz.func25 rfl Tryz.ntmps25 rfl (Qf Qd ⟨Qd2 5 J.Text 0,hq8 J⟩ (Qf Qd ⟨Qd3,Ph 5 J.Text 0 J.At⟩ (KQ (fun _=>(sq3 5 J.Text 0 J.At):Unit→St) (Qf Qd ⟨Qd4,Ph 5 J.Text 0 J.At⟩ (sB (Z7 0 (Qf Qd ⟨Qd5,Ph 5 J.Text 0 J.At⟩ (sS (QZ (Qt (ZR (M5 (QM (QS ()))))))))))) ?_)))))) (Qf Qd ⟨[(4, .tsl 5 (mI O) 300)],Ns O++DZ G.tks ab G.length (.slice Y Z aa)⟩ (sT (Q4 (QB (Q4 (V9 (Q4 (Kw (.sl 5) [1000] []))))))));rintro _;exact Qf Qd (sq4 5 J.Text 0 J.At) (sT (QD (.agg [.id, .id, .id, .id, .sl 5]) [] [] (.agg [I 5,S J.Text,I 0,I J.At, .p (.sl 5 (mI []))]) (Wh (xR 1 (xF (Y1 (e:=25) (S:=5) (by_:=64) (enc:=Zq) (tk:=300) (l:=O) (l2:=[GN.cs (⟨5,J.Text,0,J.At,[]⟩:GN)]) (xv:=.tsl 5 (mI [GN.cs (⟨5,J.Text,0,J.At,[]⟩:GN)]) 36) rfl Qc Qc rfl Qc Qc Qc rfl Qc) (xR 1 (xE (QR (Ql (sq5 (.func (.func 123) #[] #[]) (O++[GN.cs (⟨5,J.Text,0,J.At,[]⟩:GN)]) G.tks ab G.length (.slice Y Z aa)) (sL Qd (QR (KW (O++[GN.cs (⟨5,J.Text,0,J.At,[]⟩:GN)],wi (ab+1))))))))))))))
def KH (n:Nat) (G:ZK):Option Q0 :=
 cond (Qs G.pos (Qb (List.map Q0.cs G.tks)))
  ((QU G.tks G.pos).bind fun J =>
  some J)
  (some (⟨0,[],0,G.length⟩:Q0))
theorem KA (n:Nat) (G:ZK):∀ r,KH n G=some r→QC Tryz.prog 181 [.eptr (ZK.cs G)] (.ret (ag (Q0.cs r))):=by
 refine Qj Tryz.func181 rfl Tryz.ntmps181 rfl ?_;unfold KH;exact Qf Qd ⟨tq8 (.eptr (ZK.cs G)),hq3 0⟩ (sS (Qf Qd ⟨[(0, .eptr (ZK.cs G)),qq 2,(12,B (Qs G.pos (Qb (Lu G.tks))))],hq3 0⟩ (sC (Qs G.pos (Qb (Lu G.tks))) (sS (Bh Qd rfl (xR 8 (xG (ZA (e:=87) (S:=4) (enc:=Q0.cs) (l:=G.tks) (k:=.i64) (n:=G.pos) (sv:=.p (.sl 4 (Lu G.tks))) rfl Qc Qc Qc Qc Qc) (fun J=>xR 2 (MN (Ql ⟨[qq 2],hq4 J⟩ (sT (QB (qR (.id))))))))))) (sK (Ql ⟨tq8 (.eptr (ZK.cs G)),hq3 0⟩ (Qf Qd ⟨[qq 2],hq3 G.length⟩ (sT (qR (.id)))))))))
def Jy (n:Nat) (G:ZK):Option (Except Int Unit) :=
 (KH n G).bind fun r1 =>
 some (.error r1.At)
theorem Hf (n:Nat) (G:ZK):∀ r,Jy n G=some r→QC Tryz.prog 182 [.eptr (ZK.cs G)] (kG (fun r:Unit=>(.tup []:AV)) (fun e:Int=>(.ifc 235 (.agg [I e]):AV)) r):=by
 refine Qj Tryz.func182 rfl Tryz.ntmps182 rfl ?_;unfold Jy;refine sG (xR 1 ?_);refine xC [] (KA n G) QF (fun r1=>?_);exact xR 3 (xPa 235 (.agg [I r1.At]) Qc rfl Qc (qU))
def Xm (n:Nat) (G:List UInt8):Option Bool :=
 (XA n G).bind fun r1 =>
 cond r1
  (some true)
  ((YX n G).bind fun J =>
  some J)
theorem Pi (n:Nat) (G:List UInt8):∀ r,Xm n G=some r→QC Tryz.prog 220 [S G] (.ret (B r)):=by
 refine Qj Tryz.func220 rfl Tryz.ntmps220 rfl ?_;unfold Xm;refine Qf Qd ⟨[(0,S G)],[]⟩ (sS (sG (xR 1 ?_)));refine xC [] (Rh n G) QF (fun r1=>?_);refine xR 1 (xS r1 (fun J=>xN (Qy J) (xR 3 (xE (Ql ⟨[(2,B true)],[]⟩ (sT (qR (.id))))))) (fun J=>xO (Qw J) ?_));refine xC [] (Rf n G) QF (fun O=>?_);exact xR 2 (xE (Ql ⟨[(2,B O)],[]⟩ (sT (qR (.id)))))
def Y8 (n:Nat) (Z:ZK) (O:((List (List PV)) × Int)→Option ((List (List PV)) × ZK)) (G:List (List PV)) (J:Int):Option ((List (List PV)) × ZK) :=
 (X9 n (⟨Z.tks,J,Z.length,[]⟩:ZK)).bind fun Y =>
 cond (Qp Y.Kind 2)
  ((some ()).bind fun _ =>
  cond (QK (List.length (G++[GN.cs (⟨6,[],Y.N,Y.At,[]⟩:GN)])) 64) (
   O (G++[GN.cs (⟨6,[],Y.N,Y.At,[]⟩:GN)],wi (J+1))) none)
  ((cond (Qp Y.Kind 1)
   ((Xm n Y.Text).bind fun r6 =>
   some r6)
   (some false)).bind fun j4 =>
  cond j4
   ((some ()).bind fun _ =>
   cond (QK (List.length (G++[GN.cs (⟨5,Y.Text,0,Y.At,[]⟩:GN)])) 64) (
    O (G++[GN.cs (⟨5,Y.Text,0,Y.At,[]⟩:GN)],wi (J+1))) none)
   (some (G,(⟨Z.tks,J,Z.length,[]⟩:ZK))))
def Ua (n:Nat) (O:ZK):Option ((List (List PV)) × ZK) :=
 Qn (fun G (J,Y)=>Y8 n O G J Y) n ([],O.pos)
theorem IJ (n:Nat) (G:ZK) (Y:Option Addr) (Z aa:Nat):∀ r,Ua n G=some r→KD Tryz.prog 188 [Zj, .p (.val (.func (.func 220) #[] #[]))] (Go.Abs.look [(1000, .box 84 [.p (.sl 4 (Lu G.tks)),I G.pos,I G.length,hS Y Z aa])]) (Yh (fun r:(List (List PV)) × ZK=>((.ret (.p (.sl 5 (mI r.1))),[(1000, .box 84 [.p (.sl 4 (Lu r.2.tks)),I r.2.pos,I r.2.length,hS Y Z aa])]):ZB × List (Nat × Blk))) r):=by
 refine Kq (DZ G.tks G.pos G.length (.slice Y Z aa)) Tryz.func188 rfl Tryz.ntmps188 rfl ?_;unfold Ua;refine Qf Qd ⟨[(0,Zj),(1, .p (.val (.func (.func 220) #[] #[])))],DZ G.tks G.pos G.length (.slice Y Z aa)⟩ (Qf Qd ⟨Qd1 (.func (.func 220) #[] #[]),DZ G.tks G.pos G.length (.slice Y Z aa)⟩ (sB (Pe ⟨Qd1 (.func (.func 220) #[] #[]),DZ G.tks G.pos G.length (.slice Y Z aa)⟩ (KF (Yr 25 5 300 [5] []) (QG (fun (O,ab)=>⟨QgS (.func (.func 220) #[] #[]) O,Ns O++DZ G.tks ab G.length (.slice Y Z aa)⟩:((List (List PV)) × Int)→St) (Gm) ?_)))));rintro ac ⟨O,ab⟩;show QP (Y8 n G ac O ab) _ _ _ _ _ _;unfold Y8;refine sB (sS (sG (xR 1 ?_)));refine XK [.ro []] (H6 n (⟨G.tks,ab,G.length,[]⟩:ZK) Y Z aa) QF (fun J=>?_);refine xR 2 (xE (Ql ⟨Qiw (.func (.func 220) #[] #[]) O,hq7 J++Ns O++DZ G.tks ab G.length (.slice Y Z aa)⟩ (sS (sB (Qf Qd ⟨Qix (.func (.func 220) #[] #[]) O (Qp J.Kind 2),hq7 J++Ns O++DZ G.tks ab G.length (.slice Y Z aa)⟩ (sC (Qp J.Kind 2) ?_ ?_))))))
 ·refine sG (xR 4 (GD [] [.agg [I J.Kind,S J.Text,I J.N,I J.At],I 6,S [],I J.N,zS] [] [] [] Tryz.func25 rfl Tryz.ntmps25 rfl (Qf Qd ⟨Qd2 6 [] J.N,hq8 J⟩ (Qf Qd ⟨Qd3,Ph 6 [] J.N J.At⟩ (KQ (fun _=>(sq3 6 [] J.N J.At):Unit→St) (Qf Qd ⟨Qd4,Ph 6 [] J.N J.At⟩ (sB (Z7 0 (Qf Qd ⟨Qd5,Ph 6 [] J.N J.At⟩ (sS (QZ (Qt (ZR (M5 (QM (QS ()))))))))))) ?_)))));rintro _;exact Qf Qd (sq4 6 [] J.N J.At) (sT (QD (.agg [.id, .id, .id, .id, .sl 5]) [] [] (.agg [I 6,S [],I J.N,I J.At, .p (.sl 5 (mI []))]) (Wh (xR 1 (xF (Y1 (e:=25) (S:=5) (by_:=64) (enc:=Zq) (tk:=300) (l:=O) (l2:=[GN.cs (⟨6,[],J.N,J.At,[]⟩:GN)]) (xv:=.tsl 5 (mI [GN.cs (⟨6,[],J.N,J.At,[]⟩:GN)]) 19) rfl Qc Qc rfl Qc Qc Qc rfl Qc) (xR 1 (xE (QR (Ql (sq5 (.func (.func 220) #[] #[]) (O++[GN.cs (⟨6,[],J.N,J.At,[]⟩:GN)]) G.tks ab G.length (.slice Y Z aa)) (sL Qd (QR (KW (O++[GN.cs (⟨6,[],J.N,J.At,[]⟩:GN)],wi (ab+1))))))))))))))
 refine KQ (fun j4=>⟨Qiy (.func (.func 220) #[] #[]) O j4,hq7 J++Ns O++DZ G.tks ab G.length (.slice Y Z aa)⟩:Bool→St) ?_ ?_
 ·refine sG (xR 4 (xS (Qp J.Kind 1) (fun h5=>?_) (fun h5=>?_)))
  ·refine xO (Qv h5) (xR 2 ?_);refine xC [] (Pi n J.Text) QF (fun r6=>?_);exact xR 2 (xE (QS r6))
  exact xN (Qx h5) (xR 5 (xE (QS false)))
 rintro j4;refine sC j4 (sG (xR 4 (GD [] [.agg [I J.Kind,S J.Text,I J.N,I J.At],I 5,S J.Text,I 0,zS] [] [] [] Tryz.func25 rfl Tryz.ntmps25 rfl (Qf Qd ⟨Qd2 5 J.Text 0,hq8 J⟩ (Qf Qd ⟨Qd3,Ph 5 J.Text 0 J.At⟩ (KQ (fun _=>(sq3 5 J.Text 0 J.At):Unit→St) (Qf Qd ⟨Qd4,Ph 5 J.Text 0 J.At⟩ (sB (Z7 0 (Qf Qd ⟨Qd5,Ph 5 J.Text 0 J.At⟩ (sS (QZ (Qt (ZR (M5 (QM (QS ()))))))))))) ?_)))))) (Qf Qd ⟨[(4, .tsl 5 (mI O) 300)],Ns O++DZ G.tks ab G.length (.slice Y Z aa)⟩ (sT (Q4 (QB (Q4 (V9 (Q4 (Kw (.sl 5) [1000] []))))))));rintro _;exact Qf Qd (sq4 5 J.Text 0 J.At) (sT (QD (.agg [.id, .id, .id, .id, .sl 5]) [] [] (.agg [I 5,S J.Text,I 0,I J.At, .p (.sl 5 (mI []))]) (Wh (xR 1 (xF (Y1 (e:=25) (S:=5) (by_:=64) (enc:=Zq) (tk:=300) (l:=O) (l2:=[GN.cs (⟨5,J.Text,0,J.At,[]⟩:GN)]) (xv:=.tsl 5 (mI [GN.cs (⟨5,J.Text,0,J.At,[]⟩:GN)]) 36) rfl Qc Qc rfl Qc Qc Qc rfl Qc) (xR 1 (xE (QR (Ql (sq5 (.func (.func 220) #[] #[]) (O++[GN.cs (⟨5,J.Text,0,J.At,[]⟩:GN)]) G.tks ab G.length (.slice Y Z aa)) (sL Qd (QR (KW (O++[GN.cs (⟨5,J.Text,0,J.At,[]⟩:GN)],wi (ab+1))))))))))))))
abbrev Aj:=(Except (Int × ZK) (GN × ZK))
def Yi (r1:Q0) (O:List (List PV)) (Y:List Q0) (G:Int) (J:Int):Option Aj :=
 some (.ok ((⟨4,r1.Text,0,r1.At,O⟩:GN),(⟨Y,wi (G+1),J,[]⟩:ZK)))
def Yj (n:Nat) (Z:ZK) (r1:Q0):Option Aj :=
 ((Ua n (⟨Z.tks,wi (Z.pos+1),Z.length,[]⟩:ZK)).bind fun r4 =>
 cond (QK (List.length ([]++r4.1)) 64) (
  some ([]++r4.1,r4.2.tks,r4.2.pos,r4.2.length)) none).bind fun (Y,O,J,G) =>
 (X9 n (⟨O,J,G,[]⟩:ZK)).bind fun r5 =>
 (cond (Qp r5.Kind 0)
  (some true)
  ((cond (Qp r5.Kind 3)
   (some (Qr r5.Text [59]))
   (some false)).bind fun j9 =>
  some (!j9))).bind fun j7 =>
 cond j7
  ((Tc n (⟨O,J,G,[]⟩:ZK)).bind (Lr (fun ab =>
   Yi r1 Y O J G) fun aa=>some (.error (aa,(⟨O,J,G,[]⟩:ZK)))))
  (Yi r1 Y O J G)
def H7 (n:Nat) (G:ZK):Option Aj :=
 (X9 n (⟨G.tks,G.pos,G.length,[]⟩:ZK)).bind fun r1 =>
 (cond (Qp r1.Kind 0)
  (some true)
  ((cond (Qp r1.Kind 1)
   ((Kg n r1.Text).bind fun O =>
   some O)
   (some false)).bind fun J =>
  some (!J))).bind fun Z =>
 cond Z
  ((Tc n (⟨G.tks,G.pos,G.length,[]⟩:ZK)).bind (Lr (fun aa =>
   Yj n G r1) fun Y=>some (.error (Y,(⟨G.tks,G.pos,G.length,[]⟩:ZK)))))
  (Yj n G r1)
def Qd6:List (Nat × Blk):=[(1, .box 82 [.ptr 1000 0]),(2,(Cc 0 [] 0 0))]
def bq5:=fun G=>(.box 47 [.p (.val G)]:Blk)
def sq6:=fun G=>(⟨[(1, .ptr 1 0)],[(1,(bq5 G))]⟩:St)
def sq7:=fun G=>(⟨[(2, .fn (.func 183) [] [.ptr 1 0])],[(1,(bq5 G))]⟩:St)
def pG:=fun J O G Y=>([(1000,(bq2 J O G Y)),(1001,(bq5 (.func (.func 192) #[] #[])))]:List (Nat × Blk))
def QiA:=fun G=>([(0, .ptr 1000 0),(1, .fn G [] [.ptr 1001 0]),(4, .ptr 4 0)]:List (Nat × AV))
def eG:List (Nat × Blk):=[(4, .box 87 [I 0,S [],I 0,I 0])]
def QiB:=fun G=>([(0, .ptr 1000 0),(1, .fn G [] [.ptr 1001 0]),(4, .ptr 4 0),(5, .ptr 5 0)]:List (Nat × AV))
def G6:=fun G=>([(4, .box 87 [I 0,S [],I 0,I 0]),(5, .box 87 (YE (Q0.cs G)))]:List (Nat × Blk))
def eH:List (Nat × AV):=[(0, .ptr 1000 0),(4, .ptr 4 0),(5, .ptr 5 0)]
def eO:=fun G=>([(0, .ptr 1000 0),(4, .ptr 4 0),(5, .ptr 5 0),(16,B G)]:List (Nat × AV))
def pI:=fun G=>([(1000,(bq5 G))]:List (Nat × Blk))
def QgU:=fun G J=>(⟨[(1, .ptr 1000 0),(2, .ptr 2 0)],hq4 G++pI J⟩:St)
def eP:=fun G=>([(4, .box 87 (YE (Q0.cs G)))]:List (Nat × Blk))
def QiC:List (Nat × AV):=[(1, .ptr 1 0),(2, .ptr 2 0),(3, .ptr 3 0)]
def gy:=fun G=>([(1, .box 82 [.ptr 1000 0]),(2,(Cc 0 [] 0 0)),(3, .box 87 (YE (Q0.cs G)))]:List (Nat × Blk))
def bq6:Blk:=.box 88 [.fn (.func 219) [] [.ptr 1001 0]]
def Ak:=fun J O G Y=>([(1000,(bq2 J O G Y)),(1001, .box 82 [.ptr 1000 0]),(1002,bq6)]:List (Nat × Blk))
def QgV:=fun J O G Y=>([(1,I J),(2,S (Q0.Text O)),(3,I G),(4,Y),(5, .ptr 5 0),(10, .ptr 10 0)]:List (Nat × AV))
def eQ:=fun G=>([(4,G),(10, .ptr 10 0),(11, .ptr 11 0)]:List (Nat × AV))
def bq7:=fun G=>(.box 25 [I 4,S (Q0.Text G),I 0,I (Q0.At G), .p (.val (.slice none 0 0))]:Blk)
def eT:=fun G=>([(10,(Cc 0 [] 0 0)),(11,(bq7 G))]:List (Nat × Blk))
def bq8:=fun G J=>(.box 25 [I 4,S (Q0.Text G),I 0,I (Q0.At G), .tsl 5 (List.map Zq J) 300]:Blk)
abbrev Vz:=((List (List PV)) × (List Q0) × Int × Int)
def Rj:=fun J O G=>([(10, .ptr 10 0),(11, .ptr 11 0),(20,J),(21,I O),(22,I G)]:List (Nat × AV))
def Pj:=fun J O G Y=>([(10, .ptr 10 0),(11, .ptr 11 0),(20,J),(21,I O),(22,I G),(23,B Y)]:List (Nat × AV))
def QiE:List (Nat × AV):=[(10, .ptr 10 0),(11, .ptr 11 0),(13, .fn (.func 219) [] [.ptr 1001 0]),(20,(.bsl 1002 1)),(21,I 1),(22,I 0)]
def QgW:=fun J O G Y=>([(1000,(bq2 J O G Y)),(1001, .box 82 [.ptr 1000 0])]:List (Nat × Blk))
def cu:=fun G=>(.box 25 (YE (GN.cs G)):Blk)
def QbC:=fun G=>([(1, .box 9 [S G])]:List (Nat × Blk))
def sq8:=fun G=>(⟨[(2, .fn (.func 185) [] [.ptr 1 0])],QbC G⟩:St)
def pJ:=fun J O G Y=>([(1000,(bq2 J O G Y)),(1001, .box 9 [S [59]])]:List (Nat × Blk))
def jb:=fun G=>([(1000, .box 9 [S G])]:List (Nat × Blk))
def sq9:=fun G J=>(⟨[(1, .ptr 1000 0),(2, .ptr 2 0)],hq4 G++jb J⟩:St)
theorem zu (n:Nat) (G:ZK) (J:Option Addr) (O Y:Nat):∀ r,H7 n G=some r→KD Tryz.prog 190 [Zj] (Go.Abs.look [(1000, .box 84 [.p (.sl 4 (Lu G.tks)),I G.pos,I G.length,hS J O Y])]) (Yh (Qii (fun r:GN × ZK=>((.ret (ag (GN.cs r.1)),[(1000, .box 84 [.p (.sl 4 (Lu r.2.tks)),I r.2.pos,I r.2.length,hS J O Y])]):ZB × List (Nat × Blk))) (fun e:Int × ZK=>((.panic (.ifc 235 (.agg [I e.1])),[(1000, .box 84 [.p (.sl 4 (Lu e.2.tks)),I e.2.pos,I e.2.length,hS J O Y])]):ZB × List (Nat × Blk)))) r):=by
 refine Kq (DZ G.tks G.pos G.length (.slice J O Y)) Tryz.func190 rfl Tryz.ntmps190 rfl ?_;unfold H7;refine Qf Qd ⟨[qq 1,qq 2],Qd6++DZ G.tks G.pos G.length (.slice J O Y)⟩ (sS (Pe ⟨[qq 1,qq 2],Qd6++DZ G.tks G.pos G.length (.slice J O Y)⟩ (uS [0] 3 3 [1,2,3,4] Qd rfl Qc Qc (Qo (QA Zj rfl) (Qg)) Qc (Ol (f:=120) (args:=[.p (.val (.func (.func 192) #[] #[]))]) (dst:=some 6) Qc Qc rfl (QQ (hc:=[]) (args':=[.p (.val (.func (.func 192) #[] #[]))]) [(1,401)] [] [] Tryz.func120 rfl Tryz.ntmps120 rfl Qc Qc Qc (Qf Qd (sq6 (.func (.func 192) #[] #[])) (Qf Qd (sq7 (.func (.func 192) #[] #[])) (sT (QD (.id) [1] [] (.fn (.func 183) [] [.ptr 1 0]) (kf [0] Qc (Qo (QA Zj rfl) (Qg)) Qc (Ol (f:=119) (args:=[Zj, .fn (.func 183) [] [.ptr 401 0]]) (dst:=some 7) Qc Qc rfl (QQ (hc:=(pG G.tks G.pos G.length (.slice J O Y))) (args':=[Zj, .fn (.func 183) [] [Rw]]) [(1001,401),(1000,1000)] [] [] Tryz.func119 rfl Tryz.ntmps119 rfl Qc Qc Qc (Qf Qd ⟨QiA (.func 183),eG++pG G.tks G.pos G.length (.slice J O Y)⟩ (sS (sG (xR 1 ?_))))))))))))))));refine XK [.ro []] (H6 n (⟨G.tks,G.pos,G.length,[]⟩:ZK) J O Y) QF (fun r1=>?_);refine xR 2 (xE (Ql ⟨QiB (.func 183),G6 r1++pG G.tks G.pos G.length (.slice J O Y)⟩ (Yc (fun _=>⟨eH,G6 r1++pG G.tks G.pos G.length (.slice J O Y)⟩:Unit→St) (fun _=>Yj n G r1) ?_ ?_)));rotate_left
 ·refine KQ (fun af=>⟨eO af,G6 r1++pG G.tks G.pos G.length (.slice J O Y)⟩:Bool→St) ?_ ?_;rotate_left
  ·rintro af;refine sC af ?_ ?_
   ·refine sG (xR 1 ?_);refine Bl [.ro []] (Il n (⟨G.tks,G.pos,G.length,[]⟩:ZK) J O Y) QF QF (fun al=>?_) (fun an=>?_)
    ·exact xE (KW (k:=fun _=>Yj n G r1) ())
    exact Gu (NT [1000,1001] [] (uO _ rfl (Un (lI [1000] []))))
   exact sK (KW (k:=fun _=>Yj n G r1) ())
  refine sG (xR 4 (xS (Qp r1.Kind 0) (fun ai=>xN (Qy ai) (xR 4 (xE (QS true)))) (fun ai=>xO (Qw ai) (xR 1 (GD (pI (.func (.func 192) #[] #[])) [.agg [I r1.Kind,S r1.Text,I r1.N,I r1.At],Zj] [(1000,1001)] [] [] Tryz.func183 rfl Tryz.ntmps183 rfl (Qf Qd (QgU r1 (.func (.func 192) #[] #[])) (KQ (fun ad=>⟨[(3,B ad)],pI (.func (.func 192) #[] #[])⟩:Bool→St) ?_ ?_)))))))
  ·refine sG (xR 4 (xS (Qp r1.Kind 1) (fun ae=>?_) (fun ae=>?_)))
   ·refine xO (Qv ae) (xR 2 ?_);refine xC [] (UM n r1.Text) QF (fun aj=>?_);exact xR 2 (xE (QS aj))
   exact xN (Qx ae) (xR 5 (xE (QS false)))
  rintro ad;exact sT (QD (.id) [1000] [] (B ad) (Wh (xR 2 (xE (QS (!ad))))))
 rintro _;show QP (Yj n G r1) _ _ _ _ _ _;unfold Yj;refine Qf Qd ⟨[qq 4,qq 5],G6 r1++pG G.tks (wi (G.pos+1)) G.length (.slice J O Y)⟩ (Qf Qd ⟨[qq 4],eP r1++pG G.tks (wi (G.pos+1)) G.length (.slice J O Y)⟩ (sT (QD (.id) [1000,1001] [] (.agg [I r1.Kind,S r1.Text,I r1.N,I r1.At]) (kf [] Qc (Qg) Qc (f_q [0] Qc Qc (Qo (QA Zj rfl) (Qg)) (Qip [] rfl Qc Qc (Qg) Qc (Qfe (Ql ⟨QiC,gy r1++DZ G.tks (wi (G.pos+1)) G.length (.slice J O Y)⟩ (sS (sG (xR 5 (GD (Ak G.tks (wi (G.pos+1)) G.length (.slice J O Y)) [.agg [I r1.Kind,S r1.Text,I r1.N,I r1.At],I 4,S r1.Text,I 0, .bsl 1002 1] [(1001,1),(1002,12),(1000,1000)] [] [] Tryz.func25 rfl Tryz.ntmps25 rfl (Qf Qd ⟨QgV 4 r1 0 (.bsl 1002 1),hq8 r1++Ak G.tks (wi (G.pos+1)) G.length (.slice J O Y)⟩ (Qf Qd ⟨eQ (.bsl 1002 1),eT r1++Ak G.tks (wi (G.pos+1)) G.length (.slice J O Y)⟩ (KQ (fun (ac,ab,aa,Z)=>⟨[qq 10,qq 11],[(10,(Cc 0 [] 0 0)),(11,(bq8 r1 ac))]++Ns ac++Ak ab aa Z (.slice J O Y)⟩:Vz→St) ?_ ?_)))))))))))))))
 ·refine Qf Qd ⟨Rj (.bsl 1002 1) 1 0,eT r1++Ak G.tks (wi (G.pos+1)) G.length (.slice J O Y)⟩ (sB (Z7 1 (Qf Qd ⟨Pj (.bsl 1002 1) 1 0 true,eT r1++Ak G.tks (wi (G.pos+1)) G.length (.slice J O Y)⟩ (sS (ZQ (sK (Ql ⟨Rj (.bsl 1002 1) 1 0,eT r1++Ak G.tks (wi (G.pos+1)) G.length (.slice J O Y)⟩ (sS (sB (Qf Qd ⟨QiE,eT r1++Ak G.tks (wi (G.pos+1)) G.length (.slice J O Y)⟩ (Pe ⟨QiE,eT r1++Ak G.tks (wi (G.pos+1)) G.length (.slice J O Y)⟩ (KF (Yr 25 5 300 [] [(11,4)]) (KG [0,1,2] [0,1] [(3,[]),(4,[]),(5,[]),(6,[])] Qd rfl (ZH (f:=219) (args:=[Rw]) (dst:=some 29) (QQ (hc:=(QgW G.tks (wi (G.pos+1)) G.length (.slice J O Y))) (args':=[Rw]) [(1000,1000),(1001,1001)] [] [] Tryz.func219 rfl Tryz.ntmps219 rfl Qc Qc Qc (Qf Qd ⟨[(0,Rw)],QgW G.tks (wi (G.pos+1)) G.length (.slice J O Y)⟩ (sS (sG (xR 1 ?_)))))))))))))))))));refine U2 [(1000,1000)] [] [] (IJ n (⟨G.tks,wi (G.pos+1),G.length,[]⟩:ZK) J O Y) QF QF (fun r4=>?_);exact xR 1 (xE (Ql ⟨[(1, .p (.sl 5 (mI r4.1)))],QgW r4.2.tks r4.2.pos r4.2.length (.slice J O Y)⟩ (sT (QD (.id) [1000,1001] [] (.p (.sl 5 (mI r4.1))) (kh [0,1] (Qo (QA (.ptr 11 4) rfl) (Qo (Ju (S:=5) (t:=300) (ty:=25) (es:=mI []) rfl) (Qg))) (Af [] rfl (Jr (e:=25) (S:=5) (by_:=64) (enc:=Zq) (tk:=300) (l:=[]) (l2:=r4.1) (xv:=.p (.sl 5 (mI r4.1))) rfl Qc Qc rfl Qc Qc Qc Qc) (fun _=>Qg) (Yx [] (Qg) (Yx [] (Qg) (WK (QR (Ql ⟨Rj (.bsl 1002 1) 1 0,[(10,(Cc 0 [] 0 0)),(11,(bq8 r1 ([]++r4.1)))]++Ri ([]++r4.1)++Ak r4.2.tks r4.2.pos r4.2.length (.slice J O Y)⟩ (sL Qd (N8 ⟨[10,11,20,21,22],[10,11,300,1000,1001,1002],[],[]⟩ ⟨Rj (.bsl 1002 1) 1 1,[(10,(Cc 0 [] 0 0)),(11,(bq8 r1 ([]++r4.1)))]++Ri ([]++r4.1)++Ak r4.2.tks r4.2.pos r4.2.length (.slice J O Y)⟩ (Qf Qd ⟨Pj (.bsl 1002 1) 1 1 false,[(10,(Cc 0 [] 0 0)),(11,(bq8 r1 ([]++r4.1)))]++Ri ([]++r4.1)++Ak r4.2.tks r4.2.pos r4.2.length (.slice J O Y)⟩ (sS (QZ (Qt (ZR (M5 (QM (QS ([]++r4.1,r4.2.tks,r4.2.pos,r4.2.length))))))))))))))))))))))
 rintro ⟨ac,ab,aa,Z⟩;refine Qf Qd ⟨[qq 10],[(10,(bq8 r1 ac))]++Ns ac++Ak ab aa Z (.slice J O Y)⟩ (sT (QD (.agg [.id, .id, .id, .id, .sl 5]) [1000,1001,1002] [] (.agg [I 4,S r1.Text,I 0,I r1.At, .p (.sl 5 (mI ac))]) (Wh (xR 2 (xE (Ql ⟨[qq 1,qq 2,qq 4],[(1, .box 82 [Zj]),(2,(Cc 0 [] 0 0)),(4,(cu ⟨4,r1.Text,0,r1.At,ac⟩))]++DZ ab aa Z (.slice J O Y)⟩ (sS (KG [0] [0] [(1,[]),(2,[])] Qd rfl (ZH (f:=125) (args:=[S [59]]) (dst:=some 15) (QQ (hc:=[]) (args':=[S [59]]) [(1,401)] [] [] Tryz.func125 rfl Tryz.ntmps125 rfl Qc Qc Qc (Qf Qd ⟨[qq 1],QbC [59]⟩ (Qf Qd (sq8 [59]) (sT (QD (.id) [1] [] (.fn (.func 185) [] [.ptr 1 0]) (kh [0] (Qo (QA Zj rfl) (Qg)) (ZH (f:=119) (args:=[Zj, .fn (.func 185) [] [.ptr 401 0]]) (dst:=some 16) (QQ (hc:=(pJ ab aa Z (.slice J O Y))) (args':=[Zj, .fn (.func 185) [] [Rw]]) [(1001,401),(1000,1000)] [] [] Tryz.func119 rfl Tryz.ntmps119 rfl Qc Qc Qc (Qf Qd ⟨QiA (.func 185),eG++pJ ab aa Z (.slice J O Y)⟩ (sS (sG (xR 1 ?_)))))))))))))))))))));refine XK [.ro []] (H6 n (⟨ab,aa,Z,[]⟩:ZK) J O Y) QF (fun r5=>?_);refine xR 2 (xE (Ql ⟨QiB (.func 185),G6 r5++pJ ab aa Z (.slice J O Y)⟩ (Yc (fun _=>⟨eH,G6 r5++pJ ab aa Z (.slice J O Y)⟩:Unit→St) (fun _=>Yi r1 ac ab aa Z) ?_ ?_)))
 ·rintro _;show QP (Yi r1 ac ab aa Z) _ _ _ _ _ _;unfold Yi;exact Qf Qd ⟨[qq 4,qq 5],G6 r5++pJ ab (wi (aa+1)) Z (.slice J O Y)⟩ (Qf Qd ⟨[qq 4],eP r5++pJ ab (wi (aa+1)) Z (.slice J O Y)⟩ (sT (QD (.id) [1000,1001] [] (.agg [I r5.Kind,S r5.Text,I r5.N,I r5.At]) (kh [] (Qg) (WK (Ql ⟨[qq 2,qq 4],[(2,(Cc 0 [] 0 0)),(4,(cu ⟨4,r1.Text,0,r1.At,ac⟩))]++DZ ab (wi (aa+1)) Z (.slice J O Y)⟩ (Qf Qd ⟨[qq 2],[(2,(cu ⟨4,r1.Text,0,r1.At,ac⟩))]++DZ ab (wi (aa+1)) Z (.slice J O Y)⟩ (sT (Kw (.id) [1000] [])))))))))
 refine KQ (fun j7=>⟨eO j7,G6 r5++pJ ab aa Z (.slice J O Y)⟩:Bool→St) ?_ ?_;rotate_left
 ·rintro j7;refine sC j7 ?_ ?_
  ·refine sG (xR 1 ?_);refine Bl [.ro []] (Il n (⟨ab,aa,Z,[]⟩:ZK) J O Y) QF QF (fun ak=>?_) (fun am=>?_)
   ·exact xE (KW (k:=fun _=>Yi r1 ac ab aa Z) ())
   exact Gu (NT [1000,1001] [] (uO _ rfl (Un (lI [1000] []))))
  exact sK (KW (k:=fun _=>Yi r1 ac ab aa Z) ())
 refine sG (xR 4 (xS (Qp r5.Kind 0) (fun h8=>xN (Qy h8) (xR 4 (xE (QS true)))) (fun h8=>xO (Qw h8) (xR 1 (GD (jb [59]) [.agg [I r5.Kind,S r5.Text,I r5.N,I r5.At],Zj] [(1000,1001)] [] [] Tryz.func185 rfl Tryz.ntmps185 rfl (Qf Qd (sq9 r5 [59]) (KQ (fun j9=>⟨[(3,B j9)],jb [59]⟩:Bool→St) (sG (xR 4 (xS (Qp r5.Kind 3) (fun ah=>xO (Qv ah) (xR 5 (xE (QS (Qr r5.Text [59]))))) (fun ah=>xN (Qx ah) (xR 5 (xE (QS false))))))) ?_)))))));rintro j9;exact sT (QD (.id) [1000] [] (B j9) (Wh (xR 2 (xE (QS (!j9))))))
def Wi (G:ZK) (J:Int→Option ((List UInt8) × ZK)) (O:Int):Option ((List UInt8) × ZK) :=
 cond (Qs O (Qb (List.map Q0.cs G.tks)))
  ((QU G.tks O).bind fun Y =>
  (cond (Qp Y.Kind 3)
   (some (!Qr Y.Text [123]))
   (some false)).bind fun Z =>
  cond Z
   (some (Y.Text,(⟨G.tks,wi (O+1),G.length,[]⟩:ZK)))
   (J (wi (O+1))))
  (some ([],(⟨G.tks,O,G.length,[]⟩:ZK)))
def Td (n:Nat) (J:ZK):Option ((List UInt8) × ZK) :=
 Qn (fun G O=>Wi J G O) n J.pos
def QgX:=fun G=>([(3, .box 87 (YE (Q0.cs G)))]:List (Nat × Blk))
theorem Io (n:Nat) (G:ZK) (Y:Option Addr) (J O:Nat):∀ r,Td n G=some r→KD Tryz.prog 118 [Zj] (Go.Abs.look [(1000, .box 84 [.p (.sl 4 (Lu G.tks)),I G.pos,I G.length,hS Y J O])]) (Yh (fun r:(List UInt8) × ZK=>((.ret (S r.1),[(1000, .box 84 [.p (.sl 4 (Lu r.2.tks)),I r.2.pos,I r.2.length,hS Y J O])]):ZB × List (Nat × Blk))) r):=by
 refine Kq (DZ G.tks G.pos G.length (.slice Y J O)) Tryz.func118 rfl Tryz.ntmps118 rfl ?_;unfold Td;refine Qf Qd ⟨[(0,Zj)],DZ G.tks G.pos G.length (.slice Y J O)⟩ (sS (sB (QG (fun Z=>⟨[(0,Zj)],DZ G.tks Z G.length (.slice Y J O)⟩:Int→St) (Gm) ?_)));rintro aa Z;show QP (Wi G aa Z) _ _ _ _ _ _;unfold Wi;refine sS (Qf Qd ⟨[(0,Zj),(13,B (Qs Z (Qb (Lu G.tks))))],DZ G.tks Z G.length (.slice Y J O)⟩ (sC (Qs Z (Qb (Lu G.tks))) (sK (Ql ⟨[(0,Zj)],DZ G.tks Z G.length (.slice Y J O)⟩ (sB (sS (Bh Qd rfl (xR 8 (xG (ZA (e:=87) (S:=4) (enc:=Q0.cs) (l:=G.tks) (k:=.i64) (n:=Z) (sv:=.p (.sl 4 (Lu G.tks))) rfl Qc Qc Qc Qc Qc) (fun x2=>xR 3 (MN (Ql ⟨[(0,Zj),qq 3],QgX x2++DZ G.tks Z G.length (.slice Y J O)⟩ (Qf Qd ⟨[(0,Zj),qq 3],QgX x2++DZ G.tks (wi (Z+1)) G.length (.slice Y J O)⟩ (KQ (fun j3=>⟨[(0,Zj),qq 3,(38,B j3)],QgX x2++DZ G.tks (wi (Z+1)) G.length (.slice Y J O)⟩:Bool→St) (sG (xR 4 (xS (Qp x2.Kind 3) (fun h4=>xO (Qv h4) (xR 3 (xE (QS (!Qr x2.Text [123]))))) (fun h4=>xN (Qx h4) (xR 3 (xE (QS false))))))) ?_)))))))))))) (Qt (ZR (Yw (QM (Ql ⟨[],DZ G.tks Z G.length (.slice Y J O)⟩ (Qf Qd ⟨[(2,S [])],DZ G.tks Z G.length (.slice Y J O)⟩ (sT (Kw (.id) [1000] []))))))))));rintro j3;exact sC j3 (Qf Qd ⟨[(2,S x2.Text)],DZ G.tks (wi (Z+1)) G.length (.slice Y J O)⟩ (sT (Q4 (V9 (Q4 (QB (Kw (.id) [1000] []))))))) (sK (QR (KW (wi (Z+1)))))
def Jz (r1:Q0) (r3:Q0) (r5:Int) (G:List (List PV)) (Z:List Q0) (J:Int) (O:Int) (Y:List Zw):Option Aj :=
 some (.ok ((⟨2,r3.Text,r5,r1.At,G⟩:GN),(⟨Z,J,O,Y⟩:ZK)))
abbrev ty3:=((List (List PV)) × (List Q0) × Int × Int × Int × (List UInt8) × Int × Int)
def H8 (n:Nat) (al:ZK) (ai:ty3→Option Vz) (J:List (List PV)) (ae:List Q0) (af:Int) (ad:Int) (aj:Int) (aa:List UInt8) (an:Int) (ah:Int):Option Vz :=
 (cond (Qp aj 1)
  ((Yy n aa).bind fun am =>
  some am)
  (some false)).bind fun ak =>
 cond ak
  (((UO n (⟨ae,wi (af+1),ad,[]⟩:ZK)).bind fun G =>
  cond (QK (List.length ([]++G.1)) 64) (
   some ([]++G.1,G.2.tks,G.2.pos,G.2.length)) none).bind fun (Y,Z,ab,O) =>
  cond (QK (List.length (J++[GN.cs (⟨3,aa,0,ah,Y⟩:GN)])) 64) (
   (KH n (⟨Z,ab,O,al.dg⟩:ZK)).bind fun ac =>
   ai (J++[GN.cs (⟨3,aa,0,ah,Y⟩:GN)],Z,ab,O,ac.Kind,ac.Text,ac.N,ac.At)) none)
  (some (J,ae,af,ad))
abbrev Ip:=((List (List PV)) × (List Q0) × Int × Int × (List Zw))
def JK (J:List (List PV)) (G:List (List PV)) (Y:List Q0) (O:Int) (Z:Int) (aa:List Zw):Option Ip :=
 cond (QK (List.length ((([]++J)++[])++G)) 64) (
  some ((([]++J)++[])++G,Y,O,Z,aa)) none
def Vl (n:Nat) (ab:List (List PV)) (ai:Ip→Option Ip) (G:List (List PV)) (Y:List Q0) (O:Int) (Z:Int) (J:List Zw):Option Ip :=
 (Ta n (⟨Y,O,Z,J⟩:ZK)).bind fun aw =>
 cond (!aw)
  ((KH n (⟨Y,O,Z,J⟩:ZK)).bind fun au =>
  (cond (Qp au.Kind 3)
   (some (Qr au.Text [125]))
   (some false)).bind fun av =>
  cond av
   (cond (QK (List.length ((([]++ab)++[])++G)) 64) (
    some ((([]++ab)++[])++G,Y,wi (O+1),Z,J)) none)
   (((H7 n (⟨Y,O,Z,[]⟩:ZK)).bind (Lr (fun aa =>
    some (true,[],aa.2.tks,aa.2.pos,aa.2.length,J,aa.1.Kind,aa.1.Name,aa.1.N,aa.1.At,aa.1.Kids)) fun ak=>cond (QK (List.length (J++[(⟨7,ak.1⟩:Zw)])) 16) (
    (Td n (⟨ak.2.tks,ak.2.pos,ak.2.length,[]⟩:ZK)).bind fun ao =>
    some (false,ao.1,ao.2.tks,ao.2.pos,ao.2.length,J++[(⟨7,ak.1⟩:Zw)],0,[],0,0,[])) none)).bind fun (ar,aq,ad,af,ae,ac,an,al,am,ah,aj) =>
   cond ar
    (cond (QK (List.length (G++[GN.cs (⟨an,al,am,ah,aj⟩:GN)])) 64) (
     ai (G++[GN.cs (⟨an,al,am,ah,aj⟩:GN)],ad,af,ae,ac)) none)
    (cond (!Qr aq [59])
     (cond (QK (List.length ((([]++ab)++[])++G)) 64) (
      some ((([]++ab)++[])++G,ad,af,ae,ac)) none)
     (ai (G,ad,af,ae,ac)))))
  (JK ab G Y O Z J)
def Vm (n:Nat) (al:ZK) (r1:Q0) (r3:Q0) (r5:Int) (J:List (List PV)) (aj:List Q0) (ak:Int) (ai:Int):Option Aj :=
 cond (QK (List.length (([]++J)++[])) 64) (
  (Qn (fun G (ad,ab,O,ae,aa)=>Vl n J G ad ab O ae aa) n ([],aj,wi (ak+1),ai,al.dg)).bind fun (ac,ah,af,Z,Y) =>
  Jz r1 r3 r5 ac ah af Z Y) none
def JL (Z:ZK) (r1:Q0) (r3:Q0) (r5:Int) (O:List (List PV)) (G:List Q0) (J:Int) (Y:Int):Option Aj :=
 some (.ok ((⟨2,r3.Text,r5,r1.At,O⟩:GN),(⟨G,J,Y,Z.dg⟩:ZK)))
def Vn (n:Nat) (al:ZK) (ah:ty3→Option Vz) (J:List (List PV)) (af:List Q0) (ad:Int) (O:Int) (aj:Int) (G:List UInt8) (ak:Int) (Y:Int):Option Vz :=
 (cond (Qp aj 1)
  ((Yy n G).bind fun am =>
  some am)
  (some false)).bind fun an =>
 cond an
  (((UO n (⟨af,wi (ad+1),O,[]⟩:ZK)).bind fun ab =>
  cond (QK (List.length ([]++ab.1)) 64) (
   some ([]++ab.1,ab.2.tks,ab.2.pos,ab.2.length)) none).bind fun (Z,ae,aa,ac) =>
  cond (QK (List.length (J++[GN.cs (⟨3,G,0,Y,Z⟩:GN)])) 64) (
   (KH n (⟨ae,aa,ac,al.dg⟩:ZK)).bind fun ai =>
   ah (J++[GN.cs (⟨3,G,0,Y,Z⟩:GN)],ae,aa,ac,ai.Kind,ai.Text,ai.N,ai.At)) none)
  (some (J,af,ad,O))
def Vo (Z:ZK) (r1:Q0) (r3:Q0) (r5:Int) (G:List (List PV)) (J:List Q0) (O:Int) (Y:Int):Option Aj :=
 cond (QK (List.length (([]++G)++[])) 64) (
  JL Z r1 r3 r5 (([]++G)++[]) J (wi (O+1)) Y) none
def Wj (n:Nat) (G:ZK) (r1:Q0) (r3:Q0):Option Aj :=
 (VD n r1.Text).bind fun r5 =>
 cond (Qp r5 7)
  (((KH n (⟨G.tks,wi ((wi (G.pos+1))+1),G.length,G.dg⟩:ZK)).bind fun r8 =>
  Qn (fun aj (ax,a7,a6,aw,av,ay,az,a8)=>H8 n G aj ax a7 a6 aw av ay az a8) n ([],G.tks,wi ((wi (G.pos+1))+1),G.length,r8.Kind,r8.Text,r8.N,r8.At)).bind fun (ad,aa,ab,Z) =>
  cond (QK (List.length ([]++ad)) 64) (
   (KH n (⟨aa,ab,Z,G.dg⟩:ZK)).bind fun au =>
   (cond (Qp au.Kind 0)
    (some true)
    ((cond (Qp au.Kind 3)
     (some (Qr au.Text [123]))
     (some false)).bind fun bb =>
    some (!bb))).bind fun ba =>
   cond ba
    ((Jy n (⟨aa,ab,Z,G.dg⟩:ZK)).bind (Lr (fun bg =>
     Vm n G r1 r3 r5 ad aa ab Z) fun bf=>some (.error (bf,(⟨aa,ab,Z,G.dg⟩:ZK)))))
    (Vm n G r1 r3 r5 ad aa ab Z)) none)
  (((KH n (⟨G.tks,wi ((wi (G.pos+1))+1),G.length,G.dg⟩:ZK)).bind fun af =>
  Qn (fun ae (ar,an,am,ah,ak,ai,ao,aq)=>Vn n G ae ar an am ah ak ai ao aq) n ([],G.tks,wi ((wi (G.pos+1))+1),G.length,af.Kind,af.Text,af.N,af.At)).bind fun (ac,O,Y,J) =>
  cond (QK (List.length ([]++ac)) 64) (
   (KH n (⟨O,Y,J,G.dg⟩:ZK)).bind fun al =>
   (cond (Qp al.Kind 0)
    (some true)
    ((cond (Qp al.Kind 3)
     (some (Qr al.Text [59]))
     (some false)).bind fun bd =>
    some (!bd))).bind fun be =>
   cond be
    ((Jy n (⟨O,Y,J,G.dg⟩:ZK)).bind (Lr (fun bh =>
     Vo G r1 r3 r5 ac O Y J) fun bc=>some (.error (bc,(⟨O,Y,J,G.dg⟩:ZK)))))
    (Vo G r1 r3 r5 ac O Y J)) none)
def Wl (n:Nat) (G:ZK) (r1:Q0):Option Aj :=
 (KH n (⟨G.tks,wi (G.pos+1),G.length,G.dg⟩:ZK)).bind fun J =>
 (cond (Qp J.Kind 0)
  (some true)
  ((cond (Qp J.Kind 1)
   ((XA n J.Text).bind fun O =>
   some O)
   (some false)).bind fun Z =>
  some (!Z))).bind fun aa =>
 cond aa
  ((Jy n (⟨G.tks,wi (G.pos+1),G.length,G.dg⟩:ZK)).bind (Lr (fun ab =>
   Wj n G r1 J) fun Y=>some (.error (Y,(⟨G.tks,wi (G.pos+1),G.length,G.dg⟩:ZK)))))
  (Wj n G r1 J)
def BB (n:Nat) (G:ZK):Option Aj :=
 (KH n G).bind fun r1 =>
 (cond (Qp r1.Kind 0)
  (some true)
  ((cond (Qp r1.Kind 1)
   ((F3 n r1.Text).bind fun O =>
   some O)
   (some false)).bind fun Z =>
  some (!Z))).bind fun J =>
 cond J
  ((Jy n G).bind (Lr (fun aa =>
   Wl n G r1) fun Y=>some (.error (Y,G))))
  (Wl n G r1)
def Qky:=fun J O G Y=>(.box 84 [.p (.sl 4 (List.map Q0.cs J)),I O,I G, .tsl 2 (List.map Zw.cs Y) 1103]:Blk)
def XB:=fun G=>(.arr 81 2 (List.map Zw.cs G).length:Blk)
def IK:=fun O Y J G=>([(1000,(Qky O Y J G)),(1103,(XB G))]:List (Nat × Blk))
def jc:=fun J O G Y=>(.box 84 [.p (.sl 4 (List.map Q0.cs J)),I O,I G, .tsl 2 (List.map Zw.cs Y) 1001]:Blk)
def EN:=fun O Z J G Y=>([(1000,(jc O Z J G)),(1001,(XB G)),(1002,(bq5 Y))]:List (Nat × Blk))
def nq0:List (Nat × Nat):=[(1002,401),(1000,1000),(1001,1103)]
def Qd7:=fun G=>([(0, .ptr 1000 0),(1, .fn G [] [.ptr 1002 0]),(4, .ptr 4 0)]:List (Nat × AV))
def Qd8:=fun G=>([(0, .ptr 1000 0),(1, .fn G [] [.ptr 1002 0]),(4, .ptr 4 0),(5, .ptr 5 0)]:List (Nat × AV))
def QiF:=fun G J=>([(1, .ptr 1 0),(2, .ptr 2 0),(3, .ptr 3 0),(4,S (Q0.Text G)),(5,I J)]:List (Nat × AV))
def Qkz:Blk:=.box 88 [.fn (.func 126) [.ptr 1000 0] [], .fn (.func 128) [] [.ptr 1002 0]]
def EO:=fun O Y J G=>([(1000,(jc O Y J G)),(1001,(XB G)),(1002, .box 82 [.ptr 1000 0]),(1003,Qkz)]:List (Nat × Blk))
def QkA:=fun J O G=>(.box 25 [I 2,S (Q0.Text J),I O,I (Q0.At G), .p (.val (.slice none 0 0))]:Blk)
def IL:=fun J O G=>([(10,(Cc 0 [] 0 0)),(11,(QkA J O G))]:List (Nat × Blk))
def QgY:=fun J O G Y=>(.box 25 [I 2,S (Q0.Text J),I O,I (Q0.At G), .tsl 5 (List.map Zq Y) 300]:Blk)
def EP:=fun J O G Y=>([(10,(Cc 0 [] 0 0)),(11,(QgY J O G Y))]:List (Nat × Blk))
def pK:=fun J O G Y=>([(10, .ptr 10 0),(11, .ptr 11 0),(13, .fn J [.ptr 1000 0] []),(20,O),(21,I G),(22,I Y)]:List (Nat × AV))
def VP:=fun O Y J G=>([(1000,(jc O Y J G)),(1001,(XB G))]:List (Nat × Blk))
def jd:List (Nat × Blk):=[(1, .box 82 [.ptr 1000 0])]
def QgZ:=fun J O G Y=>(⟨[(1, .ptr 1 0)],jd++VP J O G Y⟩:St)
def eU:List (Nat × AV):=[(1, .ptr 1 0),(3, .p (.val (.slice none 0 0)))]
def Qd9:List (Nat × AV):=[(1, .ptr 1 0),(3, .p (.val (.slice none 0 0))),(4, .ptr 4 0)]
def Qea:=fun G=>([(1, .box 82 [.ptr 1000 0]),(4, .box 87 (YE (Q0.cs G)))]:List (Nat × Blk))
def QiG:=fun G=>([(1, .ptr 1 0),(3, .tsl 5 (List.map Zq G) 300),(4, .ptr 4 0)]:List (Nat × AV))
def Qeb:=fun J O G Y=>([(1, .box 82 [.ptr 1000 0]),(4,(bq0 J O G Y))]:List (Nat × Blk))
def eX:=fun G x1 J x3 Y x5 O x7 Z=>(⟨QiG G,Qeb x1 J x3 Y++Ns G++VP x5 O x7 Z⟩:St)
def QiH:=fun G J=>([(1, .ptr 1 0),(3, .tsl 5 (List.map Zq G) 300),(4, .ptr 4 0),(14,B J)]:List (Nat × AV))
def QkB:Blk:=.box 88 [.fn (.func 187) [] [.ptr 1002 0]]
def F4:=fun O Y J G=>([(1000,(jc O Y J G)),(1001,(XB G)),(1002, .box 82 [.ptr 1000 0]),(1003,QkB)]:List (Nat × Blk))
def nq1:List (Nat × Nat):=[(1002,1),(1003,29),(1000,1000),(1001,1001)]
def Qg0:=fun J O G=>([(1,I J),(2,S O),(3,I 0),(4,G),(5, .ptr 5 0),(10, .ptr 10 0)]:List (Nat × AV))
def Qec:=fun J O G Y=>(.box 25 [I J,S O,I 0,I G, .tsl 5 (List.map Zq Y) 300]:Blk)
def je:=fun J O G Y=>([(10,(Cc 0 [] 0 0)),(11,(Qec J O G Y))]:List (Nat × Blk))
def Qed:=fun G x1 J x3 Y x5 O x7 Z=>(⟨QiG G,Qeb x1 J x3 Y++Ri G++VP x5 O x7 Z⟩:St)
def QkC:=fun J Y G Z O=>([(1, .ptr 1 0),(3, .tsl 5 (List.map Zq J) 300),(33, .agg [I Y,S G,I Z,I O])]:List (Nat × AV))
def QiI:=fun G x1 J x3 Y x5 O x7 Z=>(⟨QkC G x1 J x3 Y,jd++Ri G++VP x5 O x7 Z⟩:St)
def eY:=fun J O G Y=>([(10, .ptr 10 0),(11, .ptr 11 0),(13, .fn J [] [.ptr 1002 0]),(20,O),(21,I G),(22,I Y)]:List (Nat × AV))
def zw:=fun O Y J G=>([(1000,(jc O Y J G)),(1001,(XB G)),(1002, .box 82 [.ptr 1000 0])]:List (Nat × Blk))
def nq2:List (Nat × Nat):=[(1000,1000),(1001,1001),(1002,1002)]
def Qee:=fun J O G Y=>(⟨[(0, .ptr 1002 0)],zw J O G Y⟩:St)
def Qef:=fun O x1 J G Z x5 Y x7=>(⟨Rj (.bsl 1003 1) 1 O,je 3 x1 J G++Ri G++F4 Z x5 Y x7⟩:St)
def QbD:=fun O x1 J x3 G x5 Y x7 Z=>(⟨Rj (.bsl 1003 2) 2 O,EP x1 J x3 G++Ri G++EO x5 Y x7 Z⟩:St)
def EQ:=fun O Z J G Y=>([(1000,(jc O Z J G)),(1001,(XB G)),(1002, .box 9 [S Y])]:List (Nat × Blk))
def nq3:List (Nat × Nat):=[(1002,401),(1000,1000),(1001,1001)]
def QkD:Blk:=.box 88 [.fn (.func 126) [.ptr 1000 0] [], .fn (.func 124) [] [.ptr 1002 0], .fn (.func 127) [.ptr 1000 0] []]
def D5:=fun O Y J G=>([(1000,(jc O Y J G)),(1001,(XB G)),(1002, .box 82 [.ptr 1000 0]),(1003,QkD)]:List (Nat × Blk))
def eZ:=fun O x1 J x3 G x5 Y x7 Z=>(⟨Rj (.bsl 1003 3) 3 O,EP x1 J x3 G++Ri G++D5 x5 Y x7 Z⟩:St)
def Qg1:=fun G=>([(32, .arr 25 5 (List.map Zq G).length)]:List (Nat × Blk))
def Qg2:=fun G Y J Z O=>(⟨[(2, .tsl 5 (List.map Zq G) 32)],Qg1 G++VP Y J Z O⟩:St)
def QbE:=fun G=>([(1, .ptr 1 0),(3, .tsl 5 (List.map Zq G) 32)]:List (Nat × AV))
def aA:=fun G=>([(1, .box 82 [.ptr 1000 0]),(32, .arr 25 5 (List.map Zq G).length)]:List (Nat × Blk))
def QiJ:=fun G=>([(1, .ptr 1 0),(3, .tsl 5 (List.map Zq G) 32),(4, .ptr 4 0)]:List (Nat × AV))
def QiK:=fun G J=>([(1, .box 82 [.ptr 1000 0]),(4,(cu G)),(32, .arr 25 5 (List.map Zq J).length)]:List (Nat × Blk))
def Qg3:=fun O Y J G=>([(1000,(jc O Y J G)),(1001,(XB G)),(1002, .box 82 [.ptr 1000 0]),(1003,(Cc 0 [] 0 0))]:List (Nat × Blk))
def QiL:=fun G=>([(1, .fn G [] [.ptr 1002 0, .ptr 1003 0]),(4, .ptr 1901 0),(5, .ptr 1902 0)]:List (Nat × AV))
def Qg4:=fun G=>([(1900, .box 82 [.ptr 1000 0]),(1901, .box 4 [B G]),(1902, .box 9 [S []])]:List (Nat × Blk))
def nq4:List (Nat × Nat):=[(1000,1000),(1001,1001),(1002,1002),(1003,1003)]
def QiM:=fun O Z J G Y=>([(1000,(jc O Z J G)),(1001,(XB G)),(1002, .box 82 [.ptr 1000 0]),(1003, .box 25 (YE (GN.cs Y)))]:List (Nat × Blk))
def nq5:List (Nat × Nat):=[(1000,1000),(1001,1001),(1002,1900),(1003,1901),(1004,1902)]
def jf:=fun G=>([(1002, .box 82 [.ptr 1000 0]),(1003, .box 4 [B G]),(1004, .box 9 [S []])]:List (Nat × Blk))
def QiN:List (Nat × AV):=[(0, .ptr 1002 0),(1, .ptr 1003 0),(2, .ptr 1004 0),(3, .p (.val (.nilIface))),(8,B true)]
def QiO:=fun G=>([(0, .ptr 1002 0),(1, .ptr 1003 0),(2, .ptr 1004 0),(3, .ifc 235 (.agg [I G])),(8,B false)]:List (Nat × AV))
def QiP:=fun G=>([(0, .ptr 1002 0),(1, .ptr 1003 0),(2, .ptr 1004 0),(3, .ifc 235 (.agg [I G]))]:List (Nat × AV))
def QiQ:=fun G=>([(0, .ptr 1002 0),(1, .ptr 1003 0),(2, .ptr 1004 0),(3, .ifc 235 (.agg [I G])),(4, .ptr 4 0),(5,B true)]:List (Nat × AV))
def aB:=fun G=>([(4, .box 235 [I G])]:List (Nat × Blk))
def QiR:=fun G=>([(0, .ptr 1002 0),(1, .ptr 1003 0),(2, .ptr 1004 0),(3, .ifc 235 (.agg [I G])),(4, .ptr 4 0),(15,B false)]:List (Nat × AV))
def QiS:List (Nat × AV):=[(0, .ptr 1002 0),(1, .ptr 1003 0),(2, .ptr 1004 0),(4, .ptr 4 0)]
def QiT:List (Nat × AV):=[(0, .ptr 1002 0),(1, .ptr 1003 0),(2, .ptr 1004 0)]
abbrev jg (x:List Zw):Go.Abs.Blk:=.arr 81 2 (Um x).length
abbrev Qfj (x:List (List PV)):Go.Abs.Blk:=.arr 25 5 (mI x).length
theorem gz (n:Nat) (G:ZK):∀ r,BB n G=some r→KD Tryz.prog 59 [Zj] (Go.Abs.look [(1000, .box 84 [.p (.sl 4 (Lu G.tks)),I G.pos,I G.length, .tsl 2 (Um G.dg) 1103]),(1103,jg G.dg)]) (Yh (Qii (fun r:GN × ZK=>((.ret (ag (GN.cs r.1)),[(1000, .box 84 [.p (.sl 4 (Lu r.2.tks)),I r.2.pos,I r.2.length, .tsl 2 (Um r.2.dg) 1103]),(1103,jg r.2.dg)]):ZB × List (Nat × Blk))) (fun e:Int × ZK=>((.panic (.ifc 235 (.agg [I e.1])),[(1000, .box 84 [.p (.sl 4 (Lu e.2.tks)),I e.2.pos,I e.2.length, .tsl 2 (Um e.2.dg) 1103]),(1103,jg e.2.dg)]):ZB × List (Nat × Blk)))) r):=by
 refine Kq (IK G.tks G.pos G.length G.dg) Tryz.func59 rfl Tryz.ntmps59 rfl ?_;unfold BB;refine Qf Qd ⟨[qq 1,qq 2],Qd6++IK G.tks G.pos G.length G.dg⟩ (sS (Pe ⟨[qq 1,qq 2],Qd6++IK G.tks G.pos G.length G.dg⟩ (uS [0] 3 3 [1,2,3,4] Qd rfl Qc Qc (Qo (QA Zj rfl) (Qg)) Qc (Ol (f:=120) (args:=[.p (.val (.func (.func 121) #[] #[]))]) (dst:=some 9) Qc Qc rfl (QQ (hc:=[]) (args':=[.p (.val (.func (.func 121) #[] #[]))]) [(1,401)] [] [] Tryz.func120 rfl Tryz.ntmps120 rfl Qc Qc Qc (Qf Qd (sq6 (.func (.func 121) #[] #[])) (Qf Qd (sq7 (.func (.func 121) #[] #[])) (sT (QD (.id) [1] [] (.fn (.func 183) [] [.ptr 1 0]) (kf [0] Qc (Qo (QA Zj rfl) (Qg)) Qc (Ol (f:=119) (args:=[Zj, .fn (.func 183) [] [.ptr 401 0]]) (dst:=some 10) Qc Qc rfl (QQ (hc:=(EN G.tks G.pos G.length G.dg (.func (.func 121) #[] #[]))) (args':=[Zj, .fn (.func 183) [] [IG]]) nq0 [] [] Tryz.func119 rfl Tryz.ntmps119 rfl Qc Qc Qc (Qf Qd ⟨Qd7 (.func 183),eG++EN G.tks G.pos G.length G.dg (.func (.func 121) #[] #[])⟩ (sS (sG (xR 1 ?_))))))))))))))));refine XK [.ro [.id, .id, .id, .sl 2]] (KA n G) QF (fun r1=>?_);refine xR 2 (xE (Ql ⟨Qd8 (.func 183),G6 r1++EN G.tks G.pos G.length G.dg (.func (.func 121) #[] #[])⟩ (Yc (fun _=>⟨eH,G6 r1++EN G.tks G.pos G.length G.dg (.func (.func 121) #[] #[])⟩:Unit→St) (fun _=>Wl n G r1) ?_ ?_)));rotate_left
 ·refine KQ (fun c9=>⟨eO c9,G6 r1++EN G.tks G.pos G.length G.dg (.func (.func 121) #[] #[])⟩:Bool→St) ?_ ?_;rotate_left
  ·rintro c9;refine sC c9 ?_ ?_
   ·refine sG (xR 1 ?_);refine Bl [.ro [.id, .id, .id, .sl 2]] (Hf n G) QF QF (fun ej=>?_) (fun em=>?_)
    ·exact xE (KW (k:=fun _=>Wl n G r1) ())
    exact Gu (NT [1000,1001,1002] [] (uO _ rfl (Un (lI [1000,1103] []))))
   exact sK (KW (k:=fun _=>Wl n G r1) ())
  refine sG (xR 4 (xS (Qp r1.Kind 0) (fun dq=>xN (Qy dq) (xR 4 (xE (QS true)))) (fun dq=>xO (Qw dq) (xR 1 (GD (pI (.func (.func 121) #[] #[])) [.agg [I r1.Kind,S r1.Text,I r1.N,I r1.At],Zj] [(1000,1002)] [] [] Tryz.func183 rfl Tryz.ntmps183 rfl (Qf Qd (QgU r1 (.func (.func 121) #[] #[])) (KQ (fun c0=>⟨[(3,B c0)],pI (.func (.func 121) #[] #[])⟩:Bool→St) ?_ ?_)))))))
  ·refine sG (xR 4 (xS (Qp r1.Kind 1) (fun dy=>?_) (fun dy=>?_)))
   ·refine xO (Qv dy) (xR 2 ?_);refine xC [] (kP n r1.Text) QF (fun ed=>?_);exact xR 2 (xE (QS ed))
   exact xN (Qx dy) (xR 5 (xE (QS false)))
  rintro c0;exact sT (QD (.id) [1000] [] (B c0) (Wh (xR 2 (xE (QS (!c0))))))
 rintro _;show QP (Wl n G r1) _ _ _ _ _ _;unfold Wl;refine Qf Qd ⟨[qq 4,qq 5],G6 r1++EN G.tks (wi (G.pos+1)) G.length G.dg (.func (.func 121) #[] #[])⟩ (Qf Qd ⟨[qq 4],eP r1++EN G.tks (wi (G.pos+1)) G.length G.dg (.func (.func 121) #[] #[])⟩ (sT (QD (.id) [1000,1001,1002] [] (.agg [I r1.Kind,S r1.Text,I r1.N,I r1.At]) (kf [] Qc (Qg) Qc (f_q [0] Qc Qc (Qo (QA Zj rfl) (Qg)) (Qip [] rfl Qc Qc (Qg) Qc (Qfe (Ql ⟨QiC,gy r1++IK G.tks (wi (G.pos+1)) G.length G.dg⟩ (sS (KG [0] [0] [(1,[]),(2,[]),(3,[]),(4,[])] Qd rfl (ZH (f:=120) (args:=[.p (.val (.func (.func 123) #[] #[]))]) (dst:=some 12) (QQ (hc:=[]) (args':=[.p (.val (.func (.func 123) #[] #[]))]) [(1,401)] [] [] Tryz.func120 rfl Tryz.ntmps120 rfl Qc Qc Qc (Qf Qd (sq6 (.func (.func 123) #[] #[])) (Qf Qd (sq7 (.func (.func 123) #[] #[])) (sT (QD (.id) [1] [] (.fn (.func 183) [] [.ptr 1 0]) (kh [0] (Qo (QA Zj rfl) (Qg)) (ZH (f:=119) (args:=[Zj, .fn (.func 183) [] [.ptr 401 0]]) (dst:=some 13) (QQ (hc:=(EN G.tks (wi (G.pos+1)) G.length G.dg (.func (.func 123) #[] #[]))) (args':=[Zj, .fn (.func 183) [] [IG]]) nq0 [] [] Tryz.func119 rfl Tryz.ntmps119 rfl Qc Qc Qc (Qf Qd ⟨Qd7 (.func 183),eG++EN G.tks (wi (G.pos+1)) G.length G.dg (.func (.func 123) #[] #[])⟩ (sS (sG (xR 1 ?_)))))))))))))))))))))));refine XK [.ro [.id, .id, .id, .sl 2]] (KA n (⟨G.tks,wi (G.pos+1),G.length,G.dg⟩:ZK)) QF (fun r3=>?_);refine xR 2 (xE (Ql ⟨Qd8 (.func 183),G6 r3++EN G.tks (wi (G.pos+1)) G.length G.dg (.func (.func 123) #[] #[])⟩ (Yc (fun _=>⟨eH,G6 r3++EN G.tks (wi (G.pos+1)) G.length G.dg (.func (.func 123) #[] #[])⟩:Unit→St) (fun _=>Wj n G r1 r3) ?_ ?_)));rotate_left
 ·refine KQ (fun c7=>⟨eO c7,G6 r3++EN G.tks (wi (G.pos+1)) G.length G.dg (.func (.func 123) #[] #[])⟩:Bool→St) ?_ ?_;rotate_left
  ·rintro c7;refine sC c7 ?_ ?_
   ·refine sG (xR 1 ?_);refine Bl [.ro [.id, .id, .id, .sl 2]] (Hf n (⟨G.tks,wi (G.pos+1),G.length,G.dg⟩:ZK)) QF QF (fun en=>?_) (fun ei=>?_)
    ·exact xE (KW (k:=fun _=>Wj n G r1 r3) ())
    exact Gu (NT [1000,1001,1002] [] (uO _ rfl (Un (lI [1000,1103] []))))
   exact sK (KW (k:=fun _=>Wj n G r1 r3) ())
  refine sG (xR 4 (xS (Qp r3.Kind 0) (fun ea=>xN (Qy ea) (xR 4 (xE (QS true)))) (fun ea=>xO (Qw ea) (xR 1 (GD (pI (.func (.func 123) #[] #[])) [.agg [I r3.Kind,S r3.Text,I r3.N,I r3.At],Zj] [(1000,1002)] [] [] Tryz.func183 rfl Tryz.ntmps183 rfl (Qf Qd (QgU r3 (.func (.func 123) #[] #[])) (KQ (fun cz=>⟨[(3,B cz)],pI (.func (.func 123) #[] #[])⟩:Bool→St) ?_ ?_)))))))
  ·refine sG (xR 4 (xS (Qp r3.Kind 1) (fun dk=>?_) (fun dk=>?_)))
   ·refine xO (Qv dk) (xR 2 ?_);refine xC [] (Rh n r3.Text) QF (fun ee=>?_);exact xR 2 (xE (QS ee))
   exact xN (Qx dk) (xR 5 (xE (QS false)))
  rintro cz;exact sT (QD (.id) [1000] [] (B cz) (Wh (xR 2 (xE (QS (!cz))))))
 rintro _;show QP (Wj n G r1 r3) _ _ _ _ _ _;unfold Wj;refine Qf Qd ⟨[qq 4,qq 5],G6 r3++EN G.tks (wi ((wi (G.pos+1))+1)) G.length G.dg (.func (.func 123) #[] #[])⟩ (Qf Qd ⟨[qq 4],eP r3++EN G.tks (wi ((wi (G.pos+1))+1)) G.length G.dg (.func (.func 123) #[] #[])⟩ (sT (QD (.id) [1000,1001,1002] [] (.agg [I r3.Kind,S r3.Text,I r3.N,I r3.At]) (kh [] (Qg) (Yx [] (Qg) (Yx [] (Qg) (WK (Ql ⟨[qq 1,qq 2,qq 3,(4,S r3.Text)],gy r1++IK G.tks (wi ((wi (G.pos+1))+1)) G.length G.dg⟩ (sS (sG (xR 2 ?_)))))))))));refine xC [] (Rb n r1.Text) QF (fun r5=>?_);refine xR 1 (xE (Ql ⟨QiF r3 r5,gy r1++IK G.tks (wi ((wi (G.pos+1))+1)) G.length G.dg⟩ (sS (Qf Qd ⟨[qq 1,qq 2,qq 3,(4,S r3.Text),(5,I r5),(19,B (Qp r5 7))],gy r1++IK G.tks (wi ((wi (G.pos+1))+1)) G.length G.dg⟩ (sC (Qp r5 7) ?_ ?_)))));rotate_left
 ·refine sK (Ql ⟨QiF r3 r5,gy r1++IK G.tks (wi ((wi (G.pos+1))+1)) G.length G.dg⟩ (Qf Qd ⟨[qq 1,qq 2,qq 3,(4,S r3.Text),(5,I r5),(7, .fn (.func 128) [] [.ptr 1 0])],gy r1++IK G.tks (wi ((wi (G.pos+1))+1)) G.length G.dg⟩ (sS (sG (xR 7 (GD (EO G.tks (wi ((wi (G.pos+1))+1)) G.length G.dg) [.agg [I r1.Kind,S r1.Text,I r1.N,I r1.At],I 2,S r3.Text,I r5, .bsl 1003 2] [(1002,1),(1003,38),(1000,1000),(1001,1103)] [] [] Tryz.func25 rfl Tryz.ntmps25 rfl (Qf Qd ⟨QgV 2 r3 r5 (.bsl 1003 2),hq8 r1++EO G.tks (wi ((wi (G.pos+1))+1)) G.length G.dg⟩ (Qf Qd ⟨eQ (.bsl 1003 2),IL r3 r5 r1++EO G.tks (wi ((wi (G.pos+1))+1)) G.length G.dg⟩ (Yc (fun (ba,bi,bl,bh)=>⟨[qq 10,qq 11],EP r3 r5 r1 ba++Ns ba++EO bi bl bh G.dg⟩:Vz→St) (fun (ba,bi,bl,bh)=>JL G r1 r3 r5 ba bi bl bh) ?_ ?_)))))))))
  ·rintro ⟨ba,bi,bl,bh⟩;show QP (JL G r1 r3 r5 ba bi bl bh) _ _ _ _ _ _;unfold JL;exact Qf Qd ⟨[qq 10],[(10,(QgY r3 r5 r1 ba))]++Ns ba++EO bi bl bh G.dg⟩ (sT (QD (.agg [.id, .id, .id, .id, .sl 5]) [1000,1001,1002,1003] [] (.agg [I 2,S r3.Text,I r5,I r1.At, .p (.sl 5 (mI ba))]) (Wh (xR 1 (xE (Ql ⟨[qq 2],[(2,(cu ⟨2,r3.Text,r5,r1.At,ba⟩))]++IK bi bl bh G.dg⟩ (sT (Kw (.id) [1000,1103] []))))))))
  refine Qf Qd ⟨Rj (.bsl 1003 2) 2 0,IL r3 r5 r1++EO G.tks (wi ((wi (G.pos+1))+1)) G.length G.dg⟩ (sB (Z7 2 (Qf Qd ⟨Pj (.bsl 1003 2) 2 0 true,IL r3 r5 r1++EO G.tks (wi ((wi (G.pos+1))+1)) G.length G.dg⟩ (sS (ZQ (sK (Ql ⟨Rj (.bsl 1003 2) 2 0,IL r3 r5 r1++EO G.tks (wi ((wi (G.pos+1))+1)) G.length G.dg⟩ (sS (sB (Qf Qd ⟨pK (.func 126) (.bsl 1003 2) 2 0,IL r3 r5 r1++EO G.tks (wi ((wi (G.pos+1))+1)) G.length G.dg⟩ (Pe ⟨pK (.func 126) (.bsl 1003 2) 2 0,IL r3 r5 r1++EO G.tks (wi ((wi (G.pos+1))+1)) G.length G.dg⟩ (KF (Yr 25 5 300 [] [(11,4)]) (KG [0,1,2] [0,1] [(3,[]),(4,[]),(5,[]),(6,[])] Qd rfl (ZH (f:=126) (args:=[Zj]) (dst:=some 29) (QQ (hc:=(VP G.tks (wi ((wi (G.pos+1))+1)) G.length G.dg)) (args':=[Zj]) [(1000,1000),(1001,1001)] [] [] Tryz.func126 rfl Tryz.ntmps126 rfl Qc Qc Qc (Qf Qd (QgZ G.tks (wi ((wi (G.pos+1))+1)) G.length G.dg) (Qf Qd ⟨eU,jd++VP G.tks (wi ((wi (G.pos+1))+1)) G.length G.dg⟩ (KQ (fun (ae,ac,ad,aa)=>⟨[(3, .tsl 5 (mI ae) 300)],Ns ae++VP ac ad aa G.dg⟩:Vz→St) ?_ ?_))))))))))))))))))
  ·refine sS (sG (xR 1 ?_));refine XK [.ro [.id, .id, .id, .sl 2]] (KA n (⟨G.tks,wi ((wi (G.pos+1))+1),G.length,G.dg⟩:ZK)) QF (fun eb=>?_);refine xR 2 (xE (Ql ⟨Qd9,Qea eb++VP G.tks (wi ((wi (G.pos+1))+1)) G.length G.dg⟩ (sB (Pe ⟨Qd9,Qea eb++VP G.tks (wi ((wi (G.pos+1))+1)) G.length G.dg⟩ (KF (Yr 25 5 300 [3] []) (QG (fun (az,ao,ar,aq,a8,Y,bd,ab)=>(eX az a8 Y bd ab ao ar aq G.dg):ty3→St) (Gm) ?_))))));rintro cx ⟨az,ao,ar,aq,a8,Y,bd,ab⟩;show QP (Vn n G cx az ao ar aq a8 Y bd ab) _ _ _ _ _ _;unfold Vn;refine sS (KQ (fun c5=>⟨QiH az c5,Qeb a8 Y bd ab++Ns az++VP ao ar aq G.dg⟩:Bool→St) ?_ ?_)
   ·refine sG (xR 4 (xS (Qp a8 1) (fun da=>?_) (fun da=>?_)))
    ·refine xO (Qv da) (xR 1 ?_);refine xC [] (He n Y) QF (fun ef=>?_);exact xR 1 (xE (QS ef))
    exact xN (Qx da) (xR 3 (xE (QS false)))
   rintro c5;refine sC c5 (sK (Ql (eX az a8 Y bd ab ao ar aq G.dg) (sS (sB (Qf Qd (eX az a8 Y bd ab ao (wi (ar+1)) aq G.dg) (sG (xR 6 (GD (F4 ao (wi (ar+1)) aq G.dg) [.agg [I a8,S Y,I bd,I ab],I 3,S Y,I 0, .bsl 1003 1] nq1 [] [] Tryz.func25 rfl Tryz.ntmps25 rfl (Qf Qd ⟨Qg0 3 Y (.bsl 1003 1),[(5,(bq0 a8 Y bd ab)),(10,(Cc 0 [] 0 0))]++F4 ao (wi (ar+1)) aq G.dg⟩ (Qf Qd ⟨eQ (.bsl 1003 1),Ph 3 Y 0 ab++F4 ao (wi (ar+1)) aq G.dg⟩ (KQ (fun (a7,bx,bz,b4)=>⟨[qq 10,qq 11],je 3 Y ab a7++Ns a7++F4 bx bz b4 G.dg⟩:Vz→St) ?_ ?_))))))))))) (Qt (ZR (Yw (QM (QS (az,ao,ar,aq))))));rotate_left
   ·rintro ⟨a7,bx,bz,b4⟩;refine Qf Qd ⟨[qq 10],[(10,(Qec 3 Y ab a7))]++Ns a7++F4 bx bz b4 G.dg⟩ (sT (QD (.agg [.id, .id, .id, .id, .sl 5]) [1000,1001,1002,1003] [] (.agg [I 3,S Y,I 0,I ab, .p (.sl 5 (mI a7))]) (Wh (xR 1 (xF (Y1 (e:=25) (S:=5) (by_:=64) (enc:=Zq) (tk:=300) (l:=az) (l2:=[GN.cs (⟨3,Y,0,ab,a7⟩:GN)]) (xv:=.tsl 5 (mI [GN.cs (⟨3,Y,0,ab,a7⟩:GN)]) 31) rfl Qc Qc rfl Qc Qc Qc rfl Qc) (xR 1 (xE (QR (Ql (Qed (az++[GN.cs (⟨3,Y,0,ab,a7⟩:GN)]) a8 Y bd ab bx bz b4 G.dg) (sS (Qf Qd (QiI (az++[GN.cs (⟨3,Y,0,ab,a7⟩:GN)]) a8 Y bd ab bx bz b4 G.dg) (sL Qd (Ql (Qed (az++[GN.cs (⟨3,Y,0,ab,a7⟩:GN)]) a8 Y bd ab bx bz b4 G.dg) (sG (xR 1 ?_)))))))))))))));refine XK [.ro [.id, .id, .id, .sl 2]] (KA n (⟨bx,bz,b4,G.dg⟩:ZK)) QF (fun cr=>?_);exact xR 1 (xE (KW (az++[GN.cs (⟨3,Y,0,ab,a7⟩:GN)],bx,bz,b4,cr.Kind,cr.Text,cr.N,cr.At)))
   refine Qf Qd ⟨Rj (.bsl 1003 1) 1 0,Ph 3 Y 0 ab++F4 ao (wi (ar+1)) aq G.dg⟩ (sB (Z7 1 (Qf Qd ⟨Pj (.bsl 1003 1) 1 0 true,Ph 3 Y 0 ab++F4 ao (wi (ar+1)) aq G.dg⟩ (sS (ZQ (sK (Ql ⟨Rj (.bsl 1003 1) 1 0,Ph 3 Y 0 ab++F4 ao (wi (ar+1)) aq G.dg⟩ (sS (sB (Qf Qd ⟨eY (.func 187) (.bsl 1003 1) 1 0,Ph 3 Y 0 ab++F4 ao (wi (ar+1)) aq G.dg⟩ (Pe ⟨eY (.func 187) (.bsl 1003 1) 1 0,Ph 3 Y 0 ab++F4 ao (wi (ar+1)) aq G.dg⟩ (KF (Yr 25 5 300 [] [(11,4)]) (KG [0,1,2] [0,1] [(3,[]),(4,[]),(5,[]),(6,[])] Qd rfl (ZH (f:=187) (args:=[IG]) (dst:=some 29) (QQ (hc:=(zw ao (wi (ar+1)) aq G.dg)) (args':=[IG]) nq2 [] [] Tryz.func187 rfl Tryz.ntmps187 rfl Qc Qc Qc (Qf Qd (Qee ao (wi (ar+1)) aq G.dg) (sS (sG (xR 1 (Kc (f:=188) (args:=[Zj, .p (.val (.func (.func 123) #[] #[]))]) Qc Qc Qc ?_))))))))))))))))))));refine Wu 1000 3 1001 81 2 (Um G.dg).length (Um G.dg) ⟨[0,2],[1000,1002],[],[]⟩ rfl (fun _ _ _=>by kernel_rfl) (fun db c6 dh=>?_);refine Zg [(1000,1000)] [] [] (Nu n (⟨ao,wi (ar+1),aq,[]⟩:ZK) db c6 dh) Qc Qc Qc QF QF (fun bb=>?_);exact Xz _ rfl (Wh (xR 1 (xE (Ql ⟨[(1, .p (.sl 5 (mI bb.1)))],zw bb.2.tks bb.2.pos bb.2.length G.dg⟩ (sT (QD (.id) [1000,1001,1002] [] (.p (.sl 5 (mI bb.1))) (kh [0,1] (Qo (QA (.ptr 11 4) rfl) (Qo (Ju (S:=5) (t:=300) (ty:=25) (es:=mI []) rfl) (Qg))) (Af [] rfl (Jr (e:=25) (S:=5) (by_:=64) (enc:=Zq) (tk:=300) (l:=[]) (l2:=bb.1) (xv:=.p (.sl 5 (mI bb.1))) rfl Qc Qc rfl Qc Qc Qc Qc) (fun _=>Qg) (Yx [] (Qg) (Yx [] (Qg) (WK (QR (Ql (Qef 0 Y ab ([]++bb.1) bb.2.tks bb.2.pos bb.2.length G.dg) (sL Qd (N8 ⟨[10,11,20,21,22],[10,11,300,1000,1001,1002,1003],[],[]⟩ (Qef 1 Y ab ([]++bb.1) bb.2.tks bb.2.pos bb.2.length G.dg) (Qf Qd ⟨Pj (.bsl 1003 1) 1 1 false,je 3 Y ab ([]++bb.1)++Ri ([]++bb.1)++F4 bb.2.tks bb.2.pos bb.2.length G.dg⟩ (sS (QZ (Qt (ZR (M5 (QM (QS ([]++bb.1,bb.2.tks,bb.2.pos,bb.2.length))))))))))))))))))))))))
  rintro ⟨ae,ac,ad,aa⟩;refine Qf Qd ⟨[(2, .tsl 5 (mI ae) 300)],Ns ae++VP ac ad aa G.dg⟩ (sT (QD (.sl 5) [1000,1001] [] (.p (.sl 5 (mI ae))) (kh [0,1] (Qo (QA (.ptr 11 4) rfl) (Qo (Ju (S:=5) (t:=300) (ty:=25) (es:=mI []) rfl) (Qg))) (Af [] rfl (Jr (e:=25) (S:=5) (by_:=64) (enc:=Zq) (tk:=300) (l:=[]) (l2:=ae) (xv:=.p (.sl 5 (mI ae))) rfl Qc Qc rfl Qc Qc Qc Qc) (fun _=>Qg) (Yx [] (Qg) (Yx [] (Qg) (WK (QR (Ql (QbD 0 r3 r5 r1 ([]++ae) ac ad aa G.dg) (sL Qd (N8 ⟨[10,11,20,21,22],[10,11,300,1000,1001,1002,1003],[],[]⟩ (QbD 1 r3 r5 r1 ([]++ae) ac ad aa G.dg) (Qf Qd ⟨Pj (.bsl 1003 2) 2 1 true,EP r3 r5 r1 ([]++ae)++Ri ([]++ae)++EO ac ad aa G.dg⟩ (sS (ZQ (sK (Ql (QbD 1 r3 r5 r1 ([]++ae) ac ad aa G.dg) (sS (sB (Qf Qd ⟨eY (.func 128) (.bsl 1003 2) 2 1,EP r3 r5 r1 ([]++ae)++Ri ([]++ae)++EO ac ad aa G.dg⟩ (KG [0,1,2] [0,1] [(3,[]),(4,[]),(5,[]),(6,[])] Qd rfl (ZH (f:=128) (args:=[IG]) (dst:=some 29) (QQ (hc:=(zw ac ad aa G.dg)) (args':=[IG]) nq2 [] [] Tryz.func128 rfl Tryz.ntmps128 rfl Qc Qc Qc (Qf Qd (Qee ac ad aa G.dg) (sS (KG [0] [0] [(1,[]),(2,[])] Qd rfl (ZH (f:=125) (args:=[S [59]]) (dst:=some 3) (QQ (hc:=[]) (args':=[S [59]]) [(1,401)] [] [] Tryz.func125 rfl Tryz.ntmps125 rfl Qc Qc Qc (Qf Qd ⟨[qq 1],QbC [59]⟩ (Qf Qd (sq8 [59]) (sT (QD (.id) [1] [] (.fn (.func 185) [] [.ptr 1 0]) (kh [0] (Qo (QA Zj rfl) (Qg)) (ZH (f:=119) (args:=[Zj, .fn (.func 185) [] [.ptr 401 0]]) (dst:=some 4) (QQ (hc:=(EQ ac ad aa G.dg [59])) (args':=[Zj, .fn (.func 185) [] [IG]]) nq3 [] [] Tryz.func119 rfl Tryz.ntmps119 rfl Qc Qc Qc (Qf Qd ⟨Qd7 (.func 185),eG++EQ ac ad aa G.dg [59]⟩ (sS (sG (xR 1 ?_))))))))))))))))))))))))))))))))))))));refine XK [.ro [.id, .id, .id, .sl 2]] (KA n (⟨ac,ad,aa,G.dg⟩:ZK)) QF (fun bq=>?_);refine xR 2 (xE (Ql ⟨Qd8 (.func 185),G6 bq++EQ ac ad aa G.dg [59]⟩ (Yc (fun _=>⟨eH,G6 bq++EQ ac ad aa G.dg [59]⟩:Unit→St) (fun _=>Vo G r1 r3 r5 ae ac ad aa) ?_ ?_)))
  ·rintro _;show QP (Vo G r1 r3 r5 ae ac ad aa) _ _ _ _ _ _;unfold Vo;exact Qf Qd ⟨[qq 4,qq 5],G6 bq++EQ ac (wi (ad+1)) aa G.dg [59]⟩ (Qf Qd ⟨[qq 4],eP bq++EQ ac (wi (ad+1)) aa G.dg [59]⟩ (sT (QD (.id) [1000,1001,1002] [] (.agg [I bq.Kind,S bq.Text,I bq.N,I bq.At]) (kh [] (Qg) (WK (Ql ⟨[],zw ac (wi (ad+1)) aa G.dg⟩ (Qf Qd ⟨[(1,zS)],zw ac (wi (ad+1)) aa G.dg⟩ (sT (QD (.sl 5) [1000,1001,1002] [] (.p (.sl 5 (mI []))) (kh [0,1] (Qo (QA (.ptr 11 4) rfl) (Qo (Ju (S:=5) (t:=300) (ty:=25) (es:=mI ([]++ae)) rfl) (Qg))) (Af [] rfl (Jr (e:=25) (S:=5) (by_:=64) (enc:=Zq) (tk:=300) (l:=[]++ae) (l2:=[]) (xv:=.p (.sl 5 (mI []))) rfl Qc Qc rfl Qc Qc Qc Qc) (fun _=>Qg) (Yx [] (Qg) (Yx [] (Qg) (WK (QR (Ql (QbD 1 r3 r5 r1 (([]++ae)++[]) ac (wi (ad+1)) aa G.dg) (sL Qd (N8 ⟨[10,11,20,21,22],[10,11,300,1000,1001,1002,1003],[],[]⟩ (QbD 2 r3 r5 r1 (([]++ae)++[]) ac (wi (ad+1)) aa G.dg) (Qf Qd ⟨Pj (.bsl 1003 2) 2 2 false,EP r3 r5 r1 (([]++ae)++[])++Ri (([]++ae)++[])++EO ac (wi (ad+1)) aa G.dg⟩ (sS (QZ (Qt (ZR (M5 (QM (KW (k:=fun (ba,bi,bl,bh)=>JL G r1 r3 r5 ba bi bl bh) (([]++ae)++[],ac,wi (ad+1),aa)))))))))))))))))))))))))))
  refine KQ (fun de=>⟨eO de,G6 bq++EQ ac ad aa G.dg [59]⟩:Bool→St) ?_ ?_;rotate_left
  ·rintro de;refine sC de (sG (xR 1 ?_)) (sK (KW (k:=fun _=>Vo G r1 r3 r5 ae ac ad aa) ()));refine Bl [.ro [.id, .id, .id, .sl 2]] (Hf n (⟨ac,ad,aa,G.dg⟩:ZK)) QF QF (fun eo=>?_) (fun eh=>?_)
   ·exact xE (KW (k:=fun _=>Vo G r1 r3 r5 ae ac ad aa) ())
   exact Gu (NT [1000,1001,1002] [] (uO _ rfl (Un (NT [1000,1001,1002] [] (uO _ rfl (Ab (Un (Qio (Ab (Gu (NT [1000,1001,1002,1003] [] (Un (lI [1000,1103] [])))))))))))))
  refine sG (xR 4 (xS (Qp bq.Kind 0) (fun dm=>xN (Qy dm) (xR 4 (xE (QS true)))) (fun dm=>xO (Qw dm) (xR 1 (GD (jb [59]) [.agg [I bq.Kind,S bq.Text,I bq.N,I bq.At],Zj] [(1000,1002)] [] [] Tryz.func185 rfl Tryz.ntmps185 rfl (Qf Qd (sq9 bq [59]) (KQ (fun c1=>⟨[(3,B c1)],jb [59]⟩:Bool→St) (sG (xR 4 (xS (Qp bq.Kind 3) (fun dx=>xO (Qv dx) (xR 5 (xE (QS (Qr bq.Text [59]))))) (fun dx=>xN (Qx dx) (xR 5 (xE (QS false))))))) ?_)))))));rintro c1;exact sT (QD (.id) [1000] [] (B c1) (Wh (xR 2 (xE (QS (!c1))))))
 refine Qf Qd ⟨[qq 1,qq 2,qq 3,(4,S r3.Text),(5,I r5),(6, .fn (.func 124) [] [.ptr 1 0])],gy r1++IK G.tks (wi ((wi (G.pos+1))+1)) G.length G.dg⟩ (sS (sG (xR 9 (GD (D5 G.tks (wi ((wi (G.pos+1))+1)) G.length G.dg) [.agg [I r1.Kind,S r1.Text,I r1.N,I r1.At],I 2,S r3.Text,I r5, .bsl 1003 3] [(1002,1),(1003,29),(1000,1000),(1001,1103)] [] [] Tryz.func25 rfl Tryz.ntmps25 rfl (Qf Qd ⟨QgV 2 r3 r5 (.bsl 1003 3),hq8 r1++D5 G.tks (wi ((wi (G.pos+1))+1)) G.length G.dg⟩ (Qf Qd ⟨eQ (.bsl 1003 3),IL r3 r5 r1++D5 G.tks (wi ((wi (G.pos+1))+1)) G.length G.dg⟩ (Yc (fun (bn,b7,b8,ca,b9)=>⟨[qq 10,qq 11],EP r3 r5 r1 bn++Ns bn++D5 b7 b8 ca b9⟩:Ip→St) (fun (bn,b7,b8,ca,b9)=>Jz r1 r3 r5 bn b7 b8 ca b9) ?_ ?_)))))))
 ·rintro ⟨bn,b7,b8,ca,b9⟩;show QP (Jz r1 r3 r5 bn b7 b8 ca b9) _ _ _ _ _ _;unfold Jz;exact Qf Qd ⟨[qq 10],[(10,(QgY r3 r5 r1 bn))]++Ns bn++D5 b7 b8 ca b9⟩ (sT (QD (.agg [.id, .id, .id, .id, .sl 5]) [1000,1001,1002,1003] [] (.agg [I 2,S r3.Text,I r5,I r1.At, .p (.sl 5 (mI bn))]) (Wh (xR 1 (xE (Ql ⟨[qq 2],[(2,(cu ⟨2,r3.Text,r5,r1.At,bn⟩))]++IK b7 b8 ca b9⟩ (sT (QB (Kw (.id) [1000,1103] [])))))))))
 refine Qf Qd ⟨Rj (.bsl 1003 3) 3 0,IL r3 r5 r1++D5 G.tks (wi ((wi (G.pos+1))+1)) G.length G.dg⟩ (sB (Z7 3 (Qf Qd ⟨Pj (.bsl 1003 3) 3 0 true,IL r3 r5 r1++D5 G.tks (wi ((wi (G.pos+1))+1)) G.length G.dg⟩ (sS (ZQ (sK (Ql ⟨Rj (.bsl 1003 3) 3 0,IL r3 r5 r1++D5 G.tks (wi ((wi (G.pos+1))+1)) G.length G.dg⟩ (sS (sB (Qf Qd ⟨pK (.func 126) (.bsl 1003 3) 3 0,IL r3 r5 r1++D5 G.tks (wi ((wi (G.pos+1))+1)) G.length G.dg⟩ (Pe ⟨pK (.func 126) (.bsl 1003 3) 3 0,IL r3 r5 r1++D5 G.tks (wi ((wi (G.pos+1))+1)) G.length G.dg⟩ (KF (Yr 25 5 300 [] [(11,4)]) (KG [0,1,2] [0,1] [(3,[]),(4,[]),(5,[]),(6,[])] Qd rfl (ZH (f:=126) (args:=[Zj]) (dst:=some 29) (QQ (hc:=(VP G.tks (wi ((wi (G.pos+1))+1)) G.length G.dg)) (args':=[Zj]) [(1000,1000),(1001,1001)] [] [] Tryz.func126 rfl Tryz.ntmps126 rfl Qc Qc Qc (Qf Qd (QgZ G.tks (wi ((wi (G.pos+1))+1)) G.length G.dg) (Qf Qd ⟨eU,jd++VP G.tks (wi ((wi (G.pos+1))+1)) G.length G.dg⟩ (KQ (fun (Z,ai,af,ah)=>⟨[(3, .tsl 5 (mI Z) 300)],Ns Z++VP ai af ah G.dg⟩:Vz→St) ?_ ?_))))))))))))))))))
 ·refine sS (sG (xR 1 ?_));refine XK [.ro [.id, .id, .id, .sl 2]] (KA n (⟨G.tks,wi ((wi (G.pos+1))+1),G.length,G.dg⟩:ZK)) QF (fun r8=>?_);refine xR 2 (xE (Ql ⟨Qd9,Qea r8++VP G.tks (wi ((wi (G.pos+1))+1)) G.length G.dg⟩ (sB (Pe ⟨Qd9,Qea r8++VP G.tks (wi ((wi (G.pos+1))+1)) G.length G.dg⟩ (KF (Yr 25 5 300 [3] []) (QG (fun (bf,av,ax,aw,bo,aj,b1,ak)=>(eX bf bo aj b1 ak av ax aw G.dg):ty3→St) (Gm) ?_))))));rintro di ⟨bf,av,ax,aw,bo,aj,b1,ak⟩;show QP (H8 n G di bf av ax aw bo aj b1 ak) _ _ _ _ _ _;unfold H8;refine sS (KQ (fun c2=>⟨QiH bf c2,Qeb bo aj b1 ak++Ns bf++VP av ax aw G.dg⟩:Bool→St) ?_ ?_)
  ·refine sG (xR 4 (xS (Qp bo 1) (fun dw=>?_) (fun dw=>?_)))
   ·refine xO (Qv dw) (xR 1 ?_);refine xC [] (He n aj) QF (fun eg=>?_);exact xR 1 (xE (QS eg))
   exact xN (Qx dw) (xR 3 (xE (QS false)))
  rintro c2;refine sC c2 (sK (Ql (eX bf bo aj b1 ak av ax aw G.dg) (sS (sB (Qf Qd (eX bf bo aj b1 ak av (wi (ax+1)) aw G.dg) (sG (xR 6 (GD (F4 av (wi (ax+1)) aw G.dg) [.agg [I bo,S aj,I b1,I ak],I 3,S aj,I 0, .bsl 1003 1] nq1 [] [] Tryz.func25 rfl Tryz.ntmps25 rfl (Qf Qd ⟨Qg0 3 aj (.bsl 1003 1),[(5,(bq0 bo aj b1 ak)),(10,(Cc 0 [] 0 0))]++F4 av (wi (ax+1)) aw G.dg⟩ (Qf Qd ⟨eQ (.bsl 1003 1),Ph 3 aj 0 ak++F4 av (wi (ax+1)) aw G.dg⟩ (KQ (fun (a6,b0,br,bu)=>⟨[qq 10,qq 11],je 3 aj ak a6++Ns a6++F4 b0 br bu G.dg⟩:Vz→St) ?_ ?_))))))))))) (Qt (ZR (Yw (QM (QS (bf,av,ax,aw))))));rotate_left
  ·rintro ⟨a6,b0,br,bu⟩;refine Qf Qd ⟨[qq 10],[(10,(Qec 3 aj ak a6))]++Ns a6++F4 b0 br bu G.dg⟩ (sT (QD (.agg [.id, .id, .id, .id, .sl 5]) [1000,1001,1002,1003] [] (.agg [I 3,S aj,I 0,I ak, .p (.sl 5 (mI a6))]) (Wh (xR 1 (xF (Y1 (e:=25) (S:=5) (by_:=64) (enc:=Zq) (tk:=300) (l:=bf) (l2:=[GN.cs (⟨3,aj,0,ak,a6⟩:GN)]) (xv:=.tsl 5 (mI [GN.cs (⟨3,aj,0,ak,a6⟩:GN)]) 31) rfl Qc Qc rfl Qc Qc Qc rfl Qc) (xR 1 (xE (QR (Ql (Qed (bf++[GN.cs (⟨3,aj,0,ak,a6⟩:GN)]) bo aj b1 ak b0 br bu G.dg) (sS (Qf Qd (QiI (bf++[GN.cs (⟨3,aj,0,ak,a6⟩:GN)]) bo aj b1 ak b0 br bu G.dg) (sL Qd (Ql (Qed (bf++[GN.cs (⟨3,aj,0,ak,a6⟩:GN)]) bo aj b1 ak b0 br bu G.dg) (sG (xR 1 ?_)))))))))))))));refine XK [.ro [.id, .id, .id, .sl 2]] (KA n (⟨b0,br,bu,G.dg⟩:ZK)) QF (fun cw=>?_);exact xR 1 (xE (KW (bf++[GN.cs (⟨3,aj,0,ak,a6⟩:GN)],b0,br,bu,cw.Kind,cw.Text,cw.N,cw.At)))
  refine Qf Qd ⟨Rj (.bsl 1003 1) 1 0,Ph 3 aj 0 ak++F4 av (wi (ax+1)) aw G.dg⟩ (sB (Z7 1 (Qf Qd ⟨Pj (.bsl 1003 1) 1 0 true,Ph 3 aj 0 ak++F4 av (wi (ax+1)) aw G.dg⟩ (sS (ZQ (sK (Ql ⟨Rj (.bsl 1003 1) 1 0,Ph 3 aj 0 ak++F4 av (wi (ax+1)) aw G.dg⟩ (sS (sB (Qf Qd ⟨eY (.func 187) (.bsl 1003 1) 1 0,Ph 3 aj 0 ak++F4 av (wi (ax+1)) aw G.dg⟩ (Pe ⟨eY (.func 187) (.bsl 1003 1) 1 0,Ph 3 aj 0 ak++F4 av (wi (ax+1)) aw G.dg⟩ (KF (Yr 25 5 300 [] [(11,4)]) (KG [0,1,2] [0,1] [(3,[]),(4,[]),(5,[]),(6,[])] Qd rfl (ZH (f:=187) (args:=[IG]) (dst:=some 29) (QQ (hc:=(zw av (wi (ax+1)) aw G.dg)) (args':=[IG]) nq2 [] [] Tryz.func187 rfl Tryz.ntmps187 rfl Qc Qc Qc (Qf Qd (Qee av (wi (ax+1)) aw G.dg) (sS (sG (xR 1 (Kc (f:=188) (args:=[Zj, .p (.val (.func (.func 123) #[] #[]))]) Qc Qc Qc ?_))))))))))))))))))));refine Wu 1000 3 1001 81 2 (Um G.dg).length (Um G.dg) ⟨[0,2],[1000,1002],[],[]⟩ rfl (fun _ _ _=>by kernel_rfl) (fun dn dj du=>?_);refine Zg [(1000,1000)] [] [] (Nu n (⟨av,wi (ax+1),aw,[]⟩:ZK) dn dj du) Qc Qc Qc QF QF (fun bc=>?_);exact Xz _ rfl (Wh (xR 1 (xE (Ql ⟨[(1, .p (.sl 5 (mI bc.1)))],zw bc.2.tks bc.2.pos bc.2.length G.dg⟩ (sT (QD (.id) [1000,1001,1002] [] (.p (.sl 5 (mI bc.1))) (kh [0,1] (Qo (QA (.ptr 11 4) rfl) (Qo (Ju (S:=5) (t:=300) (ty:=25) (es:=mI []) rfl) (Qg))) (Af [] rfl (Jr (e:=25) (S:=5) (by_:=64) (enc:=Zq) (tk:=300) (l:=[]) (l2:=bc.1) (xv:=.p (.sl 5 (mI bc.1))) rfl Qc Qc rfl Qc Qc Qc Qc) (fun _=>Qg) (Yx [] (Qg) (Yx [] (Qg) (WK (QR (Ql (Qef 0 aj ak ([]++bc.1) bc.2.tks bc.2.pos bc.2.length G.dg) (sL Qd (N8 ⟨[10,11,20,21,22],[10,11,300,1000,1001,1002,1003],[],[]⟩ (Qef 1 aj ak ([]++bc.1) bc.2.tks bc.2.pos bc.2.length G.dg) (Qf Qd ⟨Pj (.bsl 1003 1) 1 1 false,je 3 aj ak ([]++bc.1)++Ri ([]++bc.1)++F4 bc.2.tks bc.2.pos bc.2.length G.dg⟩ (sS (QZ (Qt (ZR (M5 (QM (QS ([]++bc.1,bc.2.tks,bc.2.pos,bc.2.length))))))))))))))))))))))))
 rintro ⟨Z,ai,af,ah⟩;refine Qf Qd ⟨[(2, .tsl 5 (mI Z) 300)],Ns Z++VP ai af ah G.dg⟩ (sT (QD (.sl 5) [1000,1001] [] (.p (.sl 5 (mI Z))) (kh [0,1] (Qo (QA (.ptr 11 4) rfl) (Qo (Ju (S:=5) (t:=300) (ty:=25) (es:=mI []) rfl) (Qg))) (Af [] rfl (Jr (e:=25) (S:=5) (by_:=64) (enc:=Zq) (tk:=300) (l:=[]) (l2:=Z) (xv:=.p (.sl 5 (mI Z))) rfl Qc Qc rfl Qc Qc Qc Qc) (fun _=>Qg) (Yx [] (Qg) (Yx [] (Qg) (WK (QR (Ql (eZ 0 r3 r5 r1 ([]++Z) ai af ah G.dg) (sL Qd (N8 ⟨[10,11,20,21,22],[10,11,300,1000,1001,1002,1003],[],[]⟩ (eZ 1 r3 r5 r1 ([]++Z) ai af ah G.dg) (Qf Qd ⟨Pj (.bsl 1003 3) 3 1 true,EP r3 r5 r1 ([]++Z)++Ri ([]++Z)++D5 ai af ah G.dg⟩ (sS (ZQ (sK (Ql (eZ 1 r3 r5 r1 ([]++Z) ai af ah G.dg) (sS (sB (Qf Qd ⟨eY (.func 124) (.bsl 1003 3) 3 1,EP r3 r5 r1 ([]++Z)++Ri ([]++Z)++D5 ai af ah G.dg⟩ (KG [0,1,2] [0,1] [(3,[]),(4,[]),(5,[]),(6,[])] Qd rfl (ZH (f:=124) (args:=[IG]) (dst:=some 29) (QQ (hc:=(zw ai af ah G.dg)) (args':=[IG]) nq2 [] [] Tryz.func124 rfl Tryz.ntmps124 rfl Qc Qc Qc (Qf Qd (Qee ai af ah G.dg) (sS (KG [0] [0] [(1,[]),(2,[])] Qd rfl (ZH (f:=125) (args:=[S [123]]) (dst:=some 3) (QQ (hc:=[]) (args':=[S [123]]) [(1,401)] [] [] Tryz.func125 rfl Tryz.ntmps125 rfl Qc Qc Qc (Qf Qd ⟨[qq 1],QbC [123]⟩ (Qf Qd (sq8 [123]) (sT (QD (.id) [1] [] (.fn (.func 185) [] [.ptr 1 0]) (kh [0] (Qo (QA Zj rfl) (Qg)) (ZH (f:=119) (args:=[Zj, .fn (.func 185) [] [.ptr 401 0]]) (dst:=some 4) (QQ (hc:=(EQ ai af ah G.dg [123])) (args':=[Zj, .fn (.func 185) [] [IG]]) nq3 [] [] Tryz.func119 rfl Tryz.ntmps119 rfl Qc Qc Qc (Qf Qd ⟨Qd7 (.func 185),eG++EQ ai af ah G.dg [123]⟩ (sS (sG (xR 1 ?_))))))))))))))))))))))))))))))))))))));refine XK [.ro [.id, .id, .id, .sl 2]] (KA n (⟨ai,af,ah,G.dg⟩:ZK)) QF (fun bv=>?_);refine xR 2 (xE (Ql ⟨Qd8 (.func 185),G6 bv++EQ ai af ah G.dg [123]⟩ (Yc (fun _=>⟨eH,G6 bv++EQ ai af ah G.dg [123]⟩:Unit→St) (fun _=>Vm n G r1 r3 r5 Z ai af ah) ?_ ?_)));rotate_left
 ·refine KQ (fun dp=>⟨eO dp,G6 bv++EQ ai af ah G.dg [123]⟩:Bool→St) ?_ ?_;rotate_left
  ·rintro dp;refine sC dp (sG (xR 1 ?_)) (sK (KW (k:=fun _=>Vm n G r1 r3 r5 Z ai af ah) ()));refine Bl [.ro [.id, .id, .id, .sl 2]] (Hf n (⟨ai,af,ah,G.dg⟩:ZK)) QF QF (fun el=>?_) (fun ek=>?_)
   ·exact xE (KW (k:=fun _=>Vm n G r1 r3 r5 Z ai af ah) ())
   exact Gu (NT [1000,1001,1002] [] (uO _ rfl (Un (NT [1000,1001,1002] [] (uO _ rfl (Ab (Un (Qio (Ab (Gu (NT [1000,1001,1002,1003] [] (Un (Un (lI [1000,1103] []))))))))))))))
  refine sG (xR 4 (xS (Qp bv.Kind 0) (fun c4=>xN (Qy c4) (xR 4 (xE (QS true)))) (fun c4=>xO (Qw c4) (xR 1 (GD (jb [123]) [.agg [I bv.Kind,S bv.Text,I bv.N,I bv.At],Zj] [(1000,1002)] [] [] Tryz.func185 rfl Tryz.ntmps185 rfl (Qf Qd (sq9 bv [123]) (KQ (fun cq=>⟨[(3,B cq)],jb [123]⟩:Bool→St) (sG (xR 4 (xS (Qp bv.Kind 3) (fun dl=>xO (Qv dl) (xR 5 (xE (QS (Qr bv.Text [123]))))) (fun dl=>xN (Qx dl) (xR 5 (xE (QS false))))))) ?_)))))));rintro cq;exact sT (QD (.id) [1000] [] (B cq) (Wh (xR 2 (xE (QS (!cq))))))
 rintro _;show QP (Vm n G r1 r3 r5 Z ai af ah) _ _ _ _ _ _;unfold Vm;refine Qf Qd ⟨[qq 4,qq 5],G6 bv++EQ ai (wi (af+1)) ah G.dg [123]⟩ (Qf Qd ⟨[qq 4],eP bv++EQ ai (wi (af+1)) ah G.dg [123]⟩ (sT (QD (.id) [1000,1001,1002] [] (.agg [I bv.Kind,S bv.Text,I bv.N,I bv.At]) (kh [] (Qg) (WK (Ql ⟨[],zw ai (wi (af+1)) ah G.dg⟩ (Qf Qd ⟨[(1,zS)],zw ai (wi (af+1)) ah G.dg⟩ (sT (QD (.sl 5) [1000,1001,1002] [] (.p (.sl 5 (mI []))) (kh [0,1] (Qo (QA (.ptr 11 4) rfl) (Qo (Ju (S:=5) (t:=300) (ty:=25) (es:=mI ([]++Z)) rfl) (Qg))) (Af [] rfl (Jr (e:=25) (S:=5) (by_:=64) (enc:=Zq) (tk:=300) (l:=[]++Z) (l2:=[]) (xv:=.p (.sl 5 (mI []))) rfl Qc Qc rfl Qc Qc Qc Qc) (fun _=>Qg) (Yx [] (Qg) (Yx [] (Qg) (WK (QR (Ql (eZ 1 r3 r5 r1 (([]++Z)++[]) ai (wi (af+1)) ah G.dg) (sL Qd (N8 ⟨[10,11,20,21,22],[10,11,300,1000,1001,1002,1003],[],[]⟩ (eZ 2 r3 r5 r1 (([]++Z)++[]) ai (wi (af+1)) ah G.dg) (Qf Qd ⟨Pj (.bsl 1003 3) 3 2 true,EP r3 r5 r1 (([]++Z)++[])++Ri (([]++Z)++[])++D5 ai (wi (af+1)) ah G.dg⟩ (sS (ZQ (sK (Ql (eZ 2 r3 r5 r1 (([]++Z)++[]) ai (wi (af+1)) ah G.dg) (KQ (fun (bp,cm,cl,cj,ch)=>⟨Rj (.bsl 1003 3) 3 2,EP r3 r5 r1 bp++Ns bp++D5 cm cl cj ch⟩:Ip→St) ?_ ?_))))))))))))))))))))))));rotate_left
 ·rintro ⟨bp,cm,cl,cj,ch⟩;exact sL Qd (N8 ⟨[10,11,20,21,22],[10,11,300,1000,1001,1002,1003],[],[]⟩ ⟨Rj (.bsl 1003 3) 3 3,EP r3 r5 r1 bp++Ns bp++D5 cm cl cj ch⟩ (Qf Qd ⟨Pj (.bsl 1003 3) 3 3 false,EP r3 r5 r1 bp++Ns bp++D5 cm cl cj ch⟩ (sS (QZ (Qt (ZR (M5 (QM (KW (k:=fun (bn,b7,b8,ca,b9)=>Jz r1 r3 r5 bn b7 b8 ca b9) (bp,cm,cl,cj,ch))))))))))
 refine sB (Qf Qd ⟨pK (.func 127) (.bsl 1003 3) 3 2,EP r3 r5 r1 (([]++Z)++[])++Ri (([]++Z)++[])++D5 ai (wi (af+1)) ah G.dg⟩ (KG [0,1,2] [0,1] [(3,[]),(4,[]),(5,[]),(6,[])] Qd rfl (ZH (f:=127) (args:=[Zj]) (dst:=some 29) (QQ (hc:=(VP ai (wi (af+1)) ah G.dg)) (args':=[Zj]) [(1000,1000),(1001,1001)] [] [] Tryz.func127 rfl Tryz.ntmps127 rfl Qc Qc Qc (Qf Qd (QgZ ai (wi (af+1)) ah G.dg) (Qf Qd ⟨eU,jd++VP ai (wi (af+1)) ah G.dg⟩ (Yc (fun (ay,bj,bk,bg,bm)=>⟨[(3, .tsl 5 (mI ay) 32)],Qg1 ay++VP bj bk bg bm⟩:Ip→St) (fun (ay,bj,bk,bg,bm)=>JK Z ay bj bk bg bm) ?_ ?_)))))))
 ·rintro ⟨ay,bj,bk,bg,bm⟩;show QP (JK Z ay bj bk bg bm) _ _ _ _ _ _;unfold JK;exact Qf Qd (Qg2 ay bj bk bg bm) (sT (QD (.sl 5) [1000,1001] [] (.p (.sl 5 (mI ay))) (kh [0,1] (Qo (QA (.ptr 11 4) rfl) (Qo (Ju (S:=5) (t:=300) (ty:=25) (es:=mI (([]++Z)++[])) rfl) (Qg))) (Af [] rfl (Jr (e:=25) (S:=5) (by_:=64) (enc:=Zq) (tk:=300) (l:=([]++Z)++[]) (l2:=ay) (xv:=.p (.sl 5 (mI ay))) rfl Qc Qc rfl Qc Qc Qc Qc) (fun _=>Qg) (Yx [] (Qg) (Yx [] (Qg) (WK (QR (QS ((([]++Z)++[])++ay,bj,bk,bg,bm))))))))))
 refine sB (Pe ⟨eU,jd++VP ai (wi (af+1)) ah G.dg⟩ (KF (Yr 25 5 32 [3] []) (QG (fun (J,an,am,au,O)=>⟨QbE J,aA J++VP an am au O⟩:Ip→St) (Gm) ?_)));rintro cy ⟨J,an,am,au,O⟩;show QP (Vl n Z cy J an am au O) _ _ _ _ _ _;unfold Vl;refine sS (sS (sG (xR 1 ?_)));refine XK [.ro [.id, .id, .id, .sl 2]] (Ik n (⟨an,am,au,O⟩:ZK)) QF (fun ec=>?_);refine xR 1 (xE (Ql ⟨[qq 1,(3, .tsl 5 (mI J) 32),(9,B (!ec))],aA J++VP an am au O⟩ (sC (!ec) (sK (Ql ⟨QbE J,aA J++VP an am au O⟩ (sB (sS (sS (KG [1] [1] [(0,[]),(2,[]),(3,[])] Qd rfl (ZH (f:=125) (args:=[S [125]]) (dst:=some 10) (QQ (hc:=[]) (args':=[S [125]]) [(1,401)] [] [] Tryz.func125 rfl Tryz.ntmps125 rfl Qc Qc Qc (Qf Qd ⟨[qq 1],QbC [125]⟩ (Qf Qd (sq8 [125]) (sT (QD (.id) [1] [] (.fn (.func 185) [] [.ptr 1 0]) (kh [1] (Qo (QA Zj rfl) (Qg)) (ZH (f:=181) (args:=[Zj]) (dst:=some 12) ?_)))))))))))))) (Qt (ZR (Yw (QM (KW (k:=fun (ay,bj,bk,bg,bm)=>JK Z ay bj bk bg bm) (J,an,am,au,O)))))))));refine Qik [.ro [.id, .id, .id, .sl 2]] (KA n (⟨an,am,au,O⟩:ZK)) Qc Qc QF (fun cg=>?_);refine kh [] (Qg) (ZH (f:=185) (args:=[.agg [I cg.Kind,S cg.Text,I cg.N,I cg.At], .ptr 401 0]) (dst:=some 13) (QQ (hc:=(jb [125])) (args':=[.agg [I cg.Kind,S cg.Text,I cg.N,I cg.At],Zj]) [(1000,401)] [] [] Tryz.func185 rfl Tryz.ntmps185 rfl Qc Qc Qc (Qf Qd (sq9 cg [125]) (KQ (fun cp=>⟨[(3,B cp)],jb [125]⟩:Bool→St) (sG (xR 4 (xS (Qp cg.Kind 3) (fun dz=>xO (Qv dz) (xR 5 (xE (QS (Qr cg.Text [125]))))) (fun dz=>xN (Qx dz) (xR 5 (xE (QS false))))))) ?_))));rintro cp;refine sT (QD (.id) [1000] [] (B cp) (kh [] (Qg) (WK (Ql ⟨[qq 1,(3, .tsl 5 (mI J) 32),(13,B cp)],aA J++VP an am au O⟩ (sC cp (Qf Qd ⟨[(3, .tsl 5 (mI J) 32)],Qg1 J++VP an (wi (am+1)) au O⟩ (Qf Qd (Qg2 J an (wi (am+1)) au O) (sT (QB (Q4 (V9 (Q4 (V9 (QD (.sl 5) [1000,1001] [] (.p (.sl 5 (mI J))) (kh [0,1] (Qo (QA (.ptr 11 4) rfl) (Qo (Ju (S:=5) (t:=300) (ty:=25) (es:=mI (([]++Z)++[])) rfl) (Qg))) (Af [] rfl (Jr (e:=25) (S:=5) (by_:=64) (enc:=Zq) (tk:=300) (l:=([]++Z)++[]) (l2:=J) (xv:=.p (.sl 5 (mI J))) rfl Qc Qc rfl Qc Qc Qc Qc) (fun _=>Qg) (Yx [] (Qg) (Yx [] (Qg) (WK (QR (QS ((([]++Z)++[])++J,an,wi (am+1),au,O))))))))))))))))) (sK (Ql ⟨QbE J,aA J++VP an am au O⟩ (Qf Qd ⟨QiJ J,[(1, .box 82 [Zj]),(4,(Cc 0 [] 0 0)),(32,Qfj J)]++VP an am au O⟩ (KQ (fun (cn,ck,b2,bw,b3,bt,ce,cc,cd,b6,b5)=>⟨[qq 1,(3, .tsl 5 (mI J) 32),qq 4,(5,B cn),(6,S ck)],QiK ⟨ce,cc,cd,b6,b5⟩ J++VP b2 bw b3 bt⟩:(Bool × (List UInt8) × (List Q0) × Int × Int × (List Zw) × Int × (List UInt8) × Int × Int × (List (List PV)))→St) ?_ ?_)))))))));rotate_left
 ·rintro ⟨cn,ck,b2,bw,b3,bt,ce,cc,cd,b6,b5⟩;exact Qf Qd ⟨[qq 1,(3, .tsl 5 (mI J) 32),qq 4,(6,S ck),(28,B cn)],QiK ⟨ce,cc,cd,b6,b5⟩ J++VP b2 bw b3 bt⟩ (sC cn (sG (xR 3 (xF (Y1 (e:=25) (S:=5) (by_:=64) (enc:=Zq) (tk:=32) (l:=J) (l2:=[GN.cs (⟨ce,cc,cd,b6,b5⟩:GN)]) (xv:=.tsl 5 (mI [GN.cs (⟨ce,cc,cd,b6,b5⟩:GN)]) 31) rfl Qc Qc rfl Qc Qc Qc rfl Qc) (xR 1 (xE (QR (KW (J++[GN.cs (⟨ce,cc,cd,b6,b5⟩:GN)],b2,bw,b3,bt)))))))) (Qf Qd ⟨[qq 1,(3, .tsl 5 (mI J) 32),(34,B (!Qr ck [59]))],aA J++VP b2 bw b3 bt⟩ (sC (!Qr ck [59]) (Qf Qd (Qg2 J b2 bw b3 bt) (sT (Q4 (V9 (Q4 (V9 (QD (.sl 5) [1000,1001] [] (.p (.sl 5 (mI J))) (kh [0,1] (Qo (QA (.ptr 11 4) rfl) (Qo (Ju (S:=5) (t:=300) (ty:=25) (es:=mI (([]++Z)++[])) rfl) (Qg))) (Af [] rfl (Jr (e:=25) (S:=5) (by_:=64) (enc:=Zq) (tk:=300) (l:=([]++Z)++[]) (l2:=J) (xv:=.p (.sl 5 (mI J))) rfl Qc Qc rfl Qc Qc Qc Qc) (fun _=>Qg) (Yx [] (Qg) (Yx [] (Qg) (WK (QR (QS ((([]++Z)++[])++J,b2,bw,b3,bt))))))))))))))) (sK (QR (KW (J,b2,bw,b3,bt)))))))
 refine sG (xR 2 (Kc (f:=57) (args:=[Zj, .fn (.func 189) [] [.ptr 1 0, .ptr 4 0]]) Qc Qc Qc ?_));refine zg (hc:=(Qg3 an am au O)) (args':=[Zj, .fn (.func 189) [] [IG,dZ]]) [(1002,1),(1003,4),(1000,1000),(1001,1001)] [] [] (⟨_,_,_,_,_,_,[2,4,5],6,_,rfl,rfl,rfl,rfl,rfl,rfl,rfl,rfl,by decide⟩:MJ Tryz.f57 117) [(2,1900),(4,1901),(5,1902)] Tryz.func57 Tryz.ntmps57 Qc Qc Qc Qc Qc Qd rfl Qc Qc ?_;refine Pe ⟨QiL (.func 189),Qg3 an am au O++Qg4 false⟩ (sS (sG (xR 1 (GD (Qg3 an am au O) [IG,dZ] nq4 [] [] Tryz.func189 rfl Tryz.ntmps189 rfl (sG (xR 1 (Kc (f:=190) (args:=[Zj]) Qc Qc Qc ?_)))))));refine Wu 1000 3 1001 81 2 (Um O).length (Um O) ⟨[0,1,2],[1000,1002,1003],[],[]⟩ rfl (fun _ _ _=>by kernel_rfl) (fun dc c3 dv=>?_);refine uK [(1000,1000)] [] [] (zu n (⟨an,am,au,[]⟩:ZK) dc c3 dv) Qc Qc Qc QF QF QF QF (fun be=>?_) (fun al=>?_)
 ·refine Xz _ rfl (Wh (xR 1 (xE (DX (.id) [1000,1001,1002,1003] [] (.tup []) (Wh (xE (Ql ⟨[(4, .ptr 1901 0),(5, .ptr 1902 0)],QiM be.2.tks be.2.pos be.2.length O be.1++Qg4 false⟩ (Qf Qd ⟨[(4, .ptr 1901 0),(5, .ptr 1902 0)],QiM be.2.tks be.2.pos be.2.length O be.1++Qg4 true⟩ (sT ?_)))))))));refine wU (⟨Tryz.f117,_,_,_,6,3,_,_,Tryz.func117,rfl,rfl,rfl,rfl,rfl,rfl,rfl,by decide,by decide⟩:Fj Tryz.prog 117) nq5 (VP be.2.tks be.2.pos be.2.length O++jf true) (.p (.val (.nilIface))) [IG,dZ, .ptr 1004 0] [] rfl Qc Qc Qc Qc ?_;exact sS (Qf Qd ⟨QiN,VP be.2.tks be.2.pos be.2.length O++jf true⟩ (ZQ (sT (QB (Qbn [1000,1001,1002,1003,1004] [] Qc Qc (QD (.id) [1000,1001,1002,1003] [] (.tup [B true,S []]) (Wh (xR 5 (xE (QS (true,[],be.2.tks,be.2.pos,be.2.length,O,be.1.Kind,be.1.Name,be.1.N,be.1.At,be.1.Kids)))))))))))
 refine QgL _ rfl Qc Qc (NT [1000,1001,1002,1003] [] (Un ?_));refine wU (⟨Tryz.f117,_,_,_,6,3,_,_,Tryz.func117,rfl,rfl,rfl,rfl,rfl,rfl,rfl,by decide,by decide⟩:Fj Tryz.prog 117) nq5 (VP al.2.tks al.2.pos al.2.length O++jf false) (.ifc 235 (.agg [I al.1])) [IG,dZ, .ptr 1004 0] [] rfl Qc Qc Qc Qc ?_;refine sS (Qf Qd ⟨QiO al.1,VP al.2.tks al.2.pos al.2.length O++jf false⟩ (QZ (sK (Ql ⟨QiP al.1,VP al.2.tks al.2.pos al.2.length O++jf false⟩ (Qf Qd ⟨QiQ al.1,aB al.1++VP al.2.tks al.2.pos al.2.length O++jf false⟩ (sS (Qf Qd ⟨QiR al.1,aB al.1++VP al.2.tks al.2.pos al.2.length O++jf false⟩ (QZ (sK (Ql ⟨QiS,aB al.1++VP al.2.tks al.2.pos al.2.length O++jf false⟩ (sS (Bh Qd rfl (xR 9 (xF (Y1 (e:=81) (S:=2) (by_:=16) (enc:=Zw.cs) (tk:=1001) (l:=O) (l2:=[(⟨7,al.1⟩:Zw)]) (xv:=.tsl 2 (Um [(⟨7,al.1⟩:Zw)]) 25) rfl Qc Qc rfl Qc Qc Qc rfl Qc) (xR 3 (MN (Ql ⟨QiT,VP al.2.tks al.2.pos al.2.length (O++[(⟨7,al.1⟩:Zw)])++jf false⟩ (sG (xR 1 (Kc (f:=118) (args:=[Zj]) Qc Qc Qc ?_))))))))))))))))))));refine Wu 1000 3 1001 81 2 (Um (O++[(⟨7,al.1⟩:Zw)])).length (Um (O++[(⟨7,al.1⟩:Zw)])) ⟨[0,1,2,29],[1000,1002,1003,1004],[],[]⟩ rfl (fun _ _ _=>by kernel_rfl) (fun dt df dd=>?_);refine Zg [(1000,1000)] [] [] (Io n (⟨al.2.tks,al.2.pos,al.2.length,[]⟩:ZK) dt df dd) Qc Qc Qc QF QF (fun co=>?_);exact Xz _ rfl (Wh (xR 2 (xE (Qin [1000,1001,1002,1003,1004] [] Qc Qc (QD (.id) [1000,1001,1002,1003] [] (.tup [B false,S co.1]) (Wh (xR 5 (xE (Qa2 (false,co.1,co.2.tks,co.2.pos,co.2.length,O++[(⟨7,al.1⟩:Zw)],0,[],0,0,[]) ⟨[1,3,4,5,6],[1,4,32,1000,1001],[],[(4,[.id, .id, .id, .id, .sl 5])]⟩ Qc)))))))))
def Ww (aa:GN) (O:Int) (G:GN→Int→Option Int) (Z:(Int × Int)→Option Int) (J:Int) (Y:Int):Option Int :=
 cond (Qs Y (Qb (List.map Zq aa.Kids)))
  ((Option.bind (QU aa.Kids Y) GN.of).bind fun x2 =>
  cond (Qs O J)
   (some J)
   ((G x2 (wi (O - J))).bind fun r3 =>
   Z (wi (J+r3),wi (Y+1))))
  (some J)
def JA (n:Nat) (G:GN→Int→Option Int) (aa:GN) (J:Int):Option Int :=
 Qn (fun O (Y,Z)=>Ww aa J G O Y Z) n (1,0)
def JM:Nat→GN→Int→Option Int
 | 0,_,_=>none
 | n+1,J,G=>JA n (JM n) J G
def Ub:=fun G=>([(2, .box 25 (YE (GN.cs G)))]:List (Nat × Blk))
def Qeg:=fun J O G Y=>([(1,I J),(5,I O),(9, .p (.sl 5 (List.map Zq (GN.Kids G)))),(10,I (Qb (List.map Zq (GN.Kids G)))),(11,I Y)]:List (Nat × AV))
def QiU:=fun J O G Y=>([(1,I J),(5,I O),(7, .ptr 7 0),(9, .p (.sl 5 (List.map Zq (GN.Kids G)))),(10,I (Qb (List.map Zq (GN.Kids G)))),(11,I Y)]:List (Nat × AV))
def Qeh:=fun G=>([(7, .box 25 (YE (GN.cs G)))]:List (Nat × Blk))
theorem jh (n:Nat) (O:GN) (G:Int):∀ r,JM n O G=some r→QC Tryz.prog 27 [ag (GN.cs O),I G] (.ret (I r)):=by
 induction n generalizing O G with
 | zero=>intro r hr; cases (show (none:Option Int)=some r from hr)
 | succ n ih =>
 show ∀ r,JA n (JM n) O G=some r→_;generalize JM n=Z at ih ⊢;refine Qj Tryz.func27 rfl Tryz.ntmps27 rfl ?_;unfold JA;refine Qf Qd ⟨[(1,I G),qq 2],Ub O⟩ (Qf Qd ⟨[(1,I G),qq 2,(5,I 1)],Ub O⟩ (sS (Qf Qd ⟨Qeg G 1 O 0,[]⟩ (sB (QG (fun (J,Y)=>⟨Qeg G J O Y,[]⟩:(Int × Int)→St) (Gm) ?_)))));rintro aa ⟨J,Y⟩;show QP (Ww O G Z aa J Y) _ _ _ _ _ _;unfold Ww;refine Qf Qd ⟨[(1,I G),(5,I J),(9, .p (.sl 5 (mI O.Kids))),(10,I (Qb (mI O.Kids))),(11,I Y),(12,B (Qs Y (Qb (mI O.Kids))))],[]⟩ (sS (sC (Qs Y (Qb (mI O.Kids))) (sK (Ql ⟨Qeg G J O Y,[]⟩ (sS (sB (sS (sG (xG (Yg (e:=25) (S:=5) (enc:=GN.cs) (dec:=GN.of) (l:=O.Kids) (k:=.i64) (n:=Y) (sv:=.p (.sl 5 (mI O.Kids))) GN.of_cs rfl Qc Qc Qc Qc Qc) (fun x2=>xR 3 (xE (Ql ⟨QiU G J O Y,Qeh x2⟩ (sS (Qf Qd ⟨[(1,I G),(5,I J),qq 7,(9, .p (.sl 5 (mI O.Kids))),(10,I (Qb (mI O.Kids))),(11,I Y),(17,B (Qs G J))],Qeh x2⟩ (sC (Qs G J) (Qf Qd ⟨[(4,I J)],[]⟩ (sT (QB (Q4 (QB (V9 (Q4 (QB (qR (.id)))))))))) (sK (Ql ⟨QiU G J O Y,Qeh x2⟩ (sG (xR 5 ?_))))))))))))))))) (Qt (ZR (Yw (QM (Ql ⟨[(5,I J)],[]⟩ (Qf Qd ⟨[(4,I J)],[]⟩ (sT (qR (.id)))))))))));refine xC [] (ih x2 (wi (G - J))) QF (fun r3=>?_);exact xR 2 (xE (QR (Ql ⟨Qeg G (wi (J+r3)) O Y,[]⟩ (sL Qd (KW (wi (J+r3),wi (Y+1)))))))
def Wx (n:Nat) (Z:Ip→Option Ip) (O:List (List PV)) (J:List Q0) (Y:Int) (aa:Int) (ab:List Zw):Option Ip :=
 (cond (Qs Y (Qb (List.map Q0.cs J)))
  ((Ta n (⟨J,Y,aa,ab⟩:ZK)).bind fun r7 =>
  some (!r7))
  (some false)).bind fun j5 =>
 cond j5
  (((BB n (⟨J,Y,aa,ab⟩:ZK)).bind (Lr (fun r9 =>
   some (true,r9.2.tks,r9.2.pos,r9.2.length,r9.2.dg,r9.1.Kind,r9.1.Name,r9.1.N,r9.1.At,r9.1.Kids)) fun G=>cond (QK (List.length (G.2.dg++[(⟨7,G.1⟩:Zw)])) 16) (
   (Td n (⟨G.2.tks,G.2.pos,G.2.length,[]⟩:ZK)).bind fun am =>
   some (false,am.2.tks,am.2.pos,am.2.length,G.2.dg++[(⟨7,G.1⟩:Zw)],0,[],0,0,[])) none)).bind fun (an,al,ad,ah,ak,af,ai,aj,ae,ac) =>
  cond an
   (cond (QK (List.length (O++[GN.cs (⟨af,ai,aj,ae,ac⟩:GN)])) 64) (
    Z (O++[GN.cs (⟨af,ai,aj,ae,ac⟩:GN)],al,ad,ah,ak)) none)
   (Z (O,al,ad,ah,ak)))
  (some (O,J,Y,aa,ab))
def YO (n:Nat) (ah:List UInt8):Option (GN × (List Zw)) :=
 (EL n ah).bind fun r1 =>
 cond (!Qp r1.2.1 0)
  (some ((⟨0,[],0,0,[]⟩:GN),[(⟨r1.2.1,r1.2.2⟩:Zw)]))
  (((Qn (fun Y (aa,Z,af,ab,ac)=>Wx n Y aa Z af ab ac) n ([],r1.1,0,Qb ah,[])).bind fun (J,ai,ae,ad,aj) =>
  cond (QK (List.length ([]++J)) 64) (
   some ([]++J,ai,ae,ad,aj)) none).bind fun (O,an,am,al,G) =>
  cond (Qs 0 (Qb (List.map Zw.cs G)))
   (some ((⟨0,[],0,0,[]⟩:GN),G))
   ((JM n (⟨1,[],0,0,O⟩:GN) 1500).bind fun ak =>
   cond (Qs 1500 ak)
    (some ((⟨0,[],0,0,[]⟩:GN),[(⟨2,0⟩:Zw)]))
    (some ((⟨1,[],0,0,O⟩:GN),[]))))
def Qg5:=fun G=>(.arr 81 2 (List.map Zw.cs [G]).length:Blk)
def aC:=fun G J=>(.box 84 [.p (.sl 4 (List.map Q0.cs G)),I 0,I (J), .p (.val (.slice none 0 0))]:Blk)
def QiV:Blk:=.box 88 [.fn (.func 26) [.ptr 1000 0] []]
def gB:=fun G J=>([(1000,(aC G (J))),(1001,QiV)]:List (Nat × Blk))
def Qei:=fun J O G Y=>(.box 84 [.p (.sl 4 (List.map Q0.cs J)),I O,I G, .tsl 2 (List.map Zw.cs Y) 700]:Blk)
def QbF:=fun J O G Y=>([(1000,(Qei J O G Y)),(1001,QiV)]:List (Nat × Blk))
def QiW:=fun G J=>([(32, .arr 25 5 (List.map Zq G).length),(700,(XB J))]:List (Nat × Blk))
def gD:=fun J O G Y=>([(1000,(Qei J O G Y))]:List (Nat × Blk))
def Qg6:=fun G J=>([(1, .box 82 [.ptr 1000 0]),(32, .arr 25 5 (List.map Zq G).length),(700,(XB J))]:List (Nat × Blk))
def QiX:=fun J O G=>([(1, .box 82 [.ptr 1000 0]),(4,(cu J)),(32, .arr 25 5 (List.map Zq O).length),(700,(XB G))]:List (Nat × Blk))
def Qg7:=fun J O G Y=>(.box 84 [.p (.sl 4 (List.map Q0.cs J)),I O,I G, .tsl 2 (List.map Zw.cs Y) 1000]:Blk)
def Qg8:=fun G O J Y=>([(1000,(XB G)),(1001,(Qg7 O J Y G)),(1002, .box 82 [.ptr 1001 0]),(1003,(Cc 0 [] 0 0))]:List (Nat × Blk))
def Qg9:=fun G=>([(1900, .box 82 [.ptr 1001 0]),(1901, .box 4 [B G]),(1902, .box 9 [S []])]:List (Nat × Blk))
def QiY:=fun G Y J Z O=>([(1000,(XB G)),(1001,(Qg7 Y J Z G)),(1002, .box 82 [.ptr 1001 0]),(1003, .box 25 (YE (GN.cs O)))]:List (Nat × Blk))
def ji:=fun G O J Y=>([(1000,(XB G)),(1001,(Qg7 O J Y G))]:List (Nat × Blk))
def jk:=fun G=>([(1002, .box 82 [.ptr 1001 0]),(1003, .box 4 [B G]),(1004, .box 9 [S []])]:List (Nat × Blk))
theorem Dk (n:Nat) (aa:List UInt8):∀ r,YO n aa=some r→QC Tryz.prog 8 [S aa] (.ret (.tup [ag (GN.cs r.1), .p (.sl 2 (Um r.2))])):=by
 refine Qj Tryz.func8 rfl Tryz.ntmps8 rfl ?_;unfold YO;refine Qf Qd ⟨[(0,S aa),qq 2],[(2,(Cc 0 [] 0 0))]⟩ (sS (sG (xR 1 ?_)));refine xC [] (pF n aa) QF (fun r1=>?_);refine xR 7 (xE (Ql ⟨[(0,S aa),qq 2,(4, .p (.sl 4 (Lu r1.1))),(5,I r1.2.1),(6,I r1.2.2)],[(2,(Cc 0 [] 0 0))]⟩ (sS (Qf Qd ⟨[(0,S aa),qq 2,(4, .p (.sl 4 (Lu r1.1))),(5,I r1.2.1),(6,I r1.2.2),(16,B (!Qp r1.2.1 0))],[(2,(Cc 0 [] 0 0))]⟩ (sC (!Qp r1.2.1 0) (Qf Qd ⟨[qq 2,(3, .tsl 2 (Um [(⟨r1.2.1,r1.2.2⟩:Zw)]) 21)],[(2,(Cc 0 [] 0 0)),(21,(Qg5 (⟨r1.2.1,r1.2.2⟩:Zw)))]⟩ (sT (QB (qR (.agg [.agg [.id, .id, .id, .id, .sl 5], .sl 2]))))) (sK (Ql ⟨[(0,S aa),qq 2,(4, .p (.sl 4 (Lu r1.1)))],[(2,(Cc 0 [] 0 0))]⟩ (Qf Qd ⟨[qq 2,(7, .ptr 26 0)],[(2,(Cc 0 [] 0 0)),(26,(aC r1.1 (Qb aa)))]⟩ (sS (sG (xR 4 (GD (gB r1.1 (Qb aa)) [.agg [I 0,S [],I 0,I 0],I 1,S [],I 0, .bsl 1001 1] [(1000,26),(1001,30),(700,700)] [] [] Tryz.func25 rfl Tryz.ntmps25 rfl (Qf Qd ⟨Qg0 1 [] (.bsl 1001 1),[(5, .box 87 [I 0,S [],I 0,I 0]),(10,(Cc 0 [] 0 0))]++gB r1.1 (Qb aa)⟩ (Qf Qd ⟨eQ (.bsl 1001 1),Ph 1 [] 0 0++gB r1.1 (Qb aa)⟩ (KQ (fun (ab,ay,aw,au,ac)=>⟨[qq 10,qq 11],je 1 [] 0 ab++Ns ab++[(700,(XB ac))]++QbF ay aw au ac⟩:Ip→St) ?_ ?_)))))))))))))));rotate_left
 ·rintro ⟨ab,ay,aw,au,ac⟩;refine Qf Qd ⟨[qq 10],[(10,(Qec 1 [] 0 ab))]++Ns ab++[(700,(XB ac))]++QbF ay aw au ac⟩ (sT (QD (.agg [.id, .id, .id, .id, .sl 5]) [700,1000,1001] [] (.agg [I 1,S [],I 0,I 0, .p (.sl 5 (mI ab))]) (Wh (xR 2 (xE (Ql ⟨[qq 2,(7, .ptr 26 0),qq 8],[(2,(Cc 0 [] 0 0)),(8,(cu ⟨1,[],0,0,ab⟩)),(26,(Qei ay aw au ac)),(700,(XB ac))]⟩ (sS (Qf Qd ⟨[qq 2,(7, .ptr 26 0),qq 8,(37,B (Qs 0 (Qb (Um ac))))],[(2,(Cc 0 [] 0 0)),(8,(cu ⟨1,[],0,0,ab⟩)),(26,(Qei ay aw au ac)),(700,(XB ac))]⟩ (sC (Qs 0 (Qb (Um ac))) (Qf Qd ⟨[qq 2,(3, .tsl 2 (Um ac) 700)],[(2,(Cc 0 [] 0 0)),(700,(XB ac))]⟩ (sT (QB (qR (.agg [.agg [.id, .id, .id, .id, .sl 5], .sl 2]))))) (sK (Ql ⟨[qq 2,qq 8],[(2,(Cc 0 [] 0 0)),(8,(cu ⟨1,[],0,0,ab⟩))]⟩ (sS (sS (sG (xR 1 ?_)))))))))))))));refine xC [] (jh n (⟨1,[],0,0,ab⟩:GN) 1500) QF (fun bc=>?_);exact xR 1 (xE (Ql ⟨[qq 2,qq 8,(45,B (Qs 1500 bc))],[(2,(Cc 0 [] 0 0)),(8,(cu ⟨1,[],0,0,ab⟩))]⟩ (sC (Qs 1500 bc) (Qf Qd ⟨[qq 2,(3, .tsl 2 (Um [(⟨2,0⟩:Zw)]) 48)],[(2,(Cc 0 [] 0 0)),(48,(Qg5 (⟨2,0⟩:Zw)))]⟩ (sT (QB (qR (.agg [.agg [.id, .id, .id, .id, .sl 5], .sl 2]))))) (sK (Ql ⟨[qq 2,qq 8],[(2,(Cc 0 [] 0 0)),(8,(cu ⟨1,[],0,0,ab⟩))]⟩ (Qf Qd ⟨[qq 2,(3,zS)],[(2,(cu ⟨1,[],0,0,ab⟩))]⟩ (sT (qR (.agg [.id, .sl 2])))))))))
 refine Qf Qd ⟨Rj (.bsl 1001 1) 1 0,Ph 1 [] 0 0++gB r1.1 (Qb aa)⟩ (sB (Z7 1 (Qf Qd ⟨Pj (.bsl 1001 1) 1 0 true,Ph 1 [] 0 0++gB r1.1 (Qb aa)⟩ (sS (ZQ (sK (Ql ⟨Rj (.bsl 1001 1) 1 0,Ph 1 [] 0 0++gB r1.1 (Qb aa)⟩ (sS (sB (Qf Qd ⟨pK (.func 26) (.bsl 1001 1) 1 0,Ph 1 [] 0 0++gB r1.1 (Qb aa)⟩ (Pe ⟨pK (.func 26) (.bsl 1001 1) 1 0,Ph 1 [] 0 0++gB r1.1 (Qb aa)⟩ (KF (Yr 25 5 300 [] [(11,4)]) (KG [0,1,2] [0,1] [(3,[]),(4,[]),(5,[]),(6,[])] Qd rfl (ZH (f:=26) (args:=[Zj]) (dst:=some 29) (QQ (hc:=[(1000,(aC r1.1 (Qb aa)))]) (args':=[Zj]) [(1000,1000),(700,700)] [] [] Tryz.func26 rfl Tryz.ntmps26 rfl Qc Qc Qc (Qf Qd ⟨[qq 1],jd++[(1000,(aC r1.1 (Qb aa)))]⟩ (Qf Qd ⟨eU,jd++[(1000,(aC r1.1 (Qb aa)))]⟩ (KQ (fun (Y,aj,ak,ai,af)=>⟨[(3, .tsl 5 (mI Y) 32)],QiW Y af++gD aj ak ai af⟩:Ip→St) ?_ ?_))))))))))))))))));rotate_left
 ·rintro ⟨Y,aj,ak,ai,af⟩;exact Qf Qd ⟨[(2, .tsl 5 (mI Y) 32)],QiW Y af++gD aj ak ai af⟩ (sT (QD (.sl 5) [700,1000] [] (.p (.sl 5 (mI Y))) (kh [0,1] (Qo (QA (.ptr 11 4) rfl) (Qo (Ju (S:=5) (t:=300) (ty:=25) (es:=mI []) rfl) (Qg))) (Af [] rfl (Jr (e:=25) (S:=5) (by_:=64) (enc:=Zq) (tk:=300) (l:=[]) (l2:=Y) (xv:=.p (.sl 5 (mI Y))) rfl Qc Qc rfl Qc Qc Qc Qc) (fun _=>Qg) (Yx [] (Qg) (Yx [] (Qg) (WK (QR (Ql ⟨Rj (.bsl 1001 1) 1 0,je 1 [] 0 ([]++Y)++Ri ([]++Y)++[(700,(XB af))]++QbF aj ak ai af⟩ (sL Qd (N8 ⟨[10,11,20,21,22],[10,11,300,700,1000,1001],[],[]⟩ ⟨Rj (.bsl 1001 1) 1 1,je 1 [] 0 ([]++Y)++Ri ([]++Y)++[(700,(XB af))]++QbF aj ak ai af⟩ (Qf Qd ⟨Pj (.bsl 1001 1) 1 1 false,je 1 [] 0 ([]++Y)++Ri ([]++Y)++[(700,(XB af))]++QbF aj ak ai af⟩ (sS (QZ (Qt (ZR (M5 (QM (QS ([]++Y,aj,ak,ai,af))))))))))))))))))))
 refine sB (Pe ⟨eU,jd++[(1000,(aC r1.1 (Qb aa)))]⟩ (KF (Weak.trans (Yr 25 5 32 [3] []) (Yr 81 2 700 [] [(1000,3)])) (QG (fun (J,Z,ad,ae,O)=>⟨QbE J,Qg6 J O++gD Z ad ae O⟩:Ip→St) (Gm) ?_)));rintro a7 ⟨J,Z,ad,ae,O⟩;show QP (Wx n a7 J Z ad ae O) _ _ _ _ _ _;unfold Wx;refine sS (KQ (fun j5=>⟨[qq 1,(3, .tsl 5 (mI J) 32),(21,B j5)],Qg6 J O++gD Z ad ae O⟩:Bool→St) ?_ ?_)
 ·refine Bh Qd rfl (xR 11 (xS (Qs ad (Qb (Lu Z))) (fun h6=>?_) (fun h6=>?_)))
  ·refine xO (Qv h6) (Eu rfl Qc Qc ?_);refine XK [.ro [.id, .id, .id, .sl 2]] (Ik n (⟨Z,ad,ae,O⟩:ZK)) QF (fun r7=>?_);exact xR 2 (xE (QS (!r7)))
  exact xN (Qx h6) (xR 3 (MN (QS false)))
 rintro j5;refine sC j5 (sK (Ql ⟨QbE J,Qg6 J O++gD Z ad ae O⟩ (sB (Qf Qd ⟨QiJ J,[(1, .box 82 [Zj]),(4,(Cc 0 [] 0 0)),(32,Qfj J),(700,(XB O))]++gD Z ad ae O⟩ (KQ (fun (az,av,ar,ax,al,am,an,ao,aq,ah)=>⟨[qq 1,(3, .tsl 5 (mI J) 32),qq 4,(5,B az)],QiX ⟨am,an,ao,aq,ah⟩ J al++gD av ar ax al⟩:(Bool × (List Q0) × Int × Int × (List Zw) × Int × (List UInt8) × Int × Int × (List (List PV)))→St) ?_ ?_))))) (Qt (ZR (Yw (QM (QS (J,Z,ad,ae,O))))));rotate_left
 ·rintro ⟨az,av,ar,ax,al,am,an,ao,aq,ah⟩;exact Qf Qd ⟨[qq 1,(3, .tsl 5 (mI J) 32),qq 4,(28,B az)],QiX ⟨am,an,ao,aq,ah⟩ J al++gD av ar ax al⟩ (sC az (sG (xR 3 (xF (Y1 (e:=25) (S:=5) (by_:=64) (enc:=Zq) (tk:=32) (l:=J) (l2:=[GN.cs (⟨am,an,ao,aq,ah⟩:GN)]) (xv:=.tsl 5 (mI [GN.cs (⟨am,an,ao,aq,ah⟩:GN)]) 31) rfl Qc Qc rfl Qc Qc Qc rfl Qc) (xR 1 (xE (QR (KW (J++[GN.cs (⟨am,an,ao,aq,ah⟩:GN)],av,ar,ax,al)))))))) (sK (QR (KW (J,av,ar,ax,al)))))
 refine sG (xR 2 (Kc (f:=57) (args:=[Zj, .fn (.func 58) [] [.ptr 1 0, .ptr 4 0]]) Qc Qc Qc ?_));refine zg (hc:=(Qg8 O Z ad ae)) (args':=[Rw, .fn (.func 58) [] [IG,dZ]]) [(1002,1),(1003,4),(1000,700),(1001,1000)] [] [] (⟨_,_,_,_,_,_,[2,4,5],6,_,rfl,rfl,rfl,rfl,rfl,rfl,rfl,rfl,by decide⟩:MJ Tryz.f57 117) [(2,1900),(4,1901),(5,1902)] Tryz.func57 Tryz.ntmps57 Qc Qc Qc Qc Qc Qd rfl Qc Qc ?_;refine Pe ⟨QiL (.func 58),Qg8 O Z ad ae++Qg9 false⟩ (sS (sG (xR 1 (GD (Qg8 O Z ad ae) [IG,dZ] nq4 [] [] Tryz.func58 rfl Tryz.ntmps58 rfl (sG (xR 1 ?_))))));refine Qa6 [(1000,1001),(1103,1000)] [] [] Qc (gz n (⟨Z,ad,ae,O⟩:ZK)) Qc Qc Qc QF QF QF QF (fun r9=>?_) (fun G=>?_)
 ·refine xR 1 (xE (DX (.id) [1000,1001,1002,1003] [] (.tup []) (Wh (xE (Ql ⟨[(4, .ptr 1901 0),(5, .ptr 1902 0)],QiY r9.2.dg r9.2.tks r9.2.pos r9.2.length r9.1++Qg9 false⟩ (Qf Qd ⟨[(4, .ptr 1901 0),(5, .ptr 1902 0)],QiY r9.2.dg r9.2.tks r9.2.pos r9.2.length r9.1++Qg9 true⟩ (sT ?_)))))));refine wU (⟨Tryz.f117,_,_,_,6,3,_,_,Tryz.func117,rfl,rfl,rfl,rfl,rfl,rfl,rfl,by decide,by decide⟩:Fj Tryz.prog 117) nq5 (ji r9.2.dg r9.2.tks r9.2.pos r9.2.length++jk true) (.p (.val (.nilIface))) [IG,dZ, .ptr 1004 0] [] rfl Qc Qc Qc Qc ?_;exact sS (Qf Qd ⟨QiN,ji r9.2.dg r9.2.tks r9.2.pos r9.2.length++jk true⟩ (ZQ (sT (QB (Qbn [1000,1001,1002,1003,1004] [] Qc Qc (QD (.id) [1000,1001,1002,1003] [] (.tup [B true,S []]) (Wh (xR 5 (xE (QS (true,r9.2.tks,r9.2.pos,r9.2.length,r9.2.dg,r9.1.Kind,r9.1.Name,r9.1.N,r9.1.At,r9.1.Kids)))))))))))
 refine NT [1000,1001,1002,1003] [] (Un ?_);refine wU (⟨Tryz.f117,_,_,_,6,3,_,_,Tryz.func117,rfl,rfl,rfl,rfl,rfl,rfl,rfl,by decide,by decide⟩:Fj Tryz.prog 117) nq5 (ji G.2.dg G.2.tks G.2.pos G.2.length++jk false) (.ifc 235 (.agg [I G.1])) [IG,dZ, .ptr 1004 0] [] rfl Qc Qc Qc Qc ?_;refine sS (Qf Qd ⟨QiO G.1,ji G.2.dg G.2.tks G.2.pos G.2.length++jk false⟩ (QZ (sK (Ql ⟨QiP G.1,ji G.2.dg G.2.tks G.2.pos G.2.length++jk false⟩ (Qf Qd ⟨QiQ G.1,aB G.1++ji G.2.dg G.2.tks G.2.pos G.2.length++jk false⟩ (sS (Qf Qd ⟨QiR G.1,aB G.1++ji G.2.dg G.2.tks G.2.pos G.2.length++jk false⟩ (QZ (sK (Ql ⟨QiS,aB G.1++ji G.2.dg G.2.tks G.2.pos G.2.length++jk false⟩ (sS (Bh Qd rfl (xR 9 (xF (Y1 (e:=81) (S:=2) (by_:=16) (enc:=Zw.cs) (tk:=1000) (l:=G.2.dg) (l2:=[(⟨7,G.1⟩:Zw)]) (xv:=.tsl 2 (Um [(⟨7,G.1⟩:Zw)]) 25) rfl Qc Qc rfl Qc Qc Qc rfl Qc) (xR 3 (MN (Ql ⟨QiT,ji (G.2.dg++[(⟨7,G.1⟩:Zw)]) G.2.tks G.2.pos G.2.length++jk false⟩ (sG (xR 1 (Kc (f:=118) (args:=[Rw]) Qc Qc Qc ?_))))))))))))))))))));refine Wu 1001 3 1000 81 2 (Um (G.2.dg++[(⟨7,G.1⟩:Zw)])).length (Um (G.2.dg++[(⟨7,G.1⟩:Zw)])) ⟨[0,1,2,29],[1001,1002,1003,1004],[],[]⟩ rfl (fun _ _ _=>by kernel_rfl) (fun bb ba a8=>?_);refine Zg [(1000,1001)] [] [] (Io n (⟨G.2.tks,G.2.pos,G.2.length,[]⟩:ZK) bb ba a8) Qc Qc Qc QF QF (fun a6=>?_);exact Xz _ rfl (Wh (xR 2 (xE (Qin [1000,1001,1002,1003,1004] [] Qc Qc (QD (.id) [1000,1001,1002,1003] [] (.tup [B false,S a6.1]) (Wh (xR 5 (xE (Qa2 (false,a6.2.tks,a6.2.pos,a6.2.length,G.2.dg++[(⟨7,G.1⟩:Zw)],0,[],0,0,[]) ⟨[1,3,4,5],[1,4,32,700,1000],[],[(4,[.id, .id, .id, .id, .sl 5])]⟩ Qc)))))))))
def Yz (G:List UInt8) (O:Int→Option Bool) (Y:Int):Option Bool :=
 cond (Qs Y (Qb G))
  ((QU G Y).bind fun J =>
  (cond (leI 97 (Zy J))
   (cond (leI (Zy J) 122)
    (some false)
    (cond (leI 48 (Zy J))
     (cond (leI (Zy J) 57)
      (some false)
      (some (!(Qp (Zy J) 95))))
     (some (!(Qp (Zy J) 95)))))
   (cond (leI 48 (Zy J))
    (cond (leI (Zy J) 57)
     (some false)
     (some (!(Qp (Zy J) 95))))
    (some (!(Qp (Zy J) 95))))).bind fun Z =>
  cond Z
   (some false)
   (O (wi (Y+1))))
  (some true)
def Uc (n:Nat) (G:List UInt8):Option Bool :=
 (cond (Qs (Qb G) 1)
  (some true)
  (cond (Qs 12 (Qb G))
   (some true)
   ((QU G 0).bind fun Y =>
   cond (Qs (Zy Y) 97)
    (some true)
    ((QU G 0).bind fun O =>
    some (Qs 122 (Zy O)))))).bind fun j1 =>
 cond j1
  (some false)
  (Qn (fun J Z=>Yz G J Z) n 1)
theorem IM (n:Nat) (G:List UInt8):∀ r,Uc n G=some r→QC Tryz.prog 191 [S G] (.ret (B r)):=by
 refine Qj Tryz.func191 rfl Tryz.ntmps191 rfl ?_;unfold Uc;refine Qf Qd ⟨[(0,S G)],[]⟩ (sS (KQ (fun j1=>⟨[(0,S G),(22,B j1)],[]⟩:Bool→St) (sG (xR 4 (xS (Qs (Qb G) 1) (fun h2=>xN (Qy h2) (xR 13 (xE (QS true)))) (fun h2=>xO (Qw h2) (xR 4 (xS (Qs 12 (Qb G)) (fun h3=>xN (Qy h3) (xR 8 (xE (QS true)))) (fun h3=>xO (Qw h3) (xG (J9 (l:=G) (k:=.i64) (n:=0) rfl Qc Qc Qc) (fun x4=>xR 3 (xS (Qs (Zy x4) 97) (fun h5=>xN (Qy h5) (xR 3 (xE (QS true)))) (fun h5=>xO (Qw h5) (xG (J9 (l:=G) (k:=.i64) (n:=0) rfl Qc Qc Qc) (fun x6=>xR 2 (xE (QS (Qs 122 (Zy x6))))))))))))))))) ?_));rintro j1;refine sC j1 (Qf Qd ⟨[(2,B false)],[]⟩ (sT (QB (qR (.id))))) (sK (Ql ⟨[(0,S G)],[]⟩ (sS (Qf Qd ⟨[(0,S G),(3,I 1)],[]⟩ (sB (QG (fun J=>⟨[(0,S G),(3,I J)],[]⟩:Int→St) (Gm) ?_))))));rintro Y J;show QP (Yz G Y J) _ _ _ _ _ _;unfold Yz;refine sS (Qf Qd ⟨[(0,S G),(3,I J),(26,B (Qs J (Qb G)))],[]⟩ (sC (Qs J (Qb G)) (sK (Ql ⟨[(0,S G),(3,I J)],[]⟩ (sS (sB (sS (sG (xR 2 (xG (J9 (l:=G) (k:=.i64) (n:=J) rfl Qc Qc Qc) (fun O=>xR 1 (xE (Ql ⟨[(0,S G),(3,I J),(4,B8 (Zy O))],[]⟩ (KQ (fun j9=>⟨[(0,S G),(3,I J),(50,B j9)],[]⟩:Bool→St) ?_ ?_)))))))))))) (Qt (ZR (Yw (QM (Ql ⟨[],[]⟩ (Qf Qd ⟨[(2,B true)],[]⟩ (sT (qR (.id)))))))))));rotate_left
 ·rintro j9;exact sC j9 (Qf Qd ⟨[(2,B false)],[]⟩ (sT (Q4 (QB (V9 (Q4 (QB (qR (.id))))))))) (sK (QR (Ql ⟨[(0,S G),(3,I J)],[]⟩ (sL Qd (KW (wi (J+1)))))))
 exact sG (xR 3 (xS (leI 97 (Zy O)) (fun ac=>xO (Qv ac) (xR 3 (xS (leI (Zy O) 122) (fun aa=>xN (Qy aa) (xR 11 (xE (QS false)))) (fun aa=>xO (Qw aa) (xR 2 (xS (leI 48 (Zy O)) (fun ab=>xO (Qv ab) (xR 4 (xS (leI (Zy O) 57) (fun ae=>xN (Qy ae) (xR 3 (xE (QS false)))) (fun ae=>xO (Qw ae) (xR 3 (xE (QS (!(Qp (Zy O) 95))))))))) (fun ab=>xN (Qx ab) (xR 8 (xE (QS (!(Qp (Zy O) 95)))))))))))) (fun ac=>xN (Qx ac) (xR 6 (xS (leI 48 (Zy O)) (fun ad=>xO (Qv ad) (xR 4 (xS (leI (Zy O) 57) (fun Z=>xN (Qy Z) (xR 3 (xE (QS false)))) (fun Z=>xO (Qw Z) (xR 3 (xE (QS (!(Qp (Zy O) 95))))))))) (fun ad=>xN (Qx ad) (xR 8 (xE (QS (!(Qp (Zy O) 95)))))))))))
def JN (n:Nat) (G:List UInt8):Option Bool :=
 (Uc n G).bind fun r1 =>
 cond r1
  ((UN n G).bind fun J =>
  some (!J))
  (some false)
theorem DF (n:Nat) (G:List UInt8):∀ r,JN n G=some r→QC Tryz.prog 129 [S G] (.ret (B r)):=by
 refine Qj Tryz.func129 rfl Tryz.ntmps129 rfl ?_;unfold JN;refine Qf Qd ⟨[(0,S G)],[]⟩ (sS (sG (xR 1 ?_)));refine xC [] (IM n G) QF (fun r1=>?_);refine xR 1 (xS r1 (fun J=>?_) (fun J=>?_))
 ·refine xO (Qv J) ?_;refine xC [] (EM n G) QF (fun O=>?_);exact xR 3 (xE (Ql ⟨[(2,B (!O))],[]⟩ (sT (qR (.id)))))
 exact xN (Qx J) (xR 4 (xE (Ql ⟨[(2,B false)],[]⟩ (sT (qR (.id))))))
def JB (n:Nat) (G:GN) (J:Bool):Option Bool :=
 cond (!Qp (Qb (List.map Zq G.Kids)) 0)
  (some false)
  (cond (Qp G.Kind 5)
   (cond (Qp G.N 0)
    ((JN n G.Name).bind fun Y =>
    cond Y
     (some true)
     (cond J
      ((YX n G.Name).bind fun O =>
      some O)
      (some false)))
    (some false))
   (cond (Qp G.Kind 6)
    (cond (Qr G.Name [])
     (cond (leI 0 G.N)
      (some (leI G.N 1000000))
      (some false))
     (some false))
    (some false)))
theorem ER (n:Nat) (J:GN) (G:Bool):∀ r,JB n J G=some r→QC Tryz.prog 193 [ag (GN.cs J),B G] (.ret (B r)):=by
 refine Qj Tryz.func193 rfl Tryz.ntmps193 rfl ?_;unfold JB;refine Qf Qd ⟨[(1,B G),qq 2],Ub J⟩ (sS (Qf Qd ⟨[(1,B G),qq 2,(8,B (!Qp (Qb (mI J.Kids)) 0))],Ub J⟩ (sC (!Qp (Qb (mI J.Kids)) 0) (Qf Qd ⟨[(4,B false)],[]⟩ (sT (QB (qR (.id))))) (sK (Ql ⟨[(1,B G),qq 2],Ub J⟩ (sS (Qf Qd ⟨[(1,B G),qq 2,(10,I J.Kind)],Ub J⟩ (sB (Qf Qd ⟨[(1,B G),qq 2,(10,I J.Kind),(11,B (Qp J.Kind 5))],Ub J⟩ (sC (Qp J.Kind 5) (sS (sG (xR 4 (xS (Qp J.N 0) (fun O=>xO (Qv O) (xR 1 ?_)) (fun O=>xN (Qx O) (xR 12 (xE (Ql ⟨[(4,B false)],[]⟩ (sT (Q4 (QB (qR (.id))))))))))))) (Qf Qd ⟨[qq 2,(29,B (Qp J.Kind 6))],Ub J⟩ (sC (Qp J.Kind 6) (sS (sG (xR 4 (xS (Qr J.Name []) (fun h6=>xO (Qv h6) (xR 4 (xS (leI 0 J.N) (fun h7=>xO (Qv h7) (xR 4 (xE (Ql ⟨[(4,B (leI J.N 1000000))],[]⟩ (sT (Q4 (QB (qR (.id))))))))) (fun h7=>xN (Qx h7) (xR 4 (xE (Ql ⟨[(4,B false)],[]⟩ (sT (Q4 (QB (qR (.id)))))))))))) (fun h6=>xN (Qx h6) (xR 9 (xE (Ql ⟨[(4,B false)],[]⟩ (sT (Q4 (QB (qR (.id))))))))))))) (sK (QR (Ql ⟨[],[]⟩ (Qf Qd ⟨[(4,B false)],[]⟩ (sT (qR (.id)))))))))))))))))));refine xC [] (DF n J.Name) QF (fun r2=>?_);refine xR 1 (xS r2 (fun Y=>xN (Qy Y) (xR 8 (xE (Ql ⟨[(4,B true)],[]⟩ (sT (Q4 (QB (qR (.id))))))))) (fun Y=>xO (Qw Y) (xR 1 (xS G (fun Z=>?_) (fun Z=>?_)))))
 ·refine xO (Qv Z) (xR 1 ?_);refine xC [] (Rf n J.Name) QF (fun r5=>?_);exact xR 4 (xE (Ql ⟨[(4,B r5)],[]⟩ (sT (Q4 (QB (qR (.id)))))))
 exact xN (Qx Z) (xR 6 (xE (Ql ⟨[(4,B false)],[]⟩ (sT (Q4 (QB (qR (.id))))))))
def YP (n:Nat) (J:GN) (G:Int) (O:Int→Option (Bool × Int)) (Z:Int):Option (Bool × Int) :=
 cond (Qs Z (Qb (List.map Zq J.Kids)))
  ((Option.bind (QU J.Kids Z) GN.of).bind fun Y =>
  (JB n Y (Qp J.Kind 4)).bind fun aa =>
  cond (!aa)
   (some (false,wi (G - (Qb (List.map Zq J.Kids)))))
   (O (wi (Z+1))))
  (some (true,wi (G - (Qb (List.map Zq J.Kids)))))
def VE (n:Nat) (J:GN) (G:Int):Option (Bool × Int) :=
 cond (!Qp J.N 0)
  (some (false,G))
  ((cond (Qp J.Kind 3)
   ((Yy n J.Name).bind fun Z =>
   some (!Z))
   (some false)).bind fun j1 =>
  cond j1
   (some (false,G))
   ((cond (Qp J.Kind 4)
    ((Kg n J.Name).bind fun r6 =>
    some (!r6))
    (some false)).bind fun Y =>
   cond Y
    (some (false,G))
    ((cond (!Qp J.Kind 3)
     (some (!Qp J.Kind 4))
     (some false)).bind fun j7 =>
    cond j7
     (some (false,G))
     (cond (Qs (wi (G - (Qb (List.map Zq J.Kids)))) 0)
      (some (false,wi (G - (Qb (List.map Zq J.Kids)))))
      (Qn (fun O l9=>YP n J G O l9) n 0)))))
def Ud:=fun G=>([(1001, .box 3 [I G])]:List (Nat × Blk))
def Qha:=fun G J=>(⟨[(1, .ptr 1001 0),(2, .ptr 2 0)],Ub G++Ud J⟩:St)
def Qej:=fun G=>([(1, .ptr 1001 0),(2, .ptr 2 0),(5,B G)]:List (Nat × AV))
def Qhb:=fun G=>(.box 3 [I G]:Blk)
def Dl:=fun G=>([(1001,(Qhb G))]:List (Nat × Blk))
def Qek:=fun O G J=>([(5,B O),(57, .p (.sl 5 (List.map Zq (GN.Kids G)))),(58,I (Qb (List.map Zq (GN.Kids G)))),(59,I J)]:List (Nat × AV))
theorem Al (n:Nat) (J:GN) (G:Int):∀ r,VE n J G=some r→KD Tryz.prog 130 [ag (GN.cs J),Rw] (Go.Abs.look [(1001, .box 3 [I G])]) (Yh (fun r:Bool × Int=>((.ret (B r.1),[(1001, .box 3 [I r.2])]):ZB × List (Nat × Blk))) r):=by
 refine Kq (Ud G) Tryz.func130 rfl Tryz.ntmps130 rfl ?_;unfold VE;refine Qf Qd (Qha J G) (Qf Qd ⟨Qej (Qp J.Kind 4),Ub J++Ud G⟩ (sS (sB (Qf Qd ⟨[(1,Rw),qq 2,(5,B (Qp J.Kind 4)),(11,B (!Qp J.N 0))],Ub J++Ud G⟩ (sC (!Qp J.N 0) (Qf Qd ⟨[(4,B false)],Ud G⟩ (sT (Q4 (QB (Kw (.id) [1001] []))))) (KQ (fun j1=>⟨[(1,Rw),qq 2,(5,B (Qp J.Kind 4)),(15,B j1)],Ub J++Ud G⟩:Bool→St) ?_ ?_))))))
 ·refine sG (xR 4 (xS (Qp J.Kind 3) (fun h2=>?_) (fun h2=>?_)))
  ·refine xO (Qv h2) (xR 1 ?_);refine xC [] (He n J.Name) QF (fun r3=>?_);exact xR 3 (xE (QS (!r3)))
  exact xN (Qx h2) (xR 5 (xE (QS false)))
 rintro j1;refine sC j1 (Qf Qd ⟨[(4,B false)],Ud G⟩ (sT (Q4 (QB (Kw (.id) [1001] []))))) (KQ (fun j4=>⟨[(1,Rw),qq 2,(5,B (Qp J.Kind 4)),(25,B j4)],Ub J++Ud G⟩:Bool→St) ?_ ?_)
 ·refine sG (xR 4 (xS (Qp J.Kind 4) (fun h5=>?_) (fun h5=>?_)))
  ·refine xO (Qv h5) (xR 1 ?_);refine xC [] (UM n J.Name) QF (fun r6=>?_);exact xR 3 (xE (QS (!r6)))
  exact xN (Qx h5) (xR 5 (xE (QS false)))
 rintro j4;refine sC j4 (Qf Qd ⟨[(4,B false)],Ud G⟩ (sT (Q4 (QB (Kw (.id) [1001] []))))) (KQ (fun j7=>⟨[(1,Rw),qq 2,(5,B (Qp J.Kind 4)),(35,B j7)],Ub J++Ud G⟩:Bool→St) (sG (xR 4 (xS (!Qp J.Kind 3) (fun h8=>xO (Qv h8) (xR 4 (xE (QS (!Qp J.Kind 4))))) (fun h8=>xN (Qx h8) (xR 4 (xE (QS false))))))) ?_);rintro j7;refine sC j7 (Qf Qd ⟨[(4,B false)],Ud G⟩ (sT (Q4 (QB (Kw (.id) [1001] []))))) (sK (QR (Ql ⟨Qej (Qp J.Kind 4),Ub J++Ud G⟩ (Qf Qd ⟨Qej (Qp J.Kind 4),Ub J++Dl (wi (G - (Qb (mI J.Kids))))⟩ (sS (Qf Qd ⟨[qq 2,(5,B (Qp J.Kind 4)),(55,B (Qs (wi (G - (Qb (mI J.Kids)))) 0))],Ub J++Dl (wi (G - (Qb (mI J.Kids))))⟩ (sC (Qs (wi (G - (Qb (mI J.Kids)))) 0) (Qf Qd ⟨[(4,B false)],Dl (wi (G - (Qb (mI J.Kids))))⟩ (sT (QB (Kw (.id) [1001] [])))) (sK (Ql ⟨[qq 2,(5,B (Qp J.Kind 4))],Ub J++Dl (wi (G - (Qb (mI J.Kids))))⟩ (sS (Qf Qd ⟨Qek (Qp J.Kind 4) J 0,Dl (wi (G - (Qb (mI J.Kids))))⟩ (sB (QG (fun O=>⟨Qek (Qp J.Kind 4) J O,Dl (wi (G - (Qb (mI J.Kids))))⟩:Int→St) (Gm) ?_)))))))))))));rintro Y O;show QP (YP n J G Y O) _ _ _ _ _ _;unfold YP;refine Qf Qd ⟨[(5,B (Qp J.Kind 4)),(57, .p (.sl 5 (mI J.Kids))),(58,I (Qb (mI J.Kids))),(59,I O),(60,B (Qs O (Qb (mI J.Kids))))],Dl (wi (G - (Qb (mI J.Kids))))⟩ (sS (sC (Qs O (Qb (mI J.Kids))) (sK (Ql ⟨Qek (Qp J.Kind 4) J O,Dl (wi (G - (Qb (mI J.Kids))))⟩ (sS (sB (sS (sG (xG (Yg (e:=25) (S:=5) (enc:=GN.cs) (dec:=GN.of) (l:=J.Kids) (k:=.i64) (n:=O) (sv:=.p (.sl 5 (mI J.Kids))) GN.of_cs rfl Qc Qc Qc Qc Qc) (fun Z=>xR 3 (xE (Ql ⟨[(5,B (Qp J.Kind 4)),qq 7,(57, .p (.sl 5 (mI J.Kids))),(58,I (Qb (mI J.Kids))),(59,I O)],Qeh Z++Dl (wi (G - (Qb (mI J.Kids))))⟩ (sS (sG (xR 2 ?_))))))))))))) (Qt (ZR (Yw (QM (Ql ⟨[],Dl (wi (G - (Qb (mI J.Kids))))⟩ (Qf Qd ⟨[(4,B true)],Dl (wi (G - (Qb (mI J.Kids))))⟩ (sT (Kw (.id) [1001] []))))))))));refine xC [] (ER n Z (Qp J.Kind 4)) QF (fun aa=>?_);exact xR 1 (xE (Ql ⟨[(5,B (Qp J.Kind 4)),(57, .p (.sl 5 (mI J.Kids))),(58,I (Qb (mI J.Kids))),(59,I O),(66,B (!aa))],Dl (wi (G - (Qb (mI J.Kids))))⟩ (sC (!aa) (Qf Qd ⟨[(4,B false)],Dl (wi (G - (Qb (mI J.Kids))))⟩ (sT (Q4 (QB (V9 (Q4 (QB (Kw (.id) [1001] [])))))))) (sK (QR (Ql ⟨Qek (Qp J.Kind 4) J O,Dl (wi (G - (Qb (mI J.Kids))))⟩ (sL Qd (KW (wi (O+1))))))))))
def YQ (O:GN) (J:Bool) (G:Int):Option (Bool × Int) :=
 cond (!J)
  (some (true,G))
  (some (Qp O.N 7,G))
def ZN (n:Nat) (O:Int) (Y:Int) (G:(Bool × Int × Int)→Option (Bool × Int)) (x9:GN) (Z:Bool):Option (Bool × Int) :=
 (VE n x9 Y).bind fun J =>
 cond (!J.1)
  (some (false,J.2))
  (G (Z,wi (O+1),J.2))
def VW (n:Nat) (Z:GN) (O:(Bool × Int × Int)→Option (Bool × Int)) (Y:Bool) (G:Int) (J:Int):Option (Bool × Int) :=
 cond (Qs G (Qb (List.map Zq Z.Kids)))
  ((Option.bind (QU Z.Kids G) GN.of).bind fun x9 =>
  cond (Qp x9.Kind 4)
   (ZN n G J O x9 true)
   (cond Y
    (some (false,J))
    (ZN n G J O x9 Y)))
  (YQ Z Y J)
def VF (n:Nat) (J:GN) (G:Int):Option (Bool × Int) :=
 (cond (!Qp J.Kind 2)
  (some true)
  (cond (Qs J.N 1)
   (some true)
   (cond (Qs 7 J.N)
    (some true)
    ((JN n J.Name).bind fun r5 =>
    some (!r5))))).bind fun j1 =>
 cond j1
  (some (false,G))
  (cond (Qs (wi (G - (Qb (List.map Zq J.Kids)))) 0)
   (some (false,wi (G - (Qb (List.map Zq J.Kids)))))
   (Qn (fun O (Y,Z,aa)=>VW n J O Y Z aa) n (false,0,wi (G - (Qb (List.map Zq J.Kids))))))
def QiZ:=fun G J=>(⟨[(1, .ptr 1001 0),(2, .ptr 2 0)],Ub G++Dl J⟩:St)
def Qel:=fun O G J=>([(1, .ptr 1001 0),(2, .ptr 2 0),(5,B O),(40, .p (.sl 5 (List.map Zq (GN.Kids G)))),(41,I (Qb (List.map Zq (GN.Kids G)))),(42,I J)]:List (Nat × AV))
def Qi0:=fun O G J=>([(1, .ptr 1001 0),(2, .ptr 2 0),(5,B O),(7, .ptr 7 0),(40, .p (.sl 5 (List.map Zq (GN.Kids G)))),(41,I (Qb (List.map Zq (GN.Kids G)))),(42,I J)]:List (Nat × AV))
def Qem:=fun G J=>([(2, .box 25 (YE (GN.cs G))),(7, .box 25 (YE (GN.cs J)))]:List (Nat × Blk))
theorem Am (n:Nat) (G:GN) (J:Int):∀ r,VF n G J=some r→KD Tryz.prog 60 [ag (GN.cs G),Rw] (Go.Abs.look [(1001, .box 3 [I J])]) (Yh (fun r:Bool × Int=>((.ret (B r.1),[(1001, .box 3 [I r.2])]):ZB × List (Nat × Blk))) r):=by
 refine Kq (Ud J) Tryz.func60 rfl Tryz.ntmps60 rfl ?_;unfold VF;refine Qf Qd (Qha G J) (sS (KQ (fun j1=>⟨[(1,Rw),qq 2,(26,B j1)],Ub G++Ud J⟩:Bool→St) ?_ ?_))
 ·refine sG (xR 4 (xS (!Qp G.Kind 2) (fun h2=>xN (Qy h2) (xR 14 (xE (QS true)))) (fun h2=>xO (Qw h2) (xR 4 (xS (Qs G.N 1) (fun h3=>xN (Qy h3) (xR 9 (xE (QS true)))) (fun h3=>xO (Qw h3) (xR 4 (xS (Qs 7 G.N) (fun h4=>xN (Qy h4) (xR 4 (xE (QS true)))) (fun h4=>xO (Qw h4) (xR 1 ?_))))))))));refine xC [] (DF n G.Name) QF (fun r5=>?_);exact xR 2 (xE (QS (!r5)))
 rintro j1;refine sC j1 (Qf Qd ⟨[(4,B false)],Ud J⟩ (sT (QB (Kw (.id) [1001] [])))) (sK (Ql (Qha G J) (Qf Qd (QiZ G (wi (J - (Qb (mI G.Kids))))) (sS (Qf Qd ⟨[(1,Rw),qq 2,(38,B (Qs (wi (J - (Qb (mI G.Kids)))) 0))],Ub G++Dl (wi (J - (Qb (mI G.Kids))))⟩ (sC (Qs (wi (J - (Qb (mI G.Kids)))) 0) (Qf Qd ⟨[(4,B false)],Dl (wi (J - (Qb (mI G.Kids))))⟩ (sT (QB (Kw (.id) [1001] [])))) (sK (Ql (QiZ G (wi (J - (Qb (mI G.Kids))))) (Qf Qd ⟨Qej false,Ub G++Dl (wi (J - (Qb (mI G.Kids))))⟩ (Yc (fun (ab,aa)=>⟨[qq 2,(5,B ab)],Ub G++Ud aa⟩:(Bool × Int)→St) (fun (ab,aa)=>YQ G ab aa) ?_ ?_))))))))))
 ·rintro ⟨ab,aa⟩;show QP (YQ G ab aa) _ _ _ _ _ _;unfold YQ;exact sS (sG (xR 3 (xS (!ab) (fun h7=>xN (Qy h7) (xR 4 (xE (Ql ⟨[(4,B true)],Ud aa⟩ (sT (Kw (.id) [1001] [])))))) (fun h7=>xO (Qw h7) (xR 4 (xE (Ql ⟨[(4,B (Qp G.N 7))],Ud aa⟩ (sT (Kw (.id) [1001] [])))))))))
 refine Qf Qd ⟨Qel false G 0,Ub G++Dl (wi (J - (Qb (mI G.Kids))))⟩ (sB (QG (fun (Z,O,Y)=>⟨Qel Z G O,Ub G++Ud Y⟩:(Bool × Int × Int)→St) (Gm) ?_));rintro ad ⟨Z,O,Y⟩;show QP (VW n G ad Z O Y) _ _ _ _ _ _;unfold VW;refine Qf Qd ⟨[(1,Rw),qq 2,(5,B Z),(40, .p (.sl 5 (mI G.Kids))),(41,I (Qb (mI G.Kids))),(42,I O),(43,B (Qs O (Qb (mI G.Kids))))],Ub G++Ud Y⟩ (sS (sC (Qs O (Qb (mI G.Kids))) (sK (Ql ⟨Qel Z G O,Ub G++Ud Y⟩ (sS (sB (sS (sG (xG (Yg (e:=25) (S:=5) (enc:=GN.cs) (dec:=GN.of) (l:=G.Kids) (k:=.i64) (n:=O) (sv:=.p (.sl 5 (mI G.Kids))) GN.of_cs rfl Qc Qc Qc Qc Qc) (fun x9=>xR 3 (xE (Ql ⟨Qi0 Z G O,Qem G x9++Ud Y⟩ (Yc (fun ac=>⟨Qi0 ac G O,Qem G x9++Ud Y⟩:Bool→St) (fun ac=>ZN n O Y ad x9 ac) ?_ (Qf Qd ⟨[(1,Rw),qq 2,(5,B Z),qq 7,(40, .p (.sl 5 (mI G.Kids))),(41,I (Qb (mI G.Kids))),(42,I O),(48,B (Qp x9.Kind 4))],Qem G x9++Ud Y⟩ (sC (Qp x9.Kind 4) (sL Qd (KW (k:=fun ac=>ZN n O Y ad x9 ac) true)) (Qf Qd ⟨[(1,Rw),qq 2,(5,B Z),qq 7,(40, .p (.sl 5 (mI G.Kids))),(41,I (Qb (mI G.Kids))),(42,I O),(49,B Z)],Qem G x9++Ud Y⟩ (sC Z (Qf Qd ⟨[(4,B false)],Ud Y⟩ (sT (V9 (Q4 (QB (V9 (Q4 (V9 (Kw (.id) [1001] []))))))))) (sK (KW (k:=fun ac=>ZN n O Y ad x9 ac) Z))))))))))))))))) (Qt (ZR (Yw (QM (KW (k:=fun (ab,aa)=>YQ G ab aa) (Z,Y))))))));rintro ac;show QP (ZN n O Y ad x9 ac) _ _ _ _ _ _;unfold ZN;refine sS (sG (xR 2 ?_));refine U2 [(1001,1001)] [] [] (Al n x9 Y) QF QF (fun ae=>?_);exact xR 1 (xE (Ql ⟨[(1,Rw),qq 2,(5,B ac),(40, .p (.sl 5 (mI G.Kids))),(41,I (Qb (mI G.Kids))),(42,I O),(53,B (!ae.1))],Ub G++Ud ae.2⟩ (sC (!ae.1) (Qf Qd ⟨[(4,B false)],Ud ae.2⟩ (sT (Q4 (QB (V9 (Q4 (V9 (Kw (.id) [1001] [])))))))) (sK (QR (Ql ⟨Qel ac G O,Ub G++Ud ae.2⟩ (sL Qd (KW (ac,wi (O+1),ae.2)))))))))
def Wy (n:Nat) (Y:GN) (J:(Int × Int)→Option Bool) (G:Int) (O:Int):Option Bool :=
 cond (Qs G (Qb (List.map Zq Y.Kids)))
  ((Option.bind (QU Y.Kids G) GN.of).bind fun x6 =>
  (VF n x6 O).bind fun Z =>
  cond (!Z.1)
   (some false)
   (J (wi (G+1),Z.2)))
  (some true)
def WV (n:Nat) (G:GN):Option Bool :=
 (cond (!Qp G.Kind 1)
  (some true)
  (cond (!Qr G.Name [])
   (some true)
   (cond (!Qp G.N 0)
    (some true)
    (some (Qs (wi (1499 - (Qb (List.map Zq G.Kids)))) 0))))).bind fun Z =>
 cond Z
  (some false)
  (Qn (fun J (Y,O)=>Wy n G J Y O) n (0,wi (1499 - (Qb (List.map Zq G.Kids)))))
def IP:=fun G=>([(1, .box 25 (YE (GN.cs G)))]:List (Nat × Blk))
def Qhc:=fun G J=>([(1, .box 25 (YE (GN.cs G))),(3,(Qhb J))]:List (Nat × Blk))
def Qen:=fun G J=>([(3, .ptr 3 0),(28, .p (.sl 5 (List.map Zq (GN.Kids G)))),(29,I (Qb (List.map Zq (GN.Kids G)))),(30,I J)]:List (Nat × AV))
abbrev yX (x:GN):Go.Abs.Blk:=.box 25 (YE (GN.cs x))
theorem Dm (n:Nat) (G:GN):∀ r,WV n G=some r→QC Tryz.prog 28 [ag (GN.cs G)] (.ret (B r)):=by
 refine Qj Tryz.func28 rfl Tryz.ntmps28 rfl ?_;unfold WV;refine Qf Qd ⟨[qq 1],IP G⟩ (Qf Qd ⟨[qq 1,qq 3],Qhc G (wi (1499 - (Qb (mI G.Kids))))⟩ (sS (KQ (fun j1=>⟨[qq 1,qq 3,(26,B j1)],Qhc G (wi (1499 - (Qb (mI G.Kids))))⟩:Bool→St) (sG (xR 4 (xS (!Qp G.Kind 1) (fun h2=>xN (Qy h2) (xR 12 (xE (QS true)))) (fun h2=>xO (Qw h2) (xR 4 (xS (!Qr G.Name []) (fun h3=>xN (Qy h3) (xR 7 (xE (QS true)))) (fun h3=>xO (Qw h3) (xR 4 (xS (!Qp G.N 0) (fun h4=>xN (Qy h4) (xR 2 (xE (QS true)))) (fun h4=>xO (Qw h4) (xR 2 (xE (QS (Qs (wi (1499 - (Qb (mI G.Kids)))) 0)))))))))))))) ?_)));rintro j1;refine sC j1 (Qf Qd ⟨[(2,B false)],[]⟩ (sT (QB (qR (.id))))) (sK (Ql ⟨[qq 1,qq 3],Qhc G (wi (1499 - (Qb (mI G.Kids))))⟩ (sS (Qf Qd ⟨Qen G 0,[(3,(Qhb (wi (1499 - (Qb (mI G.Kids))))))]⟩ (sB (QG (fun (J,O)=>⟨Qen G J,[(3, .box 3 [I O])]⟩:(Int × Int)→St) (Gm) ?_))))));rintro Y ⟨J,O⟩;show QP (Wy n G Y J O) _ _ _ _ _ _;unfold Wy;refine Qf Qd ⟨[qq 3,(28, .p (.sl 5 (mI G.Kids))),(29,I (Qb (mI G.Kids))),(30,I J),(31,B (Qs J (Qb (mI G.Kids))))],[(3, .box 3 [I O])]⟩ (sS (sC (Qs J (Qb (mI G.Kids))) (sK (Ql ⟨Qen G J,[(3, .box 3 [I O])]⟩ (sS (sB (sS (sG (xG (Yg (e:=25) (S:=5) (enc:=GN.cs) (dec:=GN.of) (l:=G.Kids) (k:=.i64) (n:=J) (sv:=.p (.sl 5 (mI G.Kids))) GN.of_cs rfl Qc Qc Qc Qc Qc) (fun x6=>xR 3 (xE (Ql ⟨[qq 3,qq 5,(28, .p (.sl 5 (mI G.Kids))),(29,I (Qb (mI G.Kids))),(30,I J)],[(3, .box 3 [I O]),(5,yX x6)]⟩ (sS (sG (xR 1 ?_))))))))))))) (Qt (ZR (Yw (QM (Ql ⟨[],[]⟩ (Qf Qd ⟨[(2,B true)],[]⟩ (sT (qR (.id)))))))))));refine U2 [(1001,3)] [] [] (Am n x6 O) QF QF (fun Z=>?_);exact xR 1 (xE (Ql ⟨[qq 3,(28, .p (.sl 5 (mI G.Kids))),(29,I (Qb (mI G.Kids))),(30,I J),(36,B (!Z.1))],[(3, .box 3 [I Z.2])]⟩ (sC (!Z.1) (Qf Qd ⟨[(2,B false)],[]⟩ (sT (Q4 (QB (V9 (Q4 (QB (qR (.id))))))))) (sK (QR (Ql ⟨Qen G J,[(3, .box 3 [I Z.2])]⟩ (sL Qd (KW (wi (J+1),Z.2)))))))))
def XC (n:Nat) (G:List UInt8):Option Int :=
 cond (Qr G [115,116,97,114,116])
  (some 1)
  (cond (Qr G [101,110,101,114,103,121])
   (some 2)
   (cond (Qr G [116,105,109,101])
    (some 3)
    (cond (Qr G [105,100,108,101])
     (some 4)
     (cond (Qr G [99,97,112])
      (some 5)
      (cond (Qr G [116,97,120])
       (some 6)
       (some 0))))))
theorem kR (n:Nat) (G:List UInt8):∀ r,XC n G=some r→QC Tryz.prog 142 [S G] (.ret (I r)):=by
 refine Qj Tryz.func142 rfl Tryz.ntmps142 rfl ?_;unfold XC;exact Qf Qd ⟨[(0,S G)],[]⟩ (sS (Qf Qd ⟨[(3,S G)],[]⟩ (sB (Qf Qd (II G (Qr G [115,116,97,114,116])) (sC (Qr G [115,116,97,114,116]) (Qf Qd ⟨[(2,I 1)],[]⟩ (sT (Q4 (QB (qR (.id)))))) (Qf Qd ⟨[(3,S G),(6,B (Qr G [101,110,101,114,103,121]))],[]⟩ (sC (Qr G [101,110,101,114,103,121]) (Qf Qd ⟨[(2,I 2)],[]⟩ (sT (Q4 (QB (qR (.id)))))) (Qf Qd ⟨[(3,S G),(8,B (Qr G [116,105,109,101]))],[]⟩ (sC (Qr G [116,105,109,101]) (Qf Qd ⟨[(2,I 3)],[]⟩ (sT (Q4 (QB (qR (.id)))))) (Qf Qd ⟨[(3,S G),(10,B (Qr G [105,100,108,101]))],[]⟩ (sC (Qr G [105,100,108,101]) (Qf Qd ⟨[(2,I 4)],[]⟩ (sT (Q4 (QB (qR (.id)))))) (Qf Qd ⟨[(3,S G),(12,B (Qr G [99,97,112]))],[]⟩ (sC (Qr G [99,97,112]) (Qf Qd ⟨[(2,I 5)],[]⟩ (sT (Q4 (QB (qR (.id)))))) (Qf Qd ⟨[(14,B (Qr G [116,97,120]))],[]⟩ (sC (Qr G [116,97,120]) (Qf Qd ⟨[(2,I 6)],[]⟩ (sT (Q4 (QB (qR (.id)))))) (sK (QR (Ql ⟨[],[]⟩ (Qf Qd ⟨[(2,I 0)],[]⟩ (sT (qR (.id))))))))))))))))))))))
def Ze (n:Nat) (G:GH):Option (Int × GH) :=
 (cond (Qp (Qb (List.map Zq G.values)) 0)
  (some true)
  ((Option.bind (QU G.values 0) GN.of).bind fun Y =>
  some (!Qp Y.Kind 6))).bind fun O =>
 cond O
  (some (0,(⟨G.article,G.values,false⟩:GH)))
  ((Option.bind (QU G.values 0) GN.of).bind fun J =>
  cond (U3 1 (Qb (List.map Zq G.values)) (Qb (List.map Zq G.values)) (List.length G.values)) (
   some (J.N,(⟨G.article,List.drop (Int.toNat 1) (List.take (Int.toNat (Qb (List.map Zq G.values))) G.values),G.good⟩:GH))) none)
def jl:=fun G=>([(1000, .box 253 (YE (GH.cs G)))]:List (Nat × Blk))
def Qeo:=fun G=>(.box 253 (YE (GH.cs G)):Blk)
def UQ:=fun G=>([(1000,(Qeo G))]:List (Nat × Blk))
abbrev Oq (x:GH):Go.Abs.Blk:=.box 253 (YE (GH.cs x))
theorem Yk (n:Nat) (G:GH):∀ r,Ze n G=some r→KD Tryz.prog 143 [Zj] (Go.Abs.look [(1000,Oq G)]) (Yh (fun r:Int × GH=>((.ret (I r.1),[(1000,Oq r.2)]):ZB × List (Nat × Blk))) r):=by
 refine Kq (jl G) Tryz.func143 rfl Tryz.ntmps143 rfl ?_;unfold Ze;refine Qf Qd ⟨[(0,Zj)],jl G⟩ (sS (KQ (fun Y=>⟨[(0,Zj),(19,B Y)],jl G⟩:Bool→St) (sG (xR 7 (xS (Qp (Qb (mI G.values)) 0) (fun O=>xN (Qy O) (xR 8 (xE (QS true)))) (fun O=>xO (Qw O) (xR 3 (xG (Yg (e:=25) (S:=5) (enc:=GN.cs) (dec:=GN.of) (l:=G.values) (k:=.i64) (n:=0) (sv:=.p (.sl 5 (mI G.values))) GN.of_cs rfl Qc Qc Qc Qc Qc) (fun Z=>xR 4 (xE (QS (!Qp Z.Kind 6)))))))))) ?_));rintro Y;exact sC Y (Qf Qd ⟨[],UQ ⟨G.article,G.values,false⟩⟩ (Qf Qd ⟨[(2,I 0)],UQ ⟨G.article,G.values,false⟩⟩ (sT (QB (Kw (.id) [1000] []))))) (sK (Ql ⟨[(0,Zj)],jl G⟩ (sS (sG (xR 4 (xG (Yg (e:=25) (S:=5) (enc:=GN.cs) (dec:=GN.of) (l:=G.values) (k:=.i64) (n:=0) (sv:=.p (.sl 5 (mI G.values))) GN.of_cs rfl Qc Qc Qc Qc Qc) (fun J=>xR 3 (xE (Ql ⟨[(0,Zj),(3,I J.N)],jl G⟩ (sS (Bh Qd rfl (xR 15 (xF (UL (e:=25) (S:=5) (enc:=Zq) (l:=G.values) (sv:=.p (.sl 5 (mI G.values))) (a:=1) (b:=Qb (mI G.values)) (c:=Qb (mI G.values)) rfl Qc Qc Qc Qc Qc Qc Qc) (xR 3 (MN (Ql ⟨[(3,I J.N)],UQ ⟨G.article,List.drop (Int.toNat 1) (List.take (Int.toNat (Qb (mI G.values))) G.values),G.good⟩⟩ (Qf Qd ⟨[(2,I J.N)],UQ ⟨G.article,List.drop (Int.toNat 1) (List.take (Int.toNat (Qb (mI G.values))) G.values),G.good⟩⟩ (sT (Kw (.id) [1000] [])))))))))))))))))))
def YY (n:Nat) (G:Int):Option Bool :=
 cond (Qp G 3)
  (some true)
  (some (Qp G 4))
theorem Rk (n:Nat) (G:Int):∀ r,YY n G=some r→QC Tryz.prog 145 [I G] (.ret (B r)):=by
 refine Qj Tryz.func145 rfl Tryz.ntmps145 rfl ?_;unfold YY;exact Qf Qd ⟨[(0,I G)],[]⟩ (sS (sG (xR 3 (xS (Qp G 3) (fun J=>xN (Qy J) (xR 3 (xE (Ql ⟨[(2,B true)],[]⟩ (sT (qR (.id))))))) (fun J=>xO (Qw J) (xR 3 (xE (Ql ⟨[(2,B (Qp G 4))],[]⟩ (sT (qR (.id)))))))))))
def Vp (n:Nat) (G:Int):Option Bool :=
 cond (Qp G 5)
  (some true)
  (some (Qp G 6))
theorem BC (n:Nat) (G:Int):∀ r,Vp n G=some r→QC Tryz.prog 148 [I G] (.ret (B r)):=by
 refine Qj Tryz.func148 rfl Tryz.ntmps148 rfl ?_;unfold Vp;exact Qf Qd ⟨[(0,I G)],[]⟩ (sS (sG (xR 3 (xS (Qp G 5) (fun J=>xN (Qy J) (xR 3 (xE (Ql ⟨[(2,B true)],[]⟩ (sT (qR (.id))))))) (fun J=>xO (Qw J) (xR 3 (xE (Ql ⟨[(2,B (Qp G 6))],[]⟩ (sT (qR (.id)))))))))))
def ZW (n:Nat) (G:GH):Option (List UInt8) :=
 (cond (Qp (Qb (List.map Zq G.values)) 0)
  (some true)
  ((Option.bind (QU G.values 0) GN.of).bind fun Y =>
  some (!Qp Y.Kind 5))).bind fun O =>
 cond O
  (some [])
  ((Option.bind (QU G.values 0) GN.of).bind fun J =>
  some J.Name)
theorem XD (n:Nat) (G:GH):∀ r,ZW n G=some r→QC Tryz.prog 146 [.eptr (GH.cs G)] (.ret (S r)):=by
 refine Qj Tryz.func146 rfl Tryz.ntmps146 rfl ?_;unfold ZW;refine Qf Qd ⟨[(0, .eptr (GH.cs G))],[]⟩ (sS (KQ (fun O=>⟨[(0, .eptr (GH.cs G)),(18,B O)],[]⟩:Bool→St) (sG (xR 7 (xS (Qp (Qb (mI G.values)) 0) (fun J=>xN (Qy J) (xR 8 (xE (QS true)))) (fun J=>xO (Qw J) (xR 3 (xG (Yg (e:=25) (S:=5) (enc:=GN.cs) (dec:=GN.of) (l:=G.values) (k:=.i64) (n:=0) (sv:=.p (.sl 5 (mI G.values))) GN.of_cs rfl Qc Qc Qc Qc Qc) (fun Z=>xR 4 (xE (QS (!Qp Z.Kind 5)))))))))) ?_));rintro O;exact sC O (Qf Qd ⟨[(2,S [])],[]⟩ (sT (QB (qR (.id))))) (sK (Ql ⟨[(0, .eptr (GH.cs G))],[]⟩ (sS (sG (xR 4 (xG (Yg (e:=25) (S:=5) (enc:=GN.cs) (dec:=GN.of) (l:=G.values) (k:=.i64) (n:=0) (sv:=.p (.sl 5 (mI G.values))) GN.of_cs rfl Qc Qc Qc Qc Qc) (fun Y=>xR 3 (xE (Ql ⟨[(2,S Y.Name)],[]⟩ (sT (qR (.id))))))))))))
def VX (n:Nat) (G:List UInt8):Option Int :=
 cond (Qr G [119,111,114,107])
  (some 1)
  (cond (Qr G [115,97,116,117,114,100,97,121])
   (some 2)
   (cond (Qr G [115,117,110,100,97,121])
    (some 4)
    (some 0)))
theorem ES (n:Nat) (G:List UInt8):∀ r,VX n G=some r→QC Tryz.prog 222 [S G] (.ret (I r)):=by
 refine Qj Tryz.func222 rfl Tryz.ntmps222 rfl ?_;unfold VX;exact Qf Qd ⟨[(0,S G)],[]⟩ (sS (Qf Qd ⟨[(3,S G)],[]⟩ (sB (Qf Qd (II G (Qr G [119,111,114,107])) (sC (Qr G [119,111,114,107]) (Qf Qd ⟨[(2,I 1)],[]⟩ (sT (Q4 (QB (qR (.id)))))) (Qf Qd ⟨[(3,S G),(6,B (Qr G [115,97,116,117,114,100,97,121]))],[]⟩ (sC (Qr G [115,97,116,117,114,100,97,121]) (Qf Qd ⟨[(2,I 2)],[]⟩ (sT (Q4 (QB (qR (.id)))))) (Qf Qd ⟨[(8,B (Qr G [115,117,110,100,97,121]))],[]⟩ (sC (Qr G [115,117,110,100,97,121]) (Qf Qd ⟨[(2,I 4)],[]⟩ (sT (Q4 (QB (qR (.id)))))) (sK (QR (Ql ⟨[],[]⟩ (Qf Qd ⟨[(2,I 0)],[]⟩ (sT (qR (.id))))))))))))))))
def Q9 (n:Nat) (aa:GH) (Z:(Int × Int × (List (List PV)) × Bool)→Option (Int × (List (List PV)) × Bool)) (O:Int) (J:Int) (G:List (List PV)) (Y:Bool):Option (Int × (List (List PV)) × Bool) :=
 cond (!Qp J 0)
  ((cond (!Qp (Lm .i64 O J) 0)
   (some false)
   (some Y)).bind fun j5 =>
  cond (U3 1 (Qb (List.map Zq G)) (Qb (List.map Zq G)) (List.length G)) (
   (ZW n (⟨aa.article,List.drop (Int.toNat 1) (List.take (Int.toNat (Qb (List.map Zq G))) G),j5⟩:GH)).bind fun r6 =>
   (VX n r6).bind fun r7 =>
   Z (fM .i64 O J,r7,List.drop (Int.toNat 1) (List.take (Int.toNat (Qb (List.map Zq G))) G),j5)) none)
  (some (O,G,Y))
def YA (n:Nat) (G:GH):Option (Int × GH) :=
 ((ZW n G).bind fun r2 =>
 (VX n r2).bind fun r3 =>
 Qn (fun Y (ad,aa,ab,Z)=>Q9 n G Y ad aa ab Z) n (0,r3,G.values,G.good)).bind fun (J,O,ac) =>
 cond (Qp J 0)
  (some (J,(⟨G.article,O,false⟩:GH)))
  (some (J,(⟨G.article,O,ac⟩:GH)))
def Qhd:=fun G J=>(⟨[(0, .ptr 1000 0),(3,I G)],UQ J⟩:St)
def Qhe:=fun G J=>([(0, .ptr 1000 0),(3,I G),(4,I J)]:List (Nat × AV))
theorem Pk (n:Nat) (J:GH):∀ r,YA n J=some r→KD Tryz.prog 200 [Zj] (Go.Abs.look [(1000,Oq J)]) (Yh (fun r:Int × GH=>((.ret (I r.1),[(1000,Oq r.2)]):ZB × List (Nat × Blk))) r):=by
 refine Kq (jl J) Tryz.func200 rfl Tryz.ntmps200 rfl ?_;unfold YA;refine Qf Qd ⟨[(0,Zj)],jl J⟩ (Qf Qd ⟨[(0,Zj),(3,I 0)],jl J⟩ (KQ (fun (Z,ab,ac)=>(Qhd Z ⟨J.article,ab,ac⟩):(Int × (List (List PV)) × Bool)→St) ?_ ?_));rotate_left
 ·rintro ⟨Z,ab,ac⟩;exact sS (Qf Qd ⟨[(0,Zj),(3,I Z),(42,B (Qp Z 0))],UQ ⟨J.article,ab,ac⟩⟩ (sC (Qp Z 0) (sL Qd (Ql ⟨[(3,I Z)],UQ ⟨J.article,ab,false⟩⟩ (Qf Qd ⟨[(2,I Z)],UQ ⟨J.article,ab,false⟩⟩ (sT (Kw (.id) [1000] []))))) (sK (Ql ⟨[(3,I Z)],UQ ⟨J.article,ab,ac⟩⟩ (Qf Qd ⟨[(2,I Z)],UQ ⟨J.article,ab,ac⟩⟩ (sT (Kw (.id) [1000] [])))))))
 refine sS (sG (xR 1 ?_));refine XK [.ro []] (XD n J) QF (fun r2=>?_);refine xC [] (ES n r2) QF (fun r3=>?_);refine xR 1 (xE (Ql ⟨[(0,Zj),(3,I 0),(4,I r3)],jl J⟩ (sB (QG (fun (Y,O,G,aa)=>⟨Qhe Y O,UQ ⟨J.article,G,aa⟩⟩:(Int × Int × (List (List PV)) × Bool)→St) (Gm) ?_))));rintro ad ⟨Y,O,G,aa⟩;show QP (Q9 n J ad Y O G aa) _ _ _ _ _ _;unfold Q9;refine sS (Qf Qd ⟨[(0,Zj),(3,I Y),(4,I O),(9,B (!Qp O 0))],UQ ⟨J.article,G,aa⟩⟩ (sC (!Qp O 0) (sK (Ql ⟨Qhe Y O,UQ ⟨J.article,G,aa⟩⟩ (sS (sB (KQ (fun j5=>⟨Qhe Y O,UQ ⟨J.article,G,j5⟩⟩:Bool→St) (Qf Qd ⟨[(0,Zj),(3,I Y),(4,I O),(16,B (!Qp (Lm .i64 Y O) 0))],UQ ⟨J.article,G,aa⟩⟩ (sC (!Qp (Lm .i64 Y O) 0) (sL Qd (QS false)) (sK (QS aa)))) ?_))))) (Qt (ZR (Yw (QM (QS (Y,G,aa))))))));rintro j5;refine Qf Qd (Qhd (fM .i64 Y O) ⟨J.article,G,j5⟩) (Bh Qd rfl (xR 15 (xF (UL (e:=25) (S:=5) (enc:=Zq) (l:=G) (sv:=.p (.sl 5 (mI G))) (a:=1) (b:=Qb (mI G)) (c:=Qb (mI G)) rfl Qc Qc Qc Qc Qc Qc Qc) (xR 3 (MN (QR (Ql (Qhd (fM .i64 Y O) ⟨J.article,List.drop (Int.toNat 1) (List.take (Int.toNat (Qb (mI G))) G),j5⟩) (sG (xR 1 ?_)))))))));refine XK [.ro []] (XD n (⟨J.article,List.drop (Int.toNat 1) (List.take (Int.toNat (Qb (mI G))) G),j5⟩:GH)) QF (fun r6=>?_);refine xC [] (ES n r6) QF (fun r7=>?_);exact xR 1 (xE (KW (fM .i64 Y O,r7,List.drop (Int.toNat 1) (List.take (Int.toNat (Qb (mI G))) G),j5)))
def JC (ad:Bool) (G:Int) (J:Int) (ab:Int) (Y:Int) (aa:Int) (O:Int) (Z:Int) (ae:List (List PV)) (ac:Bool):Option (QT × Bool) :=
 cond ac
  (cond ad
   (some ((⟨G,J,ab,Y,aa,O,Z⟩:QT),!Qp G 0))
   (some ((⟨G,J,ab,Y,aa,O,Z⟩:QT),false)))
  (some ((⟨G,J,ab,Y,aa,O,Z⟩:QT),false))
abbrev ty4:=(Bool × Int × Int × Int × Int × Int × Int × Int × (List (List PV)) × Bool × Bool × Bool × Bool × Bool)
def Wz (n:Nat) (ak:ty4→Option (QT × Bool)) (al:Bool) (ae:Int) (ah:Int) (aj:Int) (ac:Int) (ai:Int) (af:Int) (ad:Int) (G:List (List PV)) (O:Bool) (Z:Bool) (Y:Bool) (ab:Bool) (aa:Bool):Option (QT × Bool) :=
 (cond O
  (some (Qs 0 (Qb (List.map Zq G))))
  (some false)).bind fun ax =>
 cond ax
  ((ZW n (⟨(⟨ae,ah,aj,ac,ai,af,ad⟩:QT),G,O⟩:GH)).bind fun J =>
  cond (Qr J [112,101,114]&&Z)
   ((cond al
    (some true)
    (some (Qr J [112,101,114]))).bind fun ay =>
   cond (U3 1 (Qb (List.map Zq G)) (Qb (List.map Zq G)) (List.length G)) (
    (Ze n (⟨(⟨ae,ah,aj,ac,ai,af,ad⟩:QT),List.drop (Int.toNat 1) (List.take (Int.toNat (Qb (List.map Zq G))) G),O⟩:GH)).bind fun an =>
    ak (ay,an.2.article.Kind,an.2.article.Days,an.2.article.From,an.2.article.To,an.2.article.Price,an.1,an.2.article.Free,an.2.values,an.2.good,!Qr J [112,101,114]&&Z,!Qr J [102,114,101,101]&&Y,!Qr J [111,110]&&ab,!Qr J [98,101,116,119,101,101,110]&&aa)) none)
   (cond (Qr J [102,114,101,101]&&Y)
    ((cond al
     (some true)
     (some (Qr J [112,101,114]))).bind fun au =>
    cond (U3 1 (Qb (List.map Zq G)) (Qb (List.map Zq G)) (List.length G)) (
     (Ze n (⟨(⟨ae,ah,aj,ac,ai,af,ad⟩:QT),List.drop (Int.toNat 1) (List.take (Int.toNat (Qb (List.map Zq G))) G),O⟩:GH)).bind fun am =>
     ak (au,am.2.article.Kind,am.2.article.Days,am.2.article.From,am.2.article.To,am.2.article.Price,am.2.article.Unit,am.1,am.2.values,am.2.good,!Qr J [112,101,114]&&Z,!Qr J [102,114,101,101]&&Y,!Qr J [111,110]&&ab,!Qr J [98,101,116,119,101,101,110]&&aa)) none)
    (cond (Qr J [111,110]&&ab)
     ((cond al
      (some true)
      (some (Qr J [112,101,114]))).bind fun aw =>
     cond (U3 1 (Qb (List.map Zq G)) (Qb (List.map Zq G)) (List.length G)) (
      (YA n (⟨(⟨ae,ah,aj,ac,ai,af,ad⟩:QT),List.drop (Int.toNat 1) (List.take (Int.toNat (Qb (List.map Zq G))) G),O⟩:GH)).bind fun aq =>
      ak (aw,aq.2.article.Kind,aq.1,aq.2.article.From,aq.2.article.To,aq.2.article.Price,aq.2.article.Unit,aq.2.article.Free,aq.2.values,aq.2.good,!Qr J [112,101,114]&&Z,!Qr J [102,114,101,101]&&Y,!Qr J [111,110]&&ab,!Qr J [98,101,116,119,101,101,110]&&aa)) none)
     (cond (Qr J [98,101,116,119,101,101,110]&&aa)
      ((cond al
       (some true)
       (some (Qr J [112,101,114]))).bind fun av =>
      cond (U3 1 (Qb (List.map Zq G)) (Qb (List.map Zq G)) (List.length G)) (
       (Ze n (⟨(⟨ae,ah,aj,ac,ai,af,ad⟩:QT),List.drop (Int.toNat 1) (List.take (Int.toNat (Qb (List.map Zq G))) G),O⟩:GH)).bind fun ao =>
       (Ze n (⟨(⟨ao.2.article.Kind,ao.2.article.Days,ao.1,ao.2.article.To,ao.2.article.Price,ao.2.article.Unit,ao.2.article.Free⟩:QT),ao.2.values,ao.2.good⟩:GH)).bind fun ar =>
       ak (av,ar.2.article.Kind,ar.2.article.Days,ar.2.article.From,ar.1,ar.2.article.Price,ar.2.article.Unit,ar.2.article.Free,ar.2.values,ar.2.good,!Qr J [112,101,114]&&Z,!Qr J [102,114,101,101]&&Y,!Qr J [111,110]&&ab,!Qr J [98,101,116,119,101,101,110]&&aa)) none)
      (some ((⟨0,0,0,0,0,0,0⟩:QT),false))))))
  (JC al ae ah aj ac ai af ad G O)
def H9 (n:Nat) (am:GN):Option (QT × Bool) :=
 (XC n am.Name).bind fun r1 =>
 (Ze n (⟨(⟨r1,7,0,1440,0,0,0⟩:QT),am.Kids,true⟩:GH)).bind fun G =>
 ((YY n G.2.article.Kind).bind fun r4 =>
 cond r4
  (some true)
  (some false)).bind fun j3 =>
 ((Vp n G.2.article.Kind).bind fun r6 =>
 cond (!r6)
  (some true)
  (some false)).bind fun j5 =>
 (YY n G.2.article.Kind).bind fun r7 =>
 Qn (fun ab (ah,ae,ai,ak,ac,aj,af,ad,al,O,Y,J,aa,Z)=>Wz n ab ah ae ai ak ac aj af ad al O Y J aa Z) n (!r7,G.2.article.Kind,G.2.article.Days,G.2.article.From,G.2.article.To,G.1,G.2.article.Unit,G.2.article.Free,G.2.values,G.2.good,j3,j3,j5,j5)
def Qep:=fun G x1 Y O J x5 Z=>(.box 183 [I G,I x1,I Y,I O,I J,I x5,I Z]:Blk)
def Rl:=fun G=>([(2,(Qep 0 0 0 0 0 0 0)),(13,(Qeo G))]:List (Nat × Blk))
def Qeq:=fun G=>([(1,I G),(2, .ptr 2 0),(5, .mv 6)]:List (Nat × AV))
def Qhf:List (Nat × Blk):=[(2, .box 251 [.ptr 1000 0]),(6, .mp [])]
def Qhg:=fun G=>([(2, .box 251 [.ptr 1000 0]),(6, .mf [(G,[112,101,114], .fn (.func 197) [] [.ptr 2 0]),(G,[102,114,101,101], .fn (.func 198) [] [.ptr 2 0])])]:List (Nat × Blk))
def Qi1:=fun G J=>([(2, .box 251 [.ptr 1000 0]),(6, .mf [(G,[112,101,114], .fn (.func 197) [] [.ptr 2 0]),(G,[102,114,101,101], .fn (.func 198) [] [.ptr 2 0]),(J,[111,110], .fn (.func 199) [] [.ptr 2 0]),(J,[98,101,116,119,101,101,110], .fn (.func 201) [] [.ptr 2 0])])]:List (Nat × Blk))
def Qi2:=fun G J=>([(402, .box 251 [.ptr 13 0]),(406, .mf [(G,[112,101,114], .fn (.func 197) [] [.ptr 402 0]),(G,[102,114,101,101], .fn (.func 198) [] [.ptr 402 0]),(J,[111,110], .fn (.func 199) [] [.ptr 402 0]),(J,[98,101,116,119,101,101,110], .fn (.func 201) [] [.ptr 402 0])])]:List (Nat × Blk))
def Qhh:=fun G=>([(2, .ptr 2 0),(4, .ptr 13 0),(5, .mv 406),(6,B G)]:List (Nat × AV))
def Qer:=fun J Z G x3 Y x5 O x7=>(⟨[(2, .ptr 2 0),(3,B J)],[(2,(Qep Z G x3 Y x5 O x7))]⟩:St)
def M6:=fun J O G Y=>([(402, .box 251 [.ptr 13 0]),(406, .mf [(J,[112,101,114], .fn (.func 197) [] [.ptr 402 0]),(O,[102,114,101,101], .fn (.func 198) [] [.ptr 402 0]),(G,[111,110], .fn (.func 199) [] [.ptr 402 0]),(Y,[98,101,116,119,101,101,110], .fn (.func 201) [] [.ptr 402 0])])]:List (Nat × Blk))
def Qes:=fun J O G=>([(2, .ptr 2 0),(4, .ptr 13 0),(5, .mv 406),(6,B J),(7,S O),(8, .fn G [] [.ptr 402 0]),(9,B true)]:List (Nat × AV))
def Qet:=fun J O G=>([(2, .ptr 2 0),(4, .ptr 13 0),(5, .mv 406),(6,B J),(7,S O),(8, .fn G [] [.ptr 402 0]),(62,B false)]:List (Nat × AV))
def QkE:=fun J O G=>([(2, .ptr 2 0),(4, .ptr 13 0),(5, .mv 406),(6,B J),(7,S O),(8, .fn G [] [.ptr 402 0])]:List (Nat × AV))
def gF:=fun J Z G x3 Y x5 O x7=>(⟨QkE J Z G,Rl x3++M6 Y x5 O x7⟩:St)
def QkF:=fun G J=>([(2, .ptr 2 0),(4, .ptr 13 0),(5, .mv 406),(6,B G),(8, .fn J [] [.ptr 402 0])]:List (Nat × AV))
def gG:=fun J x1 G x3 Z O Y=>(⟨QkF J x1,Rl G++M6 x3 Z O Y⟩:St)
def QbG:=fun G=>([(1000,(Qeo G)),(1001, .box 251 [.ptr 1000 0])]:List (Nat × Blk))
theorem gH (n:Nat) (ba:GN):∀ r,H9 n ba=some r→QC Tryz.prog 85 [ag (GN.cs ba)] (.ret (.tup [ag (QT.cs r.1),B r.2])):=by
 refine Qj Tryz.func85 rfl Tryz.ntmps85 rfl ?_;unfold H9;refine Qf Qd ⟨[qq 1,qq 2],[(1,yX ba),(2,(Qep 0 0 0 0 0 0 0))]⟩ (Qf Qd ⟨[qq 1,qq 2,(4, .ptr 13 0)],[(1,yX ba),(2,(Qep 0 0 0 0 0 0 0)),(13,(Qeo ⟨(⟨0,0,0,0,0,0,0⟩:QT),ba.Kids,true⟩))]⟩ (sS (sG (xR 3 ?_))));refine xC [] (kR n ba.Name) QF (fun r1=>?_);refine xR 4 (xE (Ql ⟨[qq 2,(4, .ptr 13 0)],Rl ⟨(⟨r1,7,0,1440,0,0,0⟩:QT),ba.Kids,true⟩⟩ (sS (sG (xR 2 ?_)))));refine U2 [(1000,13)] [] [] (Yk n (⟨(⟨r1,7,0,1440,0,0,0⟩:QT),ba.Kids,true⟩:GH)) QF QF (fun r2=>?_);refine xR 4 (xE (Ql ⟨[qq 2,(4, .ptr 13 0)],Rl ⟨(⟨r2.2.article.Kind,r2.2.article.Days,r2.2.article.From,r2.2.article.To,r2.1,r2.2.article.Unit,r2.2.article.Free⟩:QT),r2.2.values,r2.2.good⟩⟩ (sS (sG (xR 6 (GD (UQ ⟨(⟨r2.2.article.Kind,r2.2.article.Days,r2.2.article.From,r2.2.article.To,r2.1,r2.2.article.Unit,r2.2.article.Free⟩:QT),r2.2.values,r2.2.good⟩) [Zj,I r2.2.article.Kind] [(1000,13),(2,402),(6,406)] [] [] Tryz.func144 rfl Tryz.ntmps144 rfl (Qf Qd ⟨[(1,I r2.2.article.Kind),qq 2],[(2, .box 251 [Zj])]++UQ ⟨(⟨r2.2.article.Kind,r2.2.article.Days,r2.2.article.From,r2.2.article.To,r2.1,r2.2.article.Unit,r2.2.article.Free⟩:QT),r2.2.values,r2.2.good⟩⟩ (Qf Qd ⟨Qeq r2.2.article.Kind,Qhf++UQ ⟨(⟨r2.2.article.Kind,r2.2.article.Days,r2.2.article.From,r2.2.article.To,r2.1,r2.2.article.Unit,r2.2.article.Free⟩:QT),r2.2.values,r2.2.good⟩⟩ (KQ (fun j3=>⟨Qeq r2.2.article.Kind,Qhg j3++UQ ⟨(⟨r2.2.article.Kind,r2.2.article.Days,r2.2.article.From,r2.2.article.To,r2.1,r2.2.article.Unit,r2.2.article.Free⟩:QT),r2.2.values,r2.2.good⟩⟩:Bool→St) ?_ ?_)))))))))
 ·refine sS (sG (xR 1 ?_));refine xC [] (Rk n r2.2.article.Kind) QF (fun r4=>?_);exact xE (Ql ⟨[(1,I r2.2.article.Kind),qq 2,(5, .mv 6),(8,B r4)],Qhf++UQ ⟨(⟨r2.2.article.Kind,r2.2.article.Days,r2.2.article.From,r2.2.article.To,r2.1,r2.2.article.Unit,r2.2.article.Free⟩:QT),r2.2.values,r2.2.good⟩⟩ (sC r4 (Qf Qd ⟨Qeq r2.2.article.Kind,[(2, .box 251 [Zj]),(6, .mf [(true,[112,101,114], .fn (.func 197) [] [.ptr 2 0])])]++UQ ⟨(⟨r2.2.article.Kind,r2.2.article.Days,r2.2.article.From,r2.2.article.To,r2.1,r2.2.article.Unit,r2.2.article.Free⟩:QT),r2.2.values,r2.2.good⟩⟩ (sL Qd (QS true))) (sK (Qij false ⟨[1,2,5],[2,6,1000],[],[]⟩ ⟨Qeq r2.2.article.Kind,Qhf++UQ ⟨(⟨r2.2.article.Kind,r2.2.article.Days,r2.2.article.From,r2.2.article.To,r2.1,r2.2.article.Unit,r2.2.article.Free⟩:QT),r2.2.values,r2.2.good⟩⟩ Qc (dX 6 (es:=[]) [(false,[112,101,114], .fn (.func 197) [] [.ptr 2 0]),(false,[102,114,101,101], .fn (.func 198) [] [.ptr 2 0])] Qc Qc) ⟨[1,2,5],[2,6,1000],[],[]⟩ Qc))))
 rintro j3;refine KQ (fun j5=>⟨[(5, .mv 6)],Qi1 j3 j5++UQ ⟨(⟨r2.2.article.Kind,r2.2.article.Days,r2.2.article.From,r2.2.article.To,r2.1,r2.2.article.Unit,r2.2.article.Free⟩:QT),r2.2.values,r2.2.good⟩⟩:Bool→St) ?_ ?_
 ·refine sS (sG (xR 1 ?_));refine xC [] (BC n r2.2.article.Kind) QF (fun r6=>?_);exact xR 1 (xE (Ql ⟨[qq 2,(5, .mv 6),(15,B (!r6))],Qhg j3++UQ ⟨(⟨r2.2.article.Kind,r2.2.article.Days,r2.2.article.From,r2.2.article.To,r2.1,r2.2.article.Unit,r2.2.article.Free⟩:QT),r2.2.values,r2.2.good⟩⟩ (sC (!r6) (Qf Qd ⟨[qq 2,(5, .mv 6)],[(2, .box 251 [Zj]),(6, .mf [(j3,[112,101,114], .fn (.func 197) [] [.ptr 2 0]),(j3,[102,114,101,101], .fn (.func 198) [] [.ptr 2 0]),(true,[111,110], .fn (.func 199) [] [.ptr 2 0])])]++UQ ⟨(⟨r2.2.article.Kind,r2.2.article.Days,r2.2.article.From,r2.2.article.To,r2.1,r2.2.article.Unit,r2.2.article.Free⟩:QT),r2.2.values,r2.2.good⟩⟩ (sL Qd (QS true))) (sK (Qij false ⟨[5],[2,6,1000],[],[]⟩ ⟨[(5, .mv 6)],Qhg j3++UQ ⟨(⟨r2.2.article.Kind,r2.2.article.Days,r2.2.article.From,r2.2.article.To,r2.1,r2.2.article.Unit,r2.2.article.Free⟩:QT),r2.2.values,r2.2.good⟩⟩ Qc (dX 6 (es:=[(j3,[112,101,114], .fn (.func 197) [] [.ptr 2 0]),(j3,[102,114,101,101], .fn (.func 198) [] [.ptr 2 0])]) [(j3,[112,101,114], .fn (.func 197) [] [.ptr 2 0]),(j3,[102,114,101,101], .fn (.func 198) [] [.ptr 2 0]),(false,[111,110], .fn (.func 199) [] [.ptr 2 0]),(false,[98,101,116,119,101,101,110], .fn (.func 201) [] [.ptr 2 0])] Qc Qc) ⟨[5],[2,6,1000],[],[]⟩ Qc)))))
 rintro j5;refine Qf Qd ⟨[(4, .mv 6)],Qi1 j3 j5++UQ ⟨(⟨r2.2.article.Kind,r2.2.article.Days,r2.2.article.From,r2.2.article.To,r2.1,r2.2.article.Unit,r2.2.article.Free⟩:QT),r2.2.values,r2.2.good⟩⟩ (sT (QD (.id) [2,6,1000] [] (.mv 6) (Wh (xR 1 (xE (Ql ⟨[qq 2,(4, .ptr 13 0),(5, .mv 406)],Rl ⟨(⟨r2.2.article.Kind,r2.2.article.Days,r2.2.article.From,r2.2.article.To,r2.1,r2.2.article.Unit,r2.2.article.Free⟩:QT),r2.2.values,r2.2.good⟩++Qi2 j3 j5⟩ (sS (sG (xR 5 ?_)))))))));refine xC [] (Rk n r2.2.article.Kind) QF (fun r7=>?_);refine xR 2 (xE (Ql ⟨Qhh (!r7),Rl ⟨(⟨r2.2.article.Kind,r2.2.article.Days,r2.2.article.From,r2.2.article.To,r2.1,r2.2.article.Unit,r2.2.article.Free⟩:QT),r2.2.values,r2.2.good⟩++Qi2 j3 j5⟩ (Yc (fun (ax,an,ao,av,aw,aq,ar,au,ay,am)=>⟨[qq 2,(4, .ptr 13 0),(6,B ax)],Rl ⟨(⟨an,ao,av,aw,aq,ar,au⟩:QT),ay,am⟩⟩:(Bool × Int × Int × Int × Int × Int × Int × Int × (List (List PV)) × Bool)→St) (fun (ax,an,ao,av,aw,aq,ar,au,ay,am)=>JC ax an ao av aw aq ar au ay am) ?_ ?_)))
 ·rintro ⟨ax,an,ao,av,aw,aq,ar,au,ay,am⟩;show QP (JC ax an ao av aw aq ar au ay am) _ _ _ _ _ _;unfold JC;exact sS (Bh Qd rfl (xR 9 (xS am (fun h9=>xO (Qv h9) (xR 2 (xS ax (fun bp=>xO (Qv bp) (xR 8 (MN (Ql (Qer (!Qp an 0) an ao av aw aq ar au) (sT (qR (.id))))))) (fun bp=>xN (Qx bp) (xR 8 (MN (Ql (Qer false an ao av aw aq ar au) (sT (qR (.id)))))))))) (fun h9=>xN (Qx h9) (xR 11 (MN (Ql (Qer false an ao av aw aq ar au) (sT (qR (.id))))))))))
 refine sB (QG (fun (ak,ai,ad,af,ah,ae,aj,ac,G,J,Y,O,aa,Z)=>⟨Qhh ak,Rl ⟨(⟨ai,ad,af,ah,ae,aj,ac⟩:QT),G,J⟩++M6 Y O aa Z⟩:ty4→St) (Gm) ?_);rintro bi ⟨ak,ai,ad,af,ah,ae,aj,ac,G,J,Y,O,aa,Z⟩;show QP (Wz n bi ak ai ad af ah ae aj ac G J Y O aa Z) _ _ _ _ _ _;unfold Wz;refine sS (KQ (fun bm=>⟨[qq 2,(4, .ptr 13 0),(5, .mv 406),(6,B ak),(52,B bm)],Rl ⟨(⟨ai,ad,af,ah,ae,aj,ac⟩:QT),G,J⟩++M6 Y O aa Z⟩:Bool→St) (sG (xR 5 (xS J (fun bq=>xO (Qv bq) (xR 6 (xE (QS (Qs 0 (Qb (mI G))))))) (fun bq=>xN (Qx bq) (xR 6 (xE (QS false))))))) ?_);rintro bm;refine sC bm (sK (Ql ⟨Qhh ak,Rl ⟨(⟨ai,ad,af,ah,ae,aj,ac⟩:QT),G,J⟩++M6 Y O aa Z⟩ (sB (sS (sG (xR 1 ?_)))))) (Qt (ZR (Yw (QM (KW (k:=fun (ax,an,ao,av,aw,aq,ar,au,ay,am)=>JC ax an ao av aw aq ar au ay am) (ak,ai,ad,af,ah,ae,aj,ac,G,J))))));refine XK [.ro []] (XD n (⟨(⟨ai,ad,af,ah,ae,aj,ac⟩:QT),G,J⟩:GH)) QF (fun ab=>?_);refine xR 1 (xE (Ql ⟨[qq 2,(4, .ptr 13 0),(5, .mv 406),(6,B ak),(7,S ab)],Rl ⟨(⟨ai,ad,af,ah,ae,aj,ac⟩:QT),G,J⟩++M6 Y O aa Z⟩ (sS (sG (xR 2 (xS (Qr ab [112,101,114]&&Y) (fun bb=>?_) (fun bb=>?_)))))))
 ·refine kF (Oo (kt:=9) (e:=1) (b:=406) (w:=ab) (ok:=true) (es:=[(Y,[112,101,114], .fn (.func 197) [] [.ptr 402 0]),(O,[102,114,101,101], .fn (.func 198) [] [.ptr 402 0]),(aa,[111,110], .fn (.func 199) [] [.ptr 402 0]),(Z,[98,101,116,119,101,101,110], .fn (.func 201) [] [.ptr 402 0])]) (v:=.fn (.func 197) [] [.ptr 402 0]) rfl Qc Qc Qc Qc Qc (Om bb)) (xR 5 (xE (Ql ⟨Qes ak ab (.func 197),Rl ⟨(⟨ai,ad,af,ah,ae,aj,ac⟩:QT),G,J⟩++M6 Y O aa Z⟩ (sS (Qf Qd ⟨Qet ak ab (.func 197),Rl ⟨(⟨ai,ad,af,ah,ae,aj,ac⟩:QT),G,J⟩++M6 Y O aa Z⟩ (QZ (sK (Ql (gF ak ab (.func 197) ⟨(⟨ai,ad,af,ah,ae,aj,ac⟩:QT),G,J⟩ Y O aa Z) (Qf Qd (gF ak ab (.func 197) ⟨(⟨ai,ad,af,ah,ae,aj,ac⟩:QT),G,J⟩ (!Qr ab [112,101,114]&&Y) (!Qr ab [102,114,101,101]&&O) (!Qr ab [111,110]&&aa) (!Qr ab [98,101,116,119,101,101,110]&&Z)) (KQ (fun bh=>(gG bh (.func 197) ⟨(⟨ai,ad,af,ah,ae,aj,ac⟩:QT),G,J⟩ (!Qr ab [112,101,114]&&Y) (!Qr ab [102,114,101,101]&&O) (!Qr ab [111,110]&&aa) (!Qr ab [98,101,116,119,101,101,110]&&Z)):Bool→St) (sG (xR 2 (xS ak (fun bn=>xN (Qy bn) (xR 3 (xE (QS true)))) (fun bn=>xO (Qw bn) (xR 3 (xE (QS (Qr ab [112,101,114])))))))) ?_))))))))));rintro bh;refine sS (Bh Qd rfl (xR 15 (xF (UL (e:=25) (S:=5) (enc:=Zq) (l:=G) (sv:=.p (.sl 5 (mI G))) (a:=1) (b:=Qb (mI G)) (c:=Qb (mI G)) rfl Qc Qc Qc Qc Qc Qc Qc) (xR 3 (MN (Ql (gG bh (.func 197) ⟨(⟨ai,ad,af,ah,ae,aj,ac⟩:QT),List.drop (Int.toNat 1) (List.take (Int.toNat (Qb (mI G))) G),J⟩ (!Qr ab [112,101,114]&&Y) (!Qr ab [102,114,101,101]&&O) (!Qr ab [111,110]&&aa) (!Qr ab [98,101,116,119,101,101,110]&&Z)) (sG (xR 1 (GD (QbG ⟨(⟨ai,ad,af,ah,ae,aj,ac⟩:QT),List.drop (Int.toNat 1) (List.take (Int.toNat (Qb (mI G))) G),J⟩) [Rw] [(1000,13),(1001,402)] [] [] Tryz.func197 rfl Tryz.ntmps197 rfl (KG [0,1] [0] [(2,[]),(3,[]),(4,[]),(5,[]),(6,[])] Qd rfl (ZH (f:=143) (args:=[Zj]) (dst:=some 3) ?_)))))))))));refine Zg [(1000,1000)] [] [] (Yk n (⟨(⟨ai,ad,af,ah,ae,aj,ac⟩:QT),List.drop (Int.toNat 1) (List.take (Int.toNat (Qb (mI G))) G),J⟩:GH)) Qc Qc Qc QF QF (fun a8=>?_);exact kh [0] (Qo (QA Zj rfl) (Qg)) (Yx [] (Qg) (Yx [] (Qg) (Yx [] (Qg) (Yx [] (Qg) (WK (DX (.id) [1000,1001] [] (.tup []) (Wh (xE (QR (KW (bh,a8.2.article.Kind,a8.2.article.Days,a8.2.article.From,a8.2.article.To,a8.2.article.Price,a8.1,a8.2.article.Free,a8.2.values,a8.2.good,!Qr ab [112,101,114]&&Y,!Qr ab [102,114,101,101]&&O,!Qr ab [111,110]&&aa,!Qr ab [98,101,116,119,101,101,110]&&Z)))))))))))
 refine xS (Qr ab [102,114,101,101]&&O) (fun bc=>?_) (fun bc=>?_)
 ·refine kF (Oo (kt:=9) (e:=1) (b:=406) (w:=ab) (ok:=true) (es:=[(Y,[112,101,114], .fn (.func 197) [] [.ptr 402 0]),(O,[102,114,101,101], .fn (.func 198) [] [.ptr 402 0]),(aa,[111,110], .fn (.func 199) [] [.ptr 402 0]),(Z,[98,101,116,119,101,101,110], .fn (.func 201) [] [.ptr 402 0])]) (v:=.fn (.func 198) [] [.ptr 402 0]) rfl Qc Qc Qc Qc Qc (U4 bb (Om bc))) (xR 5 (xE (Ql ⟨Qes ak ab (.func 198),Rl ⟨(⟨ai,ad,af,ah,ae,aj,ac⟩:QT),G,J⟩++M6 Y O aa Z⟩ (sS (Qf Qd ⟨Qet ak ab (.func 198),Rl ⟨(⟨ai,ad,af,ah,ae,aj,ac⟩:QT),G,J⟩++M6 Y O aa Z⟩ (QZ (sK (Ql (gF ak ab (.func 198) ⟨(⟨ai,ad,af,ah,ae,aj,ac⟩:QT),G,J⟩ Y O aa Z) (Qf Qd (gF ak ab (.func 198) ⟨(⟨ai,ad,af,ah,ae,aj,ac⟩:QT),G,J⟩ (!Qr ab [112,101,114]&&Y) (!Qr ab [102,114,101,101]&&O) (!Qr ab [111,110]&&aa) (!Qr ab [98,101,116,119,101,101,110]&&Z)) (KQ (fun bf=>(gG bf (.func 198) ⟨(⟨ai,ad,af,ah,ae,aj,ac⟩:QT),G,J⟩ (!Qr ab [112,101,114]&&Y) (!Qr ab [102,114,101,101]&&O) (!Qr ab [111,110]&&aa) (!Qr ab [98,101,116,119,101,101,110]&&Z)):Bool→St) (sG (xR 2 (xS ak (fun bl=>xN (Qy bl) (xR 3 (xE (QS true)))) (fun bl=>xO (Qw bl) (xR 3 (xE (QS (Qr ab [112,101,114])))))))) ?_))))))))));rintro bf;refine sS (Bh Qd rfl (xR 15 (xF (UL (e:=25) (S:=5) (enc:=Zq) (l:=G) (sv:=.p (.sl 5 (mI G))) (a:=1) (b:=Qb (mI G)) (c:=Qb (mI G)) rfl Qc Qc Qc Qc Qc Qc Qc) (xR 3 (MN (Ql (gG bf (.func 198) ⟨(⟨ai,ad,af,ah,ae,aj,ac⟩:QT),List.drop (Int.toNat 1) (List.take (Int.toNat (Qb (mI G))) G),J⟩ (!Qr ab [112,101,114]&&Y) (!Qr ab [102,114,101,101]&&O) (!Qr ab [111,110]&&aa) (!Qr ab [98,101,116,119,101,101,110]&&Z)) (sG (xR 1 (GD (QbG ⟨(⟨ai,ad,af,ah,ae,aj,ac⟩:QT),List.drop (Int.toNat 1) (List.take (Int.toNat (Qb (mI G))) G),J⟩) [Rw] [(1000,13),(1001,402)] [] [] Tryz.func198 rfl Tryz.ntmps198 rfl (KG [0,1] [0] [(2,[]),(3,[]),(4,[]),(5,[]),(6,[])] Qd rfl (ZH (f:=143) (args:=[Zj]) (dst:=some 3) ?_)))))))))));refine Zg [(1000,1000)] [] [] (Yk n (⟨(⟨ai,ad,af,ah,ae,aj,ac⟩:QT),List.drop (Int.toNat 1) (List.take (Int.toNat (Qb (mI G))) G),J⟩:GH)) Qc Qc Qc QF QF (fun az=>?_);exact kh [0] (Qo (QA Zj rfl) (Qg)) (Yx [] (Qg) (Yx [] (Qg) (Yx [] (Qg) (Yx [] (Qg) (WK (DX (.id) [1000,1001] [] (.tup []) (Wh (xE (QR (KW (bf,az.2.article.Kind,az.2.article.Days,az.2.article.From,az.2.article.To,az.2.article.Price,az.2.article.Unit,az.1,az.2.values,az.2.good,!Qr ab [112,101,114]&&Y,!Qr ab [102,114,101,101]&&O,!Qr ab [111,110]&&aa,!Qr ab [98,101,116,119,101,101,110]&&Z)))))))))))
 refine xS (Qr ab [111,110]&&aa) (fun bg=>?_) (fun bg=>?_)
 ·refine kF (Oo (kt:=9) (e:=1) (b:=406) (w:=ab) (ok:=true) (es:=[(Y,[112,101,114], .fn (.func 197) [] [.ptr 402 0]),(O,[102,114,101,101], .fn (.func 198) [] [.ptr 402 0]),(aa,[111,110], .fn (.func 199) [] [.ptr 402 0]),(Z,[98,101,116,119,101,101,110], .fn (.func 201) [] [.ptr 402 0])]) (v:=.fn (.func 199) [] [.ptr 402 0]) rfl Qc Qc Qc Qc Qc (U4 bb (U4 bc (Om bg)))) (xR 5 (xE (Ql ⟨Qes ak ab (.func 199),Rl ⟨(⟨ai,ad,af,ah,ae,aj,ac⟩:QT),G,J⟩++M6 Y O aa Z⟩ (sS (Qf Qd ⟨Qet ak ab (.func 199),Rl ⟨(⟨ai,ad,af,ah,ae,aj,ac⟩:QT),G,J⟩++M6 Y O aa Z⟩ (QZ (sK (Ql (gF ak ab (.func 199) ⟨(⟨ai,ad,af,ah,ae,aj,ac⟩:QT),G,J⟩ Y O aa Z) (Qf Qd (gF ak ab (.func 199) ⟨(⟨ai,ad,af,ah,ae,aj,ac⟩:QT),G,J⟩ (!Qr ab [112,101,114]&&Y) (!Qr ab [102,114,101,101]&&O) (!Qr ab [111,110]&&aa) (!Qr ab [98,101,116,119,101,101,110]&&Z)) (KQ (fun be=>(gG be (.func 199) ⟨(⟨ai,ad,af,ah,ae,aj,ac⟩:QT),G,J⟩ (!Qr ab [112,101,114]&&Y) (!Qr ab [102,114,101,101]&&O) (!Qr ab [111,110]&&aa) (!Qr ab [98,101,116,119,101,101,110]&&Z)):Bool→St) (sG (xR 2 (xS ak (fun bo=>xN (Qy bo) (xR 3 (xE (QS true)))) (fun bo=>xO (Qw bo) (xR 3 (xE (QS (Qr ab [112,101,114])))))))) ?_))))))))));rintro be;refine sS (Bh Qd rfl (xR 15 (xF (UL (e:=25) (S:=5) (enc:=Zq) (l:=G) (sv:=.p (.sl 5 (mI G))) (a:=1) (b:=Qb (mI G)) (c:=Qb (mI G)) rfl Qc Qc Qc Qc Qc Qc Qc) (xR 3 (MN (Ql (gG be (.func 199) ⟨(⟨ai,ad,af,ah,ae,aj,ac⟩:QT),List.drop (Int.toNat 1) (List.take (Int.toNat (Qb (mI G))) G),J⟩ (!Qr ab [112,101,114]&&Y) (!Qr ab [102,114,101,101]&&O) (!Qr ab [111,110]&&aa) (!Qr ab [98,101,116,119,101,101,110]&&Z)) (sG (xR 1 (GD (QbG ⟨(⟨ai,ad,af,ah,ae,aj,ac⟩:QT),List.drop (Int.toNat 1) (List.take (Int.toNat (Qb (mI G))) G),J⟩) [Rw] [(1000,13),(1001,402)] [] [] Tryz.func199 rfl Tryz.ntmps199 rfl (KG [0,1] [0] [(2,[]),(3,[]),(4,[]),(5,[]),(6,[])] Qd rfl (ZH (f:=200) (args:=[Zj]) (dst:=some 3) ?_)))))))))));refine Zg [(1000,1000)] [] [] (Pk n (⟨(⟨ai,ad,af,ah,ae,aj,ac⟩:QT),List.drop (Int.toNat 1) (List.take (Int.toNat (Qb (mI G))) G),J⟩:GH)) Qc Qc Qc QF QF (fun a6=>?_);exact kh [0] (Qo (QA Zj rfl) (Qg)) (Yx [] (Qg) (Yx [] (Qg) (Yx [] (Qg) (Yx [] (Qg) (WK (DX (.id) [1000,1001] [] (.tup []) (Wh (xE (QR (KW (be,a6.2.article.Kind,a6.1,a6.2.article.From,a6.2.article.To,a6.2.article.Price,a6.2.article.Unit,a6.2.article.Free,a6.2.values,a6.2.good,!Qr ab [112,101,114]&&Y,!Qr ab [102,114,101,101]&&O,!Qr ab [111,110]&&aa,!Qr ab [98,101,116,119,101,101,110]&&Z)))))))))))
 refine xS (Qr ab [98,101,116,119,101,101,110]&&Z) (fun bk=>?_) (fun bk=>kF (QdT (kt:=9) (e:=1) (b:=406) (w:=ab) (ok:=true) (es:=[(Y,[112,101,114], .fn (.func 197) [] [.ptr 402 0]),(O,[102,114,101,101], .fn (.func 198) [] [.ptr 402 0]),(aa,[111,110], .fn (.func 199) [] [.ptr 402 0]),(Z,[98,101,116,119,101,101,110], .fn (.func 201) [] [.ptr 402 0])]) (z:=.nilFunc) rfl Qc Qc Qc Qc Qc Qc (U4 bb (U4 bc (U4 bg (U4 bk (QdS)))))) (xR 5 (xE (Ql ⟨[qq 2,(4, .ptr 13 0),(5, .mv 406),(6,B ak),(7,S ab),(8, .p (.val (.nilFunc))),(9,B false)],Rl ⟨(⟨ai,ad,af,ah,ae,aj,ac⟩:QT),G,J⟩++M6 Y O aa Z⟩ (sS (Qf Qd ⟨[qq 2,(4, .ptr 13 0),(5, .mv 406),(6,B ak),(7,S ab),(8, .p (.val (.nilFunc))),(62,B true)],Rl ⟨(⟨ai,ad,af,ah,ae,aj,ac⟩:QT),G,J⟩++M6 Y O aa Z⟩ (ZQ (Qf Qd (Qer false 0 0 0 0 0 0 0) (sT (QB (Q4 (V9 (Q4 (V9 (qR (.id))))))))))))))));refine kF (Oo (kt:=9) (e:=1) (b:=406) (w:=ab) (ok:=true) (es:=[(Y,[112,101,114], .fn (.func 197) [] [.ptr 402 0]),(O,[102,114,101,101], .fn (.func 198) [] [.ptr 402 0]),(aa,[111,110], .fn (.func 199) [] [.ptr 402 0]),(Z,[98,101,116,119,101,101,110], .fn (.func 201) [] [.ptr 402 0])]) (v:=.fn (.func 201) [] [.ptr 402 0]) rfl Qc Qc Qc Qc Qc (U4 bb (U4 bc (U4 bg (Om bk))))) (xR 5 (xE (Ql ⟨Qes ak ab (.func 201),Rl ⟨(⟨ai,ad,af,ah,ae,aj,ac⟩:QT),G,J⟩++M6 Y O aa Z⟩ (sS (Qf Qd ⟨Qet ak ab (.func 201),Rl ⟨(⟨ai,ad,af,ah,ae,aj,ac⟩:QT),G,J⟩++M6 Y O aa Z⟩ (QZ (sK (Ql (gF ak ab (.func 201) ⟨(⟨ai,ad,af,ah,ae,aj,ac⟩:QT),G,J⟩ Y O aa Z) (Qf Qd (gF ak ab (.func 201) ⟨(⟨ai,ad,af,ah,ae,aj,ac⟩:QT),G,J⟩ (!Qr ab [112,101,114]&&Y) (!Qr ab [102,114,101,101]&&O) (!Qr ab [111,110]&&aa) (!Qr ab [98,101,116,119,101,101,110]&&Z)) (KQ (fun bd=>(gG bd (.func 201) ⟨(⟨ai,ad,af,ah,ae,aj,ac⟩:QT),G,J⟩ (!Qr ab [112,101,114]&&Y) (!Qr ab [102,114,101,101]&&O) (!Qr ab [111,110]&&aa) (!Qr ab [98,101,116,119,101,101,110]&&Z)):Bool→St) (sG (xR 2 (xS ak (fun bj=>xN (Qy bj) (xR 3 (xE (QS true)))) (fun bj=>xO (Qw bj) (xR 3 (xE (QS (Qr ab [112,101,114])))))))) ?_))))))))));rintro bd;refine sS (Bh Qd rfl (xR 15 (xF (UL (e:=25) (S:=5) (enc:=Zq) (l:=G) (sv:=.p (.sl 5 (mI G))) (a:=1) (b:=Qb (mI G)) (c:=Qb (mI G)) rfl Qc Qc Qc Qc Qc Qc Qc) (xR 3 (MN (Ql (gG bd (.func 201) ⟨(⟨ai,ad,af,ah,ae,aj,ac⟩:QT),List.drop (Int.toNat 1) (List.take (Int.toNat (Qb (mI G))) G),J⟩ (!Qr ab [112,101,114]&&Y) (!Qr ab [102,114,101,101]&&O) (!Qr ab [111,110]&&aa) (!Qr ab [98,101,116,119,101,101,110]&&Z)) (sG (xR 1 (GD (QbG ⟨(⟨ai,ad,af,ah,ae,aj,ac⟩:QT),List.drop (Int.toNat 1) (List.take (Int.toNat (Qb (mI G))) G),J⟩) [Rw] [(1000,13),(1001,402)] [] [] Tryz.func201 rfl Tryz.ntmps201 rfl (sS (KG [0,1] [0] [(2,[]),(3,[]),(4,[]),(5,[]),(6,[])] Qd rfl (ZH (f:=143) (args:=[Zj]) (dst:=some 3) ?_))))))))))));refine Zg [(1000,1000)] [] [] (Yk n (⟨(⟨ai,ad,af,ah,ae,aj,ac⟩:QT),List.drop (Int.toNat 1) (List.take (Int.toNat (Qb (mI G))) G),J⟩:GH)) Qc Qc Qc QF QF (fun al=>?_);refine kh [0] (Qo (QA Zj rfl) (Qg)) (Yx [] (Qg) (Yx [] (Qg) (Yx [] (Qg) (Yx [] (Qg) (WK (Ql ⟨[(0,Rw)],QbG ⟨(⟨al.2.article.Kind,al.2.article.Days,al.1,al.2.article.To,al.2.article.Price,al.2.article.Unit,al.2.article.Free⟩:QT),al.2.values,al.2.good⟩⟩ (KG [0,1] [0] [(2,[]),(3,[]),(4,[]),(5,[]),(6,[])] Qd rfl (ZH (f:=143) (args:=[Zj]) (dst:=some 9) ?_))))))));refine Zg [(1000,1000)] [] [] (Yk n (⟨(⟨al.2.article.Kind,al.2.article.Days,al.1,al.2.article.To,al.2.article.Price,al.2.article.Unit,al.2.article.Free⟩:QT),al.2.values,al.2.good⟩:GH)) Qc Qc Qc QF QF (fun a7=>?_);exact kh [0] (Qo (QA Zj rfl) (Qg)) (Yx [] (Qg) (Yx [] (Qg) (Yx [] (Qg) (Yx [] (Qg) (WK (DX (.id) [1000,1001] [] (.tup []) (Wh (xE (QR (KW (bd,a7.2.article.Kind,a7.2.article.Days,a7.2.article.From,a7.1,a7.2.article.Price,a7.2.article.Unit,a7.2.article.Free,a7.2.values,a7.2.good,!Qr ab [112,101,114]&&Y,!Qr ab [102,114,101,101]&&O,!Qr ab [111,110]&&aa,!Qr ab [98,101,116,119,101,101,110]&&Z)))))))))))
def YZ (n:Nat) (O:Int) (J:Int) (G:Int):Option Bool :=
 cond (leI J O)
  (some (leI O G))
  (some false)
def Qhi:=fun J O G=>(⟨[(0,I J),(1,I O),(2,I G)],[]⟩:St)
theorem VG (n:Nat) (O:Int) (J:Int) (G:Int):∀ r,YZ n O J G=some r→QC Tryz.prog 147 [I O,I J,I G] (.ret (B r)):=by
 refine Qj Tryz.func147 rfl Tryz.ntmps147 rfl ?_;unfold YZ;exact Qf Qd (Qhi O J G) (sS (sG (xR 4 (xS (leI J O) (fun Y=>xO (Qv Y) (xR 4 (xE (Ql ⟨[(6,B (leI O G))],[]⟩ (sT (qR (.id))))))) (fun Y=>xN (Qx Y) (xR 4 (xE (Ql ⟨[(6,B false)],[]⟩ (sT (qR (.id)))))))))))
def K7 (n:Nat) (G:QT):Option Bool :=
 ((YZ n G.Kind 1 6).bind fun r2 =>
 cond (!r2)
  (some true)
  ((YZ n G.From 0 1439).bind fun r4 =>
  cond (!r4)
   (some true)
   ((YZ n G.To (wi (G.From+1)) 1440).bind fun r6 =>
   cond (!r6)
    (some true)
    ((YZ n G.Days 1 7).bind fun r8 =>
    some (!r8))))).bind fun j1 =>
 cond j1
  (some false)
  (((Vp n G.Kind).bind fun ac =>
  cond ac
   (cond (!Qp G.From 0)
    (some true)
    (cond (!Qp G.To 1440)
     (some true)
     (some (!Qp G.Days 7))))
   (some false)).bind fun j9 =>
  cond j9
   (some false)
   ((cond (Qp G.Kind 6)
    (some 10000)
    (some 1000000)).bind fun Z =>
   (YZ n G.Price 0 Z).bind fun Y =>
   cond (!Y)
    (some false)
    ((YY n G.Kind).bind fun J =>
    cond J
     (((YZ n G.Unit 1 1440).bind fun aa =>
     cond aa
      ((YZ n G.Free 0 1440).bind fun O =>
      some O)
      (some false)).bind fun ab =>
     some ab)
     (cond (Qp G.Unit 0)
      (some (Qp G.Free 0))
      (some false)))))
def IQ:=fun G=>([(1, .box 183 (YE (QT.cs G)))]:List (Nat × Blk))
theorem J2 (n:Nat) (G:QT):∀ r,K7 n G=some r→QC Tryz.prog 86 [ag (QT.cs G)] (.ret (B r)):=by
 refine Qj Tryz.func86 rfl Tryz.ntmps86 rfl ?_;unfold K7;refine Qf Qd ⟨[qq 1],IQ G⟩ (sS (KQ (fun j1=>⟨[qq 1,(28,B j1)],IQ G⟩:Bool→St) ?_ ?_))
 ·refine sG (xR 2 ?_);refine xC [] (VG n G.Kind 1 6) QF (fun r2=>?_);refine xR 2 (xS (!r2) (fun h3=>xN (Qy h3) (xR 19 (xE (QS true)))) (fun h3=>xO (Qw h3) (xR 1 ?_)));refine xC [] (VG n G.From 0 1439) QF (fun r4=>?_);refine xR 3 (xS (!r4) (fun h5=>xN (Qy h5) (xR 13 (xE (QS true)))) (fun h5=>xO (Qw h5) (xR 4 ?_)));refine xC [] (VG n G.To (wi (G.From+1)) 1440) QF (fun r6=>?_);refine xR 3 (xS (!r6) (fun h7=>xN (Qy h7) (xR 4 (xE (QS true)))) (fun h7=>xO (Qw h7) (xR 1 ?_)));refine xC [] (VG n G.Days 1 7) QF (fun r8=>?_);exact xR 2 (xE (QS (!r8)))
 rintro j1;refine sC j1 (Qf Qd ⟨[(2,B false)],[]⟩ (sT (QB (qR (.id))))) (sK (Ql ⟨[qq 1],IQ G⟩ (sS (KQ (fun j9=>⟨[qq 1,(46,B j9)],IQ G⟩:Bool→St) ?_ ?_))))
 ·refine sG (xR 2 ?_);refine xC [] (BC n G.Kind) QF (fun ah=>?_);exact xR 1 (xS ah (fun Y=>xO (Qv Y) (xR 3 (xS (!Qp G.From 0) (fun aa=>xN (Qy aa) (xR 9 (xE (QS true)))) (fun aa=>xO (Qw aa) (xR 4 (xS (!Qp G.To 1440) (fun ab=>xN (Qy ab) (xR 4 (xE (QS true)))) (fun ab=>xO (Qw ab) (xR 4 (xE (QS (!Qp G.Days 7))))))))))) (fun Y=>xN (Qx Y) (xR 13 (xE (QS false)))))
 rintro j9;refine sC j9 (Qf Qd ⟨[(2,B false)],[]⟩ (sT (QB (qR (.id))))) (sK (Ql ⟨[qq 1],IQ G⟩ (Qf Qd ⟨[qq 1,(3,I 1000000)],IQ G⟩ (KQ (fun Z=>⟨[qq 1,(3,I Z)],IQ G⟩:Int→St) (Qf Qd ⟨[qq 1,(3,I 1000000),(49,B (Qp G.Kind 6))],IQ G⟩ (sC (Qp G.Kind 6) (sL Qd (QS 10000)) (sK (QS 1000000)))) ?_))));rintro Z;refine sS (sS (sG (xR 3 ?_)));refine xC [] (VG n G.Price 0 Z) QF (fun ad=>?_);refine xR 1 (xE (Ql ⟨[qq 1,(54,B (!ad))],IQ G⟩ (sC (!ad) (Qf Qd ⟨[(2,B false)],[]⟩ (sT (QB (qR (.id))))) (sK (Ql ⟨[qq 1],IQ G⟩ (sS (sS (sG (xR 2 ?_)))))))));refine xC [] (Rk n G.Kind) QF (fun ac=>?_);refine xE (Ql ⟨[qq 1,(57,B ac)],IQ G⟩ (sC ac (KQ (fun ae=>⟨[(2,B ae)],[]⟩:Bool→St) ?_ ?_) (sK (Ql ⟨[qq 1],IQ G⟩ (sS (sG (xR 4 (xS (Qp G.Unit 0) (fun O=>xO (Qv O) (xR 4 (xE (Ql ⟨[(2,B (Qp G.Free 0))],[]⟩ (sT (qR (.id))))))) (fun O=>xN (Qx O) (xR 4 (xE (Ql ⟨[(2,B false)],[]⟩ (sT (qR (.id)))))))))))))))
 ·refine sG (xR 2 ?_);refine xC [] (VG n G.Unit 1 1440) QF (fun af=>?_);refine xR 1 (xS af (fun J=>?_) (fun J=>?_))
  ·refine xO (Qv J) (xR 1 ?_);refine xC [] (VG n G.Free 0 1440) QF (fun ai=>?_);exact xR 2 (xE (QS ai))
  exact xN (Qx J) (xR 4 (xE (QS false)))
 rintro ae;exact sT (QB (qR (.id)))
def Ki (n:Nat) (J:GN) (Y:((List QT) × Bool × Int)→Option ((List QT) × Zw)) (G:List QT) (aa:Bool) (O:Int):Option ((List QT) × Zw) :=
 cond (Qs O (Qb (List.map Zq J.Kids)))
  ((Option.bind (QU J.Kids O) GN.of).bind fun x2 =>
  cond (Qp x2.Kind 3)
   (some ([],(⟨9,x2.At⟩:Zw)))
   (cond (Qp (Qb (List.map QT.cs G)) 12)
    (some ([],(⟨2,x2.At⟩:Zw)))
    ((H9 n x2).bind fun Z =>
    cond (!Z.2)
     (some ([],(⟨9,x2.At⟩:Zw)))
     ((K7 n Z.1).bind fun r4 =>
     cond (!r4)
      (some ([],(⟨3,x2.At⟩:Zw)))
      ((cond (Qp Z.1.Kind 6)
       (some aa)
       (some false)).bind fun j5 =>
      cond j5
       (some ([],(⟨5,x2.At⟩:Zw)))
       (cond aa
        (cond (QK (List.length (G++[Z.1])) 56) (
         Y (G++[Z.1],true,wi (O+1))) none)
        (cond (QK (List.length (G++[Z.1])) 56) (
         Y (G++[Z.1],Qp Z.1.Kind 6,wi (O+1))) none)))))))
  (some (G,(⟨0,0⟩:Zw)))
def Vq (n:Nat) (G:GN):Option ((List QT) × Zw) :=
 Qn (fun J (O,Z,Y)=>Ki n G J O Z Y) n ([],false,0)
def Qhj:=fun G=>([(1, .box 25 (YE (GN.cs G))),(3, .box 81 [I 0,I 0])]:List (Nat × Blk))
def Qi3:=fun G=>([(3, .ptr 3 0),(4, .p (.val (.slice none 0 0))),(5,B false),(11, .p (.sl 5 (List.map Zq (GN.Kids G)))),(12,I (Qb (List.map Zq (GN.Kids G)))),(13,I 0)]:List (Nat × AV))
def pM:=fun G J=>([(3, .box 81 [I G,I J])]:List (Nat × Blk))
def Qeu:=fun J O G Y=>([(3, .ptr 3 0),(4, .tsl 7 (List.map QT.cs J) 66),(5,B O),(11, .p (.sl 5 (List.map Zq (GN.Kids G)))),(12,I (Qb (List.map Zq (GN.Kids G)))),(13,I Y)]:List (Nat × AV))
def Qev:=fun G=>(.arr 183 7 (List.map QT.cs G).length:Blk)
def pO:=fun G=>([(3, .box 81 [I 0,I 0]),(66,(Qev G))]:List (Nat × Blk))
def Qhk:=fun J O G Y=>([(3, .ptr 3 0),(4, .tsl 7 (List.map QT.cs J) 66),(5,B O),(7, .ptr 7 0),(11, .p (.sl 5 (List.map Zq (GN.Kids G)))),(12,I (Qb (List.map Zq (GN.Kids G)))),(13,I Y)]:List (Nat × AV))
def QbH:=fun G J=>([(3, .box 81 [I 0,I 0]),(7, .box 25 (YE (GN.cs G))),(66,(Qev J))]:List (Nat × Blk))
def QbI:List (Nat × AV):=[(2, .p (.val (.slice none 0 0))),(3, .ptr 3 0)]
def Qew:=fun J O G=>([(3, .box 81 [I 0,I 0]),(7, .box 25 (YE (GN.cs J))),(8, .box 183 (YE (QT.cs O))),(66,(Qev G))]:List (Nat × Blk))
def Qhl:=fun J O G Y=>([(3, .ptr 3 0),(4, .tsl 7 (List.map QT.cs J) 66),(5,B O),(8, .ptr 8 0),(11, .p (.sl 5 (List.map Zq (GN.Kids G)))),(12,I (Qb (List.map Zq (GN.Kids G)))),(13,I Y)]:List (Nat × AV))
def Qhm:=fun G J=>([(3, .box 81 [I 0,I 0]),(8, .box 183 (YE (QT.cs G))),(66,(Qev J))]:List (Nat × Blk))
theorem IR (n:Nat) (G:GN):∀ r,Vq n G=some r→QC Tryz.prog 35 [ag (GN.cs G)] (.ret (.tup [.p (.sl 7 (Y3 r.1)),ag (Zw.cs r.2)])):=by
 refine Qj Tryz.func35 rfl Tryz.ntmps35 rfl ?_;unfold Vq;refine Qf Qd ⟨[qq 1,qq 3],Qhj G⟩ (Qf Qd ⟨[qq 1,qq 3,(4,zS)],Qhj G⟩ (Qf Qd ⟨[qq 1,qq 3,(4,zS),(5,B false)],Qhj G⟩ (sS (Qf Qd ⟨Qi3 G,pM 0 0⟩ (sB (Pe ⟨Qi3 G,pM 0 0⟩ (KF (Yr 183 7 66 [4] []) (QG (fun (J,Y,O)=>⟨Qeu J Y G O,pO J⟩:((List QT) × Bool × Int)→St) (Gm) ?_))))))));rintro aa ⟨J,Y,O⟩;show QP (Ki n G aa J Y O) _ _ _ _ _ _;unfold Ki;refine Qf Qd ⟨[qq 3,(4, .tsl 7 (Y3 J) 66),(5,B Y),(11, .p (.sl 5 (mI G.Kids))),(12,I (Qb (mI G.Kids))),(13,I O),(14,B (Qs O (Qb (mI G.Kids))))],pO J⟩ (sS (sC (Qs O (Qb (mI G.Kids))) (sK (Ql ⟨Qeu J Y G O,pO J⟩ (sS (sB (sS (sG (xG (Yg (e:=25) (S:=5) (enc:=GN.cs) (dec:=GN.of) (l:=G.Kids) (k:=.i64) (n:=O) (sv:=.p (.sl 5 (mI G.Kids))) GN.of_cs rfl Qc Qc Qc Qc Qc) (fun x2=>xR 3 (xE (Ql ⟨Qhk J Y G O,QbH x2 J⟩ (sS (Qf Qd ⟨[qq 3,(4, .tsl 7 (Y3 J) 66),(5,B Y),qq 7,(11, .p (.sl 5 (mI G.Kids))),(12,I (Qb (mI G.Kids))),(13,I O),(19,B (Qp x2.Kind 3))],QbH x2 J⟩ (sC (Qp x2.Kind 3) (Qf Qd ⟨QbI,pM 9 x2.At⟩ (sT (QB (Q4 (QB (V9 (Q4 (QB (qR (.agg [.sl 7, .id])))))))))) (sK (Ql ⟨Qhk J Y G O,QbH x2 J⟩ (sS (Qf Qd ⟨[qq 3,(4, .tsl 7 (Y3 J) 66),(5,B Y),qq 7,(11, .p (.sl 5 (mI G.Kids))),(12,I (Qb (mI G.Kids))),(13,I O),(25,B (Qp (Qb (Y3 J)) 12))],QbH x2 J⟩ (sC (Qp (Qb (Y3 J)) 12) (Qf Qd ⟨QbI,pM 2 x2.At⟩ (sT (QB (Q4 (QB (V9 (Q4 (QB (qR (.agg [.sl 7, .id])))))))))) (sK (Ql ⟨Qhk J Y G O,QbH x2 J⟩ (sS (sG (xR 1 ?_))))))))))))))))))))))) (Qt (ZR (Yw (QM (Ql ⟨[qq 3,(4, .tsl 7 (Y3 J) 66)],pO J⟩ (Qf Qd ⟨[(2, .tsl 7 (Y3 J) 66),qq 3],pO J⟩ (sT (qR (.agg [.sl 7, .id])))))))))));refine xC [] (gH n x2) QF (fun Z=>?_);refine xR 6 (xE (Ql ⟨[qq 3,(4, .tsl 7 (Y3 J) 66),(5,B Y),qq 7,qq 8,(9,B Z.2),(11, .p (.sl 5 (mI G.Kids))),(12,I (Qb (mI G.Kids))),(13,I O)],Qew x2 Z.1 J⟩ (sS (sB (Qf Qd ⟨[qq 3,(4, .tsl 7 (Y3 J) 66),(5,B Y),qq 7,qq 8,(11, .p (.sl 5 (mI G.Kids))),(12,I (Qb (mI G.Kids))),(13,I O),(34,B (!Z.2))],Qew x2 Z.1 J⟩ (sC (!Z.2) (Qf Qd ⟨QbI,pM 9 x2.At⟩ (sT (Q4 (QB (Q4 (QB (V9 (Q4 (QB (qR (.agg [.sl 7, .id]))))))))))) (sS (sG (xR 1 ?_)))))))));refine xC [] (J2 n Z.1) QF (fun r4=>?_);refine xR 2 (xE (Ql ⟨[qq 3,(4, .tsl 7 (Y3 J) 66),(5,B Y),qq 7,qq 8,(11, .p (.sl 5 (mI G.Kids))),(12,I (Qb (mI G.Kids))),(13,I O),(40,B (!r4))],Qew x2 Z.1 J⟩ (sC (!r4) (Qf Qd ⟨QbI,pM 3 x2.At⟩ (sT (Q4 (QB (Q4 (QB (V9 (Q4 (QB (qR (.agg [.sl 7, .id]))))))))))) (KQ (fun j5=>⟨[qq 3,(4, .tsl 7 (Y3 J) 66),(5,B Y),qq 7,qq 8,(11, .p (.sl 5 (mI G.Kids))),(12,I (Qb (mI G.Kids))),(13,I O),(47,B j5)],Qew x2 Z.1 J⟩:Bool→St) (sG (xR 4 (xS (Qp Z.1.Kind 6) (fun h6=>xO (Qv h6) (xR 2 (xE (QS Y)))) (fun h6=>xN (Qx h6) (xR 2 (xE (QS false))))))) ?_))));rintro j5;exact sC j5 (Qf Qd ⟨QbI,pM 5 x2.At⟩ (sT (Q4 (QB (Q4 (QB (V9 (Q4 (QB (qR (.agg [.sl 7, .id]))))))))))) (sK (QR (Ql ⟨Qhl J Y G O,Qhm Z.1 J⟩ (sS (sG (xR 2 (xS Y (fun h7=>xN (Qy h7) (xR 4 (xE (Ql ⟨Qhl J true G O,Qhm Z.1 J⟩ (sG (xR 3 (xF (Y1 (e:=183) (S:=7) (by_:=56) (enc:=QT.cs) (tk:=66) (l:=J) (l2:=[Z.1]) (xv:=.tsl 7 (Y3 [Z.1]) 65) rfl Qc Qc rfl Qc Qc Qc rfl Qc) (xR 1 (xE (QR (Ql ⟨Qeu (J++[Z.1]) true G O,pO (J++[Z.1])⟩ (sL Qd (KW (J++[Z.1],true,wi (O+1))))))))))))))) (fun h7=>xO (Qw h7) (xR 4 (xE (Ql ⟨Qhl J (Qp Z.1.Kind 6) G O,Qhm Z.1 J⟩ (sG (xR 3 (xF (Y1 (e:=183) (S:=7) (by_:=56) (enc:=QT.cs) (tk:=66) (l:=J) (l2:=[Z.1]) (xv:=.tsl 7 (Y3 [Z.1]) 65) rfl Qc Qc rfl Qc Qc Qc rfl Qc) (xR 1 (xE (QR (Ql ⟨Qeu (J++[Z.1]) (Qp Z.1.Kind 6) G O,pO (J++[Z.1])⟩ (sL Qd (KW (J++[Z.1],Qp Z.1.Kind 6,wi (O+1))))))))))))))))))))))
def WA (n:Nat) (ae:GN) (aa:((List Ky) × (List Zw) × Int × Int × (List ((List UInt8) × Bool)))→Option ((List Ky) × (List Zw))) (J:List Ky) (G:List Zw) (Y:Int) (O:Int) (ab:List ((List UInt8) × Bool)):Option ((List Ky) × (List Zw)) :=
 cond (Qs O (Qb (List.map Zq ae.Kids)))
  ((Option.bind (QU ae.Kids O) GN.of).bind fun x4 =>
  cond (!Qp x4.N 7)
   (aa (J,G,Y,wi (O+1),ab))
   ((cond (Bt Y4 x4.Name false ab)
    (some ([],5,x4.At))
    (cond (leI 8 Y)
     (some ([],2,x4.At))
     ((Vq n x4).bind fun r6 =>
     some (r6.1,r6.2.Err,r6.2.At)))).bind fun (ad,Z,ac) =>
   (cond (!Qp Z 0)
    (cond (QK (List.length (G++[(⟨Z,ac⟩:Zw)])) 16) (
     some (G++[(⟨Z,ac⟩:Zw)])) none)
    (some G)).bind fun j7 =>
   cond (Qp (Qb (List.map Zw.cs j7)) 20)
    (some (J,j7))
    (cond (QK (List.length (J++[(⟨x4.Name,ad⟩:Ky)])) 40) (
     aa (J++[(⟨x4.Name,ad⟩:Ky)],j7,wi (Y+1),wi (O+1),FW Y4 x4.Name true ab)) none)))
  (some (J,G))
def YR (n:Nat) (ac:GN):Option ((List Ky) × (List Zw)) :=
 (WV n ac).bind fun r1 =>
 cond (!r1)
  (some ([],[(⟨1,0⟩:Zw)]))
  ((Qn (fun J (Y,O,Z,ad,ab)=>WA n ac J Y O Z ad ab) n ([],[],0,0,[])).bind fun (aa,G) =>
  cond (Qs 0 (Qb (List.map Zw.cs G)))
   (some ([],G))
   (some (aa,[])))
def Qi4:=fun G=>([(1, .box 25 (YE (GN.cs G))),(17, .mp (ze Dc Df []))]:List (Nat × Blk))
def jm:=fun G=>(.arr 59 2 (List.map Ky.cs G).length:Blk)
def Qi5:=fun G=>([(4, .p (.val (.slice none 0 0))),(5, .p (.val (.slice none 0 0))),(6, .mv 17),(7,I 0),(19, .p (.sl 5 (List.map Zq (GN.Kids G)))),(20,I (Qb (List.map Zq (GN.Kids G)))),(21,I 0)]:List (Nat × AV))
def Qi6:List (Nat × Blk):=[(17, .mp (ze Dc Df []))]
def Qex:=fun O Z J G Y=>([(4, .tsl 2 (List.map Ky.cs O) 68),(5, .tsl 2 (List.map Zw.cs Z) 58),(6, .mv 17),(7,I J),(19, .p (.sl 5 (List.map Zq (GN.Kids G)))),(20,I (Qb (List.map Zq (GN.Kids G)))),(21,I Y)]:List (Nat × AV))
def Qey:=fun J O G=>([(17, .mp (ze Dc Df J)),(58,(XB O)),(68,(jm G))]:List (Nat × Blk))
def Qi7:=fun O Z J G Y=>([(4, .tsl 2 (List.map Ky.cs O) 68),(5, .tsl 2 (List.map Zw.cs Z) 58),(6, .mv 17),(7,I J),(9, .ptr 9 0),(19, .p (.sl 5 (List.map Zq (GN.Kids G)))),(20,I (Qb (List.map Zq (GN.Kids G)))),(21,I Y)]:List (Nat × AV))
def Qez:=fun J O G Y=>([(9, .box 25 (YE (GN.cs J))),(17, .mp (ze Dc Df O)),(58,(XB G)),(68,(jm Y))]:List (Nat × Blk))
def pQ:=fun J Z G x3 Y O=>([(9, .box 25 (YE (GN.cs J))),(11, .box 81 [I Z,I G]),(17, .mp (ze Dc Df x3)),(58,(XB Y)),(68,(jm O))]:List (Nat × Blk))
def Qhn:=fun O Z J x3 G Y=>([(4, .tsl 2 (List.map Ky.cs O) 68),(5, .tsl 2 (List.map Zw.cs Z) 58),(6, .mv 17),(7,I J),(9, .ptr 9 0),(10, .p (.sl 7 (List.map QT.cs x3))),(11, .ptr 11 0),(19, .p (.sl 5 (List.map Zq (GN.Kids G)))),(20,I (Qb (List.map Zq (GN.Kids G)))),(21,I Y)]:List (Nat × AV))
def Qi8:=fun O Z J x3 G Y=>([(4, .tsl 2 (List.map Ky.cs O) 68),(5, .tsl 2 (List.map Zw.cs Z) 58),(6, .mv 17),(7,I J),(9, .ptr 9 0),(10, .p (.sl 7 (List.map QT.cs x3))),(19, .p (.sl 5 (List.map Zq (GN.Kids G)))),(20,I (Qb (List.map Zq (GN.Kids G)))),(21,I Y)]:List (Nat × AV))
def Qho:=fun J O G Y=>([(9, .box 25 (YE (GN.cs J))),(17, .mp (ze Dc Df O)),(58, .arr 81 2 (List.map Zw.cs G).length),(68,(jm Y))]:List (Nat × Blk))
theorem Dn (n:Nat) (O:GN):∀ r,YR n O=some r→QC Tryz.prog 11 [ag (GN.cs O)] (.ret (.tup [.p (.sl 2 (XX r.1)), .p (.sl 2 (Um r.2))])):=by
 refine Qj Tryz.func11 rfl Tryz.ntmps11 rfl ?_;unfold YR;refine Qf Qd ⟨[qq 1],IP O⟩ (sS (sS (sG (xR 1 ?_))));refine xC [] (Dm n O) QF (fun r1=>?_);refine xR 1 (xE (Ql ⟨[qq 1,(14,B (!r1))],IP O⟩ (sC (!r1) (Qf Qd ⟨[(2,zS),(3, .tsl 2 (Um [(⟨1,0⟩:Zw)]) 16)],[(16,(Qg5 (⟨1,0⟩:Zw)))]⟩ (sT (QB (qR (.agg [.sl 2, .sl 2]))))) (sK (Ql ⟨[qq 1],IP O⟩ (Qf Qd ⟨[qq 1,(4,zS)],IP O⟩ (Qf Qd ⟨[qq 1,(4,zS),(5,zS)],IP O⟩ (sS (sG (kF (QgK (d:=17) (rsv:=none) rfl rfl Qc) (xR 1 (xE (Ql ⟨[qq 1,(4,zS),(5,zS),(6, .mv 17)],Qi4 O⟩ (Qf Qd ⟨[qq 1,(4,zS),(5,zS),(6, .mv 17),(7,I 0)],Qi4 O⟩ (KQ (fun (ae,ad)=>⟨[(4, .tsl 2 (XX ae) 68),(5, .tsl 2 (Um ad) 58)],[(58,(XB ad)),(68,(jm ae))]⟩:((List Ky) × (List Zw))→St) ?_ ?_)))))))))))))));rotate_left
 ·rintro ⟨ae,ad⟩;exact sS (Qf Qd ⟨[(4, .tsl 2 (XX ae) 68),(5, .tsl 2 (Um ad) 58),(72,B (Qs 0 (Qb (Um ad))))],[(58,(XB ad)),(68,(jm ae))]⟩ (sC (Qs 0 (Qb (Um ad))) (Qf Qd ⟨[(2,zS),(3, .tsl 2 (Um ad) 58)],[(58,(XB ad))]⟩ (sT (QB (qR (.agg [.sl 2, .sl 2]))))) (sK (Ql ⟨[(4, .tsl 2 (XX ae) 68)],[(68,(jm ae))]⟩ (Qf Qd ⟨[(2, .tsl 2 (XX ae) 68),(3,zS)],[(68,(jm ae))]⟩ (sT (qR (.agg [.sl 2, .sl 2]))))))))
 refine Qf Qd ⟨Qi5 O,Qi6⟩ (sB (Pe ⟨Qi5 O,Qi6⟩ (KF (Weak.trans (Yr 81 2 58 [5] []) (Yr 59 2 68 [4] [])) (QG (fun (G,J,aa,Z,Y)=>⟨Qex G J aa O Z,Qey Y J G⟩:((List Ky) × (List Zw) × Int × Int × (List ((List UInt8) × Bool)))→St) (Gm) ?_))));rintro ah ⟨G,J,aa,Z,Y⟩;show QP (WA n O ah G J aa Z Y) _ _ _ _ _ _;unfold WA;refine Qf Qd ⟨[(4, .tsl 2 (XX G) 68),(5, .tsl 2 (Um J) 58),(6, .mv 17),(7,I aa),(19, .p (.sl 5 (mI O.Kids))),(20,I (Qb (mI O.Kids))),(21,I Z),(22,B (Qs Z (Qb (mI O.Kids))))],Qey Y J G⟩ (sS (sC (Qs Z (Qb (mI O.Kids))) (sK (Ql ⟨Qex G J aa O Z,Qey Y J G⟩ (sS (sB (sS (sG (xG (Yg (e:=25) (S:=5) (enc:=GN.cs) (dec:=GN.of) (l:=O.Kids) (k:=.i64) (n:=Z) (sv:=.p (.sl 5 (mI O.Kids))) GN.of_cs rfl Qc Qc Qc Qc Qc) (fun x4=>xR 3 (xE (Ql ⟨Qi7 G J aa O Z,Qez x4 Y J G⟩ (sS (Qf Qd ⟨[(4, .tsl 2 (XX G) 68),(5, .tsl 2 (Um J) 58),(6, .mv 17),(7,I aa),qq 9,(19, .p (.sl 5 (mI O.Kids))),(20,I (Qb (mI O.Kids))),(21,I Z),(27,B (!Qp x4.N 7))],Qez x4 Y J G⟩ (sC (!Qp x4.N 7) (Qt (ZR (QM (Ql ⟨Qex G J aa O Z,Qey Y J G⟩ (sL Qd (KW (G,J,aa,wi (Z+1),Y))))))) (sK (Ql ⟨Qi7 G J aa O Z,Qez x4 Y J G⟩ (Qf Qd ⟨[(4, .tsl 2 (XX G) 68),(5, .tsl 2 (Um J) 58),(6, .mv 17),(7,I aa),qq 9,(10,zS),(19, .p (.sl 5 (mI O.Kids))),(20,I (Qb (mI O.Kids))),(21,I Z)],Qez x4 Y J G⟩ (Qf Qd ⟨[(4, .tsl 2 (XX G) 68),(5, .tsl 2 (Um J) 58),(6, .mv 17),(7,I aa),qq 9,(10,zS),qq 11,(19, .p (.sl 5 (mI O.Kids))),(20,I (Qb (mI O.Kids))),(21,I Z)],pQ x4 0 0 Y J G⟩ (KQ (fun (ab,ac,af)=>⟨Qhn G J aa ab O Z,pQ x4 ac af Y J G⟩:((List QT) × Int × Int)→St) ?_ ?_)))))))))))))))))) (Qt (ZR (Yw (QM (QS (G,J))))))))
 ·refine sB (sS (sG (xR 3 ?_)));refine kF (Qbj (kt:=9) (e:=4) (ke:=Dc) (ve:=Df) (eq:=Y4) (b:=17) (m:=Y) (k:=x4.Name) (z0:=false) rfl Qc Qc Qc Qc Qc QF (fun _ _=>uY rfl _ _) Qc) ?_;refine xR 1 (xE (Ql ⟨[(4, .tsl 2 (XX G) 68),(5, .tsl 2 (Um J) 58),(6, .mv 17),(7,I aa),qq 9,(10,zS),qq 11,(19, .p (.sl 5 (mI O.Kids))),(20,I (Qb (mI O.Kids))),(21,I Z),(33,B (Bt Y4 x4.Name false Y))],pQ x4 0 0 Y J G⟩ (sC (Bt Y4 x4.Name false Y) (sL Qd (QR (Qa2 ([],5,x4.At) ⟨[4,5,6,7,9,10,11,19,20,21],[9,11,17,58,68],[(10, .sl 7)],[]⟩ Qc))) (Qf Qd ⟨[(4, .tsl 2 (XX G) 68),(5, .tsl 2 (Um J) 58),(6, .mv 17),(7,I aa),qq 9,(10,zS),qq 11,(19, .p (.sl 5 (mI O.Kids))),(20,I (Qb (mI O.Kids))),(21,I Z),(41,B (leI 8 aa))],pQ x4 0 0 Y J G⟩ (sC (leI 8 aa) (sL Qd (QR (Qa2 ([],2,x4.At) ⟨[4,5,6,7,9,10,11,19,20,21],[9,11,17,58,68],[(10, .sl 7)],[]⟩ Qc))) (sG (xR 1 ?_)))))));refine xC [] (IR n x4) QF (fun r6=>?_);exact xR 5 (xE (QR (QS (r6.1,r6.2.Err,r6.2.At))))
 rintro ⟨ab,ac,af⟩;refine sS (sG (xR 3 ?_));refine kF (Qbk (kt:=9) (e:=4) (ke:=Dc) (ve:=Df) (eq:=Y4) (b:=17) (m:=Y) (k:=x4.Name) (v:=true) rfl Qc Qc Qc Qc Qc Qc QF (fun _ _=>uY rfl _ _)) ?_;refine xE (Ql ⟨Qhn G J aa ab O Z,pQ x4 ac af (FW Y4 x4.Name true Y) J G⟩ (Qf Qd ⟨Qhn G J (wi (aa+1)) ab O Z,pQ x4 ac af (FW Y4 x4.Name true Y) J G⟩ (KQ (fun j7=>⟨Qi8 G j7 (wi (aa+1)) ab O Z,Qho x4 (FW Y4 x4.Name true Y) j7 G⟩:(List Zw)→St) (Qf Qd ⟨[(4, .tsl 2 (XX G) 68),(5, .tsl 2 (Um J) 58),(6, .mv 17),(7,I (wi (aa+1))),qq 9,(10, .p (.sl 7 (Y3 ab))),qq 11,(19, .p (.sl 5 (mI O.Kids))),(20,I (Qb (mI O.Kids))),(21,I Z),(54,B (!Qp ac 0))],pQ x4 ac af (FW Y4 x4.Name true Y) J G⟩ (sC (!Qp ac 0) (sG (xR 3 (xF (Y1 (e:=81) (S:=2) (by_:=16) (enc:=Zw.cs) (tk:=58) (l:=J) (l2:=[(⟨ac,af⟩:Zw)]) (xv:=.tsl 2 (Um [(⟨ac,af⟩:Zw)]) 57) rfl Qc Qc rfl Qc Qc Qc rfl Qc) (xR 1 (xE (QS (J++[(⟨ac,af⟩:Zw)]))))))) (sK (QS J)))) ?_)));rintro j7;exact sS (Qf Qd ⟨[(4, .tsl 2 (XX G) 68),(5, .tsl 2 (Um j7) 58),(6, .mv 17),(7,I (wi (aa+1))),qq 9,(10, .p (.sl 7 (Y3 ab))),(19, .p (.sl 5 (mI O.Kids))),(20,I (Qb (mI O.Kids))),(21,I Z),(61,B (Qp (Qb (Um j7)) 20))],Qho x4 (FW Y4 x4.Name true Y) j7 G⟩ (sC (Qp (Qb (Um j7)) 20) (Qt (ZR (wO rfl (ZR (Yw (QM (QS (G,j7)))))))) (sK (Ql ⟨Qi8 G j7 (wi (aa+1)) ab O Z,Qho x4 (FW Y4 x4.Name true Y) j7 G⟩ (sG (xR 6 (xF (Y1 (e:=59) (S:=2) (by_:=40) (enc:=Ky.cs) (tk:=68) (l:=G) (l2:=[(⟨x4.Name,ab⟩:Ky)]) (xv:=.tsl 2 (XX [(⟨x4.Name,ab⟩:Ky)]) 67) rfl Qc Qc rfl Qc Qc Qc rfl Qc) (xR 1 (xE (QR (Ql ⟨Qex (G++[(⟨x4.Name,ab⟩:Ky)]) j7 (wi (aa+1)) O Z,[(17, .mp (ze Dc Df (FW Y4 x4.Name true Y))),(58,jg j7),(68,(jm (G++[(⟨x4.Name,ab⟩:Ky)])))]⟩ (sL Qd (KW (G++[(⟨x4.Name,ab⟩:Ky)],j7,wi (aa+1),wi (Z+1),FW Y4 x4.Name true Y))))))))))))))
def JO (n:Nat) (Y:Ky) (J:(Int × Int)→Option Bool) (O:Int) (G:Int):Option Bool :=
 cond (Qs G (Qb (List.map QT.cs Y.Articles)))
  ((QU Y.Articles G).bind fun Z =>
  (K7 n Z).bind fun r6 =>
  cond (!r6)
   (some false)
   (cond (Qp Z.Kind 6)
    (J (wi (O+1),wi (G+1)))
    (J (O,wi (G+1)))))
  (some (leI O 1))
def UR (n:Nat) (G:Ky):Option Bool :=
 ((WV n (⟨1,[],0,0,[GN.cs (⟨2,G.Name,3,0,[]⟩:GN)]⟩:GN)).bind fun Z =>
 cond (!Z)
  (some true)
  (some (Qs 12 (Qb (List.map QT.cs G.Articles))))).bind fun j1 =>
 cond j1
  (some false)
  (Qn (fun J (Y,O)=>JO n G J Y O) n (0,0))
def QeA:=fun G=>([(1, .box 59 (YE (Ky.cs G)))]:List (Nat × Blk))
def QbJ:=fun O G J=>([(4,I O),(22, .p (.sl 7 (List.map QT.cs (Ky.Articles G)))),(23,I (Qb (List.map QT.cs (Ky.Articles G)))),(24,I J)]:List (Nat × AV))
def Qi9:=fun O G J=>([(4,I O),(6, .ptr 6 0),(22, .p (.sl 7 (List.map QT.cs (Ky.Articles G)))),(23,I (Qb (List.map QT.cs (Ky.Articles G)))),(24,I J)]:List (Nat × AV))
def Qhp:=fun G=>([(6, .box 183 (YE (QT.cs G)))]:List (Nat × Blk))
abbrev pR (x:Ky):Go.Abs.Blk:=.box 59 (YE (Ky.cs x))
theorem Dp (n:Nat) (G:Ky):∀ r,UR n G=some r→QC Tryz.prog 44 [ag (Ky.cs G)] (.ret (B r)):=by
 refine Qj Tryz.func44 rfl Tryz.ntmps44 rfl ?_;unfold UR;refine Qf Qd ⟨[qq 1],QeA G⟩ (sR Qd ⟨[1,3],[1,3],[],[(3,[.id, .id, .id, .id, .sl 5])]⟩ ⟨[qq 1,qq 3],[(1,pR G),(3,(cu ⟨2,G.Name,3,0,[]⟩))]⟩ Qc (sS (KQ (fun j1=>⟨[qq 1,(20,B j1)],QeA G⟩:Bool→St) ?_ ?_)))
 ·refine sG (xR 3 ?_);refine xC [.agg [.id, .id, .id, .id, .sl 5]] (Dm n (⟨1,[],0,0,[GN.cs (⟨2,G.Name,3,0,[]⟩:GN)]⟩:GN)) QF (fun r2=>?_);exact xR 2 (xS (!r2) (fun h3=>xN (Qy h3) (xR 4 (xE (QS true)))) (fun h3=>xO (Qw h3) (xR 4 (xE (QS (Qs 12 (Qb (Y3 G.Articles))))))))
 rintro j1;refine sC j1 (Qf Qd ⟨[(2,B false)],[]⟩ (sT (QB (qR (.id))))) (sK (Ql ⟨[qq 1],QeA G⟩ (Qf Qd ⟨[qq 1,(4,I 0)],QeA G⟩ (sS (Qf Qd ⟨QbJ 0 G 0,[]⟩ (sB (QG (fun (O,J)=>⟨QbJ O G J,[]⟩:(Int × Int)→St) (Gm) ?_)))))));rintro Y ⟨O,J⟩;show QP (JO n G Y O J) _ _ _ _ _ _;unfold JO;refine Qf Qd ⟨[(4,I O),(22, .p (.sl 7 (Y3 G.Articles))),(23,I (Qb (Y3 G.Articles))),(24,I J),(25,B (Qs J (Qb (Y3 G.Articles))))],[]⟩ (sS (sC (Qs J (Qb (Y3 G.Articles))) (sK (Ql ⟨QbJ O G J,[]⟩ (sS (sB (sS (sG (xG (ZA (e:=183) (S:=7) (enc:=QT.cs) (l:=G.Articles) (k:=.i64) (n:=J) (sv:=.p (.sl 7 (Y3 G.Articles))) rfl Qc Qc Qc Qc Qc) (fun Z=>xR 3 (xE (Ql ⟨Qi9 O G J,Qhp Z⟩ (sS (sS (sG (xR 1 ?_)))))))))))))) (Qt (ZR (Yw (QM (Ql ⟨[(4,I O)],[]⟩ (Qf Qd ⟨[(2,B (leI O 1))],[]⟩ (sT (qR (.id)))))))))));refine xC [] (J2 n Z) QF (fun r6=>?_);exact xR 1 (xE (Ql ⟨[(4,I O),qq 6,(22, .p (.sl 7 (Y3 G.Articles))),(23,I (Qb (Y3 G.Articles))),(24,I J),(30,B (!r6))],Qhp Z⟩ (sC (!r6) (Qf Qd ⟨[(2,B false)],[]⟩ (sT (QB (Q4 (QB (V9 (Q4 (QB (qR (.id)))))))))) (sK (Ql ⟨Qi9 O G J,Qhp Z⟩ (Qf Qd ⟨[(4,I O),(22, .p (.sl 7 (Y3 G.Articles))),(23,I (Qb (Y3 G.Articles))),(24,I J),(33,B (Qp Z.Kind 6))],[]⟩ (sC (Qp Z.Kind 6) (sL Qd (QR (Ql ⟨QbJ (wi (O+1)) G J,[]⟩ (sL Qd (KW (wi (O+1),wi (J+1))))))) (sK (QR (Ql ⟨QbJ O G J,[]⟩ (sL Qd (KW (O,wi (J+1))))))))))))))
def YJ (n:Nat) (O:Int) (J:Int) (G:Int):Option Bool :=
 cond (leI J O)
  (some (leI O G))
  (some false)
theorem JP (n:Nat) (O:Int) (J:Int) (G:Int):∀ r,YJ n O J G=some r→QC Tryz.prog 93 [I O,I J,I G] (.ret (B r)):=by
 refine Qj Tryz.func93 rfl Tryz.ntmps93 rfl ?_;unfold YJ;exact Qf Qd (Qhi O J G) (sS (sG (xR 4 (xS (leI J O) (fun Y=>xO (Qv Y) (xR 4 (xE (Ql ⟨[(6,B (leI O G))],[]⟩ (sT (qR (.id))))))) (fun Y=>xN (Qx Y) (xR 4 (xE (Ql ⟨[(6,B false)],[]⟩ (sT (qR (.id)))))))))))
def WW (n:Nat) (G:XN):Option Int :=
 some G.At
abbrev cB (x:XN):Go.Abs.Blk:=.box 199 (YE (XN.cs x))
theorem UT (n:Nat) (G:XN):∀ r,WW n G=some r→QC Tryz.prog 162 [ag (XN.cs G)] (.ret (I r)):=by
 refine Qj Tryz.func162 rfl Tryz.ntmps162 rfl ?_;unfold WW;exact Qf Qd ⟨[qq 1],[(1,cB G)]⟩ (Qf Qd ⟨[(2,I G.At)],[]⟩ (sT (qR (.id))))
def K8 (n:Nat) (G:List XN) (O:Int) (Y:(Int × Int)→Option Bool) (Z:Int) (J:Int):Option Bool :=
 cond (Qs J (Qb (List.map XN.cs G)))
  ((QU G J).bind fun x2 =>
  (WW n x2).bind fun r3 =>
  (cond (leI r3 Z)
   (some true)
   (some (Qs O r3))).bind fun j4 =>
  cond j4
   (some false)
   ((WW n x2).bind fun r6 =>
   Y (r6,wi (J+1))))
  (some true)
def WM (n:Nat) (G:List XN) (J:Int):Option Bool :=
 Qn (fun O (Y,Z)=>K8 n G J O Y Z) n ((-1),0)
def QeB:=fun J O G Y=>([(1,I J),(2, .p (.val (.func (.func 162) #[] #[]))),(7,I O),(11, .p (.sl 2 (List.map XN.cs G))),(12,I (Qb (List.map XN.cs G))),(13,I Y)]:List (Nat × AV))
def QeC:=fun G=>([(9, .box 199 (YE (XN.cs G)))]:List (Nat × Blk))
theorem Pm (n:Nat) (G:List XN) (J:Int):∀ r,WM n G J=some r→QC Tryz.prog 95 [.p (.sl 2 (Bz G)),I J, .p (.val (.func (.func 162) #[] #[]))] (.ret (B r)):=by
 refine Qj Tryz.func95 rfl Tryz.ntmps95 rfl ?_;unfold WM;refine Qf Qd ⟨[(0, .p (.sl 2 (Bz G))),(1,I J),(2, .p (.val (.func (.func 162) #[] #[])))],[]⟩ (Qf Qd ⟨[(0, .p (.sl 2 (Bz G))),(1,I J),(2, .p (.val (.func (.func 162) #[] #[]))),(7,I (-1))],[]⟩ (sS (Qf Qd ⟨QeB J (-1) G 0,[]⟩ (sB (QG (fun (Y,O)=>⟨QeB J Y G O,[]⟩:(Int × Int)→St) (Gm) ?_)))));rintro Z ⟨Y,O⟩;show QP (K8 n G J Z Y O) _ _ _ _ _ _;unfold K8;refine Qf Qd ⟨[(1,I J),(2, .p (.val (.func (.func 162) #[] #[]))),(7,I Y),(11, .p (.sl 2 (Bz G))),(12,I (Qb (Bz G))),(13,I O),(14,B (Qs O (Qb (Bz G))))],[]⟩ (sS (sC (Qs O (Qb (Bz G))) (sK (Ql ⟨QeB J Y G O,[]⟩ (sS (sB (sS (sG (xG (ZA (e:=199) (S:=2) (enc:=XN.cs) (l:=G) (k:=.i64) (n:=O) (sv:=.p (.sl 2 (Bz G))) rfl Qc Qc Qc Qc Qc) (fun x2=>xR 3 (xE (Ql ⟨[(1,I J),(2, .p (.val (.func (.func 162) #[] #[]))),(7,I Y),qq 9,(11, .p (.sl 2 (Bz G))),(12,I (Qb (Bz G))),(13,I O)],QeC x2⟩ (sS (sS (sG (xR 2 ?_)))))))))))))) (Qt (ZR (Yw (QM (Ql ⟨[],[]⟩ (Qf Qd ⟨[(6,B true)],[]⟩ (sT (qR (.id)))))))))));refine xC [] (UT n x2) QF (fun r3=>?_);refine xR 1 (xE (Ql ⟨[(1,I J),(2, .p (.val (.func (.func 162) #[] #[]))),(7,I Y),qq 9,(10,I r3),(11, .p (.sl 2 (Bz G))),(12,I (Qb (Bz G))),(13,I O)],QeC x2⟩ (KQ (fun j4=>⟨[(1,I J),(2, .p (.val (.func (.func 162) #[] #[]))),qq 9,(11, .p (.sl 2 (Bz G))),(12,I (Qb (Bz G))),(13,I O),(27,B j4)],QeC x2⟩:Bool→St) (sG (xR 4 (xS (leI r3 Y) (fun h5=>xN (Qy h5) (xR 3 (xE (QS true)))) (fun h5=>xO (Qw h5) (xR 3 (xE (QS (Qs J r3)))))))) ?_)));rintro j4;refine sC j4 (Qf Qd ⟨[(6,B false)],[]⟩ (sT (QB (Q4 (QB (V9 (Q4 (QB (qR (.id)))))))))) (sK (Ql ⟨[(1,I J),(2, .p (.val (.func (.func 162) #[] #[]))),qq 9,(11, .p (.sl 2 (Bz G))),(12,I (Qb (Bz G))),(13,I O)],QeC x2⟩ (sG (xR 2 ?_))));refine xC [] (UT n x2) QF (fun r6=>?_);exact xR 1 (xE (QR (Ql ⟨QeB J r6 G O,[]⟩ (sL Qd (KW (r6,wi (O+1)))))))
def WX (n:Nat) (G:Int):Option Int :=
 some G
theorem UU (n:Nat) (G:Int):∀ r,WX n G=some r→QC Tryz.prog 163 [I G] (.ret (I r)):=by
 refine Qj Tryz.func163 rfl Tryz.ntmps163 rfl ?_;unfold WX;exact Qf Qd ⟨[(0,I G)],[]⟩ (Qf Qd ⟨[(2,I G)],[]⟩ (sT (qR (.id))))
def XP (n:Nat) (G:List Int) (O:Int) (Y:(Int × Int)→Option Bool) (Z:Int) (J:Int):Option Bool :=
 cond (Qs J (Qb (List.map ci G)))
  ((QU G J).bind fun x2 =>
  (WX n x2).bind fun r3 =>
  (cond (leI r3 Z)
   (some true)
   (some (Qs O r3))).bind fun j4 =>
  cond j4
   (some false)
   ((WX n x2).bind fun r6 =>
   Y (r6,wi (J+1))))
  (some true)
def BD (n:Nat) (G:List Int) (J:Int):Option Bool :=
 Qn (fun O (Y,Z)=>XP n G J O Y Z) n ((-1),0)
def QeD:=fun J O G Y=>([(1,I J),(2, .p (.val (.func (.func 163) #[] #[]))),(7,I O),(11, .p (.sl 1 (List.map ci G))),(12,I (Qb (List.map ci G))),(13,I Y)]:List (Nat × AV))
theorem gI (n:Nat) (G:List Int) (J:Int):∀ r,BD n G J=some r→QC Tryz.prog 96 [.p (.sl 1 (List.map ci G)),I J, .p (.val (.func (.func 163) #[] #[]))] (.ret (B r)):=by
 refine Qj Tryz.func96 rfl Tryz.ntmps96 rfl ?_;unfold BD;refine Qf Qd ⟨[(0, .p (.sl 1 (List.map ci G))),(1,I J),(2, .p (.val (.func (.func 163) #[] #[])))],[]⟩ (Qf Qd ⟨[(0, .p (.sl 1 (List.map ci G))),(1,I J),(2, .p (.val (.func (.func 163) #[] #[]))),(7,I (-1))],[]⟩ (sS (Qf Qd ⟨QeD J (-1) G 0,[]⟩ (sB (QG (fun (Y,O)=>⟨QeD J Y G O,[]⟩:(Int × Int)→St) (Gm) ?_)))));rintro Z ⟨Y,O⟩;show QP (XP n G J Z Y O) _ _ _ _ _ _;unfold XP;refine Qf Qd ⟨[(1,I J),(2, .p (.val (.func (.func 163) #[] #[]))),(7,I Y),(11, .p (.sl 1 (List.map ci G))),(12,I (Qb (List.map ci G))),(13,I O),(14,B (Qs O (Qb (List.map ci G))))],[]⟩ (sS (sC (Qs O (Qb (List.map ci G))) (sK (Ql ⟨QeD J Y G O,[]⟩ (sS (sB (sS (sG (xG (ZA (e:=3) (S:=1) (enc:=ci) (l:=G) (k:=.i64) (n:=O) (sv:=.p (.sl 1 (List.map ci G))) rfl Qc Qc Qc Qc Qc) (fun x2=>xR 2 (xE (Ql ⟨[(1,I J),(2, .p (.val (.func (.func 163) #[] #[]))),(7,I Y),(9,I x2),(11, .p (.sl 1 (List.map ci G))),(12,I (Qb (List.map ci G))),(13,I O)],[]⟩ (sS (sS (sG (xR 2 ?_)))))))))))))) (Qt (ZR (Yw (QM (Ql ⟨[],[]⟩ (Qf Qd ⟨[(6,B true)],[]⟩ (sT (qR (.id)))))))))));refine xC [] (UU n x2) QF (fun r3=>?_);refine xR 1 (xE (Ql ⟨[(1,I J),(2, .p (.val (.func (.func 163) #[] #[]))),(7,I Y),(9,I x2),(10,I r3),(11, .p (.sl 1 (List.map ci G))),(12,I (Qb (List.map ci G))),(13,I O)],[]⟩ (KQ (fun j4=>⟨[(1,I J),(2, .p (.val (.func (.func 163) #[] #[]))),(9,I x2),(11, .p (.sl 1 (List.map ci G))),(12,I (Qb (List.map ci G))),(13,I O),(27,B j4)],[]⟩:Bool→St) (sG (xR 4 (xS (leI r3 Y) (fun h5=>xN (Qy h5) (xR 3 (xE (QS true)))) (fun h5=>xO (Qw h5) (xR 3 (xE (QS (Qs J r3)))))))) ?_)));rintro j4;refine sC j4 (Qf Qd ⟨[(6,B false)],[]⟩ (sT (QB (Q4 (QB (V9 (Q4 (QB (qR (.id)))))))))) (sK (Ql ⟨[(1,I J),(2, .p (.val (.func (.func 163) #[] #[]))),(9,I x2),(11, .p (.sl 1 (List.map ci G))),(12,I (Qb (List.map ci G))),(13,I O)],[]⟩ (sG (xR 2 ?_))));refine xC [] (UU n x2) QF (fun r6=>?_);exact xR 1 (xE (QR (Ql ⟨QeD J r6 G O,[]⟩ (sL Qd (KW (r6,wi (O+1)))))))
def Y9 (n:Nat) (G:Kn):Option Bool :=
 (WM n G.Changes 52560000).bind fun O =>
 cond O
  ((BD n G.Holidays 36500).bind fun J =>
  some J)
  (some false)
def YB (n:Nat) (J:Kn) (G:Int→Option Bool) (Y:Int):Option Bool :=
 cond (Qs Y (Qb (List.map XN.cs J.Changes)))
  ((QU J.Changes Y).bind fun O =>
  (YJ n O.Offset (-1440) 1440).bind fun Z =>
  cond (!Z)
   (some false)
   (G (wi (Y+1))))
  (Y9 n J)
def YG (n:Nat) (G:Kn):Option Bool :=
 (cond (Qs 16 (Qb (List.map XN.cs G.Changes)))
  (some true)
  (cond (Qs 32 (Qb (List.map ci G.Holidays)))
   (some true)
   ((YJ n G.Offset (-1440) 1440).bind fun O =>
   some (!O)))).bind fun Z =>
 cond Z
  (some false)
  (Qn (fun J Y=>YB n G J Y) n 0)
def IU:=fun G=>([(1, .box 52 (YE (Kn.cs G)))]:List (Nat × Blk))
def Qhq:List (Nat × AV):=[(0, .p (.val (.func (.func 162) #[] #[]))),(1, .p (.val (.func (.func 163) #[] #[])))]
def QeE:=fun G J=>([(1, .ptr 1 0),(24, .p (.sl 2 (List.map XN.cs (Kn.Changes G)))),(25,I (Qb (List.map XN.cs (Kn.Changes G)))),(26,I J)]:List (Nat × AV))
abbrev zx (x:Kn):Go.Abs.Blk:=.box 52 (YE (Kn.cs x))
theorem WN (n:Nat) (G:Kn):∀ r,YG n G=some r→QC Tryz.prog 45 [ag (Kn.cs G)] (.ret (B r)):=by
 refine Qj Tryz.func45 rfl Tryz.ntmps45 rfl ?_;unfold YG;refine Qf Qd ⟨[qq 1],IU G⟩ (sS (KQ (fun j1=>⟨[qq 1,(22,B j1)],IU G⟩:Bool→St) ?_ ?_))
 ·refine sG (xR 5 (xS (Qs 16 (Qb (Bz G.Changes))) (fun h2=>xN (Qy h2) (xR 10 (xE (QS true)))) (fun h2=>xO (Qw h2) (xR 5 (xS (Qs 32 (Qb (List.map ci G.Holidays))) (fun h3=>xN (Qy h3) (xR 4 (xE (QS true)))) (fun h3=>xO (Qw h3) (xR 1 ?_)))))));refine xC [] (JP n G.Offset (-1440) 1440) QF (fun r4=>?_);exact xR 2 (xE (QS (!r4)))
 rintro j1;refine sC j1 (Qf Qd ⟨[(2,B false)],[]⟩ (sT (QB (qR (.id))))) (sK (Ql ⟨[qq 1],IU G⟩ (Yc (fun _=>⟨[qq 1],IU G⟩:Unit→St) (fun _=>Y9 n G) ?_ ?_)))
 ·rintro _;show QP (Y9 n G) _ _ _ _ _ _;unfold Y9;refine sS (sG (GD [] [] [] [] [] Tryz.func94 rfl Tryz.ntmps94 rfl (Qf Qd ⟨[],[]⟩ (Qf Qd ⟨Qhq,[]⟩ (sT (QD (.id) [] [] (.tup [.p (.val (.func (.func 162) #[] #[])), .p (.val (.func (.func 163) #[] #[]))]) (Wh (xR 5 (xE (Ql ⟨[qq 1,(5, .p (.val (.func (.func 162) #[] #[]))),(6, .p (.val (.func (.func 163) #[] #[])))],IU G⟩ (sS (sG (xR 3 ?_)))))))))))));refine xC [] (Pm n G.Changes 52560000) QF (fun r6=>?_);refine xR 1 (xS r6 (fun h7=>?_) (fun h7=>?_))
  ·refine xO (Qv h7) (xR 2 ?_);refine xC [] (gI n G.Holidays 36500) QF (fun r8=>?_);exact xR 2 (xE (Ql ⟨[(2,B r8)],[]⟩ (sT (qR (.id)))))
  exact xN (Qx h7) (xR 5 (xE (Ql ⟨[(2,B false)],[]⟩ (sT (qR (.id))))))
 refine Qf Qd ⟨QeE G 0,IU G⟩ (sB (QG (fun J=>⟨QeE G J,IU G⟩:Int→St) (Gm) ?_));rintro O J;show QP (YB n G O J) _ _ _ _ _ _;unfold YB;refine Qf Qd ⟨[qq 1,(24, .p (.sl 2 (Bz G.Changes))),(25,I (Qb (Bz G.Changes))),(26,I J),(27,B (Qs J (Qb (Bz G.Changes))))],IU G⟩ (sS (sC (Qs J (Qb (Bz G.Changes))) (sK (Ql ⟨QeE G J,IU G⟩ (sS (sB (sS (sG (xG (ZA (e:=199) (S:=2) (enc:=XN.cs) (l:=G.Changes) (k:=.i64) (n:=J) (sv:=.p (.sl 2 (Bz G.Changes))) rfl Qc Qc Qc Qc Qc) (fun Y=>xR 3 (xE (Ql ⟨[qq 1,qq 4,(24, .p (.sl 2 (Bz G.Changes))),(25,I (Qb (Bz G.Changes))),(26,I J)],[(1,zx G),(4,cB Y)]⟩ (sS (sG (xR 2 ?_))))))))))))) (Qt (ZR (Yw (QM (KW (k:=fun _=>Y9 n G) ())))))));refine xC [] (JP n Y.Offset (-1440) 1440) QF (fun Z=>?_);exact xR 1 (xE (Ql ⟨[qq 1,(24, .p (.sl 2 (Bz G.Changes))),(25,I (Qb (Bz G.Changes))),(26,I J),(33,B (!Z))],IU G⟩ (sC (!Z) (Qf Qd ⟨[(2,B false)],[]⟩ (sT (Q4 (QB (V9 (Q4 (V9 (qR (.id))))))))) (sK (QR (Ql ⟨QeE G J,IU G⟩ (sL Qd (KW (wi (J+1))))))))))
def Va (O:YN) (J:(Int × Int)→Option Bool) (Y:Int) (G:Int):Option Bool :=
 cond (Qs G (Qb (List.map HZ.cs O.Slices)))
  ((QU O.Slices G).bind fun Z =>
  (cond (leI Z.Minute Y)
   (some true)
   (cond (leI O.End Z.Minute)
    (some true)
    (cond (Qs Z.Energy 0)
     (some true)
     (some (Qs 10000 Z.Energy))))).bind fun aa =>
  cond aa
   (some false)
   (J (Z.Minute,wi (G+1))))
  (some true)
def JQ (n:Nat) (G:YN):Option Bool :=
 (cond (Qs G.From 0)
  (some true)
  (cond (leI G.To G.From)
   (some true)
   (cond (Qs 2880 (wi (G.To - G.From)))
    (some true)
    (some (Qs 52560000 G.To))))).bind fun j1 =>
 cond j1
  (some false)
  ((cond (Qs G.End G.From)
   (some true)
   (cond (Qs G.To G.End)
    (some true)
    (some (Qs 48 (Qb (List.map HZ.cs G.Slices)))))).bind fun Z =>
  cond Z
   (some false)
   (Qn (fun J (O,Y)=>Va G J O Y) n (wi (G.From - 1),0)))
def zy:=fun G=>([(1, .box 55 (YE (YN.cs G)))]:List (Nat × Blk))
def QeF:=fun O G J=>([(1, .ptr 1 0),(3,I O),(51, .p (.sl 2 (List.map HZ.cs (YN.Slices G)))),(52,I (Qb (List.map HZ.cs (YN.Slices G)))),(53,I J)]:List (Nat × AV))
def Qhr:=fun G J=>([(1, .box 55 (YE (YN.cs G))),(5, .box 207 (YE (HZ.cs J)))]:List (Nat × Blk))
theorem DI (n:Nat) (G:YN):∀ r,JQ n G=some r→QC Tryz.prog 46 [ag (YN.cs G)] (.ret (B r)):=by
 refine Qj Tryz.func46 rfl Tryz.ntmps46 rfl ?_;unfold JQ;refine Qf Qd ⟨[qq 1],zy G⟩ (sS (KQ (fun j1=>⟨[qq 1,(28,B j1)],zy G⟩:Bool→St) (sG (xR 4 (xS (Qs G.From 0) (fun h2=>xN (Qy h2) (xR 18 (xE (QS true)))) (fun h2=>xO (Qw h2) (xR 6 (xS (leI G.To G.From) (fun h3=>xN (Qy h3) (xR 11 (xE (QS true)))) (fun h3=>xO (Qw h3) (xR 7 (xS (Qs 2880 (wi (G.To - G.From))) (fun h4=>xN (Qy h4) (xR 3 (xE (QS true)))) (fun h4=>xO (Qw h4) (xR 3 (xE (QS (Qs 52560000 G.To)))))))))))))) ?_));rintro j1;refine sC j1 (Qf Qd ⟨[(2,B false)],[]⟩ (sT (QB (qR (.id))))) (sK (Ql ⟨[qq 1],zy G⟩ (sS (KQ (fun j5=>⟨[qq 1,(46,B j5)],zy G⟩:Bool→St) (sG (xR 6 (xS (Qs G.End G.From) (fun h6=>xN (Qy h6) (xR 11 (xE (QS true)))) (fun h6=>xO (Qw h6) (xR 6 (xS (Qs G.To G.End) (fun h7=>xN (Qy h7) (xR 4 (xE (QS true)))) (fun h7=>xO (Qw h7) (xR 4 (xE (QS (Qs 48 (Qb (Nr G.Slices))))))))))))) ?_))));rintro j5;refine sC j5 (Qf Qd ⟨[(2,B false)],[]⟩ (sT (QB (qR (.id))))) (sK (Ql ⟨[qq 1],zy G⟩ (Qf Qd ⟨[qq 1,(3,I (wi (G.From - 1)))],zy G⟩ (sS (Qf Qd ⟨QeF (wi (G.From - 1)) G 0,zy G⟩ (sB (QG (fun (O,J)=>⟨QeF O G J,zy G⟩:(Int × Int)→St) (Gm) ?_)))))));rintro ab ⟨O,J⟩;show QP (Va G ab O J) _ _ _ _ _ _;unfold Va;refine Qf Qd ⟨[qq 1,(3,I O),(51, .p (.sl 2 (Nr G.Slices))),(52,I (Qb (Nr G.Slices))),(53,I J),(54,B (Qs J (Qb (Nr G.Slices))))],zy G⟩ (sS (sC (Qs J (Qb (Nr G.Slices))) (sK (Ql ⟨QeF O G J,zy G⟩ (sS (sB (sS (sG (xG (ZA (e:=207) (S:=2) (enc:=HZ.cs) (l:=G.Slices) (k:=.i64) (n:=J) (sv:=.p (.sl 2 (Nr G.Slices))) rfl Qc Qc Qc Qc Qc) (fun Y=>xR 3 (xE (Ql ⟨[qq 1,(3,I O),qq 5,(51, .p (.sl 2 (Nr G.Slices))),(52,I (Qb (Nr G.Slices))),(53,I J)],Qhr G Y⟩ (sS (KQ (fun Z=>⟨[qq 1,qq 5,(51, .p (.sl 2 (Nr G.Slices))),(52,I (Qb (Nr G.Slices))),(53,I J),(77,B Z)],Qhr G Y⟩:Bool→St) ?_ ?_)))))))))))) (Qt (ZR (Yw (QM (Ql ⟨[],[]⟩ (Qf Qd ⟨[(2,B true)],[]⟩ (sT (qR (.id)))))))))));rotate_left
 ·rintro Z;exact sC Z (Qf Qd ⟨[(2,B false)],[]⟩ (sT (QB (Q4 (QB (V9 (Q4 (QB (qR (.id)))))))))) (sK (Ql ⟨[qq 1,qq 5,(51, .p (.sl 2 (Nr G.Slices))),(52,I (Qb (Nr G.Slices))),(53,I J)],Qhr G Y⟩ (sL Qd (QR (Ql ⟨QeF Y.Minute G J,zy G⟩ (sL Qd (KW (Y.Minute,wi (J+1)))))))))
 exact sG (xR 5 (xS (leI Y.Minute O) (fun ac=>xN (Qy ac) (xR 15 (xE (QS true)))) (fun ac=>xO (Qw ac) (xR 6 (xS (leI G.End Y.Minute) (fun aa=>xN (Qy aa) (xR 8 (xE (QS true)))) (fun aa=>xO (Qw aa) (xR 4 (xS (Qs Y.Energy 0) (fun ad=>xN (Qy ad) (xR 3 (xE (QS true)))) (fun ad=>xO (Qw ad) (xR 3 (xE (QS (Qs 10000 Y.Energy)))))))))))))
def Ao (n:Nat) (G:Ky) (O:Kn) (J:YN):Option Bool :=
 (UR n G).bind fun r1 =>
 cond r1
  ((YG n O).bind fun Y =>
  cond Y
   ((JQ n J).bind fun Z =>
   some Z)
   (some false))
  (some false)
def Qja:List (Nat × AV):=[(3, .ptr 3 0),(4, .ptr 4 0),(5, .ptr 5 0)]
def Qjb:=fun J O G=>([(3, .box 59 (YE (Ky.cs J))),(4, .box 52 (YE (Kn.cs O))),(5, .box 55 (YE (YN.cs G)))]:List (Nat × Blk))
theorem jo (n:Nat) (G:Ky) (O:Kn) (J:YN):∀ r,Ao n G O J=some r→QC Tryz.prog 87 [ag (Ky.cs G),ag (Kn.cs O),ag (YN.cs J)] (.ret (B r)):=by
 refine Qj Tryz.func87 rfl Tryz.ntmps87 rfl ?_;unfold Ao;refine Qf Qd ⟨Qja,Qjb G O J⟩ (sS (sG (xR 1 ?_)));refine xC [] (Dp n G) QF (fun r1=>?_);refine xR 1 (xS r1 (fun Z=>xO (Qv Z) ?_) (fun Z=>xN (Qx Z) (xR 7 (xE (Ql ⟨[(6,B false)],[]⟩ (sT (qR (.id))))))));refine xC [] (WN n O) QF (fun r3=>?_);refine xR 2 (xS r3 (fun Y=>?_) (fun Y=>?_))
 ·refine xO (Qv Y) ?_;refine xC [] (DI n J) QF (fun r5=>?_);exact xR 2 (xE (Ql ⟨[(6,B r5)],[]⟩ (sT (qR (.id)))))
 exact xN (Qx Y) (xR 3 (xE (Ql ⟨[(6,B false)],[]⟩ (sT (qR (.id))))))
def UV (aa:YN) (G:List Int) (O:(Int × Int)→Option Bool) (Y:Int) (J:Int):Option Bool :=
 cond (Qs J (Qb (List.map ci G)))
  ((QU G J).bind fun Z =>
  (cond (leI Z Y)
   (some true)
   (some (leI aa.To Z))).bind fun j3 =>
  cond j3
   (some false)
   (O (Z,wi (J+1))))
  (some true)
def Rm (n:Nat) (Z:YN) (G:List Int):Option Bool :=
 cond (Qs 4 (Qb (List.map ci G)))
  (some false)
  (Qn (fun J (O,Y)=>UV Z G J O Y) n (Z.From,0))
def Qjc:=fun G=>([(1, .p (.sl 1 (List.map ci G))),(2, .ptr 2 0)]:List (Nat × AV))
def IV:=fun G=>([(2, .box 55 (YE (YN.cs G)))]:List (Nat × Blk))
def Qhs:=fun O G J=>([(2, .ptr 2 0),(5,I O),(13, .p (.sl 1 (List.map ci G))),(14,I (Qb (List.map ci G))),(15,I J)]:List (Nat × AV))
theorem Ap (n:Nat) (O:YN) (G:List Int):∀ r,Rm n O G=some r→QC Tryz.prog 88 [ag (YN.cs O), .p (.sl 1 (List.map ci G))] (.ret (B r)):=by
 refine Qj Tryz.func88 rfl Tryz.ntmps88 rfl ?_;unfold Rm;refine Qf Qd ⟨Qjc G,IV O⟩ (sS (Qf Qd ⟨[(1, .p (.sl 1 (List.map ci G))),qq 2,(10,B (Qs 4 (Qb (List.map ci G))))],IV O⟩ (sC (Qs 4 (Qb (List.map ci G))) (Qf Qd ⟨[(4,B false)],[]⟩ (sT (QB (qR (.id))))) (sK (Ql ⟨Qjc G,IV O⟩ (Qf Qd ⟨[(1, .p (.sl 1 (List.map ci G))),qq 2,(5,I O.From)],IV O⟩ (sS (Qf Qd ⟨[qq 2,(5,I O.From),(13, .p (.sl 1 (List.map ci G))),(14,I (Qb (List.map ci G))),(15,I 0)],IV O⟩ (sB (QG (fun (Y,J)=>⟨Qhs Y G J,IV O⟩:(Int × Int)→St) (Gm) ?_))))))))));rintro Z ⟨Y,J⟩;show QP (UV O G Z Y J) _ _ _ _ _ _;unfold UV;refine Qf Qd ⟨[qq 2,(5,I Y),(13, .p (.sl 1 (List.map ci G))),(14,I (Qb (List.map ci G))),(15,I J),(16,B (Qs J (Qb (List.map ci G))))],IV O⟩ (sS (sC (Qs J (Qb (List.map ci G))) (sK (Ql ⟨Qhs Y G J,IV O⟩ (sS (sB (sS (sG (xG (ZA (e:=3) (S:=1) (enc:=ci) (l:=G) (k:=.i64) (n:=J) (sv:=.p (.sl 1 (List.map ci G))) rfl Qc Qc Qc Qc Qc) (fun x2=>xR 2 (xE (Ql ⟨[qq 2,(5,I Y),(7,I x2),(13, .p (.sl 1 (List.map ci G))),(14,I (Qb (List.map ci G))),(15,I J)],IV O⟩ (sS (KQ (fun j3=>⟨[qq 2,(7,I x2),(13, .p (.sl 1 (List.map ci G))),(14,I (Qb (List.map ci G))),(15,I J),(27,B j3)],IV O⟩:Bool→St) (sG (xR 4 (xS (leI x2 Y) (fun h4=>xN (Qy h4) (xR 4 (xE (QS true)))) (fun h4=>xO (Qw h4) (xR 4 (xE (QS (leI O.To x2)))))))) ?_)))))))))))) (Qt (ZR (Yw (QM (Ql ⟨[],[]⟩ (Qf Qd ⟨[(4,B true)],[]⟩ (sT (qR (.id)))))))))));rintro j3;exact sC j3 (Qf Qd ⟨[(4,B false)],[]⟩ (sT (QB (Q4 (QB (V9 (Q4 (QB (qR (.id)))))))))) (sK (Ql ⟨[qq 2,(7,I x2),(13, .p (.sl 1 (List.map ci G))),(14,I (Qb (List.map ci G))),(15,I J)],IV O⟩ (sL Qd (QR (Ql ⟨Qhs x2 G J,IV O⟩ (sL Qd (KW (x2,wi (J+1)))))))))
def BF (aa:YN) (G:Int) (Y:Int) (Z:(Int × (List HZ))→Option YN) (J:Int) (O:List HZ):Option YN :=
 cond (Qs J (Qb (List.map HZ.cs aa.Slices)))
  ((QU aa.Slices J).bind fun x2 =>
  (cond (leI G x2.Minute)
   (some (Qs x2.Minute Y))
   (some false)).bind fun j3 =>
  cond j3
   (cond (QK (List.length (O++[x2])) 16) (
    Z (wi (J+1),O++[x2])) none)
   (Z (wi (J+1),O)))
  (some (⟨G,Y,Ls (Jq aa.End G) Y,O⟩:YN))
def zz (n:Nat) (aa:YN) (G:Int) (Y:Int):Option YN :=
 Qn (fun J (O,Z)=>BF aa G Y J O Z) n (0,[])
def zA:=fun J O G=>(.box 55 [I J,I O,I G, .p (.val (.slice none 0 0))]:Blk)
def Qht:=fun J O G Y=>([(1,I J),(2,I O),(6, .ptr 6 0),(7, .ptr 7 0),(20, .p (.sl 2 (List.map HZ.cs (YN.Slices G)))),(21,I (Qb (List.map HZ.cs (YN.Slices G)))),(22,I Y)]:List (Nat × AV))
def Qhu:=fun J O G Y=>(.box 55 [I J,I O,I G, .tsl 2 (List.map HZ.cs Y) 40]:Blk)
def Qhv:=fun G=>(.arr 207 2 (List.map HZ.cs G).length:Blk)
def Qhw:=fun O Y J G=>([(6,(zA 0 0 0)),(7,(Qhu O Y J G)),(40,(Qhv G))]:List (Nat × Blk))
def QeG:=fun G J O x3 Z Y=>(⟨Qht G J O x3,Qhw G J Z Y⟩:St)
def Qjd:=fun O Z J G Y=>([(6,(zA 0 0 0)),(7,(Qhu O Z J G)),(9, .box 207 (YE (HZ.cs Y))),(40,(Qhv G))]:List (Nat × Blk))
abbrev Pn (x:YN):Go.Abs.Blk:=.box 55 (YE (YN.cs x))
theorem gJ (n:Nat) (O:YN) (G:Int) (J:Int):∀ r,zz n O G J=some r→QC Tryz.prog 89 [ag (YN.cs O),I G,I J] (.ret (ag (YN.cs r))):=by
 refine Qj Tryz.func89 rfl Tryz.ntmps89 rfl ?_;unfold zz;refine Qf Qd ⟨[(1,I G),(2,I J),qq 3,qq 6],[(3,Pn O),(6,(zA 0 0 0))]⟩ (Qf Qd ⟨[(1,I G),(2,I J),qq 3,qq 6,qq 7],[(3,Pn O),(6,(zA 0 0 0)),(7,(zA G J (Ls (Jq O.End G) J)))]⟩ (sS (Qf Qd ⟨Qht G J O 0,[(6,(zA 0 0 0)),(7,(zA G J (Ls (Jq O.End G) J)))]⟩ (sB (Pe ⟨Qht G J O 0,[(6,(zA 0 0 0)),(7,(zA G J (Ls (Jq O.End G) J)))]⟩ (KF (Yr 207 2 40 [] [(7,3)]) (QG (fun (Z,Y)=>(QeG G J O Z (Ls (Jq O.End G) J) Y):(Int × (List HZ))→St) (Gm) ?_)))))));rintro aa ⟨Z,Y⟩;show QP (BF O G J aa Z Y) _ _ _ _ _ _;unfold BF;refine Qf Qd ⟨[(1,I G),(2,I J),qq 6,qq 7,(20, .p (.sl 2 (Nr O.Slices))),(21,I (Qb (Nr O.Slices))),(22,I Z),(23,B (Qs Z (Qb (Nr O.Slices))))],Qhw G J (Ls (Jq O.End G) J) Y⟩ (sS (sC (Qs Z (Qb (Nr O.Slices))) (sK (Ql (QeG G J O Z (Ls (Jq O.End G) J) Y) (sS (sB (sS (sG (xG (ZA (e:=207) (S:=2) (enc:=HZ.cs) (l:=O.Slices) (k:=.i64) (n:=Z) (sv:=.p (.sl 2 (Nr O.Slices))) rfl Qc Qc Qc Qc Qc) (fun x2=>xR 3 (xE (Ql ⟨[(1,I G),(2,I J),qq 6,qq 7,qq 9,(20, .p (.sl 2 (Nr O.Slices))),(21,I (Qb (Nr O.Slices))),(22,I Z)],Qjd G J (Ls (Jq O.End G) J) Y x2⟩ (KQ (fun j3=>⟨[(1,I G),(2,I J),qq 6,qq 7,qq 9,(20, .p (.sl 2 (Nr O.Slices))),(21,I (Qb (Nr O.Slices))),(22,I Z),(35,B j3)],Qjd G J (Ls (Jq O.End G) J) Y x2⟩:Bool→St) (sG (xR 5 (xS (leI G x2.Minute) (fun h4=>xO (Qv h4) (xR 4 (xE (QS (Qs x2.Minute J))))) (fun h4=>xN (Qx h4) (xR 4 (xE (QS false))))))) ?_))))))))))) (Qt (ZR (Yw (QM (Ql ⟨[qq 6,qq 7],Qhw G J (Ls (Jq O.End G) J) Y⟩ (Qf Qd ⟨[qq 6],[(6,(Qhu G J (Ls (Jq O.End G) J) Y)),(40,(Qhv Y))]⟩ (sT (qR (.agg [.id, .id, .id, .sl 2])))))))))));rintro j3;exact sC j3 (sG (xR 4 (xF (Y1 (e:=207) (S:=2) (by_:=16) (enc:=HZ.cs) (tk:=40) (l:=Y) (l2:=[x2]) (xv:=.tsl 2 (Nr [x2]) 39) rfl Qc Qc rfl Qc Qc Qc rfl Qc) (xR 2 (xE (QR (Ql (QeG G J O Z (Ls (Jq O.End G) J) (Y++[x2])) (sL Qd (KW (wi (Z+1),Y++[x2])))))))))) (sK (QR (Ql (QeG G J O Z (Ls (Jq O.End G) J) Y) (sL Qd (KW (wi (Z+1),Y))))))
def Hg (n:Nat) (G:Int):Option Int :=
 some G
def M7:=fun G=>([(1001, .box 29 [I G])]:List (Nat × Blk))
def Qje:List (Nat × AV):=[(0, .p (.val (.nilIface))),(1, .ptr 1001 0),(6, .p (.val (.nilIface))),(7,B true)]
theorem Tf (n:Nat) (G:Int):∀ r,Hg n G=some r→KD Tryz.prog 43 [.p (.val (.nilIface)),Rw] (Go.Abs.look [(1001, .box 29 [I G])]) (Yh (fun r:Int=>((.ret (.tup []),[(1001, .box 29 [I r])]):ZB × List (Nat × Blk))) r):=by
 refine Kq (M7 G) Tryz.func43 rfl Tryz.ntmps43 rfl ?_;unfold Hg;exact sS (Qf Qd ⟨Qje,M7 G⟩ (ZQ (sT (QB (Kw (.id) [1001] [])))))
def KX (n:Nat) (Z:List XN) (O:Int) (Y:(Int × Int)→Option Int) (G:Int) (J:Int):Option Int :=
 cond (Qs G J)
  ((QU Z (wi (G+(wi (Int.tdiv (wi ((wi (J - G))+1)) 2))))).bind fun x2 =>
  (WW n x2).bind fun r3 =>
  cond (leI r3 O)
   (Y (wi (G+(wi (Int.tdiv (wi ((wi (J - G))+1)) 2))),J))
   (Y (G,wi ((wi (G+(wi (Int.tdiv (wi ((wi (J - G))+1)) 2)))) - 1))))
  (some G)
def KI (n:Nat) (G:List XN) (J:Int):Option Int :=
 Qn (fun O (Y,Z)=>KX n G J O Y Z) n ((-1),wi ((Qb (List.map XN.cs G)) - 1))
def Qhx:=fun J O G Y=>([(0, .p (.sl 2 (List.map XN.cs J))),(1,I O),(2, .p (.val (.func (.func 162) #[] #[]))),(6,I 0),(7,I G),(8,I Y)]:List (Nat × AV))
theorem LA (n:Nat) (J:List XN) (G:Int):∀ r,KI n J G=some r→QC Tryz.prog 230 [.p (.sl 2 (Bz J)),I G, .p (.val (.func (.func 162) #[] #[]))] (.ret (I r)):=by
 refine Qj Tryz.func230 rfl Tryz.ntmps230 rfl ?_;unfold KI;refine Qf Qd ⟨[(0, .p (.sl 2 (Bz J))),(1,I G),(2, .p (.val (.func (.func 162) #[] #[]))),(6,I 0)],[]⟩ (Qf Qd ⟨Qhx J G (-1) (wi ((Qb (Bz J)) - 1)),[]⟩ (sS (sB (QG (fun (O,Y)=>⟨Qhx J G O Y,[]⟩:(Int × Int)→St) (Gm) ?_))));rintro Z ⟨O,Y⟩;show QP (KX n J G Z O Y) _ _ _ _ _ _;unfold KX;refine sS (Qf Qd ⟨[(0, .p (.sl 2 (Bz J))),(1,I G),(2, .p (.val (.func (.func 162) #[] #[]))),(6,I 0),(7,I O),(8,I Y),(15,B (Qs O Y))],[]⟩ (sC (Qs O Y) (sK (Ql ⟨Qhx J G O Y,[]⟩ (sB (Qf Qd ⟨[(0, .p (.sl 2 (Bz J))),(1,I G),(2, .p (.val (.func (.func 162) #[] #[]))),(6,I 0),(7,I O),(8,I Y),(9,I (wi (O+(wi (Int.tdiv (wi ((wi (Y - O))+1)) 2)))))],[]⟩ (sS (sG (xR 3 (xG (ZA (e:=199) (S:=2) (enc:=XN.cs) (l:=J) (k:=.i64) (n:=wi (O+(wi (Int.tdiv (wi ((wi (Y - O))+1)) 2)))) (sv:=.p (.sl 2 (Bz J))) rfl Qc Qc Qc Qc Qc) (fun x2=>xR 1 ?_))))))))) (Qt (ZR (Yw (QM (Ql ⟨[(6,I 0),(7,I O)],[]⟩ (Qf Qd ⟨[(6,I O)],[]⟩ (sT (qR (.id)))))))))));refine xC [] (UT n x2) QF (fun r3=>?_);exact xR 2 (xE (Ql ⟨[(0, .p (.sl 2 (Bz J))),(1,I G),(2, .p (.val (.func (.func 162) #[] #[]))),(6,I 0),(7,I O),(8,I Y),(9,I (wi (O+(wi (Int.tdiv (wi ((wi (Y - O))+1)) 2))))),(30,B (leI r3 G))],[]⟩ (sC (leI r3 G) (sL Qd (QR (KW (wi (O+(wi (Int.tdiv (wi ((wi (Y - O))+1)) 2))),Y)))) (sL Qd (QR (KW (O,wi ((wi (O+(wi (Int.tdiv (wi ((wi (Y - O))+1)) 2)))) - 1))))))))
def Vr (n:Nat) (J:Int) (G:Int):Option (Int × Int) :=
 cond (!Qp G 0) (
  cond (!Qp G 0) (
   cond (Qs (Int.tmod J G) 0)
    (some (wi ((wi (Int.tdiv J G)) - 1),wi ((Int.tmod J G)+G)))
    (some (wi (Int.tdiv J G),Int.tmod J G))) none) none
theorem DJ (n:Nat) (J:Int) (G:Int):∀ r,Vr n J G=some r→QC Tryz.prog 231 [I J,I G] (.ret (.tup [I r.1,I r.2])):=by
 refine Qj Tryz.func231 rfl Tryz.ntmps231 rfl ?_;unfold Vr;exact Qf Qd ⟨[(0,I J),(1,I G)],[]⟩ (sS (Bh Qd rfl (xR 2 (xF (wP (k:=.i64) (a:=J) (b:=G) rfl Qc Qc) (xR 2 (xF (QdA (k:=.i64) (a:=J) (b:=G) rfl Qc Qc) (xR 2 (MN (Ql ⟨[(1,I G),(6,I (wi (Int.tdiv J G))),(7,I (Int.tmod J G))],[]⟩ (sS (Qf Qd ⟨[(1,I G),(6,I (wi (Int.tdiv J G))),(7,I (Int.tmod J G)),(15,B (Qs (Int.tmod J G) 0))],[]⟩ (sC (Qs (Int.tmod J G) 0) (sL Qd (Ql ⟨[(6,I (wi ((wi (Int.tdiv J G)) - 1))),(7,I (wi ((Int.tmod J G)+G)))],[]⟩ (Qf Qd ⟨[(4,I (wi ((wi (Int.tdiv J G)) - 1))),(5,I (wi ((Int.tmod J G)+G)))],[]⟩ (sT (qR (.id)))))) (sK (Ql ⟨[(6,I (wi (Int.tdiv J G))),(7,I (Int.tmod J G))],[]⟩ (Qf Qd ⟨[(4,I (wi (Int.tdiv J G))),(5,I (Int.tmod J G))],[]⟩ (sT (qR (.id))))))))))))))))))
def Ue (n:Nat) (J:Kn) (G:Int):Option (Int × Int × Int) :=
 ((YG n J).bind fun r2 =>
 cond (!r2)
  (some true)
  ((YJ n G 0 52560000).bind fun Z =>
  some (!Z))).bind fun j1 =>
 cond j1
  (some (0,0,1))
  (((KI n J.Changes G).bind fun Y =>
  cond (leI 0 Y)
   ((QU J.Changes Y).bind fun x7 =>
   some x7.Offset)
   (some J.Offset)).bind fun j5 =>
  (Vr n (wi (G+j5)) 1440).bind fun O =>
  some (O.1,O.2,0))
def IW:=fun G=>([(2, .box 52 (YE (Kn.cs G)))]:List (Nat × Blk))
theorem IX (n:Nat) (J:Kn) (G:Int):∀ r,Ue n J G=some r→QC Tryz.prog 224 [ag (Kn.cs J),I G] (.ret (.tup [I r.1,I r.2.1,I r.2.2])):=by
 refine Qj Tryz.func224 rfl Tryz.ntmps224 rfl ?_;unfold Ue;refine Qf Qd ⟨[(1,I G),qq 2,(6,I 0)],IW J⟩ (sS (KQ (fun j1=>⟨[(1,I G),qq 2,(6,I 0),(20,B j1)],IW J⟩:Bool→St) ?_ ?_))
 ·refine sG (xR 1 ?_);refine xC [] (WN n J) QF (fun r2=>?_);refine xR 2 (xS (!r2) (fun h3=>xN (Qy h3) (xR 3 (xE (QS true)))) (fun h3=>xO (Qw h3) ?_));refine xC [] (JP n G 0 52560000) QF (fun r4=>?_);exact xR 2 (xE (QS (!r4)))
 rintro j1;refine sC j1 (Qf Qd ⟨[(4,I 0),(5,I 0),(6,I 1)],[]⟩ (sT (QB (qR (.id))))) (sK (Ql ⟨[(1,I G),qq 2,(6,I 0)],IW J⟩ (Qf Qd ⟨[(1,I G),qq 2,(6,I 0),(7,I J.Offset)],IW J⟩ (sS (sG (GD [] [] [] [] [] Tryz.func94 rfl Tryz.ntmps94 rfl (Qf Qd ⟨[],[]⟩ (Qf Qd ⟨Qhq,[]⟩ (sT (QD (.id) [] [] (.tup [.p (.val (.func (.func 162) #[] #[])), .p (.val (.func (.func 163) #[] #[]))]) (Wh (xR 5 (xE (Ql ⟨[(1,I G),qq 2,(6,I 0),(7,I J.Offset),(8, .p (.val (.func (.func 162) #[] #[])))],IW J⟩ (KQ (fun Z=>⟨[(1,I G),(6,I 0),(7,I Z)],[]⟩:Int→St) ?_ ?_)))))))))))))));rotate_left
 ·rintro Z;refine sS (sG (xR 3 ?_));refine xC [] (DJ n (wi (G+Z)) 1440) QF (fun Y=>?_);exact xR 5 (xE (Ql ⟨[(6,I 0),(7,I Z),(11,I Y.1),(12,I Y.2)],[]⟩ (Qf Qd ⟨[(4,I Y.1),(5,I Y.2),(6,I 0)],[]⟩ (sT (qR (.id))))))
 refine sS (sG (xR 4 ?_));refine xC [] (LA n J.Changes G) QF (fun O=>?_);exact xR 1 (xE (Ql ⟨[(1,I G),qq 2,(6,I 0),(7,I J.Offset),(10,I O)],IW J⟩ (Qf Qd ⟨[(1,I G),qq 2,(6,I 0),(7,I J.Offset),(10,I O),(33,B (leI 0 O))],IW J⟩ (sC (leI 0 O) (sG (xR 3 (xG (ZA (e:=199) (S:=2) (enc:=XN.cs) (l:=J.Changes) (k:=.i64) (n:=O) (sv:=.p (.sl 2 (Bz J.Changes))) rfl Qc Qc Qc Qc Qc) (fun x7=>xR 3 (xE (QS x7.Offset)))))) (sK (QS J.Offset))))))
def WB (n:Nat) (Z:List Int) (O:Int) (Y:(Int × Int)→Option Int) (G:Int) (J:Int):Option Int :=
 cond (Qs G J)
  ((QU Z (wi (G+(wi (Int.tdiv (wi ((wi (J - G))+1)) 2))))).bind fun x2 =>
  (WX n x2).bind fun r3 =>
  cond (leI r3 O)
   (Y (wi (G+(wi (Int.tdiv (wi ((wi (J - G))+1)) 2))),J))
   (Y (G,wi ((wi (G+(wi (Int.tdiv (wi ((wi (J - G))+1)) 2)))) - 1))))
  (some G)
def WO (n:Nat) (G:List Int) (J:Int):Option Int :=
 Qn (fun O (Y,Z)=>WB n G J O Y Z) n ((-1),wi ((Qb (List.map ci G)) - 1))
def Qhy:=fun J O G Y=>([(0, .p (.sl 1 (List.map ci J))),(1,I O),(2, .p (.val (.func (.func 163) #[] #[]))),(6,I 0),(7,I G),(8,I Y)]:List (Nat × AV))
theorem Po (n:Nat) (J:List Int) (G:Int):∀ r,WO n J G=some r→QC Tryz.prog 232 [.p (.sl 1 (List.map ci J)),I G, .p (.val (.func (.func 163) #[] #[]))] (.ret (I r)):=by
 refine Qj Tryz.func232 rfl Tryz.ntmps232 rfl ?_;unfold WO;refine Qf Qd ⟨[(0, .p (.sl 1 (List.map ci J))),(1,I G),(2, .p (.val (.func (.func 163) #[] #[]))),(6,I 0)],[]⟩ (Qf Qd ⟨Qhy J G (-1) (wi ((Qb (List.map ci J)) - 1)),[]⟩ (sS (sB (QG (fun (O,Y)=>⟨Qhy J G O Y,[]⟩:(Int × Int)→St) (Gm) ?_))));rintro Z ⟨O,Y⟩;show QP (WB n J G Z O Y) _ _ _ _ _ _;unfold WB;refine sS (Qf Qd ⟨[(0, .p (.sl 1 (List.map ci J))),(1,I G),(2, .p (.val (.func (.func 163) #[] #[]))),(6,I 0),(7,I O),(8,I Y),(15,B (Qs O Y))],[]⟩ (sC (Qs O Y) (sK (Ql ⟨Qhy J G O Y,[]⟩ (sB (Qf Qd ⟨[(0, .p (.sl 1 (List.map ci J))),(1,I G),(2, .p (.val (.func (.func 163) #[] #[]))),(6,I 0),(7,I O),(8,I Y),(9,I (wi (O+(wi (Int.tdiv (wi ((wi (Y - O))+1)) 2)))))],[]⟩ (sS (sG (xR 3 (xG (ZA (e:=3) (S:=1) (enc:=ci) (l:=J) (k:=.i64) (n:=wi (O+(wi (Int.tdiv (wi ((wi (Y - O))+1)) 2)))) (sv:=.p (.sl 1 (List.map ci J))) rfl Qc Qc Qc Qc Qc) (fun x2=>xR 1 ?_))))))))) (Qt (ZR (Yw (QM (Ql ⟨[(6,I 0),(7,I O)],[]⟩ (Qf Qd ⟨[(6,I O)],[]⟩ (sT (qR (.id)))))))))));refine xC [] (UU n x2) QF (fun r3=>?_);exact xR 2 (xE (Ql ⟨[(0, .p (.sl 1 (List.map ci J))),(1,I G),(2, .p (.val (.func (.func 163) #[] #[]))),(6,I 0),(7,I O),(8,I Y),(9,I (wi (O+(wi (Int.tdiv (wi ((wi (Y - O))+1)) 2))))),(30,B (leI r3 G))],[]⟩ (sC (leI r3 G) (sL Qd (QR (KW (wi (O+(wi (Int.tdiv (wi ((wi (Y - O))+1)) 2))),Y)))) (sL Qd (QR (KW (O,wi ((wi (O+(wi (Int.tdiv (wi ((wi (Y - O))+1)) 2)))) - 1))))))))
def LQ (n:Nat):Option (Int × Int × Int × Int × Int × Int × Int) :=
 some (0,0,0,0,0,1,2)
def QeH:=fun G x1 Y O J x5 Z=>(.box 299 [I G,I x1,I Y,I O,I J,I x5,I Z]:Blk)
theorem zB (n:Nat):∀ r,LQ n=some r→QC Tryz.prog 233 [] (.ret (.agg [I r.1,I r.2.1,I r.2.2.1,I r.2.2.2.1,I r.2.2.2.2.1,I r.2.2.2.2.2.1,I r.2.2.2.2.2.2])):=by
 refine Qj Tryz.func233 rfl Tryz.ntmps233 rfl ?_;unfold LQ;exact Qf Qd ⟨[qq 0],[(0,(QeH 0 0 0 0 0 0 0))]⟩ (Qf Qd ⟨[qq 0],[(0,(QeH 0 0 0 0 0 1 2))]⟩ (sT (qR (.id))))
def Ga (n:Nat) (J:Kn) (G:Int):Option (Int × Int) :=
 ((YG n J).bind fun r2 =>
 cond (!r2)
  (some true)
  ((YJ n G (-1) 36501).bind fun r4 =>
  some (!r4))).bind fun j1 =>
 cond j1
  (some (0,1))
  ((WO n J.Holidays G).bind fun r5 =>
  (cond (leI 0 r5)
   ((QU J.Holidays r5).bind fun x8 =>
   some (Qp x8 G))
   (some false)).bind fun j6 =>
  cond j6
   (some (2,0))
   ((LQ n).bind fun O =>
   (Vr n G 7).bind fun Z =>
   (QU [O.1,O.2.1,O.2.2.1,O.2.2.2.1,O.2.2.2.2.1,O.2.2.2.2.2.1,O.2.2.2.2.2.2] Z.2).bind fun Y =>
   some (Y,0)))
end Go.Proofs
