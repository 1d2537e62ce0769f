/-
  A part of the proof of a statement of the seat YteakahdpnpecoaaGreat.
-/
import Derived.Test.YteakahdpnpecoaaGreatNam04
set_option linter.unusedVariables false
namespace Go.Proofs
open Go Go.Abs
set_option maxRecDepth 100000
theorem Aa (n:Nat) (yI:GN) (yC:ZE) (yK:ZO) (yG:ZT) (yB:Q6) (yS:Qm) (yF:Bool) (yD:List Zr) (h7_m:List ((List UInt8) × Bool)) (h8_m:List ((List UInt8) × KC)) (h10_m:List ((List UInt8) × Bool)):∀ r,U7 n yI yC yK yG yB yS yF yD h7_m h8_m h10_m=some r→Wz Tryz.prog 59 [YY, .mv 1011] (Go.Abs.look (MK yI yC yK yG yB yS yF yD h7_m h8_m h10_m)) (J7 (Cm (fun r:Unit=>((.ret (.tup []),MK yI yC yK yG yB yS yF yD h7_m h8_m h10_m):QV × List (Nat × Blk))) (fun e:(Int × Int)=>((.panic (.ifc 116 (.agg [I e.1,I e.2])),MK yI yC yK yG yB yS yF yD h7_m h8_m h10_m):QV × List (Nat × Blk)))) r):=by
 refine Vd (X:=Cm (fun r:Unit=>((.ret (.tup []),MK yI yC yK yG yB yS yF yD h7_m h8_m h10_m):QV × List (Nat × Blk))) (fun e:(Int × Int)=>((.panic (.ifc 116 (.agg [I e.1,I e.2])),MK yI yC yK yG yB yS yF yD h7_m h8_m h10_m):QV × List (Nat × Blk)))) (MK yI yC yK yG yB yS yF yD h7_m h8_m h10_m) Tryz.func59 rfl Tryz.ntmps59 rfl ?_
 unfold U7
 refine Kr (fun _=>⟨[(0,YY)],NU yI yC yK yG yB yS yF yD h7_m h8_m h10_m⟩:Unit→St) (fun _=>Vr n yI yC yG h10_m) ?_ ?_
 ·rintro _
  show QX (Vr n yI yC yG h10_m) _ _ _ _ _ _
  unfold Vr
  refine Yj (fun j2=>⟨[(0,YY),(68,B j2)],NU yI yC yK yG yB yS yF yD h7_m h8_m h10_m⟩:Bool→St) ?_ ?_
  rotate_left
  ·rintro j2
   refine sC j2 Qa ?_ ?_
   ·refine sG (xR 4 Qa (Vp [] [I 3, .agg [I yI.Kind,S yI.Name,I yI.N,I yI.At, .p (.sl 5 (mI yI.Kids))]] [] [] [] Qa Tryz.func49 rfl Tryz.ntmps49 rfl Qa Qa Qa (Qg Qd (U5 3 yI) Qa (sG (xR 6 Qa (XC 116 (.agg [I 3,I yI.At]) Qa rfl Qa (ZR [] [] Qa ?_)))))))
    exact Kz Yp [] Qa Qa Qa
   refine sK ?_
   exact iZ (.id) Yp [] Qa Qa Qa Qa
  refine sG (xR 4 Qa ?_)
  refine ZM Qa Qa (Zu (kt:=9) (e:=4) (ke:=QQ) (ve:=QR) (eq:=Qb) (b:=1010) (m:=h10_m) (k:=[116,104,101,114,109,97,108]) (z0:=false) rfl Qa Qa Qa Qa Qa QS (fun _ _=>QY rfl _ _) Qa) ?_
  refine xR 1 Qa ?_
  refine xS (QE Qb [116,104,101,114,109,97,108] false h10_m) (fun h3=>?_) (fun h3=>?_)
  rotate_left
  ·refine xN (Qq Qa h3) Qa (xR 15 Qa ?_)
   refine xS (Qi yI.N 5) (fun h8=>?_) (fun h8=>?_)
   ·refine xO (Qp Qa h8) Qa (xR 3 Qa ?_)
    refine xC [] Qa (JO n yG) Qa Qa QS (fun r9=>?_)
    refine xR 3 Qa (xE ?_)
    exact QO (!r9) Qa
   refine xN (Qq Qa h8) Qa (xR 7 Qa (xE ?_))
   exact QO false Qa
  refine xO (Qp Qa h3) Qa (xR 4 Qa ?_)
  refine xC [] Qa (Uj n yC.Cable) Qa Qa QS (fun r4=>?_)
  refine xR 3 Qa ?_
  refine xS (!r4) (fun h5=>?_) (fun h5=>?_)
  ·refine xN (Qy Qa h5) Qa (xR 14 Qa (xE ?_))
   exact QO true Qa
  refine xO (Qx Qa h5) Qa (xR 6 Qa ?_)
  refine xS (Qi yI.N 5) (fun h6=>?_) (fun h6=>?_)
  ·refine xO (Qp Qa h6) Qa (xR 3 Qa ?_)
   refine xC [] Qa (JO n yG) Qa Qa QS (fun r7=>?_)
   refine xR 3 Qa (xE ?_)
   exact QO (!r7) Qa
  refine xN (Qq Qa h6) Qa (xR 7 Qa (xE ?_))
  exact QO false Qa
 refine sS (sG (xR 1 Qa ?_))
 refine fC (t:=75) (m:=1011) (b:=700) (es:=(Ur 1012 1013 1014 1015 1016 1017 1018 1019 1020 1021)) Qa rfl rfl Qa Qa Qa Qa Qa (fun en10 ck11 hb11=>?_)
 refine xE (Ql ⟨[(0,YY),(7, .iv 700)],[(700, .it 1011 ck11 (#[]))]++Dn yI yC yK yG yB yS yF yD h7_m h8_m h10_m en10 ck11++Dp⟩ Qa (sB (CQ ⟨[(0,YY),(7, .iv 700)],[(700, .it 1011 ck11 (#[]))]++Dn yI yC yK yG yB yS yF yD h7_m h8_m h10_m en10 ck11++Dp⟩ Qa (kY (b:=700) (m:=1011) (es:=(Ur 1012 1013 1014 1015 1016 1017 1018 1019 1020 1021)) _ hb11 rfl rfl Qa Qa Qa Qa Qa Qa Qa rfl ?_ ?_ ?_))))
 ·repeat' first | exact fF | exact lL | exact Qai | exact zf | refine jQ ?_ ?_ | refine fD ?_ ?_ | refine fE fun _=>?_
 ·intro sn12 _ hN14
  refine xR 1 Qa (xE (Ql ⟨[(0,YY),(9,B false)],Dn yI yC yK yG yB yS yF yD h7_m h8_m h10_m en10 ck11++Dp⟩ Qa (Zj (JE (en:=en10) (ck:=ck11) 1011 (Ur 1012 1013 1014 1015 1016 1017 1018 1019 1020 1021) Qa) (CQ ⟨[(0,YY),(9,B false)],NU yI yC yK yG yB yS yF yD h7_m h8_m h10_m⟩ Qa (sS (Zm Qa (Qz ?_)))))))
  refine Kb (QbW hN14 (QW ?_))
  exact KZ (k:=fun _=>Vr n yI yC yG h10_m) () Qa
 refine VJ ?_ (VJ ?_ (VJ ?_ (VJ ?_ (VJ ?_ (VJ ?_ (VJ ?_ (VJ ?_ (VJ ?_ (VJ ?_ (VJ ?_ (VJ ?_ (VJ ?_ (bC)))))))))))))
 ·intro sn15 q16 _ hN17
  refine xR 1 Qa (xE (Ql (ML ck11 (sn15.push (Q3 en10 0)) yI yC yK yG yB yS yF yD h7_m h8_m h10_m en10) Qa (sS (Zl Qa (sK (Ql (MN ck11 (sn15.push (Q3 en10 0)) yI yC yK yG yB yS yF yD h7_m h8_m h10_m en10) Qa (sB ?_)))))))
  refine sS (sG (VH (b:=700) (m:=1011) (es:=(Ur 1012 1013 1014 1015 1016 1017 1018 1019 1020 1021)) (sn:=sn15) 0 hb11 Qa rfl Qa Qa Qa Qa rfl rfl (xR 5 Qa (xE (Ql (aH [108,105,109,105,116] false (.func 78) ck11 (sn15.push (Q3 en10 0)) yI yC yK yG yB yS yF yD h7_m h8_m h10_m en10) Qa ?_)))))
  refine CP 5 2 Qa (fun hw18=>?_)
  refine Yj (fun j19=>(MO j19 ck11 (sn15.push (Q3 en10 0)) yI yC yK yG yB yS yF yD h7_m h8_m h10_m en10):Bool→St) ?_ ?_
  ·refine Vo Qd rfl (xR 6 Qa ?_)
   refine xC [.agg [.sl 1, .id, .id], .id] Qa (QA n [1,2] false yI.N hw18) Qa Qa QS (fun r20=>?_)
   refine xR 1 Qa ?_
   refine xS r20 (fun h21=>?_) (fun h21=>?_)
   ·refine xO (Qp Qa h21) Qa (xR 9 Qa ?_)
    refine ZM Qa Qa (Zu (kt:=9) (e:=4) (ke:=QQ) (ve:=QR) (eq:=Qb) (b:=1010) (m:=h10_m) (k:=[108,105,109,105,116]) (z0:=false) rfl Qa Qa Qa Qa Qa QS (fun _ _=>QY rfl _ _) Qa) ?_
    refine xR 2 Qa (Yg Qa ?_)
    exact QO (!(QE Qb [108,105,109,105,116] false h10_m)) Qa
   refine xN (Qq Qa h21) Qa (xR 12 Qa (Yg Qa ?_))
   exact QO false Qa
  rintro j19
  refine sC j19 Qa ?_ ?_
  ·refine Zj (JE (en:=en10) (ck:=ck11) 1011 (Ur 1012 1013 1014 1015 1016 1017 1018 1019 1020 1021) Qa) (sG (xR 4 Qa (Vp [] [I 4, .agg [I yI.Kind,S yI.Name,I yI.N,I yI.At, .p (.sl 5 (mI yI.Kids))]] [] [] [] Qa Tryz.func49 rfl Tryz.ntmps49 rfl Qa Qa Qa (Qg Qd (U5 4 yI) Qa (sG (xR 6 Qa (XC 116 (.agg [I 4,I yI.At]) Qa rfl Qa ?_)))))))
   refine ZR [] [] Qa (Zd (EA hN17 (Zd (Zk ?_))))
   exact Kz Yp [] Qa Qa Qa
  refine sK (Za ?_)
  exact Md hN17 ⟨[0,7],[700]++Yp,[],[]⟩ Qa
 ·intro sn22 q23 _ hN24
  refine xR 1 Qa (xE (Ql (ML ck11 (sn22.push (Q3 en10 1)) yI yC yK yG yB yS yF yD h7_m h8_m h10_m en10) Qa (sS (Zl Qa (sK (Ql (MN ck11 (sn22.push (Q3 en10 1)) yI yC yK yG yB yS yF yD h7_m h8_m h10_m en10) Qa (sB ?_)))))))
  refine sS (sG (VH (b:=700) (m:=1011) (es:=(Ur 1012 1013 1014 1015 1016 1017 1018 1019 1020 1021)) (sn:=sn22) 1 hb11 Qa rfl Qa Qa Qa Qa rfl rfl (xR 5 Qa (xE (Ql (aH [110,101,117,116,114,97,108] false (.func 79) ck11 (sn22.push (Q3 en10 1)) yI yC yK yG yB yS yF yD h7_m h8_m h10_m en10) Qa ?_)))))
  refine CP 5 2 Qa (fun hw25=>?_)
  refine Yj (fun j26=>(MO j26 ck11 (sn22.push (Q3 en10 1)) yI yC yK yG yB yS yF yD h7_m h8_m h10_m en10):Bool→St) ?_ ?_
  ·refine Vo Qd rfl (xR 6 Qa ?_)
   refine xC [.agg [.sl 1, .id, .id], .id] Qa (QA n [1,2] false yI.N hw25) Qa Qa QS (fun r27=>?_)
   refine xR 1 Qa ?_
   refine xS r27 (fun h28=>?_) (fun h28=>?_)
   ·refine xO (Qp Qa h28) Qa (xR 9 Qa ?_)
    refine ZM Qa Qa (Zu (kt:=9) (e:=4) (ke:=QQ) (ve:=QR) (eq:=Qb) (b:=1010) (m:=h10_m) (k:=[110,101,117,116,114,97,108]) (z0:=false) rfl Qa Qa Qa Qa Qa QS (fun _ _=>QY rfl _ _) Qa) ?_
    refine xR 2 Qa (Yg Qa ?_)
    exact QO (!(QE Qb [110,101,117,116,114,97,108] false h10_m)) Qa
   refine xN (Qq Qa h28) Qa (xR 12 Qa (Yg Qa ?_))
   exact QO false Qa
  rintro j26
  refine sC j26 Qa ?_ ?_
  ·refine Zj (JE (en:=en10) (ck:=ck11) 1011 (Ur 1012 1013 1014 1015 1016 1017 1018 1019 1020 1021) Qa) (sG (xR 4 Qa (Vp [] [I 4, .agg [I yI.Kind,S yI.Name,I yI.N,I yI.At, .p (.sl 5 (mI yI.Kids))]] [] [] [] Qa Tryz.func49 rfl Tryz.ntmps49 rfl Qa Qa Qa (Qg Qd (U5 4 yI) Qa (sG (xR 6 Qa (XC 116 (.agg [I 4,I yI.At]) Qa rfl Qa ?_)))))))
   refine ZR [] [] Qa (Zd (EA hN24 (Zd (Zk ?_))))
   exact Kz Yp [] Qa Qa Qa
  refine sK (Za ?_)
  exact Md hN24 ⟨[0,7],[700]++Yp,[],[]⟩ Qa
 ·intro sn29 q30 _ hN31
  refine xR 1 Qa (xE (Ql (ML ck11 (sn29.push (Q3 en10 2)) yI yC yK yG yB yS yF yD h7_m h8_m h10_m en10) Qa (sS (Zl Qa (sK (Ql (MN ck11 (sn29.push (Q3 en10 2)) yI yC yK yG yB yS yF yD h7_m h8_m h10_m en10) Qa (sB ?_)))))))
  refine sS (sG (VH (b:=700) (m:=1011) (es:=(Ur 1012 1013 1014 1015 1016 1017 1018 1019 1020 1021)) (sn:=sn29) 2 hb11 Qa rfl Qa Qa Qa Qa rfl rfl (xR 5 Qa (xE (Ql (aH [102,117,115,101] true (.func 80) ck11 (sn29.push (Q3 en10 2)) yI yC yK yG yB yS yF yD h7_m h8_m h10_m en10) Qa ?_)))))
  refine CP 5 2 Qa (fun hw32=>?_)
  refine Yj (fun _=>(MO false ck11 (sn29.push (Q3 en10 2)) yI yC yK yG yB yS yF yD h7_m h8_m h10_m en10):Unit→St) ?_ ?_
  ·refine Vo Qd rfl (xR 6 Qa ?_)
   refine xC [.agg [.sl 1, .id, .id], .id] Qa (QA n [1,2] true yI.N hw32) Qa Qa QS (fun r34=>?_)
   refine xR 1 Qa ?_
   refine xS r34 (fun h35=>?_) (fun h35=>?_)
   ·refine xO (Qp Qa h35) Qa (xR 12 Qa (Yg Qa ?_))
    exact QO () Qa
   refine xN (Qq Qa h35) Qa (xR 12 Qa (Yg Qa ?_))
   exact QO () Qa
  rintro _
  refine Zm Qa (sK (Za ?_))
  exact Md hN31 ⟨[0,7],[700]++Yp,[],[]⟩ Qa
 ·intro sn36 q37 _ hN38
  refine xR 1 Qa (xE (Ql (ML ck11 (sn36.push (Q3 en10 3)) yI yC yK yG yB yS yF yD h7_m h8_m h10_m en10) Qa (sS (Zl Qa (sK (Ql (MN ck11 (sn36.push (Q3 en10 3)) yI yC yK yG yB yS yF yD h7_m h8_m h10_m en10) Qa (sB ?_)))))))
  refine sS (sG (VH (b:=700) (m:=1011) (es:=(Ur 1012 1013 1014 1015 1016 1017 1018 1019 1020 1021)) (sn:=sn36) 3 hb11 Qa rfl Qa Qa Qa Qa rfl rfl (xR 5 Qa (xE (Ql ⟨Ox [116,104,101,114,109,97,108],[(5,QaW),(700, .it 1011 ck11 (sn36.push (Q3 en10 3)))]++Dn yI yC yK yG yB yS yF yD h7_m h8_m h10_m en10 ck11++Dp⟩ Qa (Yj (fun _=>(MO false ck11 (sn36.push (Q3 en10 3)) yI yC yK yG yB yS yF yD h7_m h8_m h10_m en10):Unit→St) ?_ ?_))))))
  ·refine Vo Qd rfl (xR 6 Qa ?_)
   refine xC [.agg [.sl 1, .id, .id], .id] Qa (QA n [1,2] true yI.N (.func 81,#[],#[])) Qa Qa QS (fun r40=>?_)
   refine xR 1 Qa ?_
   refine xS r40 (fun h41=>?_) (fun h41=>?_)
   ·refine xO (Qp Qa h41) Qa (xR 12 Qa (Yg Qa ?_))
    exact QO () Qa
   refine xN (Qq Qa h41) Qa (xR 12 Qa (Yg Qa ?_))
   exact QO () Qa
  rintro _
  refine Zm Qa (sK (Za ?_))
  exact Md hN38 ⟨[0,7],[700]++Yp,[],[]⟩ Qa
 ·intro sn42 q43 _ hN44
  refine xR 1 Qa (xE (Ql (ML ck11 (sn42.push (Q3 en10 4)) yI yC yK yG yB yS yF yD h7_m h8_m h10_m en10) Qa (sS (Zl Qa (sK (Ql (MN ck11 (sn42.push (Q3 en10 4)) yI yC yK yG yB yS yF yD h7_m h8_m h10_m en10) Qa (sB ?_)))))))
  refine sS (sG (VH (b:=700) (m:=1011) (es:=(Ur 1012 1013 1014 1015 1016 1017 1018 1019 1020 1021)) (sn:=sn42) 4 hb11 Qa rfl Qa Qa Qa Qa rfl rfl (xR 5 Qa (xE (Ql ⟨Ox [102,114,111,109],[(5,QaX),(700, .it 1011 ck11 (sn42.push (Q3 en10 4)))]++Dn yI yC yK yG yB yS yF yD h7_m h8_m h10_m en10 ck11++Dp⟩ Qa ?_)))))
  refine CP 5 2 Qa (fun hw45=>?_)
  refine Yj (fun j46=>(MO j46 ck11 (sn42.push (Q3 en10 4)) yI yC yK yG yB yS yF yD h7_m h8_m h10_m en10):Bool→St) ?_ ?_
  ·refine Vo Qd rfl (xR 6 Qa ?_)
   refine xC [.agg [.sl 1, .id, .id], .id] Qa (QA n [2] false yI.N hw45) Qa Qa QS (fun r47=>?_)
   refine xR 1 Qa ?_
   refine xS r47 (fun h48=>?_) (fun h48=>?_)
   ·refine xO (Qp Qa h48) Qa (xR 9 Qa ?_)
    refine ZM Qa Qa (Zu (kt:=9) (e:=4) (ke:=QQ) (ve:=QR) (eq:=Qb) (b:=1010) (m:=h10_m) (k:=[102,114,111,109]) (z0:=false) rfl Qa Qa Qa Qa Qa QS (fun _ _=>QY rfl _ _) Qa) ?_
    refine xR 2 Qa (Yg Qa ?_)
    exact QO (!(QE Qb [102,114,111,109] false h10_m)) Qa
   refine xN (Qq Qa h48) Qa (xR 12 Qa (Yg Qa ?_))
   exact QO false Qa
  rintro j46
  refine sC j46 Qa ?_ ?_
  ·refine Zj (JE (en:=en10) (ck:=ck11) 1011 (Ur 1012 1013 1014 1015 1016 1017 1018 1019 1020 1021) Qa) (sG (xR 4 Qa (Vp [] [I 4, .agg [I yI.Kind,S yI.Name,I yI.N,I yI.At, .p (.sl 5 (mI yI.Kids))]] [] [] [] Qa Tryz.func49 rfl Tryz.ntmps49 rfl Qa Qa Qa (Qg Qd (U5 4 yI) Qa (sG (xR 6 Qa (XC 116 (.agg [I 4,I yI.At]) Qa rfl Qa ?_)))))))
   refine ZR [] [] Qa (Zd (EA hN44 (Zd (Zk ?_))))
   exact Kz Yp [] Qa Qa Qa
  refine sK (Za ?_)
  exact Md hN44 ⟨[0,7],[700]++Yp,[],[]⟩ Qa
 ·intro sn49 q50 _ hN51
  refine xR 1 Qa (xE (Ql (ML ck11 (sn49.push (Q3 en10 5)) yI yC yK yG yB yS yF yD h7_m h8_m h10_m en10) Qa (sS (Zl Qa (sK (Ql (MN ck11 (sn49.push (Q3 en10 5)) yI yC yK yG yB yS yF yD h7_m h8_m h10_m en10) Qa (sB ?_)))))))
  refine sS (sG (VH (b:=700) (m:=1011) (es:=(Ur 1012 1013 1014 1015 1016 1017 1018 1019 1020 1021)) (sn:=sn49) 5 hb11 Qa rfl Qa Qa Qa Qa rfl rfl (xR 5 Qa (xE (Ql ⟨Ox [111,119,110,101,114],[(5,Qa0),(700, .it 1011 ck11 (sn49.push (Q3 en10 5)))]++Dn yI yC yK yG yB yS yF yD h7_m h8_m h10_m en10 ck11++Dp⟩ Qa (Yj (fun j52=>(MO j52 ck11 (sn49.push (Q3 en10 5)) yI yC yK yG yB yS yF yD h7_m h8_m h10_m en10):Bool→St) ?_ ?_))))))
  ·refine Vo Qd rfl (xR 6 Qa ?_)
   refine xC [.agg [.sl 1, .id, .id], .id] Qa (QA n [4,5] false yI.N (.func 44,#[],#[])) Qa Qa QS (fun r53=>?_)
   refine xR 1 Qa ?_
   refine xS r53 (fun h54=>?_) (fun h54=>?_)
   ·refine xO (Qp Qa h54) Qa (xR 9 Qa ?_)
    refine ZM Qa Qa (Zu (kt:=9) (e:=4) (ke:=QQ) (ve:=QR) (eq:=Qb) (b:=1010) (m:=h10_m) (k:=[111,119,110,101,114]) (z0:=false) rfl Qa Qa Qa Qa Qa QS (fun _ _=>QY rfl _ _) Qa) ?_
    refine xR 2 Qa (Yg Qa ?_)
    exact QO (!(QE Qb [111,119,110,101,114] false h10_m)) Qa
   refine xN (Qq Qa h54) Qa (xR 12 Qa (Yg Qa ?_))
   exact QO false Qa
  rintro j52
  refine sC j52 Qa ?_ ?_
  ·refine Zj (JE (en:=en10) (ck:=ck11) 1011 (Ur 1012 1013 1014 1015 1016 1017 1018 1019 1020 1021) Qa) (sG (xR 4 Qa (Vp [] [I 4, .agg [I yI.Kind,S yI.Name,I yI.N,I yI.At, .p (.sl 5 (mI yI.Kids))]] [] [] [] Qa Tryz.func49 rfl Tryz.ntmps49 rfl Qa Qa Qa (Qg Qd (U5 4 yI) Qa (sG (xR 6 Qa (XC 116 (.agg [I 4,I yI.At]) Qa rfl Qa ?_)))))))
   refine ZR [] [] Qa (Zd (EA hN51 (Zd (Zk ?_))))
   exact Kz Yp [] Qa Qa Qa
  refine sK (Za ?_)
  exact Md hN51 ⟨[0,7],[700]++Yp,[],[]⟩ Qa
 ·intro sn55 q56 _ hN57
  refine xR 1 Qa (xE (Ql (ML ck11 (sn55.push (Q3 en10 6)) yI yC yK yG yB yS yF yD h7_m h8_m h10_m en10) Qa (sS (Zl Qa (sK (Ql (MN ck11 (sn55.push (Q3 en10 6)) yI yC yK yG yB yS yF yD h7_m h8_m h10_m en10) Qa (sB ?_)))))))
  refine sS (sG (VH (b:=700) (m:=1011) (es:=(Ur 1012 1013 1014 1015 1016 1017 1018 1019 1020 1021)) (sn:=sn55) 6 hb11 Qa rfl Qa Qa Qa Qa rfl rfl (xR 5 Qa (xE (Ql ⟨Ox [114,97,110,107],[(5,Qa1),(700, .it 1011 ck11 (sn55.push (Q3 en10 6)))]++Dn yI yC yK yG yB yS yF yD h7_m h8_m h10_m en10 ck11++Dp⟩ Qa (Yj (fun j58=>(MO j58 ck11 (sn55.push (Q3 en10 6)) yI yC yK yG yB yS yF yD h7_m h8_m h10_m en10):Bool→St) ?_ ?_))))))
  ·refine Vo Qd rfl (xR 6 Qa ?_)
   refine xC [.agg [.sl 1, .id, .id], .id] Qa (QA n [4] false yI.N (.func 46,#[],#[])) Qa Qa QS (fun r59=>?_)
   refine xR 1 Qa ?_
   refine xS r59 (fun h60=>?_) (fun h60=>?_)
   ·refine xO (Qp Qa h60) Qa (xR 9 Qa ?_)
    refine ZM Qa Qa (Zu (kt:=9) (e:=4) (ke:=QQ) (ve:=QR) (eq:=Qb) (b:=1010) (m:=h10_m) (k:=[114,97,110,107]) (z0:=false) rfl Qa Qa Qa Qa Qa QS (fun _ _=>QY rfl _ _) Qa) ?_
    refine xR 2 Qa (Yg Qa ?_)
    exact QO (!(QE Qb [114,97,110,107] false h10_m)) Qa
   refine xN (Qq Qa h60) Qa (xR 12 Qa (Yg Qa ?_))
   exact QO false Qa
  rintro j58
  refine sC j58 Qa ?_ ?_
  ·refine Zj (JE (en:=en10) (ck:=ck11) 1011 (Ur 1012 1013 1014 1015 1016 1017 1018 1019 1020 1021) Qa) (sG (xR 4 Qa (Vp [] [I 4, .agg [I yI.Kind,S yI.Name,I yI.N,I yI.At, .p (.sl 5 (mI yI.Kids))]] [] [] [] Qa Tryz.func49 rfl Tryz.ntmps49 rfl Qa Qa Qa (Qg Qd (U5 4 yI) Qa (sG (xR 6 Qa (XC 116 (.agg [I 4,I yI.At]) Qa rfl Qa ?_)))))))
   refine ZR [] [] Qa (Zd (EA hN57 (Zd (Zk ?_))))
   exact Kz Yp [] Qa Qa Qa
  refine sK (Za ?_)
  exact Md hN57 ⟨[0,7],[700]++Yp,[],[]⟩ Qa
 ·intro sn61 q62 _ hN63
  refine xR 1 Qa (xE (Ql (ML ck11 (sn61.push (Q3 en10 7)) yI yC yK yG yB yS yF yD h7_m h8_m h10_m en10) Qa (sS (Zl Qa (sK (Ql (MN ck11 (sn61.push (Q3 en10 7)) yI yC yK yG yB yS yF yD h7_m h8_m h10_m en10) Qa (sB ?_)))))))
  refine sS (sG (VH (b:=700) (m:=1011) (es:=(Ur 1012 1013 1014 1015 1016 1017 1018 1019 1020 1021)) (sn:=sn61) 7 hb11 Qa rfl Qa Qa Qa Qa rfl rfl (xR 5 Qa (xE (Ql ⟨Ox [99,97,114,100],[(5,Qa2),(700, .it 1011 ck11 (sn61.push (Q3 en10 7)))]++Dn yI yC yK yG yB yS yF yD h7_m h8_m h10_m en10 ck11++Dp⟩ Qa (Yj (fun j64=>(MO j64 ck11 (sn61.push (Q3 en10 7)) yI yC yK yG yB yS yF yD h7_m h8_m h10_m en10):Bool→St) ?_ ?_))))))
  ·refine Vo Qd rfl (xR 6 Qa ?_)
   refine xC [.agg [.sl 1, .id, .id], .id] Qa (QA n [4] false yI.N (.func 48,#[],#[])) Qa Qa QS (fun r65=>?_)
   refine xR 1 Qa ?_
   refine xS r65 (fun h66=>?_) (fun h66=>?_)
   ·refine xO (Qp Qa h66) Qa (xR 9 Qa ?_)
    refine ZM Qa Qa (Zu (kt:=9) (e:=4) (ke:=QQ) (ve:=QR) (eq:=Qb) (b:=1010) (m:=h10_m) (k:=[99,97,114,100]) (z0:=false) rfl Qa Qa Qa Qa Qa QS (fun _ _=>QY rfl _ _) Qa) ?_
    refine xR 2 Qa (Yg Qa ?_)
    exact QO (!(QE Qb [99,97,114,100] false h10_m)) Qa
   refine xN (Qq Qa h66) Qa (xR 12 Qa (Yg Qa ?_))
   exact QO false Qa
  rintro j64
  refine sC j64 Qa ?_ ?_
  ·refine Zj (JE (en:=en10) (ck:=ck11) 1011 (Ur 1012 1013 1014 1015 1016 1017 1018 1019 1020 1021) Qa) (sG (xR 4 Qa (Vp [] [I 4, .agg [I yI.Kind,S yI.Name,I yI.N,I yI.At, .p (.sl 5 (mI yI.Kids))]] [] [] [] Qa Tryz.func49 rfl Tryz.ntmps49 rfl Qa Qa Qa (Qg Qd (U5 4 yI) Qa (sG (xR 6 Qa (XC 116 (.agg [I 4,I yI.At]) Qa rfl Qa ?_)))))))
   refine ZR [] [] Qa (Zd (EA hN63 (Zd (Zk ?_))))
   exact Kz Yp [] Qa Qa Qa
  refine sK (Za ?_)
  exact Md hN63 ⟨[0,7],[700]++Yp,[],[]⟩ Qa
 ·intro sn67 q68 _ hN69
  refine xR 1 Qa (xE (Ql (ML ck11 (sn67.push (Q3 en10 8)) yI yC yK yG yB yS yF yD h7_m h8_m h10_m en10) Qa (sS (Zl Qa (sK (Ql (MN ck11 (sn67.push (Q3 en10 8)) yI yC yK yG yB yS yF yD h7_m h8_m h10_m en10) Qa (sB ?_)))))))
  refine sS (sG (VH (b:=700) (m:=1011) (es:=(Ur 1012 1013 1014 1015 1016 1017 1018 1019 1020 1021)) (sn:=sn67) 8 hb11 Qa rfl Qa Qa Qa Qa rfl rfl (xR 5 Qa (xE (Ql (aI [97,116] (.func (.func 50) #[] #[]) ck11 (sn67.push (Q3 en10 8)) yI yC yK yG yB yS yF yD h7_m h8_m h10_m en10) Qa (Yj (fun j70=>(MO j70 ck11 (sn67.push (Q3 en10 8)) yI yC yK yG yB yS yF yD h7_m h8_m h10_m en10):Bool→St) ?_ ?_))))))
  ·refine Vo Qd rfl (xR 6 Qa ?_)
   refine xC [.agg [.sl 1, .id, .id], .id] Qa (QA n [5] false yI.N (.func 50,#[],#[])) Qa Qa QS (fun r71=>?_)
   refine xR 1 Qa ?_
   refine xS r71 (fun h72=>?_) (fun h72=>?_)
   ·refine xO (Qp Qa h72) Qa (xR 9 Qa ?_)
    refine ZM Qa Qa (Zu (kt:=9) (e:=4) (ke:=QQ) (ve:=QR) (eq:=Qb) (b:=1010) (m:=h10_m) (k:=[97,116]) (z0:=false) rfl Qa Qa Qa Qa Qa QS (fun _ _=>QY rfl _ _) Qa) ?_
    refine xR 2 Qa (Yg Qa ?_)
    exact QO (!(QE Qb [97,116] false h10_m)) Qa
   refine xN (Qq Qa h72) Qa (xR 12 Qa (Yg Qa ?_))
   exact QO false Qa
  rintro j70
  refine sC j70 Qa ?_ ?_
  ·refine Zj (JE (en:=en10) (ck:=ck11) 1011 (Ur 1012 1013 1014 1015 1016 1017 1018 1019 1020 1021) Qa) (sG (xR 4 Qa (Vp [] [I 4, .agg [I yI.Kind,S yI.Name,I yI.N,I yI.At, .p (.sl 5 (mI yI.Kids))]] [] [] [] Qa Tryz.func49 rfl Tryz.ntmps49 rfl Qa Qa Qa (Qg Qd (U5 4 yI) Qa (sG (xR 6 Qa (XC 116 (.agg [I 4,I yI.At]) Qa rfl Qa ?_)))))))
   refine ZR [] [] Qa (Zd (EA hN69 (Zd (Zk ?_))))
   exact Kz Yp [] Qa Qa Qa
  refine sK (Za ?_)
  exact Md hN69 ⟨[0,7],[700]++Yp,[],[]⟩ Qa
 ·intro sn73 q74 _ hN75
  refine xR 1 Qa (xE (Ql (ML ck11 (sn73.push (Q3 en10 9)) yI yC yK yG yB yS yF yD h7_m h8_m h10_m en10) Qa (sS (Zl Qa (sK (Ql (MN ck11 (sn73.push (Q3 en10 9)) yI yC yK yG yB yS yF yD h7_m h8_m h10_m en10) Qa (sB ?_)))))))
  refine sS (sG (VH (b:=700) (m:=1011) (es:=(Ur 1012 1013 1014 1015 1016 1017 1018 1019 1020 1021)) (sn:=sn73) 9 hb11 Qa rfl Qa Qa Qa Qa rfl rfl (xR 5 Qa (xE (Ql (aI [112,104,97,115,101,115] (.func (.func 51) #[] #[]) ck11 (sn73.push (Q3 en10 9)) yI yC yK yG yB yS yF yD h7_m h8_m h10_m en10) Qa (Yj (fun j76=>(MO j76 ck11 (sn73.push (Q3 en10 9)) yI yC yK yG yB yS yF yD h7_m h8_m h10_m en10):Bool→St) ?_ ?_))))))
  ·refine Vo Qd rfl (xR 6 Qa ?_)
   refine xC [.agg [.sl 1, .id, .id], .id] Qa (QA n [5] false yI.N (.func 51,#[],#[])) Qa Qa QS (fun r77=>?_)
   refine xR 1 Qa ?_
   refine xS r77 (fun h78=>?_) (fun h78=>?_)
   ·refine xO (Qp Qa h78) Qa (xR 9 Qa ?_)
    refine ZM Qa Qa (Zu (kt:=9) (e:=4) (ke:=QQ) (ve:=QR) (eq:=Qb) (b:=1010) (m:=h10_m) (k:=[112,104,97,115,101,115]) (z0:=false) rfl Qa Qa Qa Qa Qa QS (fun _ _=>QY rfl _ _) Qa) ?_
    refine xR 2 Qa (Yg Qa ?_)
    exact QO (!(QE Qb [112,104,97,115,101,115] false h10_m)) Qa
   refine xN (Qq Qa h78) Qa (xR 12 Qa (Yg Qa ?_))
   exact QO false Qa
  rintro j76
  refine sC j76 Qa ?_ ?_
  ·refine Zj (JE (en:=en10) (ck:=ck11) 1011 (Ur 1012 1013 1014 1015 1016 1017 1018 1019 1020 1021) Qa) (sG (xR 4 Qa (Vp [] [I 4, .agg [I yI.Kind,S yI.Name,I yI.N,I yI.At, .p (.sl 5 (mI yI.Kids))]] [] [] [] Qa Tryz.func49 rfl Tryz.ntmps49 rfl Qa Qa Qa (Qg Qd (U5 4 yI) Qa (sG (xR 6 Qa (XC 116 (.agg [I 4,I yI.At]) Qa rfl Qa ?_)))))))
   refine ZR [] [] Qa (Zd (EA hN75 (Zd (Zk ?_))))
   exact Kz Yp [] Qa Qa Qa
  refine sK (Za ?_)
  exact Md hN75 ⟨[0,7],[700]++Yp,[],[]⟩ Qa
 ·intro sn79 q80 _ hN81
  refine xR 1 Qa (xE (Ql (ML ck11 (sn79.push (Q3 en10 10)) yI yC yK yG yB yS yF yD h7_m h8_m h10_m en10) Qa (sS (Zl Qa (sK (Ql (MN ck11 (sn79.push (Q3 en10 10)) yI yC yK yG yB yS yF yD h7_m h8_m h10_m en10) Qa (sB ?_)))))))
  refine sS (sG (VH (b:=700) (m:=1011) (es:=(Ur 1012 1013 1014 1015 1016 1017 1018 1019 1020 1021)) (sn:=sn79) 10 hb11 Qa rfl Qa Qa Qa Qa rfl rfl (xR 5 Qa (xE (Ql ⟨Ox [97,109,112,115],[(5,Qa4),(700, .it 1011 ck11 (sn79.push (Q3 en10 10)))]++Dn yI yC yK yG yB yS yF yD h7_m h8_m h10_m en10 ck11++Dp⟩ Qa ?_)))))
  refine CP 5 2 Qa (fun hw82=>?_)
  refine Yj (fun j83=>(MO j83 ck11 (sn79.push (Q3 en10 10)) yI yC yK yG yB yS yF yD h7_m h8_m h10_m en10):Bool→St) ?_ ?_
  ·refine Vo Qd rfl (xR 6 Qa ?_)
   refine xC [.agg [.sl 1, .id, .id], .id] Qa (QA n [5] false yI.N hw82) Qa Qa QS (fun r84=>?_)
   refine xR 1 Qa ?_
   refine xS r84 (fun h85=>?_) (fun h85=>?_)
   ·refine xO (Qp Qa h85) Qa (xR 9 Qa ?_)
    refine ZM Qa Qa (Zu (kt:=9) (e:=4) (ke:=QQ) (ve:=QR) (eq:=Qb) (b:=1010) (m:=h10_m) (k:=[97,109,112,115]) (z0:=false) rfl Qa Qa Qa Qa Qa QS (fun _ _=>QY rfl _ _) Qa) ?_
    refine xR 2 Qa (Yg Qa ?_)
    exact QO (!(QE Qb [97,109,112,115] false h10_m)) Qa
   refine xN (Qq Qa h85) Qa (xR 12 Qa (Yg Qa ?_))
   exact QO false Qa
  rintro j83
  refine sC j83 Qa ?_ ?_
  ·refine Zj (JE (en:=en10) (ck:=ck11) 1011 (Ur 1012 1013 1014 1015 1016 1017 1018 1019 1020 1021) Qa) (sG (xR 4 Qa (Vp [] [I 4, .agg [I yI.Kind,S yI.Name,I yI.N,I yI.At, .p (.sl 5 (mI yI.Kids))]] [] [] [] Qa Tryz.func49 rfl Tryz.ntmps49 rfl Qa Qa Qa (Qg Qd (U5 4 yI) Qa (sG (xR 6 Qa (XC 116 (.agg [I 4,I yI.At]) Qa rfl Qa ?_)))))))
   refine ZR [] [] Qa (Zd (EA hN81 (Zd (Zk ?_))))
   exact Kz Yp [] Qa Qa Qa
  refine sK (Za ?_)
  exact Md hN81 ⟨[0,7],[700]++Yp,[],[]⟩ Qa
 ·intro sn86 q87 _ hN88
  refine xR 1 Qa (xE (Ql (ML ck11 (sn86.push (Q3 en10 11)) yI yC yK yG yB yS yF yD h7_m h8_m h10_m en10) Qa (sS (Zl Qa (sK (Ql (MN ck11 (sn86.push (Q3 en10 11)) yI yC yK yG yB yS yF yD h7_m h8_m h10_m en10) Qa (sB ?_)))))))
  refine sS (sG (VH (b:=700) (m:=1011) (es:=(Ur 1012 1013 1014 1015 1016 1017 1018 1019 1020 1021)) (sn:=sn86) 11 hb11 Qa rfl Qa Qa Qa Qa rfl rfl (xR 5 Qa (xE (Ql (aI [102,97,108,108,98,97,99,107] (.func (.func 54) #[] #[]) ck11 (sn86.push (Q3 en10 11)) yI yC yK yG yB yS yF yD h7_m h8_m h10_m en10) Qa (Yj (fun j89=>(MO j89 ck11 (sn86.push (Q3 en10 11)) yI yC yK yG yB yS yF yD h7_m h8_m h10_m en10):Bool→St) ?_ ?_))))))
  ·refine Vo Qd rfl (xR 6 Qa ?_)
   refine xC [.agg [.sl 1, .id, .id], .id] Qa (QA n [5] false yI.N (.func 54,#[],#[])) Qa Qa QS (fun r90=>?_)
   refine xR 1 Qa ?_
   refine xS r90 (fun h91=>?_) (fun h91=>?_)
   ·refine xO (Qp Qa h91) Qa (xR 9 Qa ?_)
    refine ZM Qa Qa (Zu (kt:=9) (e:=4) (ke:=QQ) (ve:=QR) (eq:=Qb) (b:=1010) (m:=h10_m) (k:=[102,97,108,108,98,97,99,107]) (z0:=false) rfl Qa Qa Qa Qa Qa QS (fun _ _=>QY rfl _ _) Qa) ?_
    refine xR 2 Qa (Yg Qa ?_)
    exact QO (!(QE Qb [102,97,108,108,98,97,99,107] false h10_m)) Qa
   refine xN (Qq Qa h91) Qa (xR 12 Qa (Yg Qa ?_))
   exact QO false Qa
  rintro j89
  refine sC j89 Qa ?_ ?_
  ·refine Zj (JE (en:=en10) (ck:=ck11) 1011 (Ur 1012 1013 1014 1015 1016 1017 1018 1019 1020 1021) Qa) (sG (xR 4 Qa (Vp [] [I 4, .agg [I yI.Kind,S yI.Name,I yI.N,I yI.At, .p (.sl 5 (mI yI.Kids))]] [] [] [] Qa Tryz.func49 rfl Tryz.ntmps49 rfl Qa Qa Qa (Qg Qd (U5 4 yI) Qa (sG (xR 6 Qa (XC 116 (.agg [I 4,I yI.At]) Qa rfl Qa ?_)))))))
   refine ZR [] [] Qa (Zd (EA hN88 (Zd (Zk ?_))))
   exact Kz Yp [] Qa Qa Qa
  refine sK (Za ?_)
  exact Md hN88 ⟨[0,7],[700]++Yp,[],[]⟩ Qa
 intro sn92 q93 _ hN94
 refine xR 1 Qa (xE (Ql (ML ck11 (sn92.push (Q3 en10 12)) yI yC yK yG yB yS yF yD h7_m h8_m h10_m en10) Qa (sS (Zl Qa (sK (Ql (MN ck11 (sn92.push (Q3 en10 12)) yI yC yK yG yB yS yF yD h7_m h8_m h10_m en10) Qa (sB ?_)))))))
 refine sS (sG (VH (b:=700) (m:=1011) (es:=(Ur 1012 1013 1014 1015 1016 1017 1018 1019 1020 1021)) (sn:=sn92) 12 hb11 Qa rfl Qa Qa Qa Qa rfl rfl (xR 5 Qa (xE (Ql ⟨Ox [99,104,97,114,103,101,114],[(5,Qa6),(700, .it 1011 ck11 (sn92.push (Q3 en10 12)))]++Dn yI yC yK yG yB yS yF yD h7_m h8_m h10_m en10 ck11++Dp⟩ Qa (Yj (fun j95=>(MO j95 ck11 (sn92.push (Q3 en10 12)) yI yC yK yG yB yS yF yD h7_m h8_m h10_m en10):Bool→St) ?_ ?_))))))
 ·refine Vo Qd rfl (xR 6 Qa ?_)
  refine xC [.agg [.sl 1, .id, .id], .id] Qa (QA n [6] false yI.N (.func 55,#[],#[])) Qa Qa QS (fun r96=>?_)
  refine xR 1 Qa ?_
  refine xS r96 (fun h97=>?_) (fun h97=>?_)
  ·refine xO (Qp Qa h97) Qa (xR 9 Qa ?_)
   refine ZM Qa Qa (Zu (kt:=9) (e:=4) (ke:=QQ) (ve:=QR) (eq:=Qb) (b:=1010) (m:=h10_m) (k:=[99,104,97,114,103,101,114]) (z0:=false) rfl Qa Qa Qa Qa Qa QS (fun _ _=>QY rfl _ _) Qa) ?_
   refine xR 2 Qa (Yg Qa ?_)
   exact QO (!(QE Qb [99,104,97,114,103,101,114] false h10_m)) Qa
  refine xN (Qq Qa h97) Qa (xR 12 Qa (Yg Qa ?_))
  exact QO false Qa
 rintro j95
 refine sC j95 Qa ?_ ?_
 ·refine Zj (JE (en:=en10) (ck:=ck11) 1011 (Ur 1012 1013 1014 1015 1016 1017 1018 1019 1020 1021) Qa) (sG (xR 4 Qa (Vp [] [I 4, .agg [I yI.Kind,S yI.Name,I yI.N,I yI.At, .p (.sl 5 (mI yI.Kids))]] [] [] [] Qa Tryz.func49 rfl Tryz.ntmps49 rfl Qa Qa Qa (Qg Qd (U5 4 yI) Qa (sG (xR 6 Qa (XC 116 (.agg [I 4,I yI.At]) Qa rfl Qa ?_)))))))
  refine ZR [] [] Qa (Zd (EA hN94 (Zd (Zk ?_))))
  exact Kz Yp [] Qa Qa Qa
 refine sK (Za ?_)
 exact Md hN94 ⟨[0,7],[700]++Yp,[],[]⟩ Qa
abbrev ty7:=(Int × (List ZE) × (List QM) × (List ZO) × (List ZT) × (List Q6) × Bool × (List Zr) × (List ((List UInt8) × Bool)) × (List ((List UInt8) × KC)))
abbrev ty4:=((List ZE) × (List QM) × (List ZO) × (List ZT) × (List Q6) × Bool × (List Zr) × (List ((List UInt8) × Bool)) × (List ((List UInt8) × KC)))
def Vg (n:Nat) (a0n:GN) (recl3:ty7→Option ty4) (l3_1:Int) (l3_2:List ZE) (l3_3:List QM) (l3_4:List ZO) (l3_5:List ZT) (l3_6:List Q6) (l3_7:Bool) (l3_8:List Zr) (l3_9:List ((List UInt8) × Bool)) (l3_10:List ((List UInt8) × KC)):Option ty4 :=
 cond (QL l3_1 (Qc (List.map KI a0n.Kids)))
  ((Option.bind (Q4 a0n.Kids l3_1) GN.of).bind fun x4 =>
  ((cond (QE Qb x4.Name false l3_9)
   (some true)
   (cond (Qi x4.N 1)
    (some l3_7)
    (some false))).bind fun j6 =>
  (cond l3_7
   (some true)
   (some (Qi x4.N 1))).bind fun j9 =>
  cond j6
   (cond (Zo (List.length (l3_8++[(⟨5,x4.At⟩:Zr)])) 16) (
    some (l3_2,l3_3,l3_4,l3_5,l3_6,j9,l3_8++[(⟨5,x4.At⟩:Zr)],l3_10)) none)
   (cond (Qi x4.N 7)
    (some (l3_2,l3_3,l3_4,l3_5,l3_6,j9,l3_8,l3_10))
    (((cond (Qi x4.N 1)
     (some (Qi x4.N 1))
     (some (Qi x4.N 2))).bind fun j12 =>
    cond j12
     (some (Qc (List.map ZE.cs l3_2),16))
     (cond (Qi x4.N 3)
      (some (Qc (List.map QM.cs l3_3),8))
      (cond (Qi x4.N 4)
       (some (Qc (List.map ZO.cs l3_4),32))
       (cond (Qi x4.N 5)
        (some (Qc (List.map ZT.cs l3_5),16))
        (some (Qc (List.map Q6.cs l3_6),24)))))).bind fun (j11_1,j11_2) =>
    cond (leI j11_2 j11_1)
     (cond (Zo (List.length (l3_8++[(⟨2,x4.At⟩:Zr)])) 16) (
      some (l3_2,l3_3,l3_4,l3_5,l3_6,j9,l3_8++[(⟨2,x4.At⟩:Zr)],l3_10)) none)
     ((U6 n x4 (⟨[],0,0,0,(⟨0,0⟩:CR),(⟨0,0,0,0,0⟩:XF)⟩:ZE) (⟨[],0,0,0⟩:ZO) (⟨[],0,0,0,0,0,0,0⟩:ZT) (⟨[],0⟩:Q6) (⟨l3_2,l3_3,l3_4,l3_5,l3_6⟩:Qm) j9 l3_8 (Qk Qb x4.Name true l3_9) l3_10 []).bind (Rh (fun r13 =>
      (U7 n x4 r13.1 r13.2.1 r13.2.2.1 r13.2.2.2.1 (⟨l3_2,l3_3,l3_4,l3_5,l3_6⟩:Qm) j9 l3_8 (Qk Qb x4.Name true l3_9) l3_10 r13.2.2.2.2).bind (Rh (fun r15 =>
       ((cond (Qi x4.N 1)
        (some (Qi x4.N 1))
        (some (Qi x4.N 2))).bind fun j18 =>
       cond j18
        (some (Qc (List.map ZE.cs l3_2)))
        (cond (Qi x4.N 3)
         (some (Qc (List.map QM.cs l3_3)))
         (cond (Qi x4.N 4)
          (some (Qc (List.map ZO.cs l3_4)))
          (cond (Qi x4.N 5)
           (some (Qc (List.map ZT.cs l3_5)))
           (some (Qc (List.map Q6.cs l3_6))))))).bind fun j17 =>
       cond (Qi x4.N 1)
        (cond (Zo (List.length (l3_2++[(⟨x4.Name,(-1),r13.1.Limit,r13.1.Neutral,r13.1.Fuse,r13.1.Cable⟩:ZE)])) 96) (
         some (l3_2++[(⟨x4.Name,(-1),r13.1.Limit,r13.1.Neutral,r13.1.Fuse,r13.1.Cable⟩:ZE)],l3_3,l3_4,l3_5,l3_6,j9,l3_8,Qk Qr x4.Name (⟨x4.N,j17⟩:KC) l3_10)) none)
        (cond (Qi x4.N 2)
         (cond (Zo (List.length (l3_2++[(⟨x4.Name,r13.1.Up,r13.1.Limit,r13.1.Neutral,r13.1.Fuse,r13.1.Cable⟩:ZE)])) 96) (
          some (l3_2++[(⟨x4.Name,r13.1.Up,r13.1.Limit,r13.1.Neutral,r13.1.Fuse,r13.1.Cable⟩:ZE)],l3_3,l3_4,l3_5,l3_6,j9,l3_8,Qk Qr x4.Name (⟨x4.N,j17⟩:KC) l3_10)) none)
         (cond (Qi x4.N 3)
          (cond (Zo (List.length (l3_3++[(⟨x4.Name⟩:QM)])) 16) (
           some (l3_2,l3_3++[(⟨x4.Name⟩:QM)],l3_4,l3_5,l3_6,j9,l3_8,Qk Qr x4.Name (⟨x4.N,j17⟩:KC) l3_10)) none)
          (cond (Qi x4.N 4)
           (cond (Zo (List.length (l3_4++[(⟨x4.Name,r13.2.1.Owner,r13.2.1.Rank,r13.2.1.Card⟩:ZO)])) 40) (
            some (l3_2,l3_3,l3_4++[(⟨x4.Name,r13.2.1.Owner,r13.2.1.Rank,r13.2.1.Card⟩:ZO)],l3_5,l3_6,j9,l3_8,Qk Qr x4.Name (⟨x4.N,j17⟩:KC) l3_10)) none)
           (cond (Qi x4.N 5)
            (cond (Zo (List.length (l3_5++[(⟨x4.Name,r13.2.2.1.At,r13.2.2.1.Phases,r13.2.2.1.Min,r13.2.2.1.Max,r13.2.2.1.Step,r13.2.2.1.Fallback,r13.2.2.1.Owner⟩:ZT)])) 72) (
             some (l3_2,l3_3,l3_4,l3_5++[(⟨x4.Name,r13.2.2.1.At,r13.2.2.1.Phases,r13.2.2.1.Min,r13.2.2.1.Max,r13.2.2.1.Step,r13.2.2.1.Fallback,r13.2.2.1.Owner⟩:ZT)],l3_6,j9,l3_8,Qk Qr x4.Name (⟨x4.N,j17⟩:KC) l3_10)) none)
            (cond (Qi x4.N 6)
             (cond (Zo (List.length (l3_6++[(⟨x4.Name,r13.2.2.2.1.Charger⟩:Q6)])) 24) (
              some (l3_2,l3_3,l3_4,l3_5,l3_6++[(⟨x4.Name,r13.2.2.2.1.Charger⟩:Q6)],j9,l3_8,Qk Qr x4.Name (⟨x4.N,j17⟩:KC) l3_10)) none)
             (some (l3_2,l3_3,l3_4,l3_5,l3_6,j9,l3_8,Qk Qr x4.Name (⟨x4.N,j17⟩:KC) l3_10)))))))) fun e16=>cond (Zo (List.length (l3_8++[(⟨e16.1,e16.2⟩:Zr)])) 16) (
       some (l3_2,l3_3,l3_4,l3_5,l3_6,j9,l3_8++[(⟨e16.1,e16.2⟩:Zr)],l3_10)) none)) fun e14=>cond (Zo (List.length (l3_8++[(⟨e14.1.1,e14.1.2⟩:Zr)])) 16) (
      some (l3_2,l3_3,l3_4,l3_5,l3_6,j9,l3_8++[(⟨e14.1.1,e14.1.2⟩:Zr)],l3_10)) none))))).bind fun (j5_1,j5_2,j5_3,j5_4,j5_5,j5_6,j5_7,j5_8) =>
  cond (Qi (Qc (List.map Zr.cs j5_7)) 20)
   (some (j5_1,j5_2,j5_3,j5_4,j5_5,j5_6,j5_7,Qk Qb x4.Name true l3_9,j5_8))
   (recl3 (wi (l3_1+1),j5_1,j5_2,j5_3,j5_4,j5_5,j5_6,j5_7,Qk Qb x4.Name true l3_9,j5_8)))
  (some (l3_2,l3_3,l3_4,l3_5,l3_6,l3_7,l3_8,l3_9,l3_10))
def Yi (n:Nat) (a0n:GN):Option (Qm × (List Zr)) :=
 (UE n a0n).bind fun r1 =>
 cond (!r1)
  (some ((⟨[],[],[],[],[]⟩:Qm),[(⟨1,0⟩:Zr)]))
  ((QT (fun recl3 (l3_1,l3_2,l3_3,l3_4,l3_5,l3_6,l3_7,l3_8,l3_9,l3_10)=>Vg n a0n recl3 l3_1 l3_2 l3_3 l3_4 l3_5 l3_6 l3_7 l3_8 l3_9 l3_10) n (0,[],[],[],[],[],false,[],[],[])).bind fun (j2_1,j2_2,j2_3,j2_4,j2_5,j2_6,j2_7,j2_8,j2_9) =>
  cond (QL 0 (Qc (List.map Zr.cs j2_7)))
   (some ((⟨[],[],[],[],[]⟩:Qm),j2_7))
   (cond (!j2_6)
    (some ((⟨[],[],[],[],[]⟩:Qm),[(⟨4,0⟩:Zr)]))
    (some ((⟨j2_1,j2_2,j2_3,j2_4,j2_5⟩:Qm),[]))))
def Oy:Blk:=.box 33 [.p (.val (.slice none 0 0)), .p (.val (.slice none 0 0)), .p (.val (.slice none 0 0)), .p (.val (.slice none 0 0)), .p (.val (.slice none 0 0))]
def aJ:=fun x0=>([(1, .box 24 (KJ (GN.cs x0))),(2,Oy)]:List (Nat × Blk))
def Qa7:Blk:=.box 74 [.p (.val (.slice none 0 0)), .p (.val (.slice none 0 0)), .p (.val (.slice none 0 0)), .p (.val (.slice none 0 0)), .p (.val (.slice none 0 0)), .mv 14,B false, .mv 15, .p (.val (.slice none 0 0))]
def Qa8:=fun x0=>([(1, .box 24 (KJ (GN.cs x0))),(2,Oy),(14, .mp (Jp QQ QR [])),(15, .mp (Jp VK VL [])),(17,Qa7)]:List (Nat × Blk))
def aK:Blk:=.box 104 [.tsl 1 (List.map ci [1,2]) 3]
def EO:Blk:=.box 104 [.tsl 1 (List.map ci [1,2]) 403]
def Qa9:List (Nat × Blk):=[(401,EO),(402, .box 103 [I 1,I 1000]),(403, .arr 3 1 (List.map ci [1,2]).length),(405, .mf [(true,[108,105,109,105,116], .agg [.tsl 1 (List.map ci [1,2]) 403,B false, .fn (.func 78) [] [.ptr 402 0]]),(true,[110,101,117,116,114,97,108], .agg [.tsl 1 (List.map ci [1,2]) 403,B false, .fn (.func 79) [] [.ptr 402 0]]),(true,[102,117,115,101], .agg [.tsl 1 (List.map ci [1,2]) 403,B true, .fn (.func 80) [] [.ptr 402 0]]),(true,[116,104,101,114,109,97,108], .agg [.tsl 1 (List.map ci [1,2]) 403,B true, .p (.val (.func (.func 81) #[] #[]))]),(true,[102,114,111,109], .agg [.tsl 1 (List.map ci [2]) 417,B false, .fn (.func 82) [] [.ptr 401 0]])]),(417, .arr 3 1 (List.map ci [2]).length)]
def Qba:List (Nat × Blk):=[(401,EO),(402, .box 103 [I 1,I 1000]),(403, .arr 3 1 (List.map ci [1,2]).length),(405, .mf [(true,[108,105,109,105,116], .agg [.tsl 1 (List.map ci [1,2]) 403,B false, .fn (.func 78) [] [.ptr 402 0]]),(true,[110,101,117,116,114,97,108], .agg [.tsl 1 (List.map ci [1,2]) 403,B false, .fn (.func 79) [] [.ptr 402 0]]),(true,[102,117,115,101], .agg [.tsl 1 (List.map ci [1,2]) 403,B true, .fn (.func 80) [] [.ptr 402 0]]),(true,[116,104,101,114,109,97,108], .agg [.tsl 1 (List.map ci [1,2]) 403,B true, .p (.val (.func (.func 81) #[] #[]))]),(true,[102,114,111,109], .agg [.tsl 1 (List.map ci [2]) 417,B false, .fn (.func 82) [] [.ptr 401 0]]),(true,[111,119,110,101,114], .agg [.tsl 1 (List.map ci [4,5]) 7,B false, .p (.val (.func (.func 44) #[] #[]))]),(true,[114,97,110,107], .agg [.tsl 1 (List.map ci [4]) 10,B false, .p (.val (.func (.func 46) #[] #[]))]),(true,[99,97,114,100], .agg [.tsl 1 (List.map ci [4]) 13,B false, .p (.val (.func (.func 48) #[] #[]))])]),(417, .arr 3 1 (List.map ci [2]).length)]
def aL:List (Nat × AV):=[(1, .mv 405),(2, .ptr 2 0),(3, .tsl 1 (List.map ci [5]) 15)]
def fZ:List (Nat × Blk):=[(2, .box 103 [I 1,I 80]),(7, .arr 3 1 (List.map ci [4,5]).length),(10, .arr 3 1 (List.map ci [4]).length),(13, .arr 3 1 (List.map ci [4]).length),(15, .arr 3 1 (List.map ci [5]).length)]
def Qbb:List (Nat × Blk):=[(2, .box 103 [I 1,I 80]),(7, .arr 3 1 (List.map ci [4,5]).length),(10, .arr 3 1 (List.map ci [4]).length),(13, .arr 3 1 (List.map ci [4]).length),(15, .arr 3 1 (List.map ci [5]).length),(30, .arr 3 1 (List.map ci [6]).length)]
def Qbc:List (Nat × Blk):=[(401,EO),(402, .box 103 [I 1,I 1000]),(403, .arr 3 1 (List.map ci [1,2]).length),(405, .mf (Ur 403 402 417 401 7 10 13 15 2 30)),(417, .arr 3 1 (List.map ci [2]).length)]
def aM:List (Nat × Blk):=[(401,EO),(402, .box 103 [I 1,I 80]),(403, .arr 3 1 (List.map ci [1,2]).length),(405, .mf (Ur 403 439 417 401 407 410 413 415 402 430)),(407, .arr 3 1 (List.map ci [4,5]).length),(410, .arr 3 1 (List.map ci [4]).length),(413, .arr 3 1 (List.map ci [4]).length),(415, .arr 3 1 (List.map ci [5]).length),(417, .arr 3 1 (List.map ci [2]).length),(430, .arr 3 1 (List.map ci [6]).length),(439, .box 103 [I 1,I 1000])]
def Qbd:=fun x0 x1 x2 x3 x4 x5 x6=>(.box 74 [.tsl 11 (List.map ZE.cs x0) 700, .tsl 1 (List.map QM.cs x1) 701, .tsl 4 (List.map ZO.cs x2) 702, .tsl 8 (List.map ZT.cs x3) 703, .tsl 2 (List.map Q6.cs x4) 704, .mv 14,B x5, .mv 15, .tsl 2 (List.map Zr.cs x6) 423]:Blk)
def xu:=fun x0 x1 x2 x3 x4 x5 x6 x7 x8=>([(2,Oy),(14, .mp (Jp QQ QR x0)),(15, .mp (Jp VK VL x1)),(17,(Qbd x2 x3 x4 x5 x6 x7 x8))]:List (Nat × Blk))
def U8:=fun x0=>(.arr 49 11 (List.map ZE.cs x0).length:Blk)
def Oz:=fun x0=>(.arr 52 1 (List.map QM.cs x0).length:Blk)
def FX:=fun x0=>(.arr 54 4 (List.map ZO.cs x0).length:Blk)
def Tj:=fun x0=>(.arr 56 8 (List.map ZT.cs x0).length:Blk)
def EP:=fun x0=>(.arr 58 2 (List.map Q6.cs x0).length:Blk)
def yu:=fun x0 x1 x2 x3 x4=>([(700,(U8 x0)),(701,(Oz x1)),(702,(FX x2)),(703,(Tj x3)),(704,(EP x4))]:List (Nat × Blk))
def aN:=fun x0 x1 x2 x3 x4 x5 x6 x7 x8=>(⟨[(2, .ptr 2 0),(4, .ptr 17 0)],xu x0 x1 x2 x3 x4 x5 x6 x7 x8++[(423,(Wv x8))]++yu x2 x3 x4 x5 x6⟩:St)
def aO:=fun x0 x1=>([(2, .ptr 2 0),(4, .ptr 17 0),(5, .mv 405),(20, .p (.sl 5 (List.map KI (GN.Kids x0)))),(21,I (Qc (List.map KI (GN.Kids x0)))),(22,I x1)]:List (Nat × AV))
def Qbe:List (Nat × Blk):=[(2,Oy),(14, .mp (Jp QQ QR [])),(15, .mp (Jp VK VL [])),(17,Qa7)]
def vM:=fun x0=>([(401,EO),(402, .box 103 [I 1,I 80]),(403, .arr 3 1 (List.map ci [1,2]).length),(405, .mf (Ur 403 439 417 401 407 410 413 415 402 430)),(407, .arr 3 1 (List.map ci [4,5]).length),(410, .arr 3 1 (List.map ci [4]).length),(413, .arr 3 1 (List.map ci [4]).length),(415, .arr 3 1 (List.map ci [5]).length),(417, .arr 3 1 (List.map ci [2]).length),(423,(Wv x0)),(430, .arr 3 1 (List.map ci [6]).length),(439, .box 103 [I 1,I 1000])]:List (Nat × Blk))
def dM:=fun x0 x1 x2 x3 x4 x5 x6 x7 x8 x9 x10=>(⟨aO x0 x1,xu x2 x3 x4 x5 x6 x7 x8 x9 x10++vM x10++yu x4 x5 x6 x7 x8⟩:St)
def aP:=fun x0 x1 x2 x3 x4 x5 x6=>(.box 74 [.tsl 11 (List.map ZE.cs x0) 1004, .tsl 1 (List.map QM.cs x1) 1005, .tsl 4 (List.map ZO.cs x2) 1006, .tsl 8 (List.map ZT.cs x3) 1007, .tsl 2 (List.map Q6.cs x4) 1008, .mv 1000,B x5, .mv 1001, .tsl 2 (List.map Zr.cs x6) 1003]:Blk)
def F4:=fun x0 x1 x2 x3 x4 x5 x6 x7 x8=>([(1000, .mp (Jp QQ QR x0)),(1001, .mp (Jp VK VL x1)),(1002,(aP x2 x3 x4 x5 x6 x7 x8)),(1003,(Wv x8)),(1004,(U8 x2)),(1005,(Oz x3)),(1006,(FX x4)),(1007,(Tj x5)),(1008,(EP x6)),(1009,QaY)]:List (Nat × Blk))
def Qcv:List (Nat × AV):=[(2, .mv 1012),(3, .ptr 1900 0),(4, .ptr 4 0)]
def Rz:List (Nat × Blk):=[(1010, .box 103 [I 1,I 80]),(1011, .arr 3 1 (List.map ci [1,2]).length),(1012, .mf (Ur 1011 1019 1017 1009 1013 1014 1015 1016 1010 1018)),(1013, .arr 3 1 (List.map ci [4,5]).length),(1014, .arr 3 1 (List.map ci [4]).length),(1015, .arr 3 1 (List.map ci [4]).length),(1016, .arr 3 1 (List.map ci [5]).length),(1017, .arr 3 1 (List.map ci [2]).length),(1018, .arr 3 1 (List.map ci [6]).length),(1019, .box 103 [I 1,I 1000]),(1900, .box 70 [.ptr 1002 0])]
def dN:=fun x0 x1 x2 x3 x4 x5 x6 x7 x8 x9=>(⟨Qcv,Hl x0++F4 x1 x2 x3 x4 x5 x6 x7 x8 x9++Rz⟩:St)
def aQ:=fun x0=>([(2, .mv 1012),(3, .ptr 1900 0),(4, .ptr 4 0),(6,B x0)]:List (Nat × AV))
def xK:List (Nat × Nat):=[(1000,1000),(1001,1001),(1002,1002),(1003,1003),(1004,1004),(1005,1005),(1006,1006),(1007,1007),(1008,1008),(1009,1900)]
def YN:=fun x0 x1 x2 x3 x4 x5 x6 x7 x8=>([(1000, .mp (Jp QQ QR x0)),(1001, .mp (Jp VK VL x1)),(1002,(aP x2 x3 x4 x5 x6 x7 x8)),(1003,(Wv x8)),(1004,(U8 x2)),(1005,(Oz x3)),(1006,(FX x4)),(1007,(Tj x5)),(1008,(EP x6)),(1009, .box 70 [.ptr 1002 0])]:List (Nat × Blk))
def dO:=fun x0 x1=>([(0, .ptr 1009 0),(1, .ifc 116 (.agg [I x0,I x1])),(6,B true)]:List (Nat × AV))
def dP:=fun x0 x1=>([(0, .ptr 1009 0),(1, .ifc 116 (.agg [I x0,I x1])),(2, .ptr 2 0),(3,B true)]:List (Nat × AV))
def Bh:=fun x0 x1=>([(2, .box 116 [I x0,I x1])]:List (Nat × Blk))
def dQ:=fun x0 x1=>([(0, .ptr 1009 0),(1, .ifc 116 (.agg [I x0,I x1])),(2, .ptr 2 0),(13,B false)]:List (Nat × AV))
def dR:=fun x0 x1 x2 x3 x4 x5 x6 x7 x8 x9 x10=>(⟨[(0, .ptr 1009 0),(2, .ptr 2 0)],Bh x0 x1++YN x2 x3 x4 x5 x6 x7 x8 x9 x10⟩:St)
def zt:List (Nat × AV):=[(0, .ptr 1009 0),(1, .p (.val (.nilIface))),(6,B false)]
def Vy:=fun x0 x1 x2 x3 x4 x5 x6 x7 x8=>([(1000, .mp (Jp QQ QR x0)),(1001, .mp (Jp VK VL x1)),(1002,(aP x2 x3 x4 x5 x6 x7 x8)),(1003,(Wv x8)),(1004,(U8 x2)),(1005,(Oz x3)),(1006,(FX x4)),(1007,(Tj x5)),(1008,(EP x6))]:List (Nat × Blk))
def dS:=fun x0 x1=>([(0, .ptr 1002 0),(6,I x0),(7,B x1)]:List (Nat × AV))
def Qbf:=fun x0=>([(4,I (Qc (List.map ZE.cs x0))),(5,I 16)]:List (Nat × AV))
def Qbg:=fun x0=>([(4,I (Qc (List.map ZO.cs x0))),(5,I 32)]:List (Nat × AV))
def Qbh:List (Nat × Nat):=[(1000,69),(1001,1002),(1002,1004),(1003,1005),(1004,1006),(1005,1007),(1006,1008),(1007,1000),(1008,1001),(1009,1003),(1010,67),(1011,1012),(1012,1011),(1013,1019),(1014,1017),(1015,1009),(1016,1013),(1017,1014),(1018,1015),(1019,1016),(1020,1010),(1021,1018)]
def Qbi:=fun x0 x1 x2 x3 x4 x5=>(.box 108 ([.ptr 1002 0]++KJ (GN.cs x0)++[.mv 67]++KJ (ZE.cs x1)++KJ (ZO.cs x2)++KJ (ZT.cs x3)++[S x4,I x5]):Blk)
def Qcw:=fun x0 x1 x2 x3 x4 x5=>(.box 108 ([.ptr 1004 0]++KJ (GN.cs x0)++[.mv 1000]++KJ (ZE.cs x1)++KJ (ZO.cs x2)++KJ (ZT.cs x3)++[S x4,I x5]):Blk)
def aR:=fun x0 x1 x2 x3 x4 x5 x6=>(.box 74 [.tsl 11 (List.map ZE.cs x0) 1006, .tsl 1 (List.map QM.cs x1) 1007, .tsl 4 (List.map ZO.cs x2) 1008, .tsl 8 (List.map ZT.cs x3) 1009, .tsl 2 (List.map Q6.cs x4) 1010, .mv 1002,B x5, .mv 1003, .tsl 2 (List.map Zr.cs x6) 1005]:Blk)
def H7:=fun x0 x1 x2 x3 x4 x5 x6 x7 x8 x9 x10 x11 x12 x13 x14 x15=>([(1000, .mp (Jp QQ QR x0)),(1001,(Qcw x1 x2 x3 x4 x5 x6)),(1002, .mp (Jp QQ QR x7)),(1003, .mp (Jp VK VL x8)),(1004,(aR x9 x10 x11 x12 x13 x14 x15)),(1005,(Wv x15)),(1006,(U8 x9)),(1007,(Oz x10)),(1008,(FX x11)),(1009,(Tj x12)),(1010,(EP x13))]:List (Nat × Blk))
def Qbj:=fun x0=>([(0, .ptr 1001 0),(2,S x0),(3, .ptr 1004 0)]:List (Nat × AV))
theorem Vh (n:Nat) (a0n:GN):∀ r,Yi n a0n=some r→Q9 Tryz.prog 9 [ag (GN.cs a0n)] (.ret (.tup [ag (Qm.cs r.1), .p (.sl 2 (K5 r.2))])):=by
 refine Qt (X:=fun r:Qm × (List Zr)=>QV.ret (.tup [ag (Qm.cs r.1), .p (.sl 2 (K5 r.2))])) Tryz.func9 rfl Tryz.ntmps9 rfl ?_
 unfold Yi
 refine Qg Qd ⟨[qq 1,qq 2],aJ a0n⟩ Qa (sS (sS (sG (xR 1 Qa ?_))))
 refine xC [] Qa (Bf n a0n) Qa Qa QS (fun r1=>?_)
 refine xR 1 Qa (xE (Ql ⟨[qq 1,qq 2,(10,B (!r1))],aJ a0n⟩ Qa (sC (!r1) Qa ?_ ?_)))
 ·refine Qg Qd ⟨[qq 2,(3, .tsl 2 (K5 [(⟨1,0⟩:Zr)]) 13)],[(2,Oy),(13,(bU (⟨1,0⟩:Zr)))]⟩ Qa (sT (Q8 ?_))
  exact qR (.agg [.agg [.sl 11, .sl 1, .sl 4, .sl 8, .sl 2], .sl 2]) Qa Qa Qa
 refine sK (Ql ⟨[qq 1,qq 2],aJ a0n⟩ Qa (sS (sG (ZM Qa Qa (En (d:=14) (rsv:=none) rfl rfl Qa) (ZM Qa Qa (En (d:=15) (rsv:=none) rfl rfl Qa) (xR 3 Qa (xE ?_)))))))
 refine Ql ⟨[qq 1,qq 2,(4, .ptr 17 0)],Qa8 a0n⟩ Qa (sS (sG (Vp [] [] [(2,402),(7,407),(10,410),(13,413),(15,415),(30,430),(401,401),(402,439),(403,403),(405,405),(417,417)] [] [] Qa Tryz.func25 rfl Tryz.ntmps25 rfl Qa Qa Qa (Qg Qd ⟨[],[]⟩ Qa (sS (sG (Vp [] [] [(1,401),(2,402),(3,403),(5,405),(17,417)] [] [] Qa Tryz.func43 rfl Tryz.ntmps43 rfl Qa Qa Qa ?_)))))))
 refine Qg Qd ⟨[],[]⟩ Qa (Qg Qd ⟨[qq 1],[(1,aK),(3, .arr 3 1 (List.map ci [1,2]).length)]⟩ Qa (Qg Qd ⟨[qq 1,qq 2],[(1,aK),(2, .box 103 [I 1,I 1000]),(3, .arr 3 1 (List.map ci [1,2]).length)]⟩ Qa (sS (sG (xR 4 Qa (EC Qa rfl Qa Qa (xR 3 Qa ?_)))))))
 refine EC Qa rfl Qa Qa (xR 3 Qa (EC Qa rfl Qa Qa (xR 2 Qa (EC Qa rfl Qa Qa (xR 3 Qa (EC Qa rfl Qa Qa (xR 2 Qa ?_)))))))
 refine xE (Ql ⟨[(0, .mv 5)],[(1,aK),(2, .box 103 [I 1,I 1000]),(3, .arr 3 1 (List.map ci [1,2]).length),(5, .mf [(true,[108,105,109,105,116], .agg [.tsl 1 (List.map ci [1,2]) 3,B false, .fn (.func 78) [] [.ptr 2 0]]),(true,[110,101,117,116,114,97,108], .agg [.tsl 1 (List.map ci [1,2]) 3,B false, .fn (.func 79) [] [.ptr 2 0]]),(true,[102,117,115,101], .agg [.tsl 1 (List.map ci [1,2]) 3,B true, .fn (.func 80) [] [.ptr 2 0]]),(true,[116,104,101,114,109,97,108], .agg [.tsl 1 (List.map ci [1,2]) 3,B true, .p (.val (.func (.func 81) #[] #[]))]),(true,[102,114,111,109], .agg [.tsl 1 (List.map ci [2]) 17,B false, .fn (.func 82) [] [.ptr 1 0]])]),(17, .arr 3 1 (List.map ci [2]).length)]⟩ Qa (sT (Q0 (.id) [1,2,3,5,17] [] (.mv 5) Qa Qa (WG (xR 1 Qa (xE (Ql ⟨[(1, .mv 405)],Qa9⟩ Qa ?_)))))))
 refine Qg Qd ⟨[(1, .mv 405),qq 2],[(2, .box 103 [I 1,I 80])]++Qa9⟩ Qa (Qg Qd ⟨[(1, .mv 405),qq 2],[(2, .box 103 [I 1,I 80]),(7, .arr 3 1 (List.map ci [4,5]).length),(401,EO),(402, .box 103 [I 1,I 1000]),(403, .arr 3 1 (List.map ci [1,2]).length),(405, .mf [(true,[108,105,109,105,116], .agg [.tsl 1 (List.map ci [1,2]) 403,B false, .fn (.func 78) [] [.ptr 402 0]]),(true,[110,101,117,116,114,97,108], .agg [.tsl 1 (List.map ci [1,2]) 403,B false, .fn (.func 79) [] [.ptr 402 0]]),(true,[102,117,115,101], .agg [.tsl 1 (List.map ci [1,2]) 403,B true, .fn (.func 80) [] [.ptr 402 0]]),(true,[116,104,101,114,109,97,108], .agg [.tsl 1 (List.map ci [1,2]) 403,B true, .p (.val (.func (.func 81) #[] #[]))]),(true,[102,114,111,109], .agg [.tsl 1 (List.map ci [2]) 417,B false, .fn (.func 82) [] [.ptr 401 0]]),(true,[111,119,110,101,114], .agg [.tsl 1 (List.map ci [4,5]) 7,B false, .p (.val (.func (.func 44) #[] #[]))])]),(417, .arr 3 1 (List.map ci [2]).length)]⟩ Qa (Qg Qd ⟨[(1, .mv 405),qq 2],[(2, .box 103 [I 1,I 80]),(7, .arr 3 1 (List.map ci [4,5]).length),(10, .arr 3 1 (List.map ci [4]).length),(401,EO),(402, .box 103 [I 1,I 1000]),(403, .arr 3 1 (List.map ci [1,2]).length),(405, .mf [(true,[108,105,109,105,116], .agg [.tsl 1 (List.map ci [1,2]) 403,B false, .fn (.func 78) [] [.ptr 402 0]]),(true,[110,101,117,116,114,97,108], .agg [.tsl 1 (List.map ci [1,2]) 403,B false, .fn (.func 79) [] [.ptr 402 0]]),(true,[102,117,115,101], .agg [.tsl 1 (List.map ci [1,2]) 403,B true, .fn (.func 80) [] [.ptr 402 0]]),(true,[116,104,101,114,109,97,108], .agg [.tsl 1 (List.map ci [1,2]) 403,B true, .p (.val (.func (.func 81) #[] #[]))]),(true,[102,114,111,109], .agg [.tsl 1 (List.map ci [2]) 417,B false, .fn (.func 82) [] [.ptr 401 0]]),(true,[111,119,110,101,114], .agg [.tsl 1 (List.map ci [4,5]) 7,B false, .p (.val (.func (.func 44) #[] #[]))]),(true,[114,97,110,107], .agg [.tsl 1 (List.map ci [4]) 10,B false, .p (.val (.func (.func 46) #[] #[]))])]),(417, .arr 3 1 (List.map ci [2]).length)]⟩ Qa (Qg Qd ⟨[(1, .mv 405),qq 2],[(2, .box 103 [I 1,I 80]),(7, .arr 3 1 (List.map ci [4,5]).length),(10, .arr 3 1 (List.map ci [4]).length),(13, .arr 3 1 (List.map ci [4]).length)]++Qba⟩ Qa (Qg Qd ⟨aL,fZ++Qba⟩ Qa (Qg Qd ⟨aL,fZ++[(401,EO),(402, .box 103 [I 1,I 1000]),(403, .arr 3 1 (List.map ci [1,2]).length),(405, .mf [(true,[108,105,109,105,116], .agg [.tsl 1 (List.map ci [1,2]) 403,B false, .fn (.func 78) [] [.ptr 402 0]]),(true,[110,101,117,116,114,97,108], .agg [.tsl 1 (List.map ci [1,2]) 403,B false, .fn (.func 79) [] [.ptr 402 0]]),(true,[102,117,115,101], .agg [.tsl 1 (List.map ci [1,2]) 403,B true, .fn (.func 80) [] [.ptr 402 0]]),(true,[116,104,101,114,109,97,108], .agg [.tsl 1 (List.map ci [1,2]) 403,B true, .p (.val (.func (.func 81) #[] #[]))]),(true,[102,114,111,109], .agg [.tsl 1 (List.map ci [2]) 417,B false, .fn (.func 82) [] [.ptr 401 0]]),(true,[111,119,110,101,114], .agg [.tsl 1 (List.map ci [4,5]) 7,B false, .p (.val (.func (.func 44) #[] #[]))]),(true,[114,97,110,107], .agg [.tsl 1 (List.map ci [4]) 10,B false, .p (.val (.func (.func 46) #[] #[]))]),(true,[99,97,114,100], .agg [.tsl 1 (List.map ci [4]) 13,B false, .p (.val (.func (.func 48) #[] #[]))]),(true,[97,116], .agg [.tsl 1 (List.map ci [5]) 15,B false, .p (.val (.func (.func 50) #[] #[]))])]),(417, .arr 3 1 (List.map ci [2]).length)]⟩ Qa (Qg Qd ⟨aL,fZ++[(401,EO),(402, .box 103 [I 1,I 1000]),(403, .arr 3 1 (List.map ci [1,2]).length),(405, .mf (Qb1 403 402 417 401 7 10 13 15)),(417, .arr 3 1 (List.map ci [2]).length)]⟩ Qa (Qg Qd ⟨[(1, .mv 405),(3, .tsl 1 (List.map ci [5]) 15)],fZ++[(401,EO),(402, .box 103 [I 1,I 1000]),(403, .arr 3 1 (List.map ci [1,2]).length),(405, .mf (Qb0 403 402 417 401 7 10 13 15 2)),(417, .arr 3 1 (List.map ci [2]).length)]⟩ Qa ?_)))))))
 refine Qg Qd ⟨[(1, .mv 405)],fZ++[(401,EO),(402, .box 103 [I 1,I 1000]),(403, .arr 3 1 (List.map ci [1,2]).length),(405, .mf (QbZ 403 402 417 401 7 10 13 15 2)),(417, .arr 3 1 (List.map ci [2]).length)]⟩ Qa (Qg Qd ⟨[(1, .mv 405)],Qbb++Qbc⟩ Qa (Qg Qd ⟨[(0, .mv 405)],Qbb++Qbc⟩ Qa (sT (Q0 (.id) [2,7,10,13,15,30,401,402,403,405,417] [] (.mv 405) Qa Qa (WG (xR 1 Qa (xE ?_)))))))
 refine Ql ⟨[qq 1,qq 2,(4, .ptr 17 0),(5, .mv 405)],Qa8 a0n++aM⟩ Qa (Yj (fun (j2_1,j2_2,j2_3,j2_4,j2_5,j2_6,j2_7,j2_8,j2_9)=>(aN j2_8 j2_9 j2_1 j2_2 j2_3 j2_4 j2_5 j2_6 j2_7):ty4→St) ?_ ?_)
 rotate_left
 ·rintro ⟨j2_1,j2_2,j2_3,j2_4,j2_5,j2_6,j2_7,j2_8,j2_9⟩
  refine sS (Qg Qd ⟨[qq 2,(4, .ptr 17 0),(42,B (QL 0 (Qc (K5 j2_7))))],xu j2_8 j2_9 j2_1 j2_2 j2_3 j2_4 j2_5 j2_6 j2_7++[(423,(Wv j2_7))]++yu j2_1 j2_2 j2_3 j2_4 j2_5⟩ Qa (sC (QL 0 (Qc (K5 j2_7))) Qa ?_ ?_))
  ·refine Qg Qd ⟨[qq 2,(3, .tsl 2 (K5 j2_7) 423)],[(2,Oy),(423,(Wv j2_7))]⟩ Qa (sT (Q8 ?_))
   exact qR (.agg [.agg [.sl 11, .sl 1, .sl 4, .sl 8, .sl 2], .sl 2]) Qa Qa Qa
  refine sK (Ql (aN j2_8 j2_9 j2_1 j2_2 j2_3 j2_4 j2_5 j2_6 j2_7) Qa (sS (Qg Qd ⟨[qq 2,(4, .ptr 17 0),(52,B (!j2_6))],xu j2_8 j2_9 j2_1 j2_2 j2_3 j2_4 j2_5 j2_6 j2_7++[(423,(Wv j2_7))]++yu j2_1 j2_2 j2_3 j2_4 j2_5⟩ Qa (sC (!j2_6) Qa ?_ ?_))))
  ·refine Qg Qd ⟨[qq 2,(3, .tsl 2 (K5 [(⟨4,0⟩:Zr)]) 55)],[(2,Oy),(55,(bU (⟨4,0⟩:Zr)))]⟩ Qa (sT (Q8 ?_))
   exact qR (.agg [.agg [.sl 11, .sl 1, .sl 4, .sl 8, .sl 2], .sl 2]) Qa Qa Qa
  refine sK (Ql (aN j2_8 j2_9 j2_1 j2_2 j2_3 j2_4 j2_5 j2_6 j2_7) Qa (Qg Qd ⟨[qq 2,(3,zS)],[(2, .box 33 [.tsl 11 (GV j2_1) 700, .tsl 1 (Kk j2_2) 701, .tsl 4 (Gh j2_3) 702, .tsl 8 (Fb j2_4) 703, .tsl 2 (VW j2_5) 704]),(700,(U8 j2_1)),(701,(Oz j2_2)),(702,(FX j2_3)),(703,(Tj j2_4)),(704,(EP j2_5))]⟩ Qa (sT ?_)))
  exact qR (.agg [.agg [.sl 11, .sl 1, .sl 4, .sl 8, .sl 2], .sl 2]) Qa Qa Qa
 refine Qg Qd ⟨aO a0n 0,Qbe++aM⟩ Qa (sB (CQ ⟨aO a0n 0,Qbe++aM⟩ Qa (Zj (Weak.trans (Z8 65 2 423 [] [(17,8)] Qa) (Weak.trans (Z8 49 11 700 [] [(17,0)] Qa) (Weak.trans (Z8 52 1 701 [] [(17,1)] Qa) (Weak.trans (Z8 54 4 702 [] [(17,2)] Qa) (Weak.trans (Z8 56 8 703 [] [(17,3)] Qa) (Z8 58 2 704 [] [(17,4)] Qa)))))) (QH (fun (l3_1,l3_2,l3_3,l3_4,l3_5,l3_6,l3_7,l3_8,l3_9,l3_10)=>(dM a0n l3_1 l3_9 l3_10 l3_2 l3_3 l3_4 l3_5 l3_6 l3_7 l3_8):ty7→St) (Xk Qa) ?_))))
 rintro recl3 ⟨l3_1,l3_2,l3_3,l3_4,l3_5,l3_6,l3_7,l3_8,l3_9,l3_10⟩
 show QX (Vg n a0n recl3 l3_1 l3_2 l3_3 l3_4 l3_5 l3_6 l3_7 l3_8 l3_9 l3_10) _ _ _ _ _ _
 unfold Vg
 refine Qg Qd ⟨[qq 2,(4, .ptr 17 0),(5, .mv 405),(20, .p (.sl 5 (mI a0n.Kids))),(21,I (Qc (mI a0n.Kids))),(22,I l3_1),(23,B (QL l3_1 (Qc (mI a0n.Kids))))],xu l3_9 l3_10 l3_2 l3_3 l3_4 l3_5 l3_6 l3_7 l3_8++vM l3_8++yu l3_2 l3_3 l3_4 l3_5 l3_6⟩ Qa (sS (sC (QL l3_1 (Qc (mI a0n.Kids))) Qa ?_ ?_))
 rotate_left
 ·refine Qz (Kb (KY (QW ?_)))
  exact QO (l3_2,l3_3,l3_4,l3_5,l3_6,l3_7,l3_8,l3_9,l3_10) Qa
 refine sK (Ql (dM a0n l3_1 l3_9 l3_10 l3_2 l3_3 l3_4 l3_5 l3_6 l3_7 l3_8) Qa (sS (sB (sS (sG ?_)))))
 refine xG Qa Qa (Kg (e:=24) (S:=5) (enc:=GN.cs) (dec:=GN.of) (l:=a0n.Kids) (k:=.i64) (n:=l3_1) (sv:=.p (.sl 5 (mI a0n.Kids))) GN.of_cs rfl Qa Qa Qa Qa Qa) (fun x4=>?_)
 refine xR 3 Qa (xE (Ql ⟨[qq 2,(4, .ptr 17 0),(5, .mv 405),qq 7,(20, .p (.sl 5 (mI a0n.Kids))),(21,I (Qc (mI a0n.Kids))),(22,I l3_1)],[(2,Oy),(7,F3 x4),(14, .mp (Jp QQ QR l3_9)),(15, .mp (Jp VK VL l3_10)),(17,(Qbd l3_2 l3_3 l3_4 l3_5 l3_6 l3_7 l3_8))]++vM l3_8++yu l3_2 l3_3 l3_4 l3_5 l3_6⟩ Qa (Yj (fun (j5_1,j5_2,j5_3,j5_4,j5_5,j5_6,j5_7,j5_8)=>(dM a0n l3_1 (Qk Qb x4.Name true l3_9) j5_8 j5_1 j5_2 j5_3 j5_4 j5_5 j5_6 j5_7):((List ZE) × (List QM) × (List ZO) × (List ZT) × (List Q6) × Bool × (List Zr) × (List ((List UInt8) × KC)))→St) ?_ ?_)))
 rotate_left
 ·rintro ⟨j5_1,j5_2,j5_3,j5_4,j5_5,j5_6,j5_7,j5_8⟩
  refine Qg Qd ⟨[qq 2,(4, .ptr 17 0),(5, .mv 405),(20, .p (.sl 5 (mI a0n.Kids))),(21,I (Qc (mI a0n.Kids))),(22,I l3_1),(35,B (Qi (Qc (K5 j5_7)) 20))],xu (Qk Qb x4.Name true l3_9) j5_8 j5_1 j5_2 j5_3 j5_4 j5_5 j5_6 j5_7++vM j5_7++yu j5_1 j5_2 j5_3 j5_4 j5_5⟩ Qa (sC (Qi (Qc (K5 j5_7)) 20) Qa ?_ ?_)
  ·refine Qz (IX rfl (Kb (KY (QW ?_))))
   exact QO (j5_1,j5_2,j5_3,j5_4,j5_5,j5_6,j5_7,Qk Qb x4.Name true l3_9,j5_8) Qa
  refine sK (Za (Ql (dM a0n l3_1 (Qk Qb x4.Name true l3_9) j5_8 j5_1 j5_2 j5_3 j5_4 j5_5 j5_6 j5_7) Qa (sL Qd Qa ?_)))
  exact KZ (wi (l3_1+1),j5_1,j5_2,j5_3,j5_4,j5_5,j5_6,j5_7,Qk Qb x4.Name true l3_9,j5_8) Qa
 refine sG (xR 3 Qa (Yk (f:=26) (args:=[.ptr 17 0, .agg [I x4.Kind,S x4.Name,I x4.N,I x4.At, .p (.sl 5 (mI x4.Kids))], .mv 405]) Qa Qa Qa ?_))
 refine TW (hc:=(F4 l3_9 l3_10 l3_2 l3_3 l3_4 l3_5 l3_6 l3_7 l3_8++[(1010, .box 103 [I 1,I 80]),(1011, .arr 3 1 (List.map ci [1,2]).length),(1012, .mf (Ur 1011 1019 1017 1009 1013 1014 1015 1016 1010 1018)),(1013, .arr 3 1 (List.map ci [4,5]).length),(1014, .arr 3 1 (List.map ci [4]).length),(1015, .arr 3 1 (List.map ci [4]).length),(1016, .arr 3 1 (List.map ci [5]).length),(1017, .arr 3 1 (List.map ci [2]).length),(1018, .arr 3 1 (List.map ci [6]).length),(1019, .box 103 [I 1,I 1000])])) (args':=[Lr, .agg [I x4.Kind,S x4.Name,I x4.N,I x4.At, .p (.sl 5 (mI x4.Kids))], .mv 1012]) [(1000,14),(1001,15),(1002,17),(1009,401),(1010,402),(1011,403),(1012,405),(1013,407),(1014,410),(1015,413),(1016,415),(1017,417),(1003,423),(1018,430),(1019,439),(1004,700),(1005,701),(1006,702),(1007,703),(1008,704)] [] [] (⟨_,_,_,_,_,_,[3],10,_,rfl,rfl,rfl,rfl,rfl,rfl,rfl,rfl,by decide⟩:GJ Tryz.f26 56) [(3,1900)] Tryz.func26 Tryz.ntmps26 Qa Qa Qa Qa Qa Qd rfl Qa Qa ?_
 refine CQ (dN x4 l3_9 l3_10 l3_2 l3_3 l3_4 l3_5 l3_6 l3_7 l3_8) Qa (Yj (fun j6=>⟨aQ j6,Hl x4++F4 l3_9 l3_10 l3_2 l3_3 l3_4 l3_5 l3_6 l3_7 l3_8++Rz⟩:Bool→St) ?_ ?_)
 ·refine Vo Qd rfl (xR 6 Qa ?_)
  refine ZM Qa Qa (Zu (kt:=9) (e:=4) (ke:=QQ) (ve:=QR) (eq:=Qb) (b:=1000) (m:=l3_9) (k:=x4.Name) (z0:=false) rfl Qa Qa Qa Qa Qa QS (fun _ _=>QY rfl _ _) Qa) ?_
  refine xR 1 Qa ?_
  refine xS (QE Qb x4.Name false l3_9) (fun h7=>?_) (fun h7=>?_)
  ·refine xN (Qy Qa h7) Qa (xR 10 Qa (Yg Qa ?_))
   exact QO true Qa
  refine xO (Qx Qa h7) Qa (xR 3 Qa ?_)
  refine xS (Qi x4.N 1) (fun h8=>?_) (fun h8=>?_)
  ·refine xO (Qp Qa h8) Qa (xR 6 Qa (Yg Qa ?_))
   exact QO l3_7 Qa
  refine xN (Qq Qa h8) Qa (xR 6 Qa (Yg Qa ?_))
  exact QO false Qa
 rintro j6
 refine sS (Vo Qd rfl (xR 6 Qa ?_))
 refine ZM Qa Qa (Yl (kt:=9) (e:=4) (ke:=QQ) (ve:=QR) (eq:=Qb) (b:=1000) (m:=l3_9) (k:=x4.Name) (v:=true) rfl Qa Qa Qa Qa Qa Qa QS (fun _ _=>QY rfl _ _)) ?_
 refine Yg Qa (Ql ⟨aQ j6,Hl x4++F4 (Qk Qb x4.Name true l3_9) l3_10 l3_2 l3_3 l3_4 l3_5 l3_6 l3_7 l3_8++Rz⟩ Qa (Yj (fun j9=>⟨aQ j6,Hl x4++F4 (Qk Qb x4.Name true l3_9) l3_10 l3_2 l3_3 l3_4 l3_5 l3_6 j9 l3_8++Rz⟩:Bool→St) ?_ ?_))
 ·refine Vo Qd rfl (xR 6 Qa ?_)
  refine xS l3_7 (fun h10=>?_) (fun h10=>?_)
  ·refine xN (Qy Qa h10) Qa (xR 6 Qa (Yg Qa ?_))
   exact QO true Qa
  refine xO (Qx Qa h10) Qa (xR 6 Qa (Yg Qa ?_))
  exact QO (Qi x4.N 1) Qa
 rintro j9
 refine sS (Qg Qd ⟨[(2, .mv 1012),(3, .ptr 1900 0),qq 4,(47,B j6)],Hl x4++F4 (Qk Qb x4.Name true l3_9) l3_10 l3_2 l3_3 l3_4 l3_5 l3_6 j9 l3_8++Rz⟩ Qa (sC j6 Qa ?_ ?_))
 ·refine sG (xR 1 Qa (Vp [] [I 5, .agg [I x4.Kind,S x4.Name,I x4.N,I x4.At, .p (.sl 5 (mI x4.Kids))]] [] [] [] Qa Tryz.func49 rfl Tryz.ntmps49 rfl Qa Qa Qa (Qg Qd ⟨[(0,I 5),qq 3],WA x4⟩ Qa (sG (xR 6 Qa (XC 116 (.agg [I 5,I x4.At]) Qa rfl Qa (ZR [] [] Qa ?_)))))))
  refine Kj ?_
  refine Jl (⟨Tryz.f56,_,_,_,4,1,_,_,Tryz.func56,rfl,rfl,rfl,rfl,rfl,rfl,rfl,by decide,by decide⟩:Ku Tryz.prog 56) xK (YN (Qk Qb x4.Name true l3_9) l3_10 l3_2 l3_3 l3_4 l3_5 l3_6 j9 l3_8) (.ifc 116 (.agg [I 5,I x4.At])) [.ptr 1009 0] [] rfl Qa Qa Qa Qa ?_
  refine Qg Qd ⟨dO 5 x4.At,YN (Qk Qb x4.Name true l3_9) l3_10 l3_2 l3_3 l3_4 l3_5 l3_6 j9 l3_8⟩ Qa (Zl Qa (Qg Qd ⟨dP 5 x4.At,Bh 5 x4.At++YN (Qk Qb x4.Name true l3_9) l3_10 l3_2 l3_3 l3_4 l3_5 l3_6 j9 l3_8⟩ Qa (sS (Qg Qd ⟨dQ 5 x4.At,Bh 5 x4.At++YN (Qk Qb x4.Name true l3_9) l3_10 l3_2 l3_3 l3_4 l3_5 l3_6 j9 l3_8⟩ Qa (Zm Qa (sK (Ql (dR 5 x4.At (Qk Qb x4.Name true l3_9) l3_10 l3_2 l3_3 l3_4 l3_5 l3_6 j9 l3_8) Qa ?_)))))))
  refine Vo Qd rfl (xR 8 Qa (xF Qa Qa (Zy (e:=65) (S:=2) (by_:=16) (enc:=Zr.cs) (tk:=1003) (l:=l3_8) (l2:=[(⟨5,x4.At⟩:Zr)]) (xv:=.tsl 2 (K5 [(⟨5,x4.At⟩:Zr)]) 22) rfl Qa Qa rfl Qa Qa Qa rfl Qa) (xR 3 Qa (Yg Qa (Cn [1000,1001,1002,1003,1004,1005,1006,1007,1008,1009] [] Qa Qa (Q0 (.id) [1000,1001,1002,1003,1004,1005,1006,1007,1008,1009,1010,1011,1012,1013,1014,1015,1016,1017,1018,1019] [] (.tup []) Qa Qa (WG ?_)))))))
  refine xE ?_
  exact QO (l3_2,l3_3,l3_4,l3_5,l3_6,j9,l3_8++[(⟨5,x4.At⟩:Zr)],l3_10) Qa
 refine sK (Ql (dN x4 (Qk Qb x4.Name true l3_9) l3_10 l3_2 l3_3 l3_4 l3_5 l3_6 j9 l3_8) Qa (sS (Qg Qd ⟨[(2, .mv 1012),(3, .ptr 1900 0),qq 4,(52,B (Qi x4.N 7))],Hl x4++F4 (Qk Qb x4.Name true l3_9) l3_10 l3_2 l3_3 l3_4 l3_5 l3_6 j9 l3_8++Rz⟩ Qa (sC (Qi x4.N 7) Qa ?_ ?_))))
 ·refine sT (Q8 ?_)
  refine Jl (⟨Tryz.f56,_,_,_,4,1,_,_,Tryz.func56,rfl,rfl,rfl,rfl,rfl,rfl,rfl,by decide,by decide⟩:Ku Tryz.prog 56) xK (YN (Qk Qb x4.Name true l3_9) l3_10 l3_2 l3_3 l3_4 l3_5 l3_6 j9 l3_8) (.p (.val (.nilIface))) [.ptr 1009 0] [] rfl Qa Qa Qa Qa ?_
  refine Qg Qd ⟨zt,YN (Qk Qb x4.Name true l3_9) l3_10 l3_2 l3_3 l3_4 l3_5 l3_6 j9 l3_8⟩ Qa (Zm Qa (sK (Cn [1000,1001,1002,1003,1004,1005,1006,1007,1008,1009] [] Qa Qa (Q0 (.id) [1000,1001,1002,1003,1004,1005,1006,1007,1008,1009,1010,1011,1012,1013,1014,1015,1016,1017,1018,1019] [] (.tup []) Qa Qa (WG (xE ?_))))))
  exact QO (l3_2,l3_3,l3_4,l3_5,l3_6,j9,l3_8,l3_10) Qa
 refine sK (Ql (dN x4 (Qk Qb x4.Name true l3_9) l3_10 l3_2 l3_3 l3_4 l3_5 l3_6 j9 l3_8) Qa (sS (Yj (fun (j11_1,j11_2)=>⟨[(2, .mv 1012),(3, .ptr 1900 0),qq 4,(7,I j11_1),(8,I j11_2)],Hl x4++F4 (Qk Qb x4.Name true l3_9) l3_10 l3_2 l3_3 l3_4 l3_5 l3_6 j9 l3_8++Rz⟩:(Int × Int)→St) ?_ ?_)))
 ·refine sG (xR 3 Qa (Vp (Vy (Qk Qb x4.Name true l3_9) l3_10 l3_2 l3_3 l3_4 l3_5 l3_6 j9 l3_8) [Lr,I x4.N] [(1000,1000),(1001,1001),(1002,1002),(1003,1003),(1004,1004),(1005,1005),(1006,1006),(1007,1007),(1008,1008)] [] [] Qa Tryz.func57 rfl Tryz.ntmps57 rfl Qa Qa Qa (Qg Qd ⟨[(0,Lr),(1,I x4.N)],Vy (Qk Qb x4.Name true l3_9) l3_10 l3_2 l3_3 l3_4 l3_5 l3_6 j9 l3_8⟩ Qa (sS (Qg Qd ⟨[(0,Lr),(6,I x4.N)],Vy (Qk Qb x4.Name true l3_9) l3_10 l3_2 l3_3 l3_4 l3_5 l3_6 j9 l3_8⟩ Qa (sB (Yj (fun j12=>⟨dS x4.N j12,Vy (Qk Qb x4.Name true l3_9) l3_10 l3_2 l3_3 l3_4 l3_5 l3_6 j9 l3_8⟩:Bool→St) ?_ ?_)))))))
  ·refine Qg Qd ⟨dS x4.N (Qi x4.N 1),Vy (Qk Qb x4.Name true l3_9) l3_10 l3_2 l3_3 l3_4 l3_5 l3_6 j9 l3_8⟩ Qa (sC (Qi x4.N 1) Qa ?_ ?_)
   ·refine sK ?_
    exact QO (Qi x4.N 1) Qa
   refine sL Qd Qa ?_
   exact QO (Qi x4.N 2) Qa
  rintro j12
  refine sC j12 Qa ?_ ?_
  ·refine Qg Qd ⟨Qbf l3_2,Vy (Qk Qb x4.Name true l3_9) l3_10 l3_2 l3_3 l3_4 l3_5 l3_6 j9 l3_8⟩ Qa (sT (Zh (Q8 (Q0 (.id) [1000,1001,1002,1003,1004,1005,1006,1007,1008] [] (.tup [I (Qc (GV l3_2)),I 16]) Qa Qa (WG (xR 5 Qa (xE ?_)))))))
   exact QO (Qc (GV l3_2),16) Qa
  refine Qg Qd ⟨[(0,Lr),(6,I x4.N),(16,B (Qi x4.N 3))],Vy (Qk Qb x4.Name true l3_9) l3_10 l3_2 l3_3 l3_4 l3_5 l3_6 j9 l3_8⟩ Qa (sC (Qi x4.N 3) Qa ?_ ?_)
  ·refine Qg Qd ⟨[(4,I (Qc (Kk l3_3))),(5,I 8)],Vy (Qk Qb x4.Name true l3_9) l3_10 l3_2 l3_3 l3_4 l3_5 l3_6 j9 l3_8⟩ Qa (sT (Zh (Q8 (Q0 (.id) [1000,1001,1002,1003,1004,1005,1006,1007,1008] [] (.tup [I (Qc (Kk l3_3)),I 8]) Qa Qa (WG (xR 5 Qa (xE ?_)))))))
   exact QO (Qc (Kk l3_3),8) Qa
  refine Qg Qd ⟨[(0,Lr),(6,I x4.N),(24,B (Qi x4.N 4))],Vy (Qk Qb x4.Name true l3_9) l3_10 l3_2 l3_3 l3_4 l3_5 l3_6 j9 l3_8⟩ Qa (sC (Qi x4.N 4) Qa ?_ ?_)
  ·refine Qg Qd ⟨Qbg l3_4,Vy (Qk Qb x4.Name true l3_9) l3_10 l3_2 l3_3 l3_4 l3_5 l3_6 j9 l3_8⟩ Qa (sT (Zh (Q8 (Q0 (.id) [1000,1001,1002,1003,1004,1005,1006,1007,1008] [] (.tup [I (Qc (Gh l3_4)),I 32]) Qa Qa (WG (xR 5 Qa (xE ?_)))))))
   exact QO (Qc (Gh l3_4),32) Qa
  refine Qg Qd ⟨[(0,Lr),(32,B (Qi x4.N 5))],Vy (Qk Qb x4.Name true l3_9) l3_10 l3_2 l3_3 l3_4 l3_5 l3_6 j9 l3_8⟩ Qa (sC (Qi x4.N 5) Qa ?_ ?_)
  ·refine Qg Qd ⟨[(4,I (Qc (Fb l3_5))),(5,I 16)],Vy (Qk Qb x4.Name true l3_9) l3_10 l3_2 l3_3 l3_4 l3_5 l3_6 j9 l3_8⟩ Qa (sT (Zh (Q8 (Q0 (.id) [1000,1001,1002,1003,1004,1005,1006,1007,1008] [] (.tup [I (Qc (Fb l3_5)),I 16]) Qa Qa (WG (xR 5 Qa (xE ?_)))))))
   exact QO (Qc (Fb l3_5),16) Qa
  refine sK (Za (Ql ⟨[(0,Lr)],Vy (Qk Qb x4.Name true l3_9) l3_10 l3_2 l3_3 l3_4 l3_5 l3_6 j9 l3_8⟩ Qa (Qg Qd ⟨[(4,I (Qc (VW l3_6))),(5,I 24)],Vy (Qk Qb x4.Name true l3_9) l3_10 l3_2 l3_3 l3_4 l3_5 l3_6 j9 l3_8⟩ Qa (sT (Q0 (.id) [1000,1001,1002,1003,1004,1005,1006,1007,1008] [] (.tup [I (Qc (VW l3_6)),I 24]) Qa Qa (WG (xR 5 Qa ?_)))))))
  refine xE ?_
  exact QO (Qc (VW l3_6),24) Qa
 rintro ⟨j11_1,j11_2⟩
 refine Qg Qd ⟨[(2, .mv 1012),(3, .ptr 1900 0),qq 4,(62,B (leI j11_2 j11_1))],Hl x4++F4 (Qk Qb x4.Name true l3_9) l3_10 l3_2 l3_3 l3_4 l3_5 l3_6 j9 l3_8++Rz⟩ Qa (sC (leI j11_2 j11_1) Qa ?_ ?_)
 ·refine sG (xR 1 Qa (Vp [] [I 2, .agg [I x4.Kind,S x4.Name,I x4.N,I x4.At, .p (.sl 5 (mI x4.Kids))]] [] [] [] Qa Tryz.func49 rfl Tryz.ntmps49 rfl Qa Qa Qa (Qg Qd ⟨[(0,I 2),qq 3],WA x4⟩ Qa (sG (xR 6 Qa (XC 116 (.agg [I 2,I x4.At]) Qa rfl Qa (ZR [] [] Qa ?_)))))))
  refine Kj ?_
  refine Jl (⟨Tryz.f56,_,_,_,4,1,_,_,Tryz.func56,rfl,rfl,rfl,rfl,rfl,rfl,rfl,by decide,by decide⟩:Ku Tryz.prog 56) xK (YN (Qk Qb x4.Name true l3_9) l3_10 l3_2 l3_3 l3_4 l3_5 l3_6 j9 l3_8) (.ifc 116 (.agg [I 2,I x4.At])) [.ptr 1009 0] [] rfl Qa Qa Qa Qa ?_
  refine Qg Qd ⟨dO 2 x4.At,YN (Qk Qb x4.Name true l3_9) l3_10 l3_2 l3_3 l3_4 l3_5 l3_6 j9 l3_8⟩ Qa (Zl Qa (Qg Qd ⟨dP 2 x4.At,Bh 2 x4.At++YN (Qk Qb x4.Name true l3_9) l3_10 l3_2 l3_3 l3_4 l3_5 l3_6 j9 l3_8⟩ Qa (sS (Qg Qd ⟨dQ 2 x4.At,Bh 2 x4.At++YN (Qk Qb x4.Name true l3_9) l3_10 l3_2 l3_3 l3_4 l3_5 l3_6 j9 l3_8⟩ Qa (Zm Qa (sK (Ql (dR 2 x4.At (Qk Qb x4.Name true l3_9) l3_10 l3_2 l3_3 l3_4 l3_5 l3_6 j9 l3_8) Qa ?_)))))))
  refine Vo Qd rfl (xR 8 Qa (xF Qa Qa (Zy (e:=65) (S:=2) (by_:=16) (enc:=Zr.cs) (tk:=1003) (l:=l3_8) (l2:=[(⟨2,x4.At⟩:Zr)]) (xv:=.tsl 2 (K5 [(⟨2,x4.At⟩:Zr)]) 22) rfl Qa Qa rfl Qa Qa Qa rfl Qa) (xR 3 Qa (Yg Qa (Cn [1000,1001,1002,1003,1004,1005,1006,1007,1008,1009] [] Qa Qa (Q0 (.id) [1000,1001,1002,1003,1004,1005,1006,1007,1008,1009,1010,1011,1012,1013,1014,1015,1016,1017,1018,1019] [] (.tup []) Qa Qa (WG ?_)))))))
  refine xE ?_
  exact QO (l3_2,l3_3,l3_4,l3_5,l3_6,j9,l3_8++[(⟨2,x4.At⟩:Zr)],l3_10) Qa
 refine sK (Ql (dN x4 (Qk Qb x4.Name true l3_9) l3_10 l3_2 l3_3 l3_4 l3_5 l3_6 j9 l3_8) Qa (sS (sG (xR 2 Qa (ZM Qa Qa (En (d:=67) (rsv:=none) rfl rfl Qa) (xR 3 Qa (xE ?_)))))))
 refine Ql ⟨[(2, .mv 1012),(9, .ptr 69 0)],[(67, .mp (Jp QQ QR [])),(69, .box 108 ([Lr]++KJ (GN.cs x4)++[.mv 67,S [],I 0,I 0,I 0,I 0,I 0,I 0,I 0,I 0,I 0,I 0,S [],I 0,I 0,I 0,S [],I 0,I 0,I 0,I 0,I 0,I 0,I 0,S [],I 0]))]++F4 (Qk Qb x4.Name true l3_9) l3_10 l3_2 l3_3 l3_4 l3_5 l3_6 j9 l3_8++Rz⟩ Qa (sS (sG (xR 2 Qa ?_)))
 refine UW Qbh [] [] Qa (S9 n x4 (⟨[],0,0,0,(⟨0,0⟩:CR),(⟨0,0,0,0,0⟩:XF)⟩:ZE) (⟨[],0,0,0⟩:ZO) (⟨[],0,0,0,0,0,0,0⟩:ZT) (⟨[],0⟩:Q6) (⟨l3_2,l3_3,l3_4,l3_5,l3_6⟩:Qm) j9 l3_8 (Qk Qb x4.Name true l3_9) l3_10 []) Qa Qa Qa QS QS QS QS (fun r13=>?_) (fun e14=>?_)
 rotate_left
 ·refine Kj ?_
  refine Jl (⟨Tryz.f56,_,_,_,4,1,_,_,Tryz.func56,rfl,rfl,rfl,rfl,rfl,rfl,rfl,by decide,by decide⟩:Ku Tryz.prog 56) xK (YN (Qk Qb x4.Name true l3_9) l3_10 l3_2 l3_3 l3_4 l3_5 l3_6 j9 l3_8) (.ifc 116 (.agg [I e14.1.1,I e14.1.2])) [.ptr 1009 0] [] rfl Qa Qa Qa Qa ?_
  refine Qg Qd ⟨dO e14.1.1 e14.1.2,YN (Qk Qb x4.Name true l3_9) l3_10 l3_2 l3_3 l3_4 l3_5 l3_6 j9 l3_8⟩ Qa (Zl Qa (Qg Qd ⟨dP e14.1.1 e14.1.2,Bh e14.1.1 e14.1.2++YN (Qk Qb x4.Name true l3_9) l3_10 l3_2 l3_3 l3_4 l3_5 l3_6 j9 l3_8⟩ Qa (sS (Qg Qd ⟨dQ e14.1.1 e14.1.2,Bh e14.1.1 e14.1.2++YN (Qk Qb x4.Name true l3_9) l3_10 l3_2 l3_3 l3_4 l3_5 l3_6 j9 l3_8⟩ Qa (Zm Qa (sK (Ql (dR e14.1.1 e14.1.2 (Qk Qb x4.Name true l3_9) l3_10 l3_2 l3_3 l3_4 l3_5 l3_6 j9 l3_8) Qa ?_)))))))
  refine Vo Qd rfl (xR 8 Qa (xF Qa Qa (Zy (e:=65) (S:=2) (by_:=16) (enc:=Zr.cs) (tk:=1003) (l:=l3_8) (l2:=[(⟨e14.1.1,e14.1.2⟩:Zr)]) (xv:=.tsl 2 (K5 [(⟨e14.1.1,e14.1.2⟩:Zr)]) 22) rfl Qa Qa rfl Qa Qa Qa rfl Qa) (xR 3 Qa (Yg Qa (Cn [1000,1001,1002,1003,1004,1005,1006,1007,1008,1009] [] Qa Qa (Q0 (.id) [1000,1001,1002,1003,1004,1005,1006,1007,1008,1009,1010,1011,1012,1013,1014,1015,1016,1017,1018,1019] [] (.tup []) Qa Qa (WG ?_)))))))
  refine xE ?_
  exact QO (l3_2,l3_3,l3_4,l3_5,l3_6,j9,l3_8++[(⟨e14.1.1,e14.1.2⟩:Zr)],l3_10) Qa
 refine xE (Ql ⟨[(2, .mv 1012),(9, .ptr 69 0)],[(67, .mp (Jp QQ QR r13.2.2.2.2)),(69,(Qbi x4 r13.1 r13.2.1 r13.2.2.1 r13.2.2.2.1.Name r13.2.2.2.1.Charger))]++F4 (Qk Qb x4.Name true l3_9) l3_10 l3_2 l3_3 l3_4 l3_5 l3_6 j9 l3_8++Rz⟩ Qa (sS (sG (xR 2 Qa ?_))))
 refine UW Qbh [] [] Qa (Aa n x4 r13.1 r13.2.1 r13.2.2.1 r13.2.2.2.1 (⟨l3_2,l3_3,l3_4,l3_5,l3_6⟩:Qm) j9 l3_8 (Qk Qb x4.Name true l3_9) l3_10 r13.2.2.2.2) Qa Qa Qa QS QS QS QS (fun r15=>?_) (fun e16=>?_)
 rotate_left
 ·refine Kj ?_
  refine Jl (⟨Tryz.f56,_,_,_,4,1,_,_,Tryz.func56,rfl,rfl,rfl,rfl,rfl,rfl,rfl,by decide,by decide⟩:Ku Tryz.prog 56) xK (YN (Qk Qb x4.Name true l3_9) l3_10 l3_2 l3_3 l3_4 l3_5 l3_6 j9 l3_8) (.ifc 116 (.agg [I e16.1,I e16.2])) [.ptr 1009 0] [] rfl Qa Qa Qa Qa ?_
  refine Qg Qd ⟨dO e16.1 e16.2,YN (Qk Qb x4.Name true l3_9) l3_10 l3_2 l3_3 l3_4 l3_5 l3_6 j9 l3_8⟩ Qa (Zl Qa (Qg Qd ⟨dP e16.1 e16.2,Bh e16.1 e16.2++YN (Qk Qb x4.Name true l3_9) l3_10 l3_2 l3_3 l3_4 l3_5 l3_6 j9 l3_8⟩ Qa (sS (Qg Qd ⟨dQ e16.1 e16.2,Bh e16.1 e16.2++YN (Qk Qb x4.Name true l3_9) l3_10 l3_2 l3_3 l3_4 l3_5 l3_6 j9 l3_8⟩ Qa (Zm Qa (sK (Ql (dR e16.1 e16.2 (Qk Qb x4.Name true l3_9) l3_10 l3_2 l3_3 l3_4 l3_5 l3_6 j9 l3_8) Qa ?_)))))))
  refine Vo Qd rfl (xR 8 Qa (xF Qa Qa (Zy (e:=65) (S:=2) (by_:=16) (enc:=Zr.cs) (tk:=1003) (l:=l3_8) (l2:=[(⟨e16.1,e16.2⟩:Zr)]) (xv:=.tsl 2 (K5 [(⟨e16.1,e16.2⟩:Zr)]) 22) rfl Qa Qa rfl Qa Qa Qa rfl Qa) (xR 3 Qa (Yg Qa (Cn [1000,1001,1002,1003,1004,1005,1006,1007,1008,1009] [] Qa Qa (Q0 (.id) [1000,1001,1002,1003,1004,1005,1006,1007,1008,1009,1010,1011,1012,1013,1014,1015,1016,1017,1018,1019] [] (.tup []) Qa Qa (WG ?_)))))))
  refine xE ?_
  exact QO (l3_2,l3_3,l3_4,l3_5,l3_6,j9,l3_8++[(⟨e16.1,e16.2⟩:Zr)],l3_10) Qa
 refine xE (Ql ⟨[(9, .ptr 69 0)],[(67, .mp (Jp QQ QR r13.2.2.2.2)),(69,(Qbi x4 r13.1 r13.2.1 r13.2.2.1 r13.2.2.2.1.Name r13.2.2.2.1.Charger))]++F4 (Qk Qb x4.Name true l3_9) l3_10 l3_2 l3_3 l3_4 l3_5 l3_6 j9 l3_8++Rz⟩ Qa (sG (xR 1 Qa (Vp (H7 r13.2.2.2.2 x4 r13.1 r13.2.1 r13.2.2.1 r13.2.2.2.1.Name r13.2.2.2.1.Charger (Qk Qb x4.Name true l3_9) l3_10 l3_2 l3_3 l3_4 l3_5 l3_6 j9 l3_8) [Tf] [(1000,67),(1001,69),(1002,1000),(1003,1001),(1004,1002),(1005,1003),(1006,1004),(1007,1005),(1008,1006),(1009,1007),(1010,1008)] [] [] Qa Tryz.func60 rfl Tryz.ntmps60 rfl Qa Qa Qa (Qg Qd ⟨Qbj x4.Name,H7 r13.2.2.2.2 x4 r13.1 r13.2.1 r13.2.2.1 r13.2.2.2.1.Name r13.2.2.2.1.Charger (Qk Qb x4.Name true l3_9) l3_10 l3_2 l3_3 l3_4 l3_5 l3_6 j9 l3_8⟩ Qa (Yj (fun j17=>⟨[(0,Tf),(2,S x4.Name),(3, .ptr 1004 0),(4,I j17)],H7 r13.2.2.2.2 x4 r13.1 r13.2.1 r13.2.2.1 r13.2.2.2.1.Name r13.2.2.2.1.Charger (Qk Qb x4.Name true l3_9) l3_10 l3_2 l3_3 l3_4 l3_5 l3_6 j9 l3_8⟩:Int→St) ?_ ?_))))))
 ·refine V5 [0,1,2,3,4,5,6,7,8] [12] [(9,[10,11,12]),(13,[]),(14,[])] Qd rfl Qa Qa (Yh (f:=57) (args:=[.ptr 1004 0,I x4.N]) (dst:=some 27) Qa Qa (ZA (hc:=(Vy (Qk Qb x4.Name true l3_9) l3_10 l3_2 l3_3 l3_4 l3_5 l3_6 j9 l3_8)) (args':=[Lr,I x4.N]) [(1000,1002),(1001,1003),(1002,1004),(1003,1005),(1004,1006),(1005,1007),(1006,1008),(1007,1009),(1008,1010)] [] [] Tryz.func57 rfl Tryz.ntmps57 rfl Qa Qa Qa (Qg Qd ⟨[(0,Lr),(1,I x4.N)],Vy (Qk Qb x4.Name true l3_9) l3_10 l3_2 l3_3 l3_4 l3_5 l3_6 j9 l3_8⟩ Qa (sS (Qg Qd ⟨[(0,Lr),(6,I x4.N)],Vy (Qk Qb x4.Name true l3_9) l3_10 l3_2 l3_3 l3_4 l3_5 l3_6 j9 l3_8⟩ Qa (sB (Yj (fun j18=>⟨dS x4.N j18,Vy (Qk Qb x4.Name true l3_9) l3_10 l3_2 l3_3 l3_4 l3_5 l3_6 j9 l3_8⟩:Bool→St) ?_ ?_)))))))
  ·refine Qg Qd ⟨dS x4.N (Qi x4.N 1),Vy (Qk Qb x4.Name true l3_9) l3_10 l3_2 l3_3 l3_4 l3_5 l3_6 j9 l3_8⟩ Qa (sC (Qi x4.N 1) Qa ?_ ?_)
   ·refine sK ?_
    exact QO (Qi x4.N 1) Qa
   refine sL Qd Qa ?_
   exact QO (Qi x4.N 2) Qa
  rintro j18
  refine sC j18 Qa ?_ ?_
  ·refine Qg Qd ⟨Qbf l3_2,Vy (Qk Qb x4.Name true l3_9) l3_10 l3_2 l3_3 l3_4 l3_5 l3_6 j9 l3_8⟩ Qa (sT (Zh (Q8 (Q0 (.id) [1000,1001,1002,1003,1004,1005,1006,1007,1008] [] (.tup [I (Qc (GV l3_2)),I 16]) Qa Qa (kh [] Qa (Qj) Qa (Ja [12] Qa Qa (QP (Zq (I 16) Qa rfl) (Qj)) (Ja [] Qa Qa (Qj) ?_)))))))
   refine Js ?_
   exact QO (Qc (GV l3_2)) Qa
  refine Qg Qd ⟨[(0,Lr),(6,I x4.N),(16,B (Qi x4.N 3))],Vy (Qk Qb x4.Name true l3_9) l3_10 l3_2 l3_3 l3_4 l3_5 l3_6 j9 l3_8⟩ Qa (sC (Qi x4.N 3) Qa ?_ ?_)
  ·refine Qg Qd ⟨[(4,I (Qc (Kk l3_3))),(5,I 8)],Vy (Qk Qb x4.Name true l3_9) l3_10 l3_2 l3_3 l3_4 l3_5 l3_6 j9 l3_8⟩ Qa (sT (Zh (Q8 (Q0 (.id) [1000,1001,1002,1003,1004,1005,1006,1007,1008] [] (.tup [I (Qc (Kk l3_3)),I 8]) Qa Qa (kh [] Qa (Qj) Qa (Ja [12] Qa Qa (QP (Zq (I 8) Qa rfl) (Qj)) (Ja [] Qa Qa (Qj) ?_)))))))
   refine Js ?_
   exact QO (Qc (Kk l3_3)) Qa
  refine Qg Qd ⟨[(0,Lr),(6,I x4.N),(24,B (Qi x4.N 4))],Vy (Qk Qb x4.Name true l3_9) l3_10 l3_2 l3_3 l3_4 l3_5 l3_6 j9 l3_8⟩ Qa (sC (Qi x4.N 4) Qa ?_ ?_)
  ·refine Qg Qd ⟨Qbg l3_4,Vy (Qk Qb x4.Name true l3_9) l3_10 l3_2 l3_3 l3_4 l3_5 l3_6 j9 l3_8⟩ Qa (sT (Zh (Q8 (Q0 (.id) [1000,1001,1002,1003,1004,1005,1006,1007,1008] [] (.tup [I (Qc (Gh l3_4)),I 32]) Qa Qa (kh [] Qa (Qj) Qa (Ja [12] Qa Qa (QP (Zq (I 32) Qa rfl) (Qj)) (Ja [] Qa Qa (Qj) ?_)))))))
   refine Js ?_
   exact QO (Qc (Gh l3_4)) Qa
  refine Qg Qd ⟨[(0,Lr),(32,B (Qi x4.N 5))],Vy (Qk Qb x4.Name true l3_9) l3_10 l3_2 l3_3 l3_4 l3_5 l3_6 j9 l3_8⟩ Qa (sC (Qi x4.N 5) Qa ?_ ?_)
  ·refine Qg Qd ⟨[(4,I (Qc (Fb l3_5))),(5,I 16)],Vy (Qk Qb x4.Name true l3_9) l3_10 l3_2 l3_3 l3_4 l3_5 l3_6 j9 l3_8⟩ Qa (sT (Zh (Q8 (Q0 (.id) [1000,1001,1002,1003,1004,1005,1006,1007,1008] [] (.tup [I (Qc (Fb l3_5)),I 16]) Qa Qa (kh [] Qa (Qj) Qa (Ja [12] Qa Qa (QP (Zq (I 16) Qa rfl) (Qj)) (Ja [] Qa Qa (Qj) ?_)))))))
   refine Js ?_
   exact QO (Qc (Fb l3_5)) Qa
  refine sK (Za (Ql ⟨[(0,Lr)],Vy (Qk Qb x4.Name true l3_9) l3_10 l3_2 l3_3 l3_4 l3_5 l3_6 j9 l3_8⟩ Qa (Qg Qd ⟨[(4,I (Qc (VW l3_6))),(5,I 24)],Vy (Qk Qb x4.Name true l3_9) l3_10 l3_2 l3_3 l3_4 l3_5 l3_6 j9 l3_8⟩ Qa (sT (Q0 (.id) [1000,1001,1002,1003,1004,1005,1006,1007,1008] [] (.tup [I (Qc (VW l3_6)),I 24]) Qa Qa (kh [] Qa (Qj) Qa (Ja [12] Qa Qa (QP (Zq (I 24) Qa rfl) (Qj)) ?_)))))))
  refine Ja [] Qa Qa (Qj) (Js ?_)
  exact QO (Qc (VW l3_6)) Qa
 rintro j17
 refine sS (Vo Qd rfl (xR 15 Qa ?_))
 refine ZM Qa Qa (Yl (kt:=9) (e:=137) (ke:=VK) (ve:=VL) (eq:=Qr) (b:=1003) (m:=l3_10) (k:=x4.Name) (v:=(⟨x4.N,j17⟩:KC)) rfl Qa Qa Qa Qa Qa Qa QS (fun _ _=>QY rfl _ _)) ?_
 refine Yg Qa (Ql ⟨Qbj x4.Name,H7 r13.2.2.2.2 x4 r13.1 r13.2.1 r13.2.2.1 r13.2.2.2.1.Name r13.2.2.2.1.Charger (Qk Qb x4.Name true l3_9) (Qk Qr x4.Name (⟨x4.N,j17⟩:KC) l3_10) l3_2 l3_3 l3_4 l3_5 l3_6 j9 l3_8⟩ Qa (Qg Qd ⟨[(0,Tf),(2,S x4.Name),(3, .ptr 1004 0),(49,I x4.N)],H7 r13.2.2.2.2 x4 r13.1 r13.2.1 r13.2.2.1 r13.2.2.2.1.Name r13.2.2.2.1.Charger (Qk Qb x4.Name true l3_9) (Qk Qr x4.Name (⟨x4.N,j17⟩:KC) l3_10) l3_2 l3_3 l3_4 l3_5 l3_6 j9 l3_8⟩ Qa (sB (Qg Qd ⟨[(0,Tf),(2,S x4.Name),(3, .ptr 1004 0),(49,I x4.N),(50,B (Qi x4.N 1))],H7 r13.2.2.2.2 x4 r13.1 r13.2.1 r13.2.2.1 r13.2.2.2.1.Name r13.2.2.2.1.Charger (Qk Qb x4.Name true l3_9) (Qk Qr x4.Name (⟨x4.N,j17⟩:KC) l3_10) l3_2 l3_3 l3_4 l3_5 l3_6 j9 l3_8⟩ Qa (sC (Qi x4.N 1) Qa ?_ ?_)))))
 ·refine Qg Qd ⟨[(0,Tf),(3, .ptr 1004 0)],H7 r13.2.2.2.2 x4 ⟨x4.Name,(-1),r13.1.Limit,r13.1.Neutral,r13.1.Fuse,r13.1.Cable⟩ r13.2.1 r13.2.2.1 r13.2.2.2.1.Name r13.2.2.2.1.Charger (Qk Qb x4.Name true l3_9) (Qk Qr x4.Name (⟨x4.N,j17⟩:KC) l3_10) l3_2 l3_3 l3_4 l3_5 l3_6 j9 l3_8⟩ Qa (Vo Qd rfl (xR 10 Qa (xF Qa Qa (Zy (e:=49) (S:=11) (by_:=96) (enc:=ZE.cs) (tk:=1006) (l:=l3_2) (l2:=[(⟨x4.Name,(-1),r13.1.Limit,r13.1.Neutral,r13.1.Fuse,r13.1.Cable⟩:ZE)]) (xv:=.tsl 11 (GV [(⟨x4.Name,(-1),r13.1.Limit,r13.1.Neutral,r13.1.Fuse,r13.1.Cable⟩:ZE)]) 70) rfl Qa Qa rfl Qa Qa Qa rfl Qa) (xR 3 Qa (Yg Qa (Za (Hg (.id) [1000,1001,1002,1003,1004,1005,1006,1007,1008,1009,1010] [] (.tup []) Qa Qa ?_)))))))
  refine WG (xE ?_)
  refine Jl (⟨Tryz.f56,_,_,_,4,1,_,_,Tryz.func56,rfl,rfl,rfl,rfl,rfl,rfl,rfl,by decide,by decide⟩:Ku Tryz.prog 56) xK (YN (Qk Qb x4.Name true l3_9) (Qk Qr x4.Name (⟨x4.N,j17⟩:KC) l3_10) (l3_2++[(⟨x4.Name,(-1),r13.1.Limit,r13.1.Neutral,r13.1.Fuse,r13.1.Cable⟩:ZE)]) l3_3 l3_4 l3_5 l3_6 j9 l3_8) (.p (.val (.nilIface))) [.ptr 1009 0] [] rfl Qa Qa Qa Qa ?_
  refine Qg Qd ⟨zt,YN (Qk Qb x4.Name true l3_9) (Qk Qr x4.Name (⟨x4.N,j17⟩:KC) l3_10) (l3_2++[(⟨x4.Name,(-1),r13.1.Limit,r13.1.Neutral,r13.1.Fuse,r13.1.Cable⟩:ZE)]) l3_3 l3_4 l3_5 l3_6 j9 l3_8⟩ Qa (Zm Qa (sK (Cn [1000,1001,1002,1003,1004,1005,1006,1007,1008,1009] [] Qa Qa (Q0 (.id) [1000,1001,1002,1003,1004,1005,1006,1007,1008,1009,1010,1011,1012,1013,1014,1015,1016,1017,1018,1019] [] (.tup []) Qa Qa (WG (xE ?_))))))
  exact QO (l3_2++[(⟨x4.Name,(-1),r13.1.Limit,r13.1.Neutral,r13.1.Fuse,r13.1.Cable⟩:ZE)],l3_3,l3_4,l3_5,l3_6,j9,l3_8,Qk Qr x4.Name (⟨x4.N,j17⟩:KC) l3_10) Qa
 refine Qg Qd ⟨[(0,Tf),(2,S x4.Name),(3, .ptr 1004 0),(49,I x4.N),(74,B (Qi x4.N 2))],H7 r13.2.2.2.2 x4 r13.1 r13.2.1 r13.2.2.1 r13.2.2.2.1.Name r13.2.2.2.1.Charger (Qk Qb x4.Name true l3_9) (Qk Qr x4.Name (⟨x4.N,j17⟩:KC) l3_10) l3_2 l3_3 l3_4 l3_5 l3_6 j9 l3_8⟩ Qa (sC (Qi x4.N 2) Qa ?_ ?_)
 ·refine Qg Qd ⟨[(0,Tf),(3, .ptr 1004 0)],H7 r13.2.2.2.2 x4 ⟨x4.Name,r13.1.Up,r13.1.Limit,r13.1.Neutral,r13.1.Fuse,r13.1.Cable⟩ r13.2.1 r13.2.2.1 r13.2.2.2.1.Name r13.2.2.2.1.Charger (Qk Qb x4.Name true l3_9) (Qk Qr x4.Name (⟨x4.N,j17⟩:KC) l3_10) l3_2 l3_3 l3_4 l3_5 l3_6 j9 l3_8⟩ Qa (Vo Qd rfl (xR 10 Qa (xF Qa Qa (Zy (e:=49) (S:=11) (by_:=96) (enc:=ZE.cs) (tk:=1006) (l:=l3_2) (l2:=[(⟨x4.Name,r13.1.Up,r13.1.Limit,r13.1.Neutral,r13.1.Fuse,r13.1.Cable⟩:ZE)]) (xv:=.tsl 11 (GV [(⟨x4.Name,r13.1.Up,r13.1.Limit,r13.1.Neutral,r13.1.Fuse,r13.1.Cable⟩:ZE)]) 90) rfl Qa Qa rfl Qa Qa Qa rfl Qa) (xR 3 Qa (Yg Qa (Za (Hg (.id) [1000,1001,1002,1003,1004,1005,1006,1007,1008,1009,1010] [] (.tup []) Qa Qa ?_)))))))
  refine WG (xE ?_)
  refine Jl (⟨Tryz.f56,_,_,_,4,1,_,_,Tryz.func56,rfl,rfl,rfl,rfl,rfl,rfl,rfl,by decide,by decide⟩:Ku Tryz.prog 56) xK (YN (Qk Qb x4.Name true l3_9) (Qk Qr x4.Name (⟨x4.N,j17⟩:KC) l3_10) (l3_2++[(⟨x4.Name,r13.1.Up,r13.1.Limit,r13.1.Neutral,r13.1.Fuse,r13.1.Cable⟩:ZE)]) l3_3 l3_4 l3_5 l3_6 j9 l3_8) (.p (.val (.nilIface))) [.ptr 1009 0] [] rfl Qa Qa Qa Qa ?_
  refine Qg Qd ⟨zt,YN (Qk Qb x4.Name true l3_9) (Qk Qr x4.Name (⟨x4.N,j17⟩:KC) l3_10) (l3_2++[(⟨x4.Name,r13.1.Up,r13.1.Limit,r13.1.Neutral,r13.1.Fuse,r13.1.Cable⟩:ZE)]) l3_3 l3_4 l3_5 l3_6 j9 l3_8⟩ Qa (Zm Qa (sK (Cn [1000,1001,1002,1003,1004,1005,1006,1007,1008,1009] [] Qa Qa (Q0 (.id) [1000,1001,1002,1003,1004,1005,1006,1007,1008,1009,1010,1011,1012,1013,1014,1015,1016,1017,1018,1019] [] (.tup []) Qa Qa (WG (xE ?_))))))
  exact QO (l3_2++[(⟨x4.Name,r13.1.Up,r13.1.Limit,r13.1.Neutral,r13.1.Fuse,r13.1.Cable⟩:ZE)],l3_3,l3_4,l3_5,l3_6,j9,l3_8,Qk Qr x4.Name (⟨x4.N,j17⟩:KC) l3_10) Qa
 refine Qg Qd ⟨[(0,Tf),(2,S x4.Name),(3, .ptr 1004 0),(49,I x4.N),(94,B (Qi x4.N 3))],H7 r13.2.2.2.2 x4 r13.1 r13.2.1 r13.2.2.1 r13.2.2.2.1.Name r13.2.2.2.1.Charger (Qk Qb x4.Name true l3_9) (Qk Qr x4.Name (⟨x4.N,j17⟩:KC) l3_10) l3_2 l3_3 l3_4 l3_5 l3_6 j9 l3_8⟩ Qa (sC (Qi x4.N 3) Qa ?_ ?_)
 ·refine sG (xR 8 Qa (xF Qa Qa (Zy (e:=52) (S:=1) (by_:=16) (enc:=QM.cs) (tk:=1007) (l:=l3_3) (l2:=[(⟨x4.Name⟩:QM)]) (xv:=.tsl 1 (Kk [(⟨x4.Name⟩:QM)]) 103) rfl Qa Qa rfl Qa Qa Qa rfl Qa) (xR 3 Qa (xE (Za (Hg (.id) [1000,1001,1002,1003,1004,1005,1006,1007,1008,1009,1010] [] (.tup []) Qa Qa (WG ?_)))))))
  refine xE ?_
  refine Jl (⟨Tryz.f56,_,_,_,4,1,_,_,Tryz.func56,rfl,rfl,rfl,rfl,rfl,rfl,rfl,by decide,by decide⟩:Ku Tryz.prog 56) xK (YN (Qk Qb x4.Name true l3_9) (Qk Qr x4.Name (⟨x4.N,j17⟩:KC) l3_10) l3_2 (l3_3++[(⟨x4.Name⟩:QM)]) l3_4 l3_5 l3_6 j9 l3_8) (.p (.val (.nilIface))) [.ptr 1009 0] [] rfl Qa Qa Qa Qa ?_
  refine Qg Qd ⟨zt,YN (Qk Qb x4.Name true l3_9) (Qk Qr x4.Name (⟨x4.N,j17⟩:KC) l3_10) l3_2 (l3_3++[(⟨x4.Name⟩:QM)]) l3_4 l3_5 l3_6 j9 l3_8⟩ Qa (Zm Qa (sK (Cn [1000,1001,1002,1003,1004,1005,1006,1007,1008,1009] [] Qa Qa (Q0 (.id) [1000,1001,1002,1003,1004,1005,1006,1007,1008,1009,1010,1011,1012,1013,1014,1015,1016,1017,1018,1019] [] (.tup []) Qa Qa (WG (xE ?_))))))
  exact QO (l3_2,l3_3++[(⟨x4.Name⟩:QM)],l3_4,l3_5,l3_6,j9,l3_8,Qk Qr x4.Name (⟨x4.N,j17⟩:KC) l3_10) Qa
 refine Qg Qd ⟨[(0,Tf),(2,S x4.Name),(3, .ptr 1004 0),(49,I x4.N),(107,B (Qi x4.N 4))],H7 r13.2.2.2.2 x4 r13.1 r13.2.1 r13.2.2.1 r13.2.2.2.1.Name r13.2.2.2.1.Charger (Qk Qb x4.Name true l3_9) (Qk Qr x4.Name (⟨x4.N,j17⟩:KC) l3_10) l3_2 l3_3 l3_4 l3_5 l3_6 j9 l3_8⟩ Qa (sC (Qi x4.N 4) Qa ?_ ?_)
 ·refine Qg Qd ⟨[(0,Tf),(3, .ptr 1004 0)],[(1000, .mp (Jp QQ QR r13.2.2.2.2)),(1001, .box 108 ([.ptr 1004 0]++KJ (GN.cs x4)++[.mv 1000]++KJ (ZE.cs r13.1)++[S x4.Name,I r13.2.1.Owner,I r13.2.1.Rank,I r13.2.1.Card]++KJ (ZT.cs r13.2.2.1)++[S r13.2.2.2.1.Name,I r13.2.2.2.1.Charger])),(1002, .mp (Jp QQ QR (Qk Qb x4.Name true l3_9))),(1003, .mp (Jp VK VL (Qk Qr x4.Name (⟨x4.N,j17⟩:KC) l3_10))),(1004,(aR l3_2 l3_3 l3_4 l3_5 l3_6 j9 l3_8)),(1005,(Wv l3_8)),(1006,(U8 l3_2)),(1007,(Oz l3_3)),(1008,(FX l3_4)),(1009,(Tj l3_5)),(1010,(EP l3_6))]⟩ Qa (Vo Qd rfl (xR 10 Qa (xF Qa Qa (Zy (e:=54) (S:=4) (by_:=40) (enc:=ZO.cs) (tk:=1008) (l:=l3_4) (l2:=[(⟨x4.Name,r13.2.1.Owner,r13.2.1.Rank,r13.2.1.Card⟩:ZO)]) (xv:=.tsl 4 (Gh [(⟨x4.Name,r13.2.1.Owner,r13.2.1.Rank,r13.2.1.Card⟩:ZO)]) 123) rfl Qa Qa rfl Qa Qa Qa rfl Qa) (xR 3 Qa (Yg Qa (Za (Hg (.id) [1000,1001,1002,1003,1004,1005,1006,1007,1008,1009,1010] [] (.tup []) Qa Qa ?_)))))))
  refine WG (xE ?_)
  refine Jl (⟨Tryz.f56,_,_,_,4,1,_,_,Tryz.func56,rfl,rfl,rfl,rfl,rfl,rfl,rfl,by decide,by decide⟩:Ku Tryz.prog 56) xK (YN (Qk Qb x4.Name true l3_9) (Qk Qr x4.Name (⟨x4.N,j17⟩:KC) l3_10) l3_2 l3_3 (l3_4++[(⟨x4.Name,r13.2.1.Owner,r13.2.1.Rank,r13.2.1.Card⟩:ZO)]) l3_5 l3_6 j9 l3_8) (.p (.val (.nilIface))) [.ptr 1009 0] [] rfl Qa Qa Qa Qa ?_
  refine Qg Qd ⟨zt,YN (Qk Qb x4.Name true l3_9) (Qk Qr x4.Name (⟨x4.N,j17⟩:KC) l3_10) l3_2 l3_3 (l3_4++[(⟨x4.Name,r13.2.1.Owner,r13.2.1.Rank,r13.2.1.Card⟩:ZO)]) l3_5 l3_6 j9 l3_8⟩ Qa (Zm Qa (sK (Cn [1000,1001,1002,1003,1004,1005,1006,1007,1008,1009] [] Qa Qa (Q0 (.id) [1000,1001,1002,1003,1004,1005,1006,1007,1008,1009,1010,1011,1012,1013,1014,1015,1016,1017,1018,1019] [] (.tup []) Qa Qa (WG (xE ?_))))))
  exact QO (l3_2,l3_3,l3_4++[(⟨x4.Name,r13.2.1.Owner,r13.2.1.Rank,r13.2.1.Card⟩:ZO)],l3_5,l3_6,j9,l3_8,Qk Qr x4.Name (⟨x4.N,j17⟩:KC) l3_10) Qa
 refine Qg Qd ⟨[(0,Tf),(2,S x4.Name),(3, .ptr 1004 0),(49,I x4.N),(127,B (Qi x4.N 5))],H7 r13.2.2.2.2 x4 r13.1 r13.2.1 r13.2.2.1 r13.2.2.2.1.Name r13.2.2.2.1.Charger (Qk Qb x4.Name true l3_9) (Qk Qr x4.Name (⟨x4.N,j17⟩:KC) l3_10) l3_2 l3_3 l3_4 l3_5 l3_6 j9 l3_8⟩ Qa (sC (Qi x4.N 5) Qa ?_ ?_)
 ·refine Qg Qd ⟨[(0,Tf),(3, .ptr 1004 0)],[(1000, .mp (Jp QQ QR r13.2.2.2.2)),(1001, .box 108 ([.ptr 1004 0]++KJ (GN.cs x4)++[.mv 1000]++KJ (ZE.cs r13.1)++KJ (ZO.cs r13.2.1)++[S x4.Name,I r13.2.2.1.At,I r13.2.2.1.Phases,I r13.2.2.1.Min,I r13.2.2.1.Max,I r13.2.2.1.Step,I r13.2.2.1.Fallback,I r13.2.2.1.Owner,S r13.2.2.2.1.Name,I r13.2.2.2.1.Charger])),(1002, .mp (Jp QQ QR (Qk Qb x4.Name true l3_9))),(1003, .mp (Jp VK VL (Qk Qr x4.Name (⟨x4.N,j17⟩:KC) l3_10))),(1004,(aR l3_2 l3_3 l3_4 l3_5 l3_6 j9 l3_8)),(1005,(Wv l3_8)),(1006,(U8 l3_2)),(1007,(Oz l3_3)),(1008,(FX l3_4)),(1009,(Tj l3_5)),(1010,(EP l3_6))]⟩ Qa (Vo Qd rfl (xR 10 Qa (xF Qa Qa (Zy (e:=56) (S:=8) (by_:=72) (enc:=ZT.cs) (tk:=1009) (l:=l3_5) (l2:=[(⟨x4.Name,r13.2.2.1.At,r13.2.2.1.Phases,r13.2.2.1.Min,r13.2.2.1.Max,r13.2.2.1.Step,r13.2.2.1.Fallback,r13.2.2.1.Owner⟩:ZT)]) (xv:=.tsl 8 (Fb [(⟨x4.Name,r13.2.2.1.At,r13.2.2.1.Phases,r13.2.2.1.Min,r13.2.2.1.Max,r13.2.2.1.Step,r13.2.2.1.Fallback,r13.2.2.1.Owner⟩:ZT)]) 143) rfl Qa Qa rfl Qa Qa Qa rfl Qa) (xR 3 Qa (Yg Qa (Za (Hg (.id) [1000,1001,1002,1003,1004,1005,1006,1007,1008,1009,1010] [] (.tup []) Qa Qa ?_)))))))
  refine WG (xE ?_)
  refine Jl (⟨Tryz.f56,_,_,_,4,1,_,_,Tryz.func56,rfl,rfl,rfl,rfl,rfl,rfl,rfl,by decide,by decide⟩:Ku Tryz.prog 56) xK (YN (Qk Qb x4.Name true l3_9) (Qk Qr x4.Name (⟨x4.N,j17⟩:KC) l3_10) l3_2 l3_3 l3_4 (l3_5++[(⟨x4.Name,r13.2.2.1.At,r13.2.2.1.Phases,r13.2.2.1.Min,r13.2.2.1.Max,r13.2.2.1.Step,r13.2.2.1.Fallback,r13.2.2.1.Owner⟩:ZT)]) l3_6 j9 l3_8) (.p (.val (.nilIface))) [.ptr 1009 0] [] rfl Qa Qa Qa Qa ?_
  refine Qg Qd ⟨zt,YN (Qk Qb x4.Name true l3_9) (Qk Qr x4.Name (⟨x4.N,j17⟩:KC) l3_10) l3_2 l3_3 l3_4 (l3_5++[(⟨x4.Name,r13.2.2.1.At,r13.2.2.1.Phases,r13.2.2.1.Min,r13.2.2.1.Max,r13.2.2.1.Step,r13.2.2.1.Fallback,r13.2.2.1.Owner⟩:ZT)]) l3_6 j9 l3_8⟩ Qa (Zm Qa (sK (Cn [1000,1001,1002,1003,1004,1005,1006,1007,1008,1009] [] Qa Qa (Q0 (.id) [1000,1001,1002,1003,1004,1005,1006,1007,1008,1009,1010,1011,1012,1013,1014,1015,1016,1017,1018,1019] [] (.tup []) Qa Qa (WG (xE ?_))))))
  exact QO (l3_2,l3_3,l3_4,l3_5++[(⟨x4.Name,r13.2.2.1.At,r13.2.2.1.Phases,r13.2.2.1.Min,r13.2.2.1.Max,r13.2.2.1.Step,r13.2.2.1.Fallback,r13.2.2.1.Owner⟩:ZT)],l3_6,j9,l3_8,Qk Qr x4.Name (⟨x4.N,j17⟩:KC) l3_10) Qa
 refine Qg Qd ⟨[(0,Tf),(2,S x4.Name),(3, .ptr 1004 0),(147,B (Qi x4.N 6))],H7 r13.2.2.2.2 x4 r13.1 r13.2.1 r13.2.2.1 r13.2.2.2.1.Name r13.2.2.2.1.Charger (Qk Qb x4.Name true l3_9) (Qk Qr x4.Name (⟨x4.N,j17⟩:KC) l3_10) l3_2 l3_3 l3_4 l3_5 l3_6 j9 l3_8⟩ Qa (sC (Qi x4.N 6) Qa ?_ ?_)
 rotate_left
 ·refine sK (Za (Hg (.id) [1000,1001,1002,1003,1004,1005,1006,1007,1008,1009,1010] [] (.tup []) Qa Qa (WG (xE ?_))))
  refine Jl (⟨Tryz.f56,_,_,_,4,1,_,_,Tryz.func56,rfl,rfl,rfl,rfl,rfl,rfl,rfl,by decide,by decide⟩:Ku Tryz.prog 56) xK (YN (Qk Qb x4.Name true l3_9) (Qk Qr x4.Name (⟨x4.N,j17⟩:KC) l3_10) l3_2 l3_3 l3_4 l3_5 l3_6 j9 l3_8) (.p (.val (.nilIface))) [.ptr 1009 0] [] rfl Qa Qa Qa Qa ?_
  refine Qg Qd ⟨zt,YN (Qk Qb x4.Name true l3_9) (Qk Qr x4.Name (⟨x4.N,j17⟩:KC) l3_10) l3_2 l3_3 l3_4 l3_5 l3_6 j9 l3_8⟩ Qa (Zm Qa (sK (Cn [1000,1001,1002,1003,1004,1005,1006,1007,1008,1009] [] Qa Qa (Q0 (.id) [1000,1001,1002,1003,1004,1005,1006,1007,1008,1009,1010,1011,1012,1013,1014,1015,1016,1017,1018,1019] [] (.tup []) Qa Qa (WG (xE ?_))))))
  exact QO (l3_2,l3_3,l3_4,l3_5,l3_6,j9,l3_8,Qk Qr x4.Name (⟨x4.N,j17⟩:KC) l3_10) Qa
 refine Qg Qd ⟨[(0,Tf),(3, .ptr 1004 0)],H7 r13.2.2.2.2 x4 r13.1 r13.2.1 r13.2.2.1 x4.Name r13.2.2.2.1.Charger (Qk Qb x4.Name true l3_9) (Qk Qr x4.Name (⟨x4.N,j17⟩:KC) l3_10) l3_2 l3_3 l3_4 l3_5 l3_6 j9 l3_8⟩ Qa (Vo Qd rfl (xR 10 Qa (xF Qa Qa (Zy (e:=58) (S:=2) (by_:=24) (enc:=Q6.cs) (tk:=1010) (l:=l3_6) (l2:=[(⟨x4.Name,r13.2.2.2.1.Charger⟩:Q6)]) (xv:=.tsl 2 (VW [(⟨x4.Name,r13.2.2.2.1.Charger⟩:Q6)]) 163) rfl Qa Qa rfl Qa Qa Qa rfl Qa) (xR 3 Qa (Yg Qa (Za (Hg (.id) [1000,1001,1002,1003,1004,1005,1006,1007,1008,1009,1010] [] (.tup []) Qa Qa ?_)))))))
 refine WG (xE ?_)
 refine Jl (⟨Tryz.f56,_,_,_,4,1,_,_,Tryz.func56,rfl,rfl,rfl,rfl,rfl,rfl,rfl,by decide,by decide⟩:Ku Tryz.prog 56) xK (YN (Qk Qb x4.Name true l3_9) (Qk Qr x4.Name (⟨x4.N,j17⟩:KC) l3_10) l3_2 l3_3 l3_4 l3_5 (l3_6++[(⟨x4.Name,r13.2.2.2.1.Charger⟩:Q6)]) j9 l3_8) (.p (.val (.nilIface))) [.ptr 1009 0] [] rfl Qa Qa Qa Qa ?_
 refine Qg Qd ⟨zt,YN (Qk Qb x4.Name true l3_9) (Qk Qr x4.Name (⟨x4.N,j17⟩:KC) l3_10) l3_2 l3_3 l3_4 l3_5 (l3_6++[(⟨x4.Name,r13.2.2.2.1.Charger⟩:Q6)]) j9 l3_8⟩ Qa (Zm Qa (sK (Cn [1000,1001,1002,1003,1004,1005,1006,1007,1008,1009] [] Qa Qa (Q0 (.id) [1000,1001,1002,1003,1004,1005,1006,1007,1008,1009,1010,1011,1012,1013,1014,1015,1016,1017,1018,1019] [] (.tup []) Qa Qa (WG (xE ?_))))))
 exact QO (l3_2,l3_3,l3_4,l3_5,l3_6++[(⟨x4.Name,r13.2.2.2.1.Charger⟩:Q6)],j9,l3_8,Qk Qr x4.Name (⟨x4.N,j17⟩:KC) l3_10) Qa
def Xd (a0s:Qm) (recl2:((List (List UInt8)) × Int)→Option (List (List UInt8))) (l2_1:List (List UInt8)) (l2_2:Int):Option (List (List UInt8)) :=
 cond (QL l2_2 (Qc (List.map ZE.cs a0s.Conductors)))
  ((Q4 a0s.Conductors l2_2).bind fun x3 =>
  cond (Zo (List.length (l2_1++[x3.Name])) 16) (
   recl2 (l2_1++[x3.Name],wi (l2_2+1))) none)
  (some l2_1)
def Xe (a0s:Qm) (recl5:((List (List UInt8)) × Int)→Option (List (List UInt8))) (l5_1:List (List UInt8)) (l5_2:Int):Option (List (List UInt8)) :=
 cond (QL l5_2 (Qc (List.map QM.cs a0s.Owners)))
  ((Q4 a0s.Owners l5_2).bind fun x6 =>
  cond (Zo (List.length (l5_1++[x6.Name])) 16) (
   recl5 (l5_1++[x6.Name],wi (l5_2+1))) none)
  (some l5_1)
def Xf (a0s:Qm) (recl8:((List (List UInt8)) × Int)→Option (List (List UInt8))) (l8_1:List (List UInt8)) (l8_2:Int):Option (List (List UInt8)) :=
 cond (QL l8_2 (Qc (List.map ZO.cs a0s.Contracts)))
  ((Q4 a0s.Contracts l8_2).bind fun x9 =>
  cond (Zo (List.length (l8_1++[x9.Name])) 16) (
   recl8 (l8_1++[x9.Name],wi (l8_2+1))) none)
  (some l8_1)
def JP (a0s:Qm) (recl11:((List (List UInt8)) × Int)→Option (List (List UInt8))) (l11_1:List (List UInt8)) (l11_2:Int):Option (List (List UInt8)) :=
 cond (QL l11_2 (Qc (List.map ZT.cs a0s.Chargers)))
  ((Q4 a0s.Chargers l11_2).bind fun x12 =>
  cond (Zo (List.length (l11_1++[x12.Name])) 16) (
   recl11 (l11_1++[x12.Name],wi (l11_2+1))) none)
  (some l11_1)
def JQ (a0s:Qm) (recl13:((List (List UInt8)) × Int)→Option (List (List UInt8))) (l13_1:List (List UInt8)) (l13_2:Int):Option (List (List UInt8)) :=
 cond (QL l13_2 (Qc (List.map Q6.cs a0s.Bays)))
  ((Q4 a0s.Bays l13_2).bind fun x14 =>
  cond (Zo (List.length (l13_1++[x14.Name])) 16) (
   recl13 (l13_1++[x14.Name],wi (l13_2+1))) none)
  (some l13_1)
def U9 (n:Nat) (a0s:Qm):Option (List (List UInt8)) :=
 (QT (fun recl2 (l2_1,l2_2)=>Xd a0s recl2 l2_1 l2_2) n ([],0)).bind fun j1 =>
 (QT (fun recl5 (l5_1,l5_2)=>Xe a0s recl5 l5_1 l5_2) n (j1,0)).bind fun j4 =>
 (QT (fun recl8 (l8_1,l8_2)=>Xf a0s recl8 l8_1 l8_2) n (j4,0)).bind fun j7 =>
 (QT (fun recl11 (l11_1,l11_2)=>JP a0s recl11 l11_1 l11_2) n (j7,0)).bind fun j10 =>
 QT (fun recl13 (l13_1,l13_2)=>JQ a0s recl13 l13_1 l13_2) n (j10,0)
def Y9:=fun x0=>([(1, .box 33 (KJ (Qm.cs x0)))]:List (Nat × Blk))
def dU:=fun x0=>([(1, .ptr 1 0),(3, .tsl 1 (List.map ZU x0) 25)]:List (Nat × AV))
def Xg:=fun x0 x1=>([(1, .box 33 (KJ (Qm.cs x0))),(25, .arr 9 1 (List.map ZU x1).length)]:List (Nat × Blk))
def Qbk:=fun x0=>([(1, .ptr 1 0),(3, .p (.val (.slice none 0 0))),(15, .p (.sl 11 (List.map ZE.cs (Qm.Conductors x0)))),(16,I (Qc (List.map ZE.cs (Qm.Conductors x0)))),(17,I 0)]:List (Nat × AV))
def aS:=fun x0 x1 x2=>([(1, .ptr 1 0),(3, .tsl 1 (List.map ZU x0) 25),(15, .p (.sl 11 (List.map ZE.cs (Qm.Conductors x1)))),(16,I (Qc (List.map ZE.cs (Qm.Conductors x1)))),(17,I x2)]:List (Nat × AV))
def Qbl:=fun x0=>(.arr 9 1 (List.map ZU x0).length:Blk)
def vN:=fun x0 x1=>([(1, .box 33 (KJ (Qm.cs x0))),(25,(Qbl x1))]:List (Nat × Blk))
def vO:=fun x0 x1 x2=>([(1, .ptr 1 0),(3, .tsl 1 (List.map ZU x0) 25),(28, .p (.sl 1 (List.map QM.cs (Qm.Owners x1)))),(29,I (Qc (List.map QM.cs (Qm.Owners x1)))),(30,I x2)]:List (Nat × AV))
def vP:=fun x0 x1 x2=>([(1, .ptr 1 0),(3, .tsl 1 (List.map ZU x0) 25),(41, .p (.sl 4 (List.map ZO.cs (Qm.Contracts x1)))),(42,I (Qc (List.map ZO.cs (Qm.Contracts x1)))),(43,I x2)]:List (Nat × AV))
def vQ:=fun x0 x1 x2=>([(1, .ptr 1 0),(3, .tsl 1 (List.map ZU x0) 25),(54, .p (.sl 8 (List.map ZT.cs (Qm.Chargers x1)))),(55,I (Qc (List.map ZT.cs (Qm.Chargers x1)))),(56,I x2)]:List (Nat × AV))
def vR:=fun x0 x1 x2=>([(3, .tsl 1 (List.map ZU x0) 25),(67, .p (.sl 2 (List.map Q6.cs (Qm.Bays x1)))),(68,I (Qc (List.map Q6.cs (Qm.Bays x1)))),(69,I x2)]:List (Nat × AV))
def AZ:=fun x0=>([(25, .arr 9 1 (List.map ZU x0).length)]:List (Nat × Blk))
abbrev ZN (x:Qm):Go.Abs.Blk:=.box 33 (KJ (Qm.cs x))
abbrev mh (x:ZE):Go.Abs.Blk:=.box 49 (KJ (ZE.cs x))
abbrev OA (x:Q6):Go.Abs.Blk:=.box 58 (KJ (Q6.cs x))
theorem Bi (n:Nat) (a0s:Qm):∀ r,U9 n a0s=some r→Q9 Tryz.prog 31 [ag (Qm.cs a0s)] (.ret (.p (.sl 1 (List.map ZU r)))):=by
 refine Qt (X:=fun r:List (List UInt8)=>QV.ret (.p (.sl 1 (List.map ZU r)))) Tryz.func31 rfl Tryz.ntmps31 rfl ?_
 unfold U9
 refine Qg Qd ⟨[qq 1],Y9 a0s⟩ Qa (Qg Qd ⟨yl,Y9 a0s⟩ Qa (Yj (fun j1=>⟨dU j1,Xg a0s j1⟩:(List (List UInt8))→St) ?_ ?_))
 ·refine Qg Qd ⟨Qbk a0s,Y9 a0s⟩ Qa (sB (CQ ⟨Qbk a0s,Y9 a0s⟩ Qa (Zj (Z8 9 1 25 [3] [] Qa) (QH (fun (l2_1,l2_2)=>⟨aS l2_1 a0s l2_2,Xg a0s l2_1⟩:((List (List UInt8)) × Int)→St) (Xk Qa) ?_))))
  rintro recl2 ⟨l2_1,l2_2⟩
  show QX (Xd a0s recl2 l2_1 l2_2) _ _ _ _ _ _
  unfold Xd
  refine Qg Qd ⟨[qq 1,(3, .tsl 1 (List.map ZU l2_1) 25),(15, .p (.sl 11 (GV a0s.Conductors))),(16,I (Qc (GV a0s.Conductors))),(17,I l2_2),(18,B (QL l2_2 (Qc (GV a0s.Conductors))))],Xg a0s l2_1⟩ Qa (sS (sC (QL l2_2 (Qc (GV a0s.Conductors))) Qa ?_ ?_))
  rotate_left
  ·refine Qz (Kb (KY (QW ?_)))
   exact QO l2_1 Qa
  refine sK (Ql ⟨aS l2_1 a0s l2_2,Xg a0s l2_1⟩ Qa (sS (sB (sS (sG ?_)))))
  refine xG Qa Qa (QN (e:=49) (S:=11) (enc:=ZE.cs) (l:=a0s.Conductors) (k:=.i64) (n:=l2_2) (sv:=.p (.sl 11 (GV a0s.Conductors))) rfl Qa Qa Qa Qa Qa) (fun x3=>?_)
  refine xR 3 Qa (xE (Ql ⟨[qq 1,(3, .tsl 1 (List.map ZU l2_1) 25),qq 5,(15, .p (.sl 11 (GV a0s.Conductors))),(16,I (Qc (GV a0s.Conductors))),(17,I l2_2)],[(1,ZN a0s),(5,mh x3),(25, .arr 9 1 (List.map ZU l2_1).length)]⟩ Qa (sG (xR 4 Qa (xF Qa Qa (Zy (e:=9) (S:=1) (by_:=16) (enc:=ZU) (tk:=25) (l:=l2_1) (l2:=[x3.Name]) (xv:=.tsl 1 (List.map ZU [x3.Name]) 24) rfl Qa Qa rfl Qa Qa Qa rfl Qa) (xR 1 Qa (xE ?_)))))))
  refine Za (Ql ⟨aS (l2_1++[x3.Name]) a0s l2_2,vN a0s (l2_1++[x3.Name])⟩ Qa (sL Qd Qa ?_))
  exact KZ (l2_1++[x3.Name],wi (l2_2+1)) Qa
 rintro j1
 refine Yj (fun j4=>⟨dU j4,Xg a0s j4⟩:(List (List UInt8))→St) ?_ ?_
 ·refine Qg Qd ⟨vO j1 a0s 0,Xg a0s j1⟩ Qa (sB (QH (fun (l5_1,l5_2)=>⟨vO l5_1 a0s l5_2,Xg a0s l5_1⟩:((List (List UInt8)) × Int)→St) (Xk Qa) ?_))
  rintro recl5 ⟨l5_1,l5_2⟩
  show QX (Xe a0s recl5 l5_1 l5_2) _ _ _ _ _ _
  unfold Xe
  refine Qg Qd ⟨[qq 1,(3, .tsl 1 (List.map ZU l5_1) 25),(28, .p (.sl 1 (Kk a0s.Owners))),(29,I (Qc (Kk a0s.Owners))),(30,I l5_2),(31,B (QL l5_2 (Qc (Kk a0s.Owners))))],Xg a0s l5_1⟩ Qa (sS (sC (QL l5_2 (Qc (Kk a0s.Owners))) Qa ?_ ?_))
  rotate_left
  ·refine Qz (Kb (KY (QW ?_)))
   exact QO l5_1 Qa
  refine sK (Ql ⟨vO l5_1 a0s l5_2,Xg a0s l5_1⟩ Qa (sS (sB (sS (sG ?_)))))
  refine xG Qa Qa (QN (e:=52) (S:=1) (enc:=QM.cs) (l:=a0s.Owners) (k:=.i64) (n:=l5_2) (sv:=.p (.sl 1 (Kk a0s.Owners))) rfl Qa Qa Qa Qa Qa) (fun x6=>?_)
  refine xR 3 Qa (xE (Ql ⟨[qq 1,(3, .tsl 1 (List.map ZU l5_1) 25),qq 7,(28, .p (.sl 1 (Kk a0s.Owners))),(29,I (Qc (Kk a0s.Owners))),(30,I l5_2)],[(1,ZN a0s),(7, .box 52 [S x6.Name]),(25, .arr 9 1 (List.map ZU l5_1).length)]⟩ Qa (sG (xR 4 Qa (xF Qa Qa (Zy (e:=9) (S:=1) (by_:=16) (enc:=ZU) (tk:=25) (l:=l5_1) (l2:=[x6.Name]) (xv:=.tsl 1 (List.map ZU [x6.Name]) 37) rfl Qa Qa rfl Qa Qa Qa rfl Qa) (xR 1 Qa (xE ?_)))))))
  refine Za (Ql ⟨vO (l5_1++[x6.Name]) a0s l5_2,vN a0s (l5_1++[x6.Name])⟩ Qa (sL Qd Qa ?_))
  exact KZ (l5_1++[x6.Name],wi (l5_2+1)) Qa
 rintro j4
 refine Yj (fun j7=>⟨dU j7,Xg a0s j7⟩:(List (List UInt8))→St) ?_ ?_
 ·refine Qg Qd ⟨vP j4 a0s 0,Xg a0s j4⟩ Qa (sB (QH (fun (l8_1,l8_2)=>⟨vP l8_1 a0s l8_2,Xg a0s l8_1⟩:((List (List UInt8)) × Int)→St) (Xk Qa) ?_))
  rintro recl8 ⟨l8_1,l8_2⟩
  show QX (Xf a0s recl8 l8_1 l8_2) _ _ _ _ _ _
  unfold Xf
  refine Qg Qd ⟨[qq 1,(3, .tsl 1 (List.map ZU l8_1) 25),(41, .p (.sl 4 (Gh a0s.Contracts))),(42,I (Qc (Gh a0s.Contracts))),(43,I l8_2),(44,B (QL l8_2 (Qc (Gh a0s.Contracts))))],Xg a0s l8_1⟩ Qa (sS (sC (QL l8_2 (Qc (Gh a0s.Contracts))) Qa ?_ ?_))
  rotate_left
  ·refine Qz (Kb (KY (QW ?_)))
   exact QO l8_1 Qa
  refine sK (Ql ⟨vP l8_1 a0s l8_2,Xg a0s l8_1⟩ Qa (sS (sB (sS (sG ?_)))))
  refine xG Qa Qa (QN (e:=54) (S:=4) (enc:=ZO.cs) (l:=a0s.Contracts) (k:=.i64) (n:=l8_2) (sv:=.p (.sl 4 (Gh a0s.Contracts))) rfl Qa Qa Qa Qa Qa) (fun x9=>?_)
  refine xR 3 Qa (xE (Ql ⟨[qq 1,(3, .tsl 1 (List.map ZU l8_1) 25),qq 9,(41, .p (.sl 4 (Gh a0s.Contracts))),(42,I (Qc (Gh a0s.Contracts))),(43,I l8_2)],[(1,ZN a0s),(9,yt x9),(25, .arr 9 1 (List.map ZU l8_1).length)]⟩ Qa (sG (xR 4 Qa (xF Qa Qa (Zy (e:=9) (S:=1) (by_:=16) (enc:=ZU) (tk:=25) (l:=l8_1) (l2:=[x9.Name]) (xv:=.tsl 1 (List.map ZU [x9.Name]) 50) rfl Qa Qa rfl Qa Qa Qa rfl Qa) (xR 1 Qa (xE ?_)))))))
  refine Za (Ql ⟨vP (l8_1++[x9.Name]) a0s l8_2,vN a0s (l8_1++[x9.Name])⟩ Qa (sL Qd Qa ?_))
  exact KZ (l8_1++[x9.Name],wi (l8_2+1)) Qa
 rintro j7
 refine Yj (fun j10=>⟨dU j10,Xg a0s j10⟩:(List (List UInt8))→St) ?_ ?_
 ·refine Qg Qd ⟨vQ j7 a0s 0,Xg a0s j7⟩ Qa (sB (QH (fun (l11_1,l11_2)=>⟨vQ l11_1 a0s l11_2,Xg a0s l11_1⟩:((List (List UInt8)) × Int)→St) (Xk Qa) ?_))
  rintro recl11 ⟨l11_1,l11_2⟩
  show QX (JP a0s recl11 l11_1 l11_2) _ _ _ _ _ _
  unfold JP
  refine Qg Qd ⟨[qq 1,(3, .tsl 1 (List.map ZU l11_1) 25),(54, .p (.sl 8 (Fb a0s.Chargers))),(55,I (Qc (Fb a0s.Chargers))),(56,I l11_2),(57,B (QL l11_2 (Qc (Fb a0s.Chargers))))],Xg a0s l11_1⟩ Qa (sS (sC (QL l11_2 (Qc (Fb a0s.Chargers))) Qa ?_ ?_))
  rotate_left
  ·refine Qz (Kb (KY (QW ?_)))
   exact QO l11_1 Qa
  refine sK (Ql ⟨vQ l11_1 a0s l11_2,Xg a0s l11_1⟩ Qa (sS (sB (sS (sG ?_)))))
  refine xG Qa Qa (QN (e:=56) (S:=8) (enc:=ZT.cs) (l:=a0s.Chargers) (k:=.i64) (n:=l11_2) (sv:=.p (.sl 8 (Fb a0s.Chargers))) rfl Qa Qa Qa Qa Qa) (fun x12=>?_)
  refine xR 3 Qa (xE (Ql ⟨[qq 1,(3, .tsl 1 (List.map ZU l11_1) 25),qq 11,(54, .p (.sl 8 (Fb a0s.Chargers))),(55,I (Qc (Fb a0s.Chargers))),(56,I l11_2)],[(1,ZN a0s),(11,MJ x12),(25, .arr 9 1 (List.map ZU l11_1).length)]⟩ Qa (sG (xR 4 Qa (xF Qa Qa (Zy (e:=9) (S:=1) (by_:=16) (enc:=ZU) (tk:=25) (l:=l11_1) (l2:=[x12.Name]) (xv:=.tsl 1 (List.map ZU [x12.Name]) 63) rfl Qa Qa rfl Qa Qa Qa rfl Qa) (xR 1 Qa (xE ?_)))))))
  refine Za (Ql ⟨vQ (l11_1++[x12.Name]) a0s l11_2,vN a0s (l11_1++[x12.Name])⟩ Qa (sL Qd Qa ?_))
  exact KZ (l11_1++[x12.Name],wi (l11_2+1)) Qa
 rintro j10
 refine sS (Qg Qd ⟨vR j10 a0s 0,AZ j10⟩ Qa (sB (QH (fun (l13_1,l13_2)=>⟨vR l13_1 a0s l13_2,AZ l13_1⟩:((List (List UInt8)) × Int)→St) (Xk Qa) ?_)))
 rintro recl13 ⟨l13_1,l13_2⟩
 show QX (JQ a0s recl13 l13_1 l13_2) _ _ _ _ _ _
 unfold JQ
 refine Qg Qd ⟨[(3, .tsl 1 (List.map ZU l13_1) 25),(67, .p (.sl 2 (VW a0s.Bays))),(68,I (Qc (VW a0s.Bays))),(69,I l13_2),(70,B (QL l13_2 (Qc (VW a0s.Bays))))],AZ l13_1⟩ Qa (sS (sC (QL l13_2 (Qc (VW a0s.Bays))) Qa ?_ ?_))
 rotate_left
 ·refine Qz (Kb (KY (QW (Ql ⟨[(3, .tsl 1 (List.map ZU l13_1) 25)],AZ l13_1⟩ Qa (Qg Qd ⟨[(2, .tsl 1 (List.map ZU l13_1) 25)],AZ l13_1⟩ Qa (sT ?_))))))
  exact qR (.sl 1) Qa Qa Qa
 refine sK (Ql ⟨vR l13_1 a0s l13_2,AZ l13_1⟩ Qa (sS (sB (sS (sG ?_)))))
 refine xG Qa Qa (QN (e:=58) (S:=2) (enc:=Q6.cs) (l:=a0s.Bays) (k:=.i64) (n:=l13_2) (sv:=.p (.sl 2 (VW a0s.Bays))) rfl Qa Qa Qa Qa Qa) (fun x14=>?_)
 refine xR 3 Qa (xE (Ql ⟨[(3, .tsl 1 (List.map ZU l13_1) 25),qq 13,(67, .p (.sl 2 (VW a0s.Bays))),(68,I (Qc (VW a0s.Bays))),(69,I l13_2)],[(13,OA x14),(25, .arr 9 1 (List.map ZU l13_1).length)]⟩ Qa (sG (xR 4 Qa (xF Qa Qa (Zy (e:=9) (S:=1) (by_:=16) (enc:=ZU) (tk:=25) (l:=l13_1) (l2:=[x14.Name]) (xv:=.tsl 1 (List.map ZU [x14.Name]) 76) rfl Qa Qa rfl Qa Qa Qa rfl Qa) (xR 1 Qa (xE ?_)))))))
 refine Za (Ql ⟨vR (l13_1++[x14.Name]) a0s l13_2,[(25,(Qbl (l13_1++[x14.Name])))]⟩ Qa (sL Qd Qa ?_))
 exact KZ (l13_1++[x14.Name],wi (l13_2+1)) Qa
def Uh (n:Nat) (a0text:List UInt8):Option Bool :=
 (UE n (⟨1,[],0,0,[GN.cs (⟨2,a0text,3,0,[]⟩:GN)]⟩:GN)).bind fun r1 =>
 some r1
theorem Dq (n:Nat) (a0text:List UInt8):∀ r,Uh n a0text=some r→Q9 Tryz.prog 32 [S a0text] (.ret (B r)):=by
 refine Qt (X:=fun r:Bool=>QV.ret (B r)) Tryz.func32 rfl Tryz.ntmps32 rfl ?_
 unfold Uh
 refine Qg Qd ⟨[(0,S a0text)],[]⟩ Qa (sR Qd ⟨[3],[3],[],[(3,[.id, .id, .id, .id, .sl 5])]⟩ ⟨[qq 3],[(3,(vL ⟨2,a0text,3,0,[]⟩))]⟩ Qa (sS (sG (xR 3 Qa ?_))))
 refine xC [.agg [.id, .id, .id, .id, .sl 5]] Qa (Bf n (⟨1,[],0,0,[GN.cs (⟨2,a0text,3,0,[]⟩:GN)]⟩:GN)) Qa Qa QS (fun r1=>?_)
 refine xR 1 Qa (xE (Ql ⟨[(2,B r1)],[]⟩ Qa (sT ?_)))
 exact qR (.id) Qa Qa Qa
def Ww (n:Nat) (a0c:ZE) (a1index:Int):Option Bool :=
 (cond (Qi a1index 0)
  (cond (!Qi a0c.Up (-1))
   (some true)
   (cond (QL 0 a1index)
    (cond (QL a0c.Up 0)
     (some true)
     (some (leI a1index a0c.Up)))
    (some false)))
  (cond (QL 0 a1index)
   (cond (QL a0c.Up 0)
    (some true)
    (some (leI a1index a0c.Up)))
   (some false))).bind fun j1 =>
 cond j1
  (some false)
  (((QD n (⟨1,1000⟩:ZH) a0c.Limit).bind fun r9 =>
  cond (!r9)
   (some true)
   ((QD n (⟨1,1000⟩:ZH) a0c.Neutral).bind fun r11 =>
   some (!r11))).bind fun j8 =>
  cond j8
   (some false)
   ((cond (!Gz ((Qi a0c.Fuse.Rated 0)&&((Qi a0c.Fuse.Heat 0)&&true)))
    ((QD n (⟨1,1000⟩:ZH) a0c.Fuse.Rated).bind fun r14 =>
    cond r14
     ((QD n (⟨0,1000000⟩:ZH) a0c.Fuse.Heat).bind fun r16 =>
     some (!r16))
     (some true))
    (some false)).bind fun j12 =>
   cond j12
    (some false)
    (cond (Gz ((Qi a0c.Cable.Ambient 0)&&((Qi a0c.Cable.Most 0)&&((Qi a0c.Cable.Gain 0)&&((Qi a0c.Cable.Loss 0)&&((Qi a0c.Cable.Den 0)&&true))))))
     (some true)
     (((QD n (⟨0,200000⟩:ZH) a0c.Cable.Ambient).bind fun r18 =>
     cond r18
      ((QD n (⟨0,200000⟩:ZH) a0c.Cable.Most).bind fun r20 =>
      cond r20
       ((QD n (⟨0,1000⟩:ZH) a0c.Cable.Gain).bind fun r22 =>
       cond r22
        ((QD n (⟨0,1000⟩:ZH) a0c.Cable.Loss).bind fun r24 =>
        cond r24
         ((QD n (⟨1,1000000⟩:ZH) a0c.Cable.Den).bind fun r26 =>
         cond r26
          ((VO n a0c.Cable).bind fun r28 =>
          some r28)
          (some false))
         (some false))
        (some false))
       (some false))
      (some false)).bind fun j17 =>
     some j17))))
def mi:=fun x0=>([(2, .box 49 (KJ (ZE.cs x0)))]:List (Nat × Blk))
def mo:=fun x0=>([(2, .box 49 (KJ (ZE.cs x0))),(5, .box 103 [I 1,I 1000])]:List (Nat × Blk))
def vS:=fun x0=>([(7, .box 47 (KJ (XF.cs (ZE.Cable x0))))]:List (Nat × Blk))
abbrev mq (x:CR):Go.Abs.Blk:=.box 45 (KJ (CR.cs x))
theorem Gv (n:Nat) (a0c:ZE) (a1index:Int):∀ r,Ww n a0c a1index=some r→Q9 Tryz.prog 63 [ag (ZE.cs a0c),I a1index] (.ret (B r)):=by
 refine Qt (X:=fun r:Bool=>QV.ret (B r)) Tryz.func63 rfl Tryz.ntmps63 rfl ?_
 unfold Ww
 refine Qg Qd ⟨[(1,I a1index),qq 2],mi a0c⟩ Qa (sS (Yj (fun j1=>⟨[qq 2,(31,B j1)],mi a0c⟩:Bool→St) ?_ ?_))
 ·refine sG (xR 3 Qa ?_)
  refine xS (Qi a1index 0) (fun h2=>?_) (fun h2=>?_)
  rotate_left
  ·refine xN (Qq Qa h2) Qa (xR 7 Qa ?_)
   refine xS (QL 0 a1index) (fun h6=>?_) (fun h6=>?_)
   ·refine xO (Qp Qa h6) Qa (xR 3 Qa ?_)
    refine xS (QL a0c.Up 0) (fun h7=>?_) (fun h7=>?_)
    ·refine xN (Qy Qa h7) Qa (xR 6 Qa (xE ?_))
     exact QO true Qa
    refine xO (Qx Qa h7) Qa (xR 6 Qa (xE ?_))
    exact QO (leI a1index a0c.Up) Qa
   refine xN (Qq Qa h6) Qa (xR 10 Qa (xE ?_))
   exact QO false Qa
  refine xO (Qp Qa h2) Qa (xR 4 Qa ?_)
  refine xS (!Qi a0c.Up (-1)) (fun h3=>?_) (fun h3=>?_)
  ·refine xN (Qy Qa h3) Qa (xR 13 Qa (xE ?_))
   exact QO true Qa
  refine xO (Qx Qa h3) Qa (xR 2 Qa ?_)
  refine xS (QL 0 a1index) (fun h4=>?_) (fun h4=>?_)
  ·refine xO (Qp Qa h4) Qa (xR 3 Qa ?_)
   refine xS (QL a0c.Up 0) (fun h5=>?_) (fun h5=>?_)
   ·refine xN (Qy Qa h5) Qa (xR 6 Qa (xE ?_))
    exact QO true Qa
   refine xO (Qx Qa h5) Qa (xR 6 Qa (xE ?_))
   exact QO (leI a1index a0c.Up) Qa
  refine xN (Qq Qa h4) Qa (xR 10 Qa (xE ?_))
  exact QO false Qa
 rintro j1
 refine sC j1 Qa ?_ ?_
 ·refine Qg Qd ⟨[(4,B false)],[]⟩ Qa (sT (Q8 ?_))
  exact qR (.id) Qa Qa Qa
 refine sK (Ql ⟨[qq 2],mi a0c⟩ Qa (Qg Qd ⟨[qq 2,qq 5],mo a0c⟩ Qa (sS (Yj (fun j8=>⟨[qq 2,qq 5,(44,B j8)],mo a0c⟩:Bool→St) ?_ ?_))))
 ·refine sG (xR 3 Qa ?_)
  refine xC [] Qa (QC n (⟨1,1000⟩:ZH) a0c.Limit) Qa Qa QS (fun r9=>?_)
  refine xR 2 Qa ?_
  refine xS (!r9) (fun h10=>?_) (fun h10=>?_)
  ·refine xN (Qy Qa h10) Qa (xR 5 Qa (xE ?_))
   exact QO true Qa
  refine xO (Qx Qa h10) Qa (xR 2 Qa ?_)
  refine xC [] Qa (QC n (⟨1,1000⟩:ZH) a0c.Neutral) Qa Qa QS (fun r11=>?_)
  refine xR 2 Qa (xE ?_)
  exact QO (!r11) Qa
 rintro j8
 refine sC j8 Qa ?_ ?_
 ·refine Qg Qd ⟨[(4,B false)],[]⟩ Qa (sT (Q8 ?_))
  exact qR (.id) Qa Qa Qa
 refine sK (Ql ⟨[qq 2,qq 5],mo a0c⟩ Qa (Qg Qd ⟨[qq 5,qq 6,qq 7],[(5, .box 103 [I 1,I 1000]),(6,mq a0c.Fuse),(7,MI a0c.Cable)]⟩ Qa (sS (Yj (fun j12=>⟨[qq 7,(64,B j12)],vS a0c⟩:Bool→St) ?_ ?_))))
 ·refine sG (xR 2 Qa (ZM Qa Qa (R4 (xs:=[I a0c.Fuse.Rated,I a0c.Fuse.Heat]) (ys:=[I 0,I 0]) (vx:=[.int .i64 a0c.Fuse.Rated, .int .i64 a0c.Fuse.Heat]) (vy:=[.int .i64 0, .int .i64 0]) (b:=(Qi a0c.Fuse.Rated 0)&&((Qi a0c.Fuse.Heat 0)&&true)) rfl Qa Qa Qa Qa Qa Qa) (xR 1 Qa ?_)))
  refine xS (!Gz ((Qi a0c.Fuse.Rated 0)&&((Qi a0c.Fuse.Heat 0)&&true))) (fun h13=>?_) (fun h13=>?_)
  ·refine xO (Qp Qa h13) Qa (xR 2 Qa ?_)
   refine xC [] Qa (QC n (⟨1,1000⟩:ZH) a0c.Fuse.Rated) Qa Qa QS (fun r14=>?_)
   refine xR 1 Qa ?_
   refine xS r14 (fun h15=>?_) (fun h15=>?_)
   ·refine xO (Qp Qa h15) Qa (xR 2 Qa ?_)
    refine xC [] Qa (QC n (⟨0,1000000⟩:ZH) a0c.Fuse.Heat) Qa Qa QS (fun r16=>?_)
    refine xR 3 Qa (xE ?_)
    exact QO (!r16) Qa
   refine xN (Qq Qa h15) Qa (xR 6 Qa (xE ?_))
   exact QO true Qa
  refine xN (Qq Qa h13) Qa (xR 11 Qa (xE ?_))
  exact QO false Qa
 rintro j12
 refine sC j12 Qa ?_ ?_
 ·refine Qg Qd ⟨[(4,B false)],[]⟩ Qa (sT (Q8 ?_))
  exact qR (.id) Qa Qa Qa
 refine sK (Ql ⟨[qq 7],vS a0c⟩ Qa (sS (sS (sG (xR 2 Qa (ZM Qa Qa (R3 (xs:=[I a0c.Cable.Ambient,I a0c.Cable.Most,I a0c.Cable.Gain,I a0c.Cable.Loss,I a0c.Cable.Den]) (ys:=[I 0,I 0,I 0,I 0,I 0]) (vx:=[.int .i64 a0c.Cable.Ambient, .int .i64 a0c.Cable.Most, .int .i64 a0c.Cable.Gain, .int .i64 a0c.Cable.Loss, .int .i64 a0c.Cable.Den]) (vy:=[.int .i64 0, .int .i64 0, .int .i64 0, .int .i64 0, .int .i64 0]) (b:=(Qi a0c.Cable.Ambient 0)&&((Qi a0c.Cable.Most 0)&&((Qi a0c.Cable.Gain 0)&&((Qi a0c.Cable.Loss 0)&&((Qi a0c.Cable.Den 0)&&true))))) rfl Qa Qa Qa Qa Qa Qa) (xE ?_)))))))
 refine Ql ⟨[qq 7,(67,B (Gz ((Qi a0c.Cable.Ambient 0)&&((Qi a0c.Cable.Most 0)&&((Qi a0c.Cable.Gain 0)&&((Qi a0c.Cable.Loss 0)&&((Qi a0c.Cable.Den 0)&&true)))))))],vS a0c⟩ Qa (sC (Gz ((Qi a0c.Cable.Ambient 0)&&((Qi a0c.Cable.Most 0)&&((Qi a0c.Cable.Gain 0)&&((Qi a0c.Cable.Loss 0)&&((Qi a0c.Cable.Den 0)&&true)))))) Qa ?_ ?_)
 ·refine Qg Qd ⟨[(4,B true)],[]⟩ Qa (sT (Q8 ?_))
  exact qR (.id) Qa Qa Qa
 refine sK (Ql ⟨[qq 7],vS a0c⟩ Qa (Qg Qd ⟨[qq 7,qq 8,qq 9],[(7,MI a0c.Cable),(8, .box 103 [I 0,I 200000]),(9, .box 103 [I 0,I 1000])]⟩ Qa (Yj (fun j17=>⟨[(4,B j17)],[]⟩:Bool→St) ?_ ?_)))
 rotate_left
 ·rintro j17
  refine sT ?_
  exact qR (.id) Qa Qa Qa
 refine sG (xR 3 Qa ?_)
 refine xC [] Qa (QC n (⟨0,200000⟩:ZH) a0c.Cable.Ambient) Qa Qa QS (fun r18=>?_)
 refine xR 1 Qa ?_
 refine xS r18 (fun h19=>?_) (fun h19=>?_)
 rotate_left
 ·refine xN (Qq Qa h19) Qa (xR 27 Qa (xE ?_))
  exact QO false Qa
 refine xO (Qp Qa h19) Qa (xR 2 Qa ?_)
 refine xC [] Qa (QC n (⟨0,200000⟩:ZH) a0c.Cable.Most) Qa Qa QS (fun r20=>?_)
 refine xR 2 Qa ?_
 refine xS r20 (fun h21=>?_) (fun h21=>?_)
 rotate_left
 ·refine xN (Qq Qa h21) Qa (xR 21 Qa (xE ?_))
  exact QO false Qa
 refine xO (Qp Qa h21) Qa (xR 2 Qa ?_)
 refine xC [] Qa (QC n (⟨0,1000⟩:ZH) a0c.Cable.Gain) Qa Qa QS (fun r22=>?_)
 refine xR 2 Qa ?_
 refine xS r22 (fun h23=>?_) (fun h23=>?_)
 rotate_left
 ·refine xN (Qq Qa h23) Qa (xR 15 Qa (xE ?_))
  exact QO false Qa
 refine xO (Qp Qa h23) Qa (xR 2 Qa ?_)
 refine xC [] Qa (QC n (⟨0,1000⟩:ZH) a0c.Cable.Loss) Qa Qa QS (fun r24=>?_)
 refine xR 2 Qa ?_
 refine xS r24 (fun h25=>?_) (fun h25=>?_)
 ·refine xO (Qp Qa h25) Qa (xR 2 Qa ?_)
  refine xC [] Qa (QC n (⟨1,1000000⟩:ZH) a0c.Cable.Den) Qa Qa QS (fun r26=>?_)
  refine xR 2 Qa ?_
  refine xS r26 (fun h27=>?_) (fun h27=>?_)
  ·refine xO (Qp Qa h27) Qa ?_
   refine xC [] Qa (Uj n a0c.Cable) Qa Qa QS (fun r28=>?_)
   refine xR 2 Qa (xE ?_)
   exact QO r28 Qa
  refine xN (Qq Qa h27) Qa (xR 3 Qa (xE ?_))
  exact QO false Qa
 refine xN (Qq Qa h25) Qa (xR 9 Qa (xE ?_))
 exact QO false Qa
def Jm (n:Nat) (a0s:Qm) (a1c:ZT):Option Bool :=
 ((QD n (⟨0,wi ((Qc (List.map ZE.cs a0s.Conductors)) - 1)⟩:ZH) a1c.At).bind fun r2 =>
 cond r2
  ((QD n (⟨0,wi ((Qc (List.map QM.cs a0s.Owners)) - 1)⟩:ZH) a1c.Owner).bind fun r4 =>
  cond r4
   ((QD n (⟨1,7⟩:ZH) a1c.Phases).bind fun r6 =>
   cond r6
    ((QD n (⟨1,80⟩:ZH) a1c.Min).bind fun r8 =>
    cond r8
     ((QD n (⟨1,80⟩:ZH) a1c.Max).bind fun r10 =>
     cond r10
      ((QD n (⟨1,80⟩:ZH) a1c.Step).bind fun r12 =>
      cond r12
       ((QD n (⟨0,80⟩:ZH) a1c.Fallback).bind fun r14 =>
       cond r14
        ((YD n a1c).bind fun r16 =>
        some r16)
        (some false))
       (some false))
      (some false))
     (some false))
    (some false))
   (some false))
  (some false)).bind fun j1 =>
 some j1
theorem FY (n:Nat) (a0s:Qm) (a1c:ZT):∀ r,Jm n a0s a1c=some r→Q9 Tryz.prog 65 [ag (Qm.cs a0s),ag (ZT.cs a1c)] (.ret (B r)):=by
 refine Qt (X:=fun r:Bool=>QV.ret (B r)) Tryz.func65 rfl Tryz.ntmps65 rfl ?_
 unfold Jm
 refine Qg Qd ⟨[qq 2,qq 3],[(2,ZN a0s),(3,MJ a1c)]⟩ Qa (Qg Qd ⟨[qq 2,qq 3,qq 5],[(2,ZN a0s),(3,MJ a1c),(5, .box 103 [I 1,I 80])]⟩ Qa (Yj (fun j1=>⟨[(4,B j1)],[]⟩:Bool→St) ?_ ?_))
 rotate_left
 ·rintro j1
  refine sT ?_
  exact qR (.id) Qa Qa Qa
 refine sG (xR 7 Qa ?_)
 refine xC [] Qa (QC n (⟨0,wi ((Qc (GV a0s.Conductors)) - 1)⟩:ZH) a1c.At) Qa Qa QS (fun r2=>?_)
 refine xR 1 Qa ?_
 refine xS r2 (fun h3=>?_) (fun h3=>?_)
 rotate_left
 ·refine xN (Qq Qa h3) Qa (xR 43 Qa (xE ?_))
  exact QO false Qa
 refine xO (Qp Qa h3) Qa (xR 6 Qa ?_)
 refine xC [] Qa (QC n (⟨0,wi ((Qc (Kk a0s.Owners)) - 1)⟩:ZH) a1c.Owner) Qa Qa QS (fun r4=>?_)
 refine xR 2 Qa ?_
 refine xS r4 (fun h5=>?_) (fun h5=>?_)
 rotate_left
 ·refine xN (Qq Qa h5) Qa (xR 33 Qa (xE ?_))
  exact QO false Qa
 refine xO (Qp Qa h5) Qa (xR 2 Qa ?_)
 refine xC [] Qa (QC n (⟨1,7⟩:ZH) a1c.Phases) Qa Qa QS (fun r6=>?_)
 refine xR 2 Qa ?_
 refine xS r6 (fun h7=>?_) (fun h7=>?_)
 rotate_left
 ·refine xN (Qq Qa h7) Qa (xR 27 Qa (xE ?_))
  exact QO false Qa
 refine xO (Qp Qa h7) Qa (xR 2 Qa ?_)
 refine xC [] Qa (QC n (⟨1,80⟩:ZH) a1c.Min) Qa Qa QS (fun r8=>?_)
 refine xR 2 Qa ?_
 refine xS r8 (fun h9=>?_) (fun h9=>?_)
 rotate_left
 ·refine xN (Qq Qa h9) Qa (xR 21 Qa (xE ?_))
  exact QO false Qa
 refine xO (Qp Qa h9) Qa (xR 2 Qa ?_)
 refine xC [] Qa (QC n (⟨1,80⟩:ZH) a1c.Max) Qa Qa QS (fun r10=>?_)
 refine xR 2 Qa ?_
 refine xS r10 (fun h11=>?_) (fun h11=>?_)
 rotate_left
 ·refine xN (Qq Qa h11) Qa (xR 15 Qa (xE ?_))
  exact QO false Qa
 refine xO (Qp Qa h11) Qa (xR 2 Qa ?_)
 refine xC [] Qa (QC n (⟨1,80⟩:ZH) a1c.Step) Qa Qa QS (fun r12=>?_)
 refine xR 2 Qa ?_
 refine xS r12 (fun h13=>?_) (fun h13=>?_)
 ·refine xO (Qp Qa h13) Qa (xR 2 Qa ?_)
  refine xC [] Qa (QC n (⟨0,80⟩:ZH) a1c.Fallback) Qa Qa QS (fun r14=>?_)
  refine xR 2 Qa ?_
  refine xS r14 (fun h15=>?_) (fun h15=>?_)
  ·refine xO (Qp Qa h15) Qa ?_
   refine xC [] Qa (JO n a1c) Qa Qa QS (fun r16=>?_)
   refine xR 2 Qa (xE ?_)
   exact QO r16 Qa
  refine xN (Qq Qa h15) Qa (xR 3 Qa (xE ?_))
  exact QO false Qa
 refine xN (Qq Qa h13) Qa (xR 9 Qa (xE ?_))
 exact QO false Qa
def WR (n:Nat) (a0s:Qm) (recl4:Int→Option Bool) (l4:Int):Option Bool :=
 cond (QL l4 (Qc (List.map Q6.cs a0s.Bays)))
  ((Q4 a0s.Bays l4).bind fun x5 =>
  (QD n (⟨0,wi ((Qc (List.map ZT.cs a0s.Chargers)) - 1)⟩:ZH) x5.Charger).bind fun r6 =>
  cond (!r6)
   (some false)
   (recl4 (wi (l4+1))))
  (some true)
def Yq (n:Nat) (a0s:Qm):Option Bool :=
 QT (fun recl4 l4=>WR n a0s recl4 l4) n 0
def WS (n:Nat) (a0s:Qm) (recl7:Int→Option Bool) (l7:Int):Option Bool :=
 cond (QL l7 (Qc (List.map ZT.cs a0s.Chargers)))
  ((Q4 a0s.Chargers l7).bind fun x8 =>
  (Jm n a0s x8).bind fun r9 =>
  cond (!r9)
   (some false)
   (recl7 (wi (l7+1))))
  (Yq n a0s)
def Yr (n:Nat) (a0s:Qm):Option Bool :=
 QT (fun recl7 l7=>WS n a0s recl7 l7) n 0
def Wx (n:Nat) (a0s:Qm) (recl10:(Int × (List (Int × Bool)))→Option Bool) (l10_1:Int) (l10_2:List (Int × Bool)):Option Bool :=
 cond (QL l10_1 (Qc (List.map ZO.cs a0s.Contracts)))
  ((Q4 a0s.Contracts l10_1).bind fun x11 =>
  ((QD n (⟨0,wi ((Qc (List.map QM.cs a0s.Owners)) - 1)⟩:ZH) x11.Owner).bind fun r13 =>
  cond (!r13)
   (some true)
   ((QD n (⟨1,9⟩:ZH) x11.Rank).bind fun r15 =>
   cond (!r15)
    (some true)
    ((QD n (⟨1,1000000⟩:ZH) x11.Card).bind fun r17 =>
    cond (!r17)
     (some true)
     (some (QE YA x11.Card false l10_2))))).bind fun j12 =>
  cond j12
   (some false)
   (recl10 (wi (l10_1+1),Qk YA x11.Card true l10_2)))
  (Yr n a0s)
def Yt (n:Nat) (a0s:Qm):Option Bool :=
 QT (fun recl10 (l10_1,l10_2)=>Wx n a0s recl10 l10_1 l10_2) n (0,[])
def Wy (n:Nat) (a0s:Qm) (recl19:Int→Option Bool) (l19:Int):Option Bool :=
 cond (QL l19 (Qc (List.map ZE.cs a0s.Conductors)))
  ((Q4 a0s.Conductors l19).bind fun x20 =>
  (Ww n x20 l19).bind fun r21 =>
  cond (!r21)
   (some false)
   (recl19 (wi (l19+1))))
  (Yt n a0s)
def Xh (n:Nat) (a0s:Qm):Option Bool :=
 QT (fun recl19 l19=>Wy n a0s recl19 l19) n 0
def vT:=fun x0 x1=>([(1, .ptr 1 0),(13, .p (.sl 11 (List.map ZE.cs (Qm.Conductors x0)))),(14,I (Qc (List.map ZE.cs (Qm.Conductors x0)))),(15,I x1)]:List (Nat × AV))
def A7:=fun x0 x1=>([(1, .box 33 (KJ (Qm.cs x0))),(25, .mp (Jp JF JG x1))]:List (Nat × Blk))
def vU:=fun x0 x1=>([(1, .ptr 1 0),(5, .mv 25),(27, .p (.sl 4 (List.map ZO.cs (Qm.Contracts x0)))),(28,I (Qc (List.map ZO.cs (Qm.Contracts x0)))),(29,I x1)]:List (Nat × AV))
def rZ:=fun x0 x1=>([(1, .ptr 1 0),(5, .mv 25),(7, .ptr 7 0),(27, .p (.sl 4 (List.map ZO.cs (Qm.Contracts x0)))),(28,I (Qc (List.map ZO.cs (Qm.Contracts x0)))),(29,I x1)]:List (Nat × AV))
def mr:=fun x0 x1 x2=>([(1, .box 33 (KJ (Qm.cs x0))),(7, .box 54 (KJ (ZO.cs x1))),(25, .mp (Jp JF JG x2))]:List (Nat × Blk))
def vV:=fun x0 x1=>([(1, .ptr 1 0),(67, .p (.sl 8 (List.map ZT.cs (Qm.Chargers x0)))),(68,I (Qc (List.map ZT.cs (Qm.Chargers x0)))),(69,I x1)]:List (Nat × AV))
def vW:=fun x0 x1=>([(1, .ptr 1 0),(79, .p (.sl 2 (List.map Q6.cs (Qm.Bays x0)))),(80,I (Qc (List.map Q6.cs (Qm.Bays x0)))),(81,I x1)]:List (Nat × AV))
theorem RA (n:Nat) (a0s:Qm):∀ r,Xh n a0s=some r→Q9 Tryz.prog 33 [ag (Qm.cs a0s)] (.ret (B r)):=by
 refine Qt (X:=fun r:Bool=>QV.ret (B r)) Tryz.func33 rfl Tryz.ntmps33 rfl ?_
 unfold Xh
 refine Qg Qd ⟨[qq 1],Y9 a0s⟩ Qa (Kr (fun _=>⟨[qq 1],Y9 a0s⟩:Unit→St) (fun _=>Yt n a0s) ?_ ?_)
 rotate_left
 ·refine Qg Qd ⟨vT a0s 0,Y9 a0s⟩ Qa (sB (QH (fun l19=>⟨vT a0s l19,Y9 a0s⟩:Int→St) (Xk Qa) ?_))
  rintro recl19 l19
  show QX (Wy n a0s recl19 l19) _ _ _ _ _ _
  unfold Wy
  refine Qg Qd ⟨[qq 1,(13, .p (.sl 11 (GV a0s.Conductors))),(14,I (Qc (GV a0s.Conductors))),(15,I l19),(16,B (QL l19 (Qc (GV a0s.Conductors))))],Y9 a0s⟩ Qa (sS (sC (QL l19 (Qc (GV a0s.Conductors))) Qa ?_ ?_))
  rotate_left
  ·refine Qz (Kb (KY (QW ?_)))
   exact KZ (k:=fun _=>Yt n a0s) () Qa
  refine sK (Ql ⟨vT a0s l19,Y9 a0s⟩ Qa (sS (sB (sS (sG (xR 1 Qa ?_))))))
  refine xG Qa Qa (QN (e:=49) (S:=11) (enc:=ZE.cs) (l:=a0s.Conductors) (k:=.i64) (n:=l19) (sv:=.p (.sl 11 (GV a0s.Conductors))) rfl Qa Qa Qa Qa Qa) (fun x20=>?_)
  refine xR 4 Qa (xE (Ql ⟨[qq 1,(3,I l19),qq 4,(13, .p (.sl 11 (GV a0s.Conductors))),(14,I (Qc (GV a0s.Conductors))),(15,I l19)],[(1,ZN a0s),(4,mh x20)]⟩ Qa (sS (sG (xR 2 Qa ?_)))))
  refine xC [] Qa (Gv n x20 l19) Qa Qa QS (fun r21=>?_)
  refine xR 1 Qa (xE (Ql ⟨[qq 1,(13, .p (.sl 11 (GV a0s.Conductors))),(14,I (Qc (GV a0s.Conductors))),(15,I l19),(23,B (!r21))],Y9 a0s⟩ Qa (sC (!r21) Qa ?_ ?_)))
  ·refine Qg Qd ⟨[(2,B false)],[]⟩ Qa (sT (Zh (Q8 (Yv (Zh (Yv ?_))))))
   exact qR (.id) Qa Qa Qa
  refine sK (Za (Ql ⟨vT a0s l19,Y9 a0s⟩ Qa (sL Qd Qa ?_)))
  exact KZ (wi (l19+1)) Qa
 rintro _
 show QX (Yt n a0s) _ _ _ _ _ _
 unfold Yt
 refine sS (sG (ZM Qa Qa (En (d:=25) (rsv:=none) rfl rfl Qa) (xR 1 Qa (xE (Ql ⟨[qq 1,(5, .mv 25)],A7 a0s []⟩ Qa (Kr (fun _=>⟨[qq 1],Y9 a0s⟩:Unit→St) (fun _=>Yr n a0s) ?_ ?_))))))
 rotate_left
 ·refine Qg Qd ⟨vU a0s 0,A7 a0s []⟩ Qa (sB (QH (fun (l10_1,l10_2)=>⟨vU a0s l10_1,A7 a0s l10_2⟩:(Int × (List (Int × Bool)))→St) (Xk Qa) ?_))
  rintro recl10 ⟨l10_1,l10_2⟩
  show QX (Wx n a0s recl10 l10_1 l10_2) _ _ _ _ _ _
  unfold Wx
  refine Qg Qd ⟨[qq 1,(5, .mv 25),(27, .p (.sl 4 (Gh a0s.Contracts))),(28,I (Qc (Gh a0s.Contracts))),(29,I l10_1),(30,B (QL l10_1 (Qc (Gh a0s.Contracts))))],A7 a0s l10_2⟩ Qa (sS (sC (QL l10_1 (Qc (Gh a0s.Contracts))) Qa ?_ ?_))
  rotate_left
  ·refine Qz (Kb (KY (QW ?_)))
   exact KZ (k:=fun _=>Yr n a0s) () Qa
  refine sK (Ql ⟨vU a0s l10_1,A7 a0s l10_2⟩ Qa (sS (sB (sS (sG ?_)))))
  refine xG Qa Qa (QN (e:=54) (S:=4) (enc:=ZO.cs) (l:=a0s.Contracts) (k:=.i64) (n:=l10_1) (sv:=.p (.sl 4 (Gh a0s.Contracts))) rfl Qa Qa Qa Qa Qa) (fun x11=>?_)
  refine xR 3 Qa (xE (Ql ⟨rZ a0s l10_1,mr a0s x11 l10_2⟩ Qa (sS (Yj (fun j12=>⟨[qq 1,(5, .mv 25),qq 7,(27, .p (.sl 4 (Gh a0s.Contracts))),(28,I (Qc (Gh a0s.Contracts))),(29,I l10_1),(61,B j12)],mr a0s x11 l10_2⟩:Bool→St) ?_ ?_))))
  rotate_left
  ·rintro j12
   refine sC j12 Qa ?_ ?_
   ·refine Qg Qd ⟨[(2,B false)],[]⟩ Qa (sT (Q8 (Zh (Q8 (Yv (Zh (Yv ?_)))))))
    exact qR (.id) Qa Qa Qa
   refine sK (Ql ⟨rZ a0s l10_1,mr a0s x11 l10_2⟩ Qa (sG (xR 3 Qa ?_)))
   refine ZM Qa Qa (Yl (kt:=3) (e:=4) (ke:=JF) (ve:=JG) (eq:=YA) (b:=25) (m:=l10_2) (k:=x11.Card) (v:=true) rfl Qa Qa Qa Qa Qa Qa QS (fun _ _=>(Cf _ _ _ _ _).symm.trans Qa)) ?_
   refine xE (Za (Ql ⟨vU a0s l10_1,A7 a0s (Qk YA x11.Card true l10_2)⟩ Qa (sL Qd Qa ?_)))
   exact KZ (wi (l10_1+1),Qk YA x11.Card true l10_2) Qa
  refine sG (xR 7 Qa ?_)
  refine xC [] Qa (QC n (⟨0,wi ((Qc (Kk a0s.Owners)) - 1)⟩:ZH) x11.Owner) Qa Qa QS (fun r13=>?_)
  refine xR 2 Qa ?_
  refine xS (!r13) (fun h14=>?_) (fun h14=>?_)
  ·refine xN (Qy Qa h14) Qa (xR 18 Qa (xE ?_))
   exact QO true Qa
  refine xO (Qx Qa h14) Qa (xR 2 Qa ?_)
  refine xC [] Qa (QC n (⟨1,9⟩:ZH) x11.Rank) Qa Qa QS (fun r15=>?_)
  refine xR 3 Qa ?_
  refine xS (!r15) (fun h16=>?_) (fun h16=>?_)
  ·refine xN (Qy Qa h16) Qa (xR 11 Qa (xE ?_))
   exact QO true Qa
  refine xO (Qx Qa h16) Qa (xR 2 Qa ?_)
  refine xC [] Qa (QC n (⟨1,1000000⟩:ZH) x11.Card) Qa Qa QS (fun r17=>?_)
  refine xR 3 Qa ?_
  refine xS (!r17) (fun h18=>?_) (fun h18=>?_)
  ·refine xN (Qy Qa h18) Qa (xR 4 Qa (xE ?_))
   exact QO true Qa
  refine xO (Qx Qa h18) Qa (xR 2 Qa ?_)
  refine ZM Qa Qa (Zu (kt:=3) (e:=4) (ke:=JF) (ve:=JG) (eq:=YA) (b:=25) (m:=l10_2) (k:=x11.Card) (z0:=false) rfl Qa Qa Qa Qa Qa QS (fun _ _=>(Cf _ _ _ _ _).symm.trans Qa) Qa) ?_
  refine xR 1 Qa (xE ?_)
  exact QO (QE YA x11.Card false l10_2) Qa
 rintro _
 show QX (Yr n a0s) _ _ _ _ _ _
 unfold Yr
 refine Kr (fun _=>⟨[qq 1],Y9 a0s⟩:Unit→St) (fun _=>Yq n a0s) ?_ ?_
 rotate_left
 ·refine Qg Qd ⟨vV a0s 0,Y9 a0s⟩ Qa (sB (QH (fun l7=>⟨vV a0s l7,Y9 a0s⟩:Int→St) (Xk Qa) ?_))
  rintro recl7 l7
  show QX (WS n a0s recl7 l7) _ _ _ _ _ _
  unfold WS
  refine Qg Qd ⟨[qq 1,(67, .p (.sl 8 (Fb a0s.Chargers))),(68,I (Qc (Fb a0s.Chargers))),(69,I l7),(70,B (QL l7 (Qc (Fb a0s.Chargers))))],Y9 a0s⟩ Qa (sS (sC (QL l7 (Qc (Fb a0s.Chargers))) Qa ?_ ?_))
  rotate_left
  ·refine Qz (Kb (KY (QW ?_)))
   exact KZ (k:=fun _=>Yq n a0s) () Qa
  refine sK (Ql ⟨vV a0s l7,Y9 a0s⟩ Qa (sS (sB (sS (sG ?_)))))
  refine xG Qa Qa (QN (e:=56) (S:=8) (enc:=ZT.cs) (l:=a0s.Chargers) (k:=.i64) (n:=l7) (sv:=.p (.sl 8 (Fb a0s.Chargers))) rfl Qa Qa Qa Qa Qa) (fun x8=>?_)
  refine xR 3 Qa (xE (Ql ⟨[qq 1,qq 9,(67, .p (.sl 8 (Fb a0s.Chargers))),(68,I (Qc (Fb a0s.Chargers))),(69,I l7)],[(1,ZN a0s),(9,MJ x8)]⟩ Qa (sS (sG (xR 2 Qa ?_)))))
  refine xC [] Qa (FY n a0s x8) Qa Qa QS (fun r9=>?_)
  refine xR 1 Qa (xE (Ql ⟨[qq 1,(67, .p (.sl 8 (Fb a0s.Chargers))),(68,I (Qc (Fb a0s.Chargers))),(69,I l7),(76,B (!r9))],Y9 a0s⟩ Qa (sC (!r9) Qa ?_ ?_)))
  ·refine Qg Qd ⟨[(2,B false)],[]⟩ Qa (sT (Zh (Q8 (Yv (Zh (Yv ?_))))))
   exact qR (.id) Qa Qa Qa
  refine sK (Za (Ql ⟨vV a0s l7,Y9 a0s⟩ Qa (sL Qd Qa ?_)))
  exact KZ (wi (l7+1)) Qa
 rintro _
 show QX (Yq n a0s) _ _ _ _ _ _
 unfold Yq
 refine sS (Qg Qd ⟨vW a0s 0,Y9 a0s⟩ Qa (sB (QH (fun l4=>⟨vW a0s l4,Y9 a0s⟩:Int→St) (Xk Qa) ?_)))
 rintro recl4 l4
 show QX (WR n a0s recl4 l4) _ _ _ _ _ _
 unfold WR
 refine Qg Qd ⟨[qq 1,(79, .p (.sl 2 (VW a0s.Bays))),(80,I (Qc (VW a0s.Bays))),(81,I l4),(82,B (QL l4 (Qc (VW a0s.Bays))))],Y9 a0s⟩ Qa (sS (sC (QL l4 (Qc (VW a0s.Bays))) Qa ?_ ?_))
 rotate_left
 ·refine Qz (Kb (KY (QW (Ql ⟨[],[]⟩ Qa (Qg Qd ⟨[(2,B true)],[]⟩ Qa (sT ?_))))))
  exact qR (.id) Qa Qa Qa
 refine sK (Ql ⟨vW a0s l4,Y9 a0s⟩ Qa (sS (sB (sS (sG ?_)))))
 refine xG Qa Qa (QN (e:=58) (S:=2) (enc:=Q6.cs) (l:=a0s.Bays) (k:=.i64) (n:=l4) (sv:=.p (.sl 2 (VW a0s.Bays))) rfl Qa Qa Qa Qa Qa) (fun x5=>?_)
 refine xR 3 Qa (xE (Ql ⟨[qq 1,qq 11,(79, .p (.sl 2 (VW a0s.Bays))),(80,I (Qc (VW a0s.Bays))),(81,I l4)],[(1,ZN a0s),(11,OA x5)]⟩ Qa (sS (sG (xR 7 Qa ?_)))))
 refine xC [] Qa (QC n (⟨0,wi ((Qc (Fb a0s.Chargers)) - 1)⟩:ZH) x5.Charger) Qa Qa QS (fun r6=>?_)
 refine xR 1 Qa (xE (Ql ⟨[qq 1,(79, .p (.sl 2 (VW a0s.Bays))),(80,I (Qc (VW a0s.Bays))),(81,I l4),(93,B (!r6))],Y9 a0s⟩ Qa (sC (!r6) Qa ?_ ?_)))
 ·refine Qg Qd ⟨[(2,B false)],[]⟩ Qa (sT (Zh (Q8 (Yv (Zh (Q8 ?_))))))
  exact qR (.id) Qa Qa Qa
 refine sK (Za (Ql ⟨vW a0s l4,Y9 a0s⟩ Qa (sL Qd Qa ?_)))
 exact KZ (wi (l4+1)) Qa
def Wn (n:Nat) (a0s:Qm):Option Bool :=
 (Xh n a0s).bind fun r8 =>
 some r8
def XJ (n:Nat) (a0s:Qm) (r9:List (List UInt8)) (recl10:(Int × (List ((List UInt8) × Bool)))→Option Bool) (l10_1:Int) (l10_2:List ((List UInt8) × Bool)):Option Bool :=
 cond (QL l10_1 (Qc (List.map ZU r9)))
  ((Q4 r9 l10_1).bind fun x11 =>
  ((Uh n x11).bind fun r13 =>
  cond (!r13)
   (some true)
   (some (QE Qb x11 false l10_2))).bind fun j12 =>
  cond j12
   (some false)
   (recl10 (wi (l10_1+1),Qk Qb x11 true l10_2)))
  (Wn n a0s)
def Ut (n:Nat) (a0s:Qm):Option Bool :=
 (cond (QL (Qc (List.map ZE.cs a0s.Conductors)) 1)
  (some true)
  (cond (QL 16 (Qc (List.map ZE.cs a0s.Conductors)))
   (some true)
   (cond (QL 8 (Qc (List.map QM.cs a0s.Owners)))
    (some true)
    (cond (QL 32 (Qc (List.map ZO.cs a0s.Contracts)))
     (some true)
     (cond (QL 16 (Qc (List.map ZT.cs a0s.Chargers)))
      (some true)
      (some (QL 24 (Qc (List.map Q6.cs a0s.Bays))))))))).bind fun j1 =>
 cond j1
  (some false)
  ((U9 n a0s).bind fun r9 =>
  QT (fun recl10 (l10_1,l10_2)=>XJ n a0s r9 recl10 l10_1 l10_2) n (0,[]))
def Bj:=fun x0 x1=>([(1, .box 33 (KJ (Qm.cs x0))),(40, .mp (Jp QQ QR x1))]:List (Nat × Blk))
def vX:=fun x0 x1=>([(1, .ptr 1 0),(3, .mv 40),(42, .p (.sl 1 (List.map ZU x0))),(43,I (Qc (List.map ZU x0))),(44,I x1)]:List (Nat × AV))
def si:=fun x0 x1 x2=>([(1, .ptr 1 0),(3, .mv 40),(5,S x0),(42, .p (.sl 1 (List.map ZU x1))),(43,I (Qc (List.map ZU x1))),(44,I x2)]:List (Nat × AV))
theorem F5 (n:Nat) (a0s:Qm):∀ r,Ut n a0s=some r→Q9 Tryz.prog 13 [ag (Qm.cs a0s)] (.ret (B r)):=by
 refine Qt (X:=fun r:Bool=>QV.ret (B r)) Tryz.func13 rfl Tryz.ntmps13 rfl ?_
 unfold Ut
 refine Qg Qd ⟨[qq 1],Y9 a0s⟩ Qa (sS (Yj (fun j1=>⟨[qq 1,(39,B j1)],Y9 a0s⟩:Bool→St) ?_ ?_))
 ·refine sG (xR 5 Qa ?_)
  refine xS (QL (Qc (GV a0s.Conductors)) 1) (fun h2=>?_) (fun h2=>?_)
  ·refine xN (Qy Qa h2) Qa (xR 28 Qa (xE ?_))
   exact QO true Qa
  refine xO (Qx Qa h2) Qa (xR 5 Qa ?_)
  refine xS (QL 16 (Qc (GV a0s.Conductors))) (fun h3=>?_) (fun h3=>?_)
  ·refine xN (Qy Qa h3) Qa (xR 22 Qa (xE ?_))
   exact QO true Qa
  refine xO (Qx Qa h3) Qa (xR 5 Qa ?_)
  refine xS (QL 8 (Qc (Kk a0s.Owners))) (fun h4=>?_) (fun h4=>?_)
  ·refine xN (Qy Qa h4) Qa (xR 16 Qa (xE ?_))
   exact QO true Qa
  refine xO (Qx Qa h4) Qa (xR 5 Qa ?_)
  refine xS (QL 32 (Qc (Gh a0s.Contracts))) (fun h5=>?_) (fun h5=>?_)
  ·refine xN (Qy Qa h5) Qa (xR 10 Qa (xE ?_))
   exact QO true Qa
  refine xO (Qx Qa h5) Qa (xR 5 Qa ?_)
  refine xS (QL 16 (Qc (Fb a0s.Chargers))) (fun h6=>?_) (fun h6=>?_)
  ·refine xN (Qy Qa h6) Qa (xR 4 Qa (xE ?_))
   exact QO true Qa
  refine xO (Qx Qa h6) Qa (xR 4 Qa (xE ?_))
  exact QO (QL 24 (Qc (VW a0s.Bays))) Qa
 rintro j1
 refine sC j1 Qa ?_ ?_
 ·refine Qg Qd ⟨[(2,B false)],[]⟩ Qa (sT (Q8 ?_))
  exact qR (.id) Qa Qa Qa
 refine sK (Ql ⟨[qq 1],Y9 a0s⟩ Qa (sS (sG (ZM Qa Qa (En (d:=40) (rsv:=none) rfl rfl Qa) (xR 1 Qa (xE (Ql ⟨[qq 1,(3, .mv 40)],Bj a0s []⟩ Qa ?_)))))))
 refine Kr (fun _=>⟨[qq 1],Y9 a0s⟩:Unit→St) (fun _=>Wn n a0s) ?_ ?_
 ·rintro _
  show QX (Wn n a0s) _ _ _ _ _ _
  unfold Wn
  refine sS (sG (xR 1 Qa ?_))
  refine xC [] Qa (RA n a0s) Qa Qa QS (fun r8=>?_)
  refine xR 1 Qa (xE (Ql ⟨[(2,B r8)],[]⟩ Qa (sT ?_)))
  exact qR (.id) Qa Qa Qa
 refine sS (sG (xR 1 Qa ?_))
 refine xC [] Qa (Bi n a0s) Qa Qa QS (fun r9=>?_)
 refine xR 2 Qa (xE (Ql ⟨vX r9 0,Bj a0s []⟩ Qa (sB (QH (fun (l10_1,l10_2)=>⟨vX r9 l10_1,Bj a0s l10_2⟩:(Int × (List ((List UInt8) × Bool)))→St) (Xk Qa) ?_))))
 rintro recl10 ⟨l10_1,l10_2⟩
 show QX (XJ n a0s r9 recl10 l10_1 l10_2) _ _ _ _ _ _
 unfold XJ
 refine Qg Qd ⟨[qq 1,(3, .mv 40),(42, .p (.sl 1 (List.map ZU r9))),(43,I (Qc (List.map ZU r9))),(44,I l10_1),(45,B (QL l10_1 (Qc (List.map ZU r9))))],Bj a0s l10_2⟩ Qa (sS (sC (QL l10_1 (Qc (List.map ZU r9))) Qa ?_ ?_))
 rotate_left
 ·refine Qz (Kb (KY (QW ?_)))
  exact KZ (k:=fun _=>Wn n a0s) () Qa
 refine sK (Ql ⟨vX r9 l10_1,Bj a0s l10_2⟩ Qa (sS (sB (sS (sG ?_)))))
 refine xG Qa Qa (QN (e:=9) (S:=1) (enc:=ZU) (l:=r9) (k:=.i64) (n:=l10_1) (sv:=.p (.sl 1 (List.map ZU r9))) rfl Qa Qa Qa Qa Qa) (fun x11=>?_)
 refine xR 2 Qa (xE (Ql ⟨si x11 r9 l10_1,Bj a0s l10_2⟩ Qa (sS (Yj (fun j12=>⟨[qq 1,(3, .mv 40),(5,S x11),(42, .p (.sl 1 (List.map ZU r9))),(43,I (Qc (List.map ZU r9))),(44,I l10_1),(55,B j12)],Bj a0s l10_2⟩:Bool→St) ?_ ?_))))
 ·refine sG (xR 1 Qa ?_)
  refine xC [] Qa (Dq n x11) Qa Qa QS (fun r13=>?_)
  refine xR 2 Qa ?_
  refine xS (!r13) (fun h14=>?_) (fun h14=>?_)
  ·refine xN (Qy Qa h14) Qa (xR 3 Qa (xE ?_))
   exact QO true Qa
  refine xO (Qx Qa h14) Qa (xR 1 Qa ?_)
  refine ZM Qa Qa (Zu (kt:=9) (e:=4) (ke:=QQ) (ve:=QR) (eq:=Qb) (b:=40) (m:=l10_2) (k:=x11) (z0:=false) rfl Qa Qa Qa Qa Qa QS (fun _ _=>QY rfl _ _) Qa) ?_
  refine xR 1 Qa (xE ?_)
  exact QO (QE Qb x11 false l10_2) Qa
 rintro j12
 refine sC j12 Qa ?_ ?_
 ·refine Qg Qd ⟨[(2,B false)],[]⟩ Qa (sT (Q8 (Zh (Q8 (Yv (Zh (Yv ?_)))))))
  exact qR (.id) Qa Qa Qa
 refine sK (Ql ⟨si x11 r9 l10_1,Bj a0s l10_2⟩ Qa (sG (xR 2 Qa ?_)))
 refine ZM Qa Qa (Yl (kt:=9) (e:=4) (ke:=QQ) (ve:=QR) (eq:=Qb) (b:=40) (m:=l10_2) (k:=x11) (v:=true) rfl Qa Qa Qa Qa Qa Qa QS (fun _ _=>QY rfl _ _)) ?_
 refine xE (Za (Ql ⟨vX r9 l10_1,Bj a0s (Qk Qb x11 true l10_2)⟩ Qa (sL Qd Qa ?_)))
 exact KZ (wi (l10_1+1),Qk Qb x11 true l10_2) Qa
def Xi (n:Nat):Option Bool :=
 (R9 n [102,101,101,100,101,114,32,102,32,108,105,109,105,116,32,49,48,48,32,110,101,117,116,114,97,108,32,56,48,59,32,99,97,98,108,101,32,99,32,102,114,111,109,32,102,32,108,105,109,105,116,32,52,48,32,110,101,117,116,114,97,108,32,52,48,32,102,117,115,101,32,51,50,32,53,48,48,48,59,32,111,119,110,101,114,32,111,59,32,99,104,97,114,103,101,114,32,120,32,97,116,32,99,32,112,104,97,115,101,115,32,49,32,51,32,97,109,112,115,32,54,32,51,50,32,49,32,102,97,108,108,98,97,99,107,32,54,32,111,119,110,101,114,32,111,59,32,98,97,121,32,98,32,99,104,97,114,103,101,114,32,120,59]).bind fun r1 =>
 (Yi n r1.1).bind fun r2 =>
 (R9 n [102,101,101,100,101,114,32,102,32,108,105,109,105,116,32,48,32,110,101,117,116,114,97,108,32,56,48,59]).bind fun r3 =>
 (Yi n r3.1).bind fun r4 =>
 (Yi n (⟨1,[],0,0,[]⟩:GN)).bind fun r5 =>
 (Yi n (⟨0,[],0,0,[]⟩:GN)).bind fun r6 =>
 (cond (QL 0 (Qc (List.map Zr.cs r1.2)))
  (some true)
  (cond (QL 0 (Qc (List.map Zr.cs r2.2)))
   (some true)
   (cond (QL 0 (Qc (List.map Zr.cs r3.2)))
    (some true)
    (cond (!Qi (Qc (List.map Zr.cs r4.2)) 1)
     (some true)
     (cond (!Qi (Qc (List.map Zr.cs r5.2)) 1)
      (some true)
      (cond (!Qi (Qc (List.map Zr.cs r6.2)) 1)
       (some true)
       (cond (!Qi (Qc (List.map ZE.cs r2.1.Conductors)) 2)
        (some true)
        (cond (!Qi (Qc (List.map QM.cs r2.1.Owners)) 1)
         (some true)
         (cond (!Qi (Qc (List.map ZT.cs r2.1.Chargers)) 1)
          (some true)
          (cond (!Qi (Qc (List.map Q6.cs r2.1.Bays)) 1)
           (some true)
           (some (!Qi (Qc (List.map ZO.cs r2.1.Contracts)) 0)))))))))))).bind fun j7 =>
 cond j7
  (some false)
  (((Q4 r4.2 0).bind fun x19 =>
  cond (Gz ((Qi x19.Err 3)&&((Qi x19.At 9)&&true)))
   ((Q4 r5.2 0).bind fun x21 =>
   cond (Qi x21.Err 4)
    ((Q4 r6.2 0).bind fun x23 =>
    cond (Qi x23.Err 1)
     ((Q4 r2.1.Conductors 0).bind fun x25 =>
     cond (Gz ((QK x25.Name [102])&&((Qi x25.Up (-1))&&((Qi x25.Limit 100)&&((Qi x25.Neutral 80)&&(((Qi x25.Fuse.Rated 0)&&((Qi x25.Fuse.Heat 0)&&true))&&(((Qi x25.Cable.Ambient 0)&&((Qi x25.Cable.Most 0)&&((Qi x25.Cable.Gain 0)&&((Qi x25.Cable.Loss 0)&&((Qi x25.Cable.Den 0)&&true)))))&&true)))))))
      ((Q4 r2.1.Conductors 1).bind fun x27 =>
      cond (Gz ((QK x27.Name [99])&&((Qi x27.Up 0)&&((Qi x27.Limit 40)&&((Qi x27.Neutral 40)&&(((Qi x27.Fuse.Rated 32)&&((Qi x27.Fuse.Heat 5000)&&true))&&(((Qi x27.Cable.Ambient 0)&&((Qi x27.Cable.Most 0)&&((Qi x27.Cable.Gain 0)&&((Qi x27.Cable.Loss 0)&&((Qi x27.Cable.Den 0)&&true)))))&&true)))))))
       ((Q4 r2.1.Chargers 0).bind fun x29 =>
       cond (Gz ((QK x29.Name [120])&&((Qi x29.At 1)&&((Qi x29.Phases 5)&&((Qi x29.Min 6)&&((Qi x29.Max 32)&&((Qi x29.Step 1)&&((Qi x29.Fallback 6)&&((Qi x29.Owner 0)&&true)))))))))
        ((Q4 r2.1.Bays 0).bind fun x31 =>
        cond (Gz ((QK x31.Name [98])&&((Qi x31.Charger 0)&&true)))
         ((Ut n r2.1).bind fun r33 =>
         cond r33
          ((Ut n (⟨[],[],[],[],[]⟩:Qm)).bind fun r35 =>
          some (!r35))
          (some false))
         (some false))
        (some false))
       (some false))
      (some false))
     (some false))
    (some false))
   (some false)).bind fun j18 =>
  some j18)
def A8:=fun x0=>([(3, .box 33 (KJ (Qm.cs x0)))]:List (Nat × Blk))
theorem NF (n:Nat):∀ r,Xi n=some r→Q9 Tryz.prog 7 [] (.ret (B r)):=by
 refine Qt (X:=fun r:Bool=>QV.ret (B r)) Tryz.func7 rfl Tryz.ntmps7 rfl ?_
 unfold Xi
 refine Qg Qd ⟨[],[]⟩ Qa (sS (sG ?_))
 refine xC [] Qa (Bd n [102,101,101,100,101,114,32,102,32,108,105,109,105,116,32,49,48,48,32,110,101,117,116,114,97,108,32,56,48,59,32,99,97,98,108,101,32,99,32,102,114,111,109,32,102,32,108,105,109,105,116,32,52,48,32,110,101,117,116,114,97,108,32,52,48,32,102,117,115,101,32,51,50,32,53,48,48,48,59,32,111,119,110,101,114,32,111,59,32,99,104,97,114,103,101,114,32,120,32,97,116,32,99,32,112,104,97,115,101,115,32,49,32,51,32,97,109,112,115,32,54,32,51,50,32,49,32,102,97,108,108,98,97,99,107,32,54,32,111,119,110,101,114,32,111,59,32,98,97,121,32,98,32,99,104,97,114,103,101,114,32,120,59]) Qa Qa QS (fun r1=>?_)
 refine xR 6 Qa (xE (Ql ⟨[qq 1,(2, .p (.sl 2 (K5 r1.2)))],Va r1.1⟩ Qa (sS (sG (xR 1 Qa ?_)))))
 refine xC [] Qa (Vh n r1.1) Qa Qa QS (fun r2=>?_)
 refine xR 6 Qa (xE (Ql ⟨[(2, .p (.sl 2 (K5 r1.2))),qq 3,(4, .p (.sl 2 (K5 r2.2)))],A8 r2.1⟩ Qa (sS (sG ?_))))
 refine xC [] Qa (Bd n [102,101,101,100,101,114,32,102,32,108,105,109,105,116,32,48,32,110,101,117,116,114,97,108,32,56,48,59]) Qa Qa QS (fun r3=>?_)
 refine xR 6 Qa (xE (Ql ⟨[(2, .p (.sl 2 (K5 r1.2))),qq 3,(4, .p (.sl 2 (K5 r2.2))),qq 5,(6, .p (.sl 2 (K5 r3.2)))],[(3,ZN r2.1),(5,F3 r3.1)]⟩ Qa (sS (sG (xR 1 Qa ?_)))))
 refine xC [] Qa (Vh n r3.1) Qa Qa QS (fun r4=>?_)
 refine xR 6 Qa (xE (Ql ⟨[(2, .p (.sl 2 (K5 r1.2))),qq 3,(4, .p (.sl 2 (K5 r2.2))),(6, .p (.sl 2 (K5 r3.2))),(8, .p (.sl 2 (K5 r4.2)))],A8 r2.1⟩ Qa (sS (sG (xR 1 Qa ?_)))))
 refine xC [.agg [.id, .id, .id, .id, .sl 5]] Qa (Vh n (⟨1,[],0,0,[]⟩:GN)) Qa Qa QS (fun r5=>?_)
 refine xR 6 Qa (xE (Ql ⟨[(2, .p (.sl 2 (K5 r1.2))),qq 3,(4, .p (.sl 2 (K5 r2.2))),(6, .p (.sl 2 (K5 r3.2))),(8, .p (.sl 2 (K5 r4.2))),(10, .p (.sl 2 (K5 r5.2)))],A8 r2.1⟩ Qa (sS (sG (xR 1 Qa ?_)))))
 refine xC [.agg [.id, .id, .id, .id, .sl 5]] Qa (Vh n (⟨0,[],0,0,[]⟩:GN)) Qa Qa QS (fun r6=>?_)
 refine xR 6 Qa (xE (Ql ⟨[(2, .p (.sl 2 (K5 r1.2))),qq 3,(4, .p (.sl 2 (K5 r2.2))),(6, .p (.sl 2 (K5 r3.2))),(8, .p (.sl 2 (K5 r4.2))),(10, .p (.sl 2 (K5 r5.2))),(12, .p (.sl 2 (K5 r6.2)))],A8 r2.1⟩ Qa (sS (Yj (fun j7=>⟨[qq 3,(8, .p (.sl 2 (K5 r4.2))),(10, .p (.sl 2 (K5 r5.2))),(12, .p (.sl 2 (K5 r6.2))),(98,B j7)],A8 r2.1⟩:Bool→St) ?_ ?_))))
 ·refine sG (xR 4 Qa ?_)
  refine xS (QL 0 (Qc (K5 r1.2))) (fun h8=>?_) (fun h8=>?_)
  ·refine xN (Qy Qa h8) Qa (xR 53 Qa (xE ?_))
   exact QO true Qa
  refine xO (Qx Qa h8) Qa (xR 4 Qa ?_)
  refine xS (QL 0 (Qc (K5 r2.2))) (fun h9=>?_) (fun h9=>?_)
  ·refine xN (Qy Qa h9) Qa (xR 48 Qa (xE ?_))
   exact QO true Qa
  refine xO (Qx Qa h9) Qa (xR 4 Qa ?_)
  refine xS (QL 0 (Qc (K5 r3.2))) (fun h10=>?_) (fun h10=>?_)
  ·refine xN (Qy Qa h10) Qa (xR 43 Qa (xE ?_))
   exact QO true Qa
  refine xO (Qx Qa h10) Qa (xR 4 Qa ?_)
  refine xS (!Qi (Qc (K5 r4.2)) 1) (fun h11=>?_) (fun h11=>?_)
  ·refine xN (Qy Qa h11) Qa (xR 38 Qa (xE ?_))
   exact QO true Qa
  refine xO (Qx Qa h11) Qa (xR 4 Qa ?_)
  refine xS (!Qi (Qc (K5 r5.2)) 1) (fun h12=>?_) (fun h12=>?_)
  ·refine xN (Qy Qa h12) Qa (xR 33 Qa (xE ?_))
   exact QO true Qa
  refine xO (Qx Qa h12) Qa (xR 4 Qa ?_)
  refine xS (!Qi (Qc (K5 r6.2)) 1) (fun h13=>?_) (fun h13=>?_)
  ·refine xN (Qy Qa h13) Qa (xR 28 Qa (xE ?_))
   exact QO true Qa
  refine xO (Qx Qa h13) Qa (xR 5 Qa ?_)
  refine xS (!Qi (Qc (GV r2.1.Conductors)) 2) (fun h14=>?_) (fun h14=>?_)
  ·refine xN (Qy Qa h14) Qa (xR 22 Qa (xE ?_))
   exact QO true Qa
  refine xO (Qx Qa h14) Qa (xR 5 Qa ?_)
  refine xS (!Qi (Qc (Kk r2.1.Owners)) 1) (fun h15=>?_) (fun h15=>?_)
  ·refine xN (Qy Qa h15) Qa (xR 16 Qa (xE ?_))
   exact QO true Qa
  refine xO (Qx Qa h15) Qa (xR 5 Qa ?_)
  refine xS (!Qi (Qc (Fb r2.1.Chargers)) 1) (fun h16=>?_) (fun h16=>?_)
  ·refine xN (Qy Qa h16) Qa (xR 10 Qa (xE ?_))
   exact QO true Qa
  refine xO (Qx Qa h16) Qa (xR 5 Qa ?_)
  refine xS (!Qi (Qc (VW r2.1.Bays)) 1) (fun h17=>?_) (fun h17=>?_)
  ·refine xN (Qy Qa h17) Qa (xR 4 Qa (xE ?_))
   exact QO true Qa
  refine xO (Qx Qa h17) Qa (xR 4 Qa (xE ?_))
  exact QO (!Qi (Qc (Gh r2.1.Contracts)) 0) Qa
 rintro j7
 refine sC j7 Qa ?_ ?_
 ·refine Qg Qd ⟨[(0,B false)],[]⟩ Qa (sT (Q8 ?_))
  exact qR (.id) Qa Qa Qa
 refine sK (Ql ⟨[qq 3,(8, .p (.sl 2 (K5 r4.2))),(10, .p (.sl 2 (K5 r5.2))),(12, .p (.sl 2 (K5 r6.2)))],A8 r2.1⟩ Qa (Yj (fun j18=>⟨[(0,B j18)],[]⟩:Bool→St) ?_ ?_))
 rotate_left
 ·rintro j18
  refine sT ?_
  exact qR (.id) Qa Qa Qa
 refine sG (xR 1 Qa ?_)
 refine xG Qa Qa (QN (e:=65) (S:=2) (enc:=Zr.cs) (l:=r4.2) (k:=.i64) (n:=0) (sv:=.p (.sl 2 (K5 r4.2))) rfl Qa Qa Qa Qa Qa) (fun x19=>?_)
 refine xR 2 Qa (ZM Qa Qa (R3 (xs:=[I x19.Err,I x19.At]) (ys:=[I 3,I 9]) (vx:=[.int .i64 x19.Err, .int .i64 x19.At]) (vy:=[.int .i64 3, .int .i64 9]) (b:=(Qi x19.Err 3)&&((Qi x19.At 9)&&true)) rfl Qa Qa Qa Qa Qa Qa) (xR 1 Qa ?_))
 refine xS (Gz ((Qi x19.Err 3)&&((Qi x19.At 9)&&true))) (fun h20=>?_) (fun h20=>?_)
 rotate_left
 ·refine xN (Qq Qa h20) Qa (xR 55 Qa (xE ?_))
  exact QO false Qa
 refine xO (Qp Qa h20) Qa ?_
 refine xG Qa Qa (QN (e:=65) (S:=2) (enc:=Zr.cs) (l:=r5.2) (k:=.i64) (n:=0) (sv:=.p (.sl 2 (K5 r5.2))) rfl Qa Qa Qa Qa Qa) (fun x21=>?_)
 refine xR 5 Qa ?_
 refine xS (Qi x21.Err 4) (fun h22=>?_) (fun h22=>?_)
 rotate_left
 ·refine xN (Qq Qa h22) Qa (xR 48 Qa (xE ?_))
  exact QO false Qa
 refine xO (Qp Qa h22) Qa ?_
 refine xG Qa Qa (QN (e:=65) (S:=2) (enc:=Zr.cs) (l:=r6.2) (k:=.i64) (n:=0) (sv:=.p (.sl 2 (K5 r6.2))) rfl Qa Qa Qa Qa Qa) (fun x23=>?_)
 refine xR 5 Qa ?_
 refine xS (Qi x23.Err 1) (fun h24=>?_) (fun h24=>?_)
 rotate_left
 ·refine xN (Qq Qa h24) Qa (xR 41 Qa (xE ?_))
  exact QO false Qa
 refine xO (Qp Qa h24) Qa (xR 1 Qa ?_)
 refine xG Qa Qa (QN (e:=49) (S:=11) (enc:=ZE.cs) (l:=r2.1.Conductors) (k:=.i64) (n:=0) (sv:=.p (.sl 11 (GV r2.1.Conductors))) rfl Qa Qa Qa Qa Qa) (fun x25=>?_)
 refine xR 2 Qa (ZM Qa Qa (R3 (xs:=[S x25.Name,I x25.Up,I x25.Limit,I x25.Neutral,I x25.Fuse.Rated,I x25.Fuse.Heat,I x25.Cable.Ambient,I x25.Cable.Most,I x25.Cable.Gain,I x25.Cable.Loss,I x25.Cable.Den]) (ys:=[S [102],I (-1),I 100,I 80,I 0,I 0,I 0,I 0,I 0,I 0,I 0]) (vx:=[.string (JY x25.Name), .int .i64 x25.Up, .int .i64 x25.Limit, .int .i64 x25.Neutral, .int .i64 x25.Fuse.Rated, .int .i64 x25.Fuse.Heat, .int .i64 x25.Cable.Ambient, .int .i64 x25.Cable.Most, .int .i64 x25.Cable.Gain, .int .i64 x25.Cable.Loss, .int .i64 x25.Cable.Den]) (vy:=[.string (JY [102]), .int .i64 (-1), .int .i64 100, .int .i64 80, .int .i64 0, .int .i64 0, .int .i64 0, .int .i64 0, .int .i64 0, .int .i64 0, .int .i64 0]) (b:=(QK x25.Name [102])&&((Qi x25.Up (-1))&&((Qi x25.Limit 100)&&((Qi x25.Neutral 80)&&(((Qi x25.Fuse.Rated 0)&&((Qi x25.Fuse.Heat 0)&&true))&&(((Qi x25.Cable.Ambient 0)&&((Qi x25.Cable.Most 0)&&((Qi x25.Cable.Gain 0)&&((Qi x25.Cable.Loss 0)&&((Qi x25.Cable.Den 0)&&true)))))&&true)))))) rfl Qa Qa Qa Qa Qa Qa) (xR 2 Qa ?_))
 refine xS (Gz ((QK x25.Name [102])&&((Qi x25.Up (-1))&&((Qi x25.Limit 100)&&((Qi x25.Neutral 80)&&(((Qi x25.Fuse.Rated 0)&&((Qi x25.Fuse.Heat 0)&&true))&&(((Qi x25.Cable.Ambient 0)&&((Qi x25.Cable.Most 0)&&((Qi x25.Cable.Gain 0)&&((Qi x25.Cable.Loss 0)&&((Qi x25.Cable.Den 0)&&true)))))&&true))))))) (fun h26=>?_) (fun h26=>?_)
 rotate_left
 ·refine xN (Qq Qa h26) Qa (xR 33 Qa (xE ?_))
  exact QO false Qa
 refine xO (Qp Qa h26) Qa (xR 1 Qa ?_)
 refine xG Qa Qa (QN (e:=49) (S:=11) (enc:=ZE.cs) (l:=r2.1.Conductors) (k:=.i64) (n:=1) (sv:=.p (.sl 11 (GV r2.1.Conductors))) rfl Qa Qa Qa Qa Qa) (fun x27=>?_)
 refine xR 3 Qa (ZM Qa Qa (R3 (xs:=[S x27.Name,I x27.Up,I x27.Limit,I x27.Neutral,I x27.Fuse.Rated,I x27.Fuse.Heat,I x27.Cable.Ambient,I x27.Cable.Most,I x27.Cable.Gain,I x27.Cable.Loss,I x27.Cable.Den]) (ys:=[S [99],I 0,I 40,I 40,I 32,I 5000,I 0,I 0,I 0,I 0,I 0]) (vx:=[.string (JY x27.Name), .int .i64 x27.Up, .int .i64 x27.Limit, .int .i64 x27.Neutral, .int .i64 x27.Fuse.Rated, .int .i64 x27.Fuse.Heat, .int .i64 x27.Cable.Ambient, .int .i64 x27.Cable.Most, .int .i64 x27.Cable.Gain, .int .i64 x27.Cable.Loss, .int .i64 x27.Cable.Den]) (vy:=[.string (JY [99]), .int .i64 0, .int .i64 40, .int .i64 40, .int .i64 32, .int .i64 5000, .int .i64 0, .int .i64 0, .int .i64 0, .int .i64 0, .int .i64 0]) (b:=(QK x27.Name [99])&&((Qi x27.Up 0)&&((Qi x27.Limit 40)&&((Qi x27.Neutral 40)&&(((Qi x27.Fuse.Rated 32)&&((Qi x27.Fuse.Heat 5000)&&true))&&(((Qi x27.Cable.Ambient 0)&&((Qi x27.Cable.Most 0)&&((Qi x27.Cable.Gain 0)&&((Qi x27.Cable.Loss 0)&&((Qi x27.Cable.Den 0)&&true)))))&&true)))))) rfl Qa Qa Qa Qa Qa Qa) (xR 2 Qa ?_))
 refine xS (Gz ((QK x27.Name [99])&&((Qi x27.Up 0)&&((Qi x27.Limit 40)&&((Qi x27.Neutral 40)&&(((Qi x27.Fuse.Rated 32)&&((Qi x27.Fuse.Heat 5000)&&true))&&(((Qi x27.Cable.Ambient 0)&&((Qi x27.Cable.Most 0)&&((Qi x27.Cable.Gain 0)&&((Qi x27.Cable.Loss 0)&&((Qi x27.Cable.Den 0)&&true)))))&&true))))))) (fun h28=>?_) (fun h28=>?_)
 rotate_left
 ·refine xN (Qq Qa h28) Qa (xR 24 Qa (xE ?_))
  exact QO false Qa
 refine xO (Qp Qa h28) Qa (xR 1 Qa ?_)
 refine xG Qa Qa (QN (e:=56) (S:=8) (enc:=ZT.cs) (l:=r2.1.Chargers) (k:=.i64) (n:=0) (sv:=.p (.sl 8 (Fb r2.1.Chargers))) rfl Qa Qa Qa Qa Qa) (fun x29=>?_)
 refine xR 2 Qa (ZM Qa Qa (R3 (xs:=[S x29.Name,I x29.At,I x29.Phases,I x29.Min,I x29.Max,I x29.Step,I x29.Fallback,I x29.Owner]) (ys:=[S [120],I 1,I 5,I 6,I 32,I 1,I 6,I 0]) (vx:=[.string (JY x29.Name), .int .i64 x29.At, .int .i64 x29.Phases, .int .i64 x29.Min, .int .i64 x29.Max, .int .i64 x29.Step, .int .i64 x29.Fallback, .int .i64 x29.Owner]) (vy:=[.string (JY [120]), .int .i64 1, .int .i64 5, .int .i64 6, .int .i64 32, .int .i64 1, .int .i64 6, .int .i64 0]) (b:=(QK x29.Name [120])&&((Qi x29.At 1)&&((Qi x29.Phases 5)&&((Qi x29.Min 6)&&((Qi x29.Max 32)&&((Qi x29.Step 1)&&((Qi x29.Fallback 6)&&((Qi x29.Owner 0)&&true)))))))) rfl Qa Qa Qa Qa Qa Qa) (xR 2 Qa ?_))
 refine xS (Gz ((QK x29.Name [120])&&((Qi x29.At 1)&&((Qi x29.Phases 5)&&((Qi x29.Min 6)&&((Qi x29.Max 32)&&((Qi x29.Step 1)&&((Qi x29.Fallback 6)&&((Qi x29.Owner 0)&&true))))))))) (fun h30=>?_) (fun h30=>?_)
 rotate_left
 ·refine xN (Qq Qa h30) Qa (xR 16 Qa (xE ?_))
  exact QO false Qa
 refine xO (Qp Qa h30) Qa (xR 1 Qa ?_)
 refine xG Qa Qa (QN (e:=58) (S:=2) (enc:=Q6.cs) (l:=r2.1.Bays) (k:=.i64) (n:=0) (sv:=.p (.sl 2 (VW r2.1.Bays))) rfl Qa Qa Qa Qa Qa) (fun x31=>?_)
 refine xR 2 Qa (ZM Qa Qa (R3 (xs:=[S x31.Name,I x31.Charger]) (ys:=[S [98],I 0]) (vx:=[.string (JY x31.Name), .int .i64 x31.Charger]) (vy:=[.string (JY [98]), .int .i64 0]) (b:=(QK x31.Name [98])&&((Qi x31.Charger 0)&&true)) rfl Qa Qa Qa Qa Qa Qa) (xR 2 Qa ?_))
 refine xS (Gz ((QK x31.Name [98])&&((Qi x31.Charger 0)&&true))) (fun h32=>?_) (fun h32=>?_)
 ·refine xO (Qp Qa h32) Qa ?_
  refine xC [] Qa (F5 n r2.1) Qa Qa QS (fun r33=>?_)
  refine xR 2 Qa ?_
  refine xS r33 (fun h34=>?_) (fun h34=>?_)
  ·refine xO (Qp Qa h34) Qa ?_
   refine xC [.agg [.sl 11, .sl 1, .sl 4, .sl 8, .sl 2]] Qa (F5 n (⟨[],[],[],[],[]⟩:Qm)) Qa Qa QS (fun r35=>?_)
   refine xR 3 Qa (xE ?_)
   exact QO (!r35) Qa
  refine xN (Qq Qa h34) Qa (xR 4 Qa (xE ?_))
  exact QO false Qa
 refine xN (Qq Qa h32) Qa (xR 8 Qa (xE ?_))
 exact QO false Qa
def Ya (a0n:GN) (a1most:Int) (rf_ref02_Count:GN→Int→Option Int) (recl1:(Int × Int)→Option Int) (l1_1:Int) (l1_2:Int):Option Int :=
 (cond (QL l1_2 (Qc (List.map KI a0n.Kids)))
  (some (leI l1_1 a1most))
  (some false)).bind fun j2 =>
 cond j2
  ((Option.bind (Q4 a0n.Kids l1_2) GN.of).bind fun x4 =>
  (rf_ref02_Count x4 (wi (a1most - l1_1))).bind fun r5 =>
  recl1 (wi (l1_1+r5),wi (l1_2+1)))
  (some l1_1)
def Yb (n:Nat) (rf_ref02_Count:GN→Int→Option Int) (a0n:GN) (a1most:Int):Option Int :=
 QT (fun recl1 (l1_1,l1_2)=>Ya a0n a1most rf_ref02_Count recl1 l1_1 l1_2) n (1,0)
def ZV:Nat→GN→Int→Option Int
 | 0,_,_=>none
 | n+1,a0n,a1most=>Yb n (ZV n) a0n a1most
def vY:=fun x0 x1 x2=>([(1,I x0),(2, .ptr 2 0),(5,I x1),(6,I x2)]:List (Nat × AV))
theorem G5 (n:Nat) (a0n:GN) (a1most:Int):∀ r,ZV n a0n a1most=some r→Q9 Tryz.prog 22 [ag (GN.cs a0n),I a1most] (.ret (I r)):=by
 induction n generalizing a0n a1most with
 | zero=>intro r hr; cases (show (none:Option Int)=some r from hr)
 | succ n ih =>
 show ∀ r,Yb n (ZV n) a0n a1most=some r→_
 generalize ZV n=rf_ref02_Count at ih ⊢
 refine Qt (X:=fun r:Int=>QV.ret (I r)) Tryz.func22 rfl Tryz.ntmps22 rfl ?_
 unfold Yb
 refine Qg Qd (fP a1most a0n) Qa (Qg Qd ⟨xk a1most 1,Ym a0n⟩ Qa (sS (Qg Qd ⟨vY a1most 1 0,Ym a0n⟩ Qa (sB (QH (fun (l1_1,l1_2)=>⟨vY a1most l1_1 l1_2,Ym a0n⟩:(Int × Int)→St) (Xk Qa) ?_)))))
 rintro recl1 ⟨l1_1,l1_2⟩
 show QX (Ya a0n a1most rf_ref02_Count recl1 l1_1 l1_2) _ _ _ _ _ _
 unfold Ya
 refine sS (Yj (fun j2=>⟨[(1,I a1most),qq 2,(5,I l1_1),(6,I l1_2),(16,B j2)],Ym a0n⟩:Bool→St) ?_ ?_)
 ·refine sG (xR 6 Qa ?_)
  refine xS (QL l1_2 (Qc (mI a0n.Kids))) (fun h3=>?_) (fun h3=>?_)
  ·refine xO (Qp Qa h3) Qa (xR 3 Qa (xE ?_))
   exact QO (leI l1_1 a1most) Qa
  refine xN (Qq Qa h3) Qa (xR 3 Qa (xE ?_))
  exact QO false Qa
 rintro j2
 refine sC j2 Qa ?_ ?_
 ·refine sK (Ql ⟨vY a1most l1_1 l1_2,Ym a0n⟩ Qa (sS (sB (sG (xR 4 Qa ?_)))))
  refine xG Qa Qa (Kg (e:=24) (S:=5) (enc:=GN.cs) (dec:=GN.of) (l:=a0n.Kids) (k:=.i64) (n:=l1_2) (sv:=.p (.sl 5 (mI a0n.Kids))) GN.of_cs rfl Qa Qa Qa Qa Qa) (fun x4=>?_)
  refine xR 4 Qa ?_
  refine xC [] Qa (ih x4 (wi (a1most - l1_1))) Qa Qa QS (fun r5=>?_)
  refine xR 2 Qa (xE (Za (Ql ⟨vY a1most (wi (l1_1+r5)) l1_2,Ym a0n⟩ Qa (sL Qd Qa ?_))))
  exact KZ (wi (l1_1+r5),wi (l1_2+1)) Qa
 refine Qz (Kb (KY (QW (Ql ⟨[(5,I l1_1)],[]⟩ Qa (Qg Qd ⟨[(4,I l1_1)],[]⟩ Qa (sT ?_))))))
 exact qR (.id) Qa Qa Qa
def Jg (a0n:GN) (a1depth:Int) (rf_ref02_names:GN→Int→Option Bool) (recl3:Int→Option Bool) (l3:Int):Option Bool :=
 cond (QL l3 (Qc (List.map KI a0n.Kids)))
  ((Option.bind (Q4 a0n.Kids l3) GN.of).bind fun x4 =>
  (rf_ref02_names x4 (wi (a1depth - 1))).bind fun r5 =>
  cond (!r5)
   (some false)
   (recl3 (wi (l3+1))))
  (some true)
def Wh (n:Nat) (rf_ref02_names:GN→Int→Option Bool) (a0n:GN) (a1depth:Int):Option Bool :=
 (cond (Qi a1depth 0)
  (some true)
  (some (QL 40 (Qc a0n.Name)))).bind fun j1 =>
 cond j1
  (some false)
  (QT (fun recl3 l3=>Jg a0n a1depth rf_ref02_names recl3 l3) n 0)
def Vs:Nat→GN→Int→Option Bool
 | 0,_,_=>none
 | n+1,a0n,a1depth=>Wh n (Vs n) a0n a1depth
theorem MP (n:Nat) (a0n:GN) (a1depth:Int):∀ r,Vs n a0n a1depth=some r→Q9 Tryz.prog 23 [ag (GN.cs a0n),I a1depth] (.ret (B r)):=by
 induction n generalizing a0n a1depth with
 | zero=>intro r hr; cases (show (none:Option Bool)=some r from hr)
 | succ n ih =>
 show ∀ r,Wh n (Vs n) a0n a1depth=some r→_
 generalize Vs n=rf_ref02_names at ih ⊢
 refine Qt (X:=fun r:Bool=>QV.ret (B r)) Tryz.func23 rfl Tryz.ntmps23 rfl ?_
 unfold Wh
 refine Qg Qd (fP a1depth a0n) Qa (sS (Yj (fun j1=>⟨[(1,I a1depth),qq 2,(13,B j1)],Ym a0n⟩:Bool→St) ?_ ?_))
 ·refine sG (xR 3 Qa ?_)
  refine xS (Qi a1depth 0) (fun h2=>?_) (fun h2=>?_)
  ·refine xN (Qy Qa h2) Qa (xR 4 Qa (xE ?_))
   exact QO true Qa
  refine xO (Qx Qa h2) Qa (xR 4 Qa (xE ?_))
  exact QO (QL 40 (Qc a0n.Name)) Qa
 rintro j1
 refine sC j1 Qa ?_ ?_
 ·refine Qg Qd ⟨[(4,B false)],[]⟩ Qa (sT (Q8 ?_))
  exact qR (.id) Qa Qa Qa
 refine sK (Ql (fP a1depth a0n) Qa (sS (Qg Qd ⟨xk a1depth 0,Ym a0n⟩ Qa (sB (QH (fun l3=>⟨xk a1depth l3,Ym a0n⟩:Int→St) (Xk Qa) ?_)))))
 rintro recl3 l3
 show QX (Jg a0n a1depth rf_ref02_names recl3 l3) _ _ _ _ _ _
 unfold Jg
 refine sS (Qg Qd ⟨[(1,I a1depth),qq 2,(5,I l3),(18,B (QL l3 (Qc (mI a0n.Kids))))],Ym a0n⟩ Qa (sC (QL l3 (Qc (mI a0n.Kids))) Qa ?_ ?_))
 rotate_left
 ·refine Qz (Kb (KY (QW (Ql ⟨[],[]⟩ Qa (Qg Qd ⟨[(4,B true)],[]⟩ Qa (sT ?_))))))
  exact qR (.id) Qa Qa Qa
 refine sK (Ql ⟨xk a1depth l3,Ym a0n⟩ Qa (sS (sB (sS (sG (xR 3 Qa ?_))))))
 refine xG Qa Qa (Kg (e:=24) (S:=5) (enc:=GN.cs) (dec:=GN.of) (l:=a0n.Kids) (k:=.i64) (n:=l3) (sv:=.p (.sl 5 (mI a0n.Kids))) GN.of_cs rfl Qa Qa Qa Qa Qa) (fun x4=>?_)
 refine xR 3 Qa ?_
 refine xC [] Qa (ih x4 (wi (a1depth - 1))) Qa Qa QS (fun r5=>?_)
 refine xR 1 Qa (xE (Ql ⟨[(1,I a1depth),qq 2,(5,I l3),(29,B (!r5))],Ym a0n⟩ Qa (sC (!r5) Qa ?_ ?_)))
 ·refine Qg Qd ⟨[(4,B false)],[]⟩ Qa (sT (Zh (Q8 (Yv (Zh (Q8 ?_))))))
  exact qR (.id) Qa Qa Qa
 refine sK (Za (Ql ⟨xk a1depth l3,Ym a0n⟩ Qa (sL Qd Qa ?_)))
 exact KZ (wi (l3+1)) Qa
def Ub (n:Nat) (a0n:GN) (a1most:Int):Option Bool :=
 (ZV n a0n a1most).bind fun r1 =>
 cond (leI r1 a1most)
  ((Vs n a0n 50).bind fun r3 =>
  some r3)
  (some false)
theorem EQ (n:Nat) (a0n:GN) (a1most:Int):∀ r,Ub n a0n a1most=some r→Q9 Tryz.prog 8 [ag (GN.cs a0n),I a1most] (.ret (B r)):=by
 refine Qt (X:=fun r:Bool=>QV.ret (B r)) Tryz.func8 rfl Tryz.ntmps8 rfl ?_
 unfold Ub
 refine Qg Qd (fP a1most a0n) Qa (sS (sG (xR 2 Qa ?_)))
 refine xC [] Qa (G5 n a0n a1most) Qa Qa QS (fun r1=>?_)
 refine xR 3 Qa ?_
 refine xS (leI r1 a1most) (fun h2=>?_) (fun h2=>?_)
 ·refine xO (Qp Qa h2) Qa ?_
  refine xC [] Qa (MP n a0n 50) Qa Qa QS (fun r3=>?_)
  refine xR 2 Qa (xE (Ql ⟨[(4,B r3)],[]⟩ Qa (sT ?_)))
  exact qR (.id) Qa Qa Qa
 refine xN (Qq Qa h2) Qa (xR 3 Qa (xE (Ql ⟨[(4,B false)],[]⟩ Qa (sT ?_))))
 exact qR (.id) Qa Qa Qa
def Vt (n:Nat):Option (List (List UInt8)) :=
 some [[102,101,101,100,101,114],[99,97,98,108,101],[111,119,110,101,114],[99,111,110,116,114,97,99,116],[99,104,97,114,103,101,114],[98,97,121],[116,97,114,105,102,102]]
theorem MQ (n:Nat):∀ r,Vt n=some r→Q9 Tryz.prog 87 [] (.ret (.p (.sl 1 (List.map ZU r)))):=by
 refine Qt (X:=fun r:List (List UInt8)=>QV.ret (.p (.sl 1 (List.map ZU r)))) Tryz.func87 rfl Tryz.ntmps87 rfl ?_
 unfold Vt
 refine Qg Qd ⟨[],[]⟩ Qa (Qg Qd ⟨[(0, .tsl 1 (List.map ZU [[102,101,101,100,101,114],[99,97,98,108,101],[111,119,110,101,114],[99,111,110,116,114,97,99,116],[99,104,97,114,103,101,114],[98,97,121],[116,97,114,105,102,102]]) 1)],[(1, .arr 9 1 (List.map ZU [[102,101,101,100,101,114],[99,97,98,108,101],[111,119,110,101,114],[99,111,110,116,114,97,99,116],[99,104,97,114,103,101,114],[98,97,121],[116,97,114,105,102,102]]).length)]⟩ Qa (sT ?_))
 exact qR (.sl 1) Qa Qa Qa
def Ws (a0l:List (List UInt8)) (a1s:List UInt8) (recl1:Int→Option Int) (l1:Int):Option Int :=
 cond (QL l1 (Qc (List.map ZU a0l)))
  ((Q4 a0l l1).bind fun x2 =>
  cond (QK x2 a1s)
   (some l1)
   (recl1 (wi (l1+1))))
  (some (-1))
def Km (n:Nat) (a0l:List (List UInt8)) (a1s:List UInt8):Option Int :=
 QT (fun recl1 l1=>Ws a0l a1s recl1 l1) n 0
def vZ:=fun x0 x1 x2=>([(0, .p (.sl 1 (List.map ZU x0))),(1,S x1),(5,I x2)]:List (Nat × AV))
theorem YS (n:Nat) (a0l:List (List UInt8)) (a1s:List UInt8):∀ r,Km n a0l a1s=some r→Q9 Tryz.prog 86 [.p (.sl 1 (List.map ZU a0l)),S a1s] (.ret (I r)):=by
 refine Qt (X:=fun r:Int=>QV.ret (I r)) Tryz.func86 rfl Tryz.ntmps86 rfl ?_
 unfold Km
 refine Qg Qd ⟨[(0, .p (.sl 1 (List.map ZU a0l))),(1,S a1s)],[]⟩ Qa (sS (Qg Qd ⟨vZ a0l a1s 0,[]⟩ Qa (sB (QH (fun l1=>⟨vZ a0l a1s l1,[]⟩:Int→St) (Xk Qa) ?_))))
 rintro recl1 l1
 show QX (Ws a0l a1s recl1 l1) _ _ _ _ _ _
 unfold Ws
 refine sS (Qg Qd ⟨[(0, .p (.sl 1 (List.map ZU a0l))),(1,S a1s),(5,I l1),(9,B (QL l1 (Qc (List.map ZU a0l))))],[]⟩ Qa (sC (QL l1 (Qc (List.map ZU a0l))) Qa ?_ ?_))
 rotate_left
 ·refine Qz (Kb (KY (QW (Ql ⟨[],[]⟩ Qa (Qg Qd ⟨[(4,I (-1))],[]⟩ Qa (sT ?_))))))
  exact qR (.id) Qa Qa Qa
 refine sK (Ql ⟨vZ a0l a1s l1,[]⟩ Qa (sS (sB (sS (sG (xR 2 Qa ?_))))))
 refine xG Qa Qa (QN (e:=9) (S:=1) (enc:=ZU) (l:=a0l) (k:=.i64) (n:=l1) (sv:=.p (.sl 1 (List.map ZU a0l))) rfl Qa Qa Qa Qa Qa) (fun x2=>?_)
 refine xR 3 Qa (xE (Ql ⟨[(0, .p (.sl 1 (List.map ZU a0l))),(1,S a1s),(5,I l1),(17,B (QK x2 a1s))],[]⟩ Qa (sC (QK x2 a1s) Qa ?_ ?_)))
 ·refine Qg Qd ⟨[(4,I l1)],[]⟩ Qa (sT (Zh (Q8 (Yv (Zh (Q8 ?_))))))
  exact qR (.id) Qa Qa Qa
 refine sK (Za (Ql ⟨vZ a0l a1s l1,[]⟩ Qa (sL Qd Qa ?_)))
 exact KZ (wi (l1+1)) Qa
def ZJ (n:Nat):Option (List (List UInt8)) :=
 some [[108,105,109,105,116],[110,101,117,116,114,97,108],[102,117,115,101],[116,104,101,114,109,97,108],[102,114,111,109],[97,116],[112,104,97,115,101,115],[97,109,112,115],[102,97,108,108,98,97,99,107],[111,119,110,101,114],[99,97,114,100],[114,97,110,107],[99,104,97,114,103,101,114]]
theorem G6 (n:Nat):∀ r,ZJ n=some r→Q9 Tryz.prog 88 [] (.ret (.p (.sl 1 (List.map ZU r)))):=by
 refine Qt (X:=fun r:List (List UInt8)=>QV.ret (.p (.sl 1 (List.map ZU r)))) Tryz.func88 rfl Tryz.ntmps88 rfl ?_
 unfold ZJ
 refine Qg Qd ⟨[],[]⟩ Qa (Qg Qd ⟨[(0, .tsl 1 (List.map ZU [[108,105,109,105,116],[110,101,117,116,114,97,108],[102,117,115,101],[116,104,101,114,109,97,108],[102,114,111,109],[97,116],[112,104,97,115,101,115],[97,109,112,115],[102,97,108,108,98,97,99,107],[111,119,110,101,114],[99,97,114,100],[114,97,110,107],[99,104,97,114,103,101,114]]) 1)],[(1, .arr 9 1 (List.map ZU [[108,105,109,105,116],[110,101,117,116,114,97,108],[102,117,115,101],[116,104,101,114,109,97,108],[102,114,111,109],[97,116],[112,104,97,115,101,115],[97,109,112,115],[102,97,108,108,98,97,99,107],[111,119,110,101,114],[99,97,114,100],[114,97,110,107],[99,104,97,114,103,101,114]]).length)]⟩ Qa (sT ?_))
 exact qR (.sl 1) Qa Qa Qa
def Zi (n:Nat):Option (List (List UInt8)) :=
 some [[115,116,97,114,116],[101,110,101,114,103,121],[116,105,109,101],[105,100,108,101],[99,97,112],[116,97,120]]
theorem Jn (n:Nat):∀ r,Zi n=some r→Q9 Tryz.prog 89 [] (.ret (.p (.sl 1 (List.map ZU r)))):=by
 refine Qt (X:=fun r:List (List UInt8)=>QV.ret (.p (.sl 1 (List.map ZU r)))) Tryz.func89 rfl Tryz.ntmps89 rfl ?_
 unfold Zi
 refine Qg Qd ⟨[],[]⟩ Qa (Qg Qd ⟨[(0, .tsl 1 (List.map ZU [[115,116,97,114,116],[101,110,101,114,103,121],[116,105,109,101],[105,100,108,101],[99,97,112],[116,97,120]]) 1)],[(1, .arr 9 1 (List.map ZU [[115,116,97,114,116],[101,110,101,114,103,121],[116,105,109,101],[105,100,108,101],[99,97,112],[116,97,120]]).length)]⟩ Qa (sT ?_))
 exact qR (.sl 1) Qa Qa Qa
def ZK (n:Nat):Option (List (List UInt8)) :=
 some [[111,110],[119,111,114,107],[115,97,116,117,114,100,97,121],[115,117,110,100,97,121],[98,101,116,119,101,101,110],[112,101,114],[102,114,101,101]]
theorem G7 (n:Nat):∀ r,ZK n=some r→Q9 Tryz.prog 90 [] (.ret (.p (.sl 1 (List.map ZU r)))):=by
 refine Qt (X:=fun r:List (List UInt8)=>QV.ret (.p (.sl 1 (List.map ZU r)))) Tryz.func90 rfl Tryz.ntmps90 rfl ?_
 unfold ZK
 refine Qg Qd ⟨[],[]⟩ Qa (Qg Qd ⟨[(0, .tsl 1 (List.map ZU [[111,110],[119,111,114,107],[115,97,116,117,114,100,97,121],[115,117,110,100,97,121],[98,101,116,119,101,101,110],[112,101,114],[102,114,101,101]]) 1)],[(1, .arr 9 1 (List.map ZU [[111,110],[119,111,114,107],[115,97,116,117,114,100,97,121],[115,117,110,100,97,121],[98,101,116,119,101,101,110],[112,101,114],[102,114,101,101]]).length)]⟩ Qa (sT ?_))
 exact qR (.sl 1) Qa Qa Qa
def YE (n:Nat) (a0s:List UInt8):Option Bool :=
 ((Vt n).bind fun r3 =>
 (Km n r3 a0s).bind fun r4 =>
 cond (leI 0 r4)
  (some true)
  ((ZJ n).bind fun r6 =>
  (Km n r6 a0s).bind fun r7 =>
  cond (leI 0 r7)
   (some true)
   ((Zi n).bind fun r9 =>
   (Km n r9 a0s).bind fun r10 =>
   cond (leI 0 r10)
    (some true)
    ((ZK n).bind fun r12 =>
    (Km n r12 a0s).bind fun r13 =>
    some (leI 0 r13))))).bind fun j2 =>
 cond (leI 1 (Qc a0s))
  (cond (leI (Qc a0s) 12)
   (some (!j2))
   (some false))
  (some false)
def Zt (n:Nat) (a0s:List UInt8) (recl16:Int→Option Bool) (l16:Int):Option Bool :=
 cond (QL l16 (Qc a0s))
  ((Q4 a0s l16).bind fun x17 =>
  (cond (QL (KN x17) 97)
   (cond (Qi l16 0)
    (some true)
    (cond (QL (KN x17) 48)
     (some (!Qi (KN x17) 95))
     (cond (QL 57 (KN x17))
      (some (!Qi (KN x17) 95))
      (some false))))
   (cond (QL 122 (KN x17))
    (cond (Qi l16 0)
     (some true)
     (cond (QL (KN x17) 48)
      (some (!Qi (KN x17) 95))
      (cond (QL 57 (KN x17))
       (some (!Qi (KN x17) 95))
       (some false))))
    (some false))).bind fun j18 =>
  cond j18
   (some false)
   (recl16 (wi (l16+1))))
  (YE n a0s)
def KW (n:Nat) (a0s:List UInt8):Option Bool :=
 QT (fun recl16 l16=>Zt n a0s recl16 l16) n 0
theorem F6 (n:Nat) (a0s:List UInt8):∀ r,KW n a0s=some r→Q9 Tryz.prog 61 [S a0s] (.ret (B r)):=by
 refine Qt (X:=fun r:Bool=>QV.ret (B r)) Tryz.func61 rfl Tryz.ntmps61 rfl ?_
 unfold KW
 refine Qg Qd ⟨[(0,S a0s)],[]⟩ Qa (Kr (fun _=>⟨[(0,S a0s)],[]⟩:Unit→St) (fun _=>YE n a0s) ?_ ?_)
 ·rintro _
  show QX (YE n a0s) _ _ _ _ _ _
  unfold YE
  refine Yj (fun j2=>⟨[(0,S a0s),(5,B j2)],[]⟩:Bool→St) ?_ ?_
  rotate_left
  ·rintro j2
   refine sS (sG (xR 4 Qa ?_))
   refine xS (leI 1 (Qc a0s)) (fun h14=>?_) (fun h14=>?_)
   ·refine xO (Qp Qa h14) Qa (xR 4 Qa ?_)
    refine xS (leI (Qc a0s) 12) (fun h15=>?_) (fun h15=>?_)
    ·refine xO (Qp Qa h15) Qa (xR 3 Qa (xE (Ql ⟨[(2,B (!j2))],[]⟩ Qa (sT ?_))))
     exact qR (.id) Qa Qa Qa
    refine xN (Qq Qa h15) Qa (xR 3 Qa (xE (Ql ⟨[(2,B false)],[]⟩ Qa (sT ?_))))
    exact qR (.id) Qa Qa Qa
   refine xN (Qq Qa h14) Qa (xR 8 Qa (xE (Ql ⟨[(2,B false)],[]⟩ Qa (sT ?_))))
   exact qR (.id) Qa Qa Qa
  refine sG ?_
  refine xC [] Qa (MQ n) Qa Qa QS (fun r3=>?_)
  refine xR 1 Qa ?_
  refine xC [] Qa (YS n r3 a0s) Qa Qa QS (fun r4=>?_)
  refine xR 2 Qa ?_
  refine xS (leI 0 r4) (fun h5=>?_) (fun h5=>?_)
  ·refine xN (Qy Qa h5) Qa (xR 17 Qa (xE ?_))
   exact QO true Qa
  refine xC [] (Qx Qa h5) (G6 n) Qa Qa QS (fun r6=>?_)
  refine xR 1 Qa ?_
  refine xC [] Qa (YS n r6 a0s) Qa Qa QS (fun r7=>?_)
  refine xR 3 Qa ?_
  refine xS (leI 0 r7) (fun h8=>?_) (fun h8=>?_)
  ·refine xN (Qy Qa h8) Qa (xR 11 Qa (xE ?_))
   exact QO true Qa
  refine xC [] (Qx Qa h8) (Jn n) Qa Qa QS (fun r9=>?_)
  refine xR 1 Qa ?_
  refine xC [] Qa (YS n r9 a0s) Qa Qa QS (fun r10=>?_)
  refine xR 3 Qa ?_
  refine xS (leI 0 r10) (fun h11=>?_) (fun h11=>?_)
  ·refine xN (Qy Qa h11) Qa (xR 5 Qa (xE ?_))
   exact QO true Qa
  refine xC [] (Qx Qa h11) (G7 n) Qa Qa QS (fun r12=>?_)
  refine xR 1 Qa ?_
  refine xC [] Qa (YS n r12 a0s) Qa Qa QS (fun r13=>?_)
  refine xR 3 Qa (xE ?_)
  exact QO (leI 0 r13) Qa
 refine Qg Qd ⟨[(0,S a0s),(3,I 0)],[]⟩ Qa (sB (QH (fun l16=>⟨[(0,S a0s),(3,I l16)],[]⟩:Int→St) (Xk Qa) ?_))
 rintro recl16 l16
 show QX (Zt n a0s recl16 l16) _ _ _ _ _ _
 unfold Zt
 refine sS (Qg Qd ⟨[(0,S a0s),(3,I l16),(9,B (QL l16 (Qc a0s)))],[]⟩ Qa (sC (QL l16 (Qc a0s)) Qa ?_ ?_))
 rotate_left
 ·refine Qz (Kb (KY (QW ?_)))
  exact KZ (k:=fun _=>YE n a0s) () Qa
 refine sK (Ql ⟨[(0,S a0s),(3,I l16)],[]⟩ Qa (sS (sB (sS (sG (xR 2 Qa ?_))))))
 refine xG Qa Qa (Wm (l:=a0s) (k:=.i64) (n:=l16) rfl Qa Qa Qa) (fun x17=>?_)
 refine xR 1 Qa (xE (Ql ⟨[(0,S a0s),(3,I l16),(4,B8 (KN x17))],[]⟩ Qa (Yj (fun j18=>⟨[(0,S a0s),(3,I l16),(36,B j18)],[]⟩:Bool→St) ?_ ?_)))
 rotate_left
 ·rintro j18
  refine sC j18 Qa ?_ ?_
  ·refine Qg Qd ⟨[(2,B false)],[]⟩ Qa (sT (Zh (Q8 (Yv (Zh (Yv ?_))))))
   exact qR (.id) Qa Qa Qa
  refine sK (Za (Ql ⟨[(0,S a0s),(3,I l16)],[]⟩ Qa (sL Qd Qa ?_)))
  exact KZ (wi (l16+1)) Qa
 refine sG (xR 3 Qa ?_)
 refine xS (QL (KN x17) 97) (fun h19=>?_) (fun h19=>?_)
 ·refine xN (Qy Qa h19) Qa (xR 6 Qa ?_)
  refine xS (Qi l16 0) (fun h20=>?_) (fun h20=>?_)
  ·refine xN (Qy Qa h20) Qa (xR 11 Qa (xE ?_))
   exact QO true Qa
  refine xO (Qx Qa h20) Qa (xR 2 Qa ?_)
  refine xS (QL (KN x17) 48) (fun h21=>?_) (fun h21=>?_)
  ·refine xN (Qy Qa h21) Qa (xR 8 Qa (xE ?_))
   exact QO (!Qi (KN x17) 95) Qa
  refine xO (Qx Qa h21) Qa (xR 3 Qa ?_)
  refine xS (QL 57 (KN x17)) (fun h22=>?_) (fun h22=>?_)
  ·refine xO (Qp Qa h22) Qa (xR 4 Qa (xE ?_))
   exact QO (!Qi (KN x17) 95) Qa
  refine xN (Qq Qa h22) Qa (xR 4 Qa (xE ?_))
  exact QO false Qa
 refine xO (Qx Qa h19) Qa (xR 3 Qa ?_)
 refine xS (QL 122 (KN x17)) (fun h23=>?_) (fun h23=>?_)
 rotate_left
 ·refine xN (Qq Qa h23) Qa (xR 14 Qa (xE ?_))
  exact QO false Qa
 refine xO (Qp Qa h23) Qa (xR 2 Qa ?_)
 refine xS (Qi l16 0) (fun h24=>?_) (fun h24=>?_)
 ·refine xN (Qy Qa h24) Qa (xR 11 Qa (xE ?_))
  exact QO true Qa
 refine xO (Qx Qa h24) Qa (xR 2 Qa ?_)
 refine xS (QL (KN x17) 48) (fun h25=>?_) (fun h25=>?_)
 ·refine xN (Qy Qa h25) Qa (xR 8 Qa (xE ?_))
  exact QO (!Qi (KN x17) 95) Qa
 refine xO (Qx Qa h25) Qa (xR 3 Qa ?_)
 refine xS (QL 57 (KN x17)) (fun h26=>?_) (fun h26=>?_)
 ·refine xO (Qp Qa h26) Qa (xR 4 Qa (xE ?_))
  exact QO (!Qi (KN x17) 95) Qa
 refine xN (Qq Qa h26) Qa (xR 4 Qa (xE ?_))
 exact QO false Qa
def Vu (n:Nat) (a0n:GN) (a1words:Bool):Option Bool :=
 cond (QL 0 (Qc (List.map KI a0n.Kids)))
  (some false)
  (cond (Qi a0n.Kind 6)
   ((cond (QK a0n.Name [])
    (cond (leI 0 a0n.N)
     (some (leI a0n.N 1000000))
     (some false))
    (some false)).bind fun j1 =>
   some j1)
   ((cond (Qi a0n.Kind 5)
    (cond (Qi a0n.N 0)
     ((KW n a0n.Name).bind fun r7 =>
     cond r7
      (some true)
      (cond a1words
       ((ZK n).bind fun r10 =>
       (Km n r10 a0n.Name).bind fun r11 =>
       some (leI 0 r11))
       (some false)))
     (some false))
    (some false)).bind fun j4 =>
   some j4))
theorem MR (n:Nat) (a0n:GN) (a1words:Bool):∀ r,Vu n a0n a1words=some r→Q9 Tryz.prog 91 [ag (GN.cs a0n),B a1words] (.ret (B r)):=by
 refine Qt (X:=fun r:Bool=>QV.ret (B r)) Tryz.func91 rfl Tryz.ntmps91 rfl ?_
 unfold Vu
 refine Qg Qd (fT a1words a0n) Qa (sS (Qg Qd ⟨[(1,B a1words),qq 2,(8,B (QL 0 (Qc (mI a0n.Kids))))],Ym a0n⟩ Qa (sC (QL 0 (Qc (mI a0n.Kids))) Qa ?_ ?_)))
 ·refine Qg Qd ⟨[(4,B false)],[]⟩ Qa (sT (Q8 ?_))
  exact qR (.id) Qa Qa Qa
 refine sK (Ql (fT a1words a0n) Qa (sS (Qg Qd ⟨[(1,B a1words),qq 2,(11,B (Qi a0n.Kind 6))],Ym a0n⟩ Qa (sC (Qi a0n.Kind 6) Qa ?_ ?_))))
 ·refine Yj (fun j1=>⟨[(4,B j1)],[]⟩:Bool→St) ?_ ?_
  rotate_left
  ·rintro j1
   refine sT (Q8 ?_)
   exact qR (.id) Qa Qa Qa
  refine sG (xR 4 Qa ?_)
  refine xS (QK a0n.Name []) (fun h2=>?_) (fun h2=>?_)
  ·refine xO (Qp Qa h2) Qa (xR 4 Qa ?_)
   refine xS (leI 0 a0n.N) (fun h3=>?_) (fun h3=>?_)
   ·refine xO (Qp Qa h3) Qa (xR 4 Qa (xE ?_))
    exact QO (leI a0n.N 1000000) Qa
   refine xN (Qq Qa h3) Qa (xR 4 Qa (xE ?_))
   exact QO false Qa
  refine xN (Qq Qa h2) Qa (xR 9 Qa (xE ?_))
  exact QO false Qa
 refine sK (Ql (fT a1words a0n) Qa (Yj (fun j4=>⟨[(4,B j4)],[]⟩:Bool→St) ?_ ?_))
 rotate_left
 ·rintro j4
  refine sT ?_
  exact qR (.id) Qa Qa Qa
 refine Vo Qd rfl (xR 4 Qa ?_)
 refine xS (Qi a0n.Kind 5) (fun h5=>?_) (fun h5=>?_)
 rotate_left
 ·refine xN (Qq Qa h5) Qa (xR 19 Qa (Yg Qa ?_))
  exact QO false Qa
 refine xO (Qp Qa h5) Qa (xR 4 Qa ?_)
 refine xS (Qi a0n.N 0) (fun h6=>?_) (fun h6=>?_)
 rotate_left
 ·refine xN (Qq Qa h6) Qa (xR 14 Qa (Yg Qa ?_))
  exact QO false Qa
 refine xO (Qp Qa h6) Qa (xR 1 Qa ?_)
 refine xC [] Qa (F6 n a0n.Name) Qa Qa QS (fun r7=>?_)
 refine xR 1 Qa ?_
 refine xS r7 (fun h8=>?_) (fun h8=>?_)
 ·refine xN (Qy Qa h8) Qa (xR 10 Qa (Yg Qa ?_))
  exact QO true Qa
 refine xO (Qx Qa h8) Qa (xR 1 Qa ?_)
 refine xS a1words (fun h9=>?_) (fun h9=>?_)
 ·refine xC [] (Qp Qa h9) (G7 n) Qa Qa QS (fun r10=>?_)
  refine xR 2 Qa ?_
  refine xC [] Qa (YS n r10 a0n.Name) Qa Qa QS (fun r11=>?_)
  refine xR 5 Qa (Yg Qa ?_)
  exact QO (leI 0 r11) Qa
 refine xN (Qq Qa h9) Qa (xR 8 Qa (Yg Qa ?_))
 exact QO false Qa
def Yc (n:Nat) (a0n:GN) (recl13:Int→Option Bool) (l13:Int):Option Bool :=
 cond (QL l13 (Qc (List.map KI a0n.Kids)))
  ((Option.bind (Q4 a0n.Kids l13) GN.of).bind fun x14 =>
  (Vu n x14 (Qi a0n.Kind 4)).bind fun r15 =>
  cond (!r15)
   (some false)
   (recl13 (wi (l13+1))))
  (some true)
def Wi (n:Nat) (a0n:GN):Option Bool :=
 (cond (!Qi a0n.N 0)
  (some true)
  (cond (Qi a0n.Kind 3)
   ((ZJ n).bind fun r4 =>
   (Km n r4 a0n.Name).bind fun r5 =>
   cond (leI 0 r5)
    (some false)
    (cond (Qi a0n.Kind 4)
     ((Zi n).bind fun r8 =>
     (Km n r8 a0n.Name).bind fun r9 =>
     some (!(leI 0 r9)))
     (some true)))
   (cond (Qi a0n.Kind 4)
    ((Zi n).bind fun r11 =>
    (Km n r11 a0n.Name).bind fun r12 =>
    some (!(leI 0 r12)))
    (some true)))).bind fun j1 =>
 cond j1
  (some false)
  (QT (fun recl13 l13=>Yc n a0n recl13 l13) n 0)
theorem NG (n:Nat) (a0n:GN):∀ r,Wi n a0n=some r→Q9 Tryz.prog 66 [ag (GN.cs a0n)] (.ret (B r)):=by
 refine Qt (X:=fun r:Bool=>QV.ret (B r)) Tryz.func66 rfl Tryz.ntmps66 rfl ?_
 unfold Wi
 refine Qg Qd ⟨[qq 1],Va a0n⟩ Qa (sS (Yj (fun j1=>⟨[qq 1,(31,B j1)],Va a0n⟩:Bool→St) ?_ ?_))
 ·refine Vo Qd rfl (xR 4 Qa ?_)
  refine xS (!Qi a0n.N 0) (fun h2=>?_) (fun h2=>?_)
  ·refine xN (Qy Qa h2) Qa (xR 23 Qa (Yg Qa ?_))
   exact QO true Qa
  refine xO (Qx Qa h2) Qa (xR 3 Qa ?_)
  refine xS (Qi a0n.Kind 3) (fun h3=>?_) (fun h3=>?_)
  rotate_left
  ·refine xN (Qq Qa h3) Qa (xR 10 Qa ?_)
   refine xS (Qi a0n.Kind 4) (fun h10=>?_) (fun h10=>?_)
   ·refine xC [] (Qp Qa h10) (Jn n) Qa Qa QS (fun r11=>?_)
    refine xR 2 Qa ?_
    refine xC [] Qa (YS n r11 a0n.Name) Qa Qa QS (fun r12=>?_)
    refine xR 5 Qa (Yg Qa ?_)
    exact QO (!(leI 0 r12)) Qa
   refine xN (Qq Qa h10) Qa (xR 8 Qa (Yg Qa ?_))
   exact QO true Qa
  refine xC [] (Qp Qa h3) (G6 n) Qa Qa QS (fun r4=>?_)
  refine xR 2 Qa ?_
  refine xC [] Qa (YS n r4 a0n.Name) Qa Qa QS (fun r5=>?_)
  refine xR 3 Qa ?_
  refine xS (leI 0 r5) (fun h6=>?_) (fun h6=>?_)
  ·refine xN (Qy Qa h6) Qa (xR 12 Qa (Yg Qa ?_))
   exact QO false Qa
  refine xO (Qx Qa h6) Qa (xR 3 Qa ?_)
  refine xS (Qi a0n.Kind 4) (fun h7=>?_) (fun h7=>?_)
  ·refine xC [] (Qp Qa h7) (Jn n) Qa Qa QS (fun r8=>?_)
   refine xR 2 Qa ?_
   refine xC [] Qa (YS n r8 a0n.Name) Qa Qa QS (fun r9=>?_)
   refine xR 5 Qa (Yg Qa ?_)
   exact QO (!(leI 0 r9)) Qa
  refine xN (Qq Qa h7) Qa (xR 8 Qa (Yg Qa ?_))
  exact QO true Qa
 rintro j1
 refine sC j1 Qa ?_ ?_
 ·refine Qg Qd ⟨[(2,B false)],[]⟩ Qa (sT (Q8 ?_))
  exact qR (.id) Qa Qa Qa
 refine sK (Ql ⟨[qq 1],Va a0n⟩ Qa (sS (Qg Qd ⟨[qq 1,(3,I 0)],Va a0n⟩ Qa (sB (QH (fun l13=>⟨[qq 1,(3,I l13)],Va a0n⟩:Int→St) (Xk Qa) ?_)))))
 rintro recl13 l13
 show QX (Yc n a0n recl13 l13) _ _ _ _ _ _
 unfold Yc
 refine sS (Qg Qd ⟨[qq 1,(3,I l13),(36,B (QL l13 (Qc (mI a0n.Kids))))],Va a0n⟩ Qa (sC (QL l13 (Qc (mI a0n.Kids))) Qa ?_ ?_))
 rotate_left
 ·refine Qz (Kb (KY (QW (Ql ⟨[],[]⟩ Qa (Qg Qd ⟨[(2,B true)],[]⟩ Qa (sT ?_))))))
  exact qR (.id) Qa Qa Qa
 refine sK (Ql ⟨[qq 1,(3,I l13)],Va a0n⟩ Qa (sS (sB (sS (Vo Qd rfl (xR 3 Qa ?_))))))
 refine xG Qa Qa (Kg (e:=24) (S:=5) (enc:=GN.cs) (dec:=GN.of) (l:=a0n.Kids) (k:=.i64) (n:=l13) (sv:=.p (.sl 5 (mI a0n.Kids))) GN.of_cs rfl Qa Qa Qa Qa Qa) (fun x14=>?_)
 refine xR 4 Qa ?_
 refine xC [] Qa (MR n x14 (Qi a0n.Kind 4)) Qa Qa QS (fun r15=>?_)
 refine xR 1 Qa (Yg Qa (Ql ⟨[qq 1,(3,I l13),(48,B (!r15))],Va a0n⟩ Qa (sC (!r15) Qa ?_ ?_)))
 ·refine Qg Qd ⟨[(2,B false)],[]⟩ Qa (sT (Zh (Q8 (Yv (Zh (Q8 ?_))))))
  exact qR (.id) Qa Qa Qa
 refine sK (Za (Ql ⟨[qq 1,(3,I l13)],Va a0n⟩ Qa (sL Qd Qa ?_)))
 exact KZ (wi (l13+1)) Qa
def YF (n:Nat) (a0n:GN) (recl6:Int→Option Bool) (l6:Int):Option Bool :=
 cond (QL l6 (Qc (List.map KI a0n.Kids)))
  ((Option.bind (Q4 a0n.Kids l6) GN.of).bind fun x7 =>
  ((Wi n x7).bind fun r9 =>
  cond (!r9)
   (some true)
   (cond (Qi x7.Kind 4)
    (cond (!Qi a0n.N 7)
     (some true)
     (cond (Qi x7.Kind 3)
      (cond (QL 0 l6)
       ((Option.bind (Q4 a0n.Kids (wi (l6 - 1))) GN.of).bind fun x15 =>
       some (Qi x15.Kind 4))
       (some false))
      (some false)))
    (cond (Qi x7.Kind 3)
     (cond (QL 0 l6)
      ((Option.bind (Q4 a0n.Kids (wi (l6 - 1))) GN.of).bind fun x18 =>
      some (Qi x18.Kind 4))
      (some false))
     (some false)))).bind fun j8 =>
  cond j8
   (some false)
   (recl6 (wi (l6+1))))
  (some true)
def Wj (n:Nat) (a0n:GN):Option Bool :=
 (cond (!Qi a0n.Kind 2)
  (some true)
  (cond (QL a0n.N 1)
   (some true)
   (cond (QL 7 a0n.N)
    (some true)
    ((KW n a0n.Name).bind fun r5 =>
    some (!r5))))).bind fun j1 =>
 cond j1
  (some false)
  (QT (fun recl6 l6=>YF n a0n recl6 l6) n 0)
def wh:=fun x0 x1=>([(1, .box 24 (KJ (GN.cs x0))),(4, .box 24 (KJ (GN.cs x1)))]:List (Nat × Blk))
theorem NH (n:Nat) (a0n:GN):∀ r,Wj n a0n=some r→Q9 Tryz.prog 34 [ag (GN.cs a0n)] (.ret (B r)):=by
 refine Qt (X:=fun r:Bool=>QV.ret (B r)) Tryz.func34 rfl Tryz.ntmps34 rfl ?_
 unfold Wj
 refine Qg Qd ⟨[qq 1],Va a0n⟩ Qa (sS (Yj (fun j1=>⟨[qq 1,(23,B j1)],Va a0n⟩:Bool→St) ?_ ?_))
 ·refine sG (xR 4 Qa ?_)
  refine xS (!Qi a0n.Kind 2) (fun h2=>?_) (fun h2=>?_)
  ·refine xN (Qy Qa h2) Qa (xR 14 Qa (xE ?_))
   exact QO true Qa
  refine xO (Qx Qa h2) Qa (xR 4 Qa ?_)
  refine xS (QL a0n.N 1) (fun h3=>?_) (fun h3=>?_)
  ·refine xN (Qy Qa h3) Qa (xR 9 Qa (xE ?_))
   exact QO true Qa
  refine xO (Qx Qa h3) Qa (xR 4 Qa ?_)
  refine xS (QL 7 a0n.N) (fun h4=>?_) (fun h4=>?_)
  ·refine xN (Qy Qa h4) Qa (xR 4 Qa (xE ?_))
   exact QO true Qa
  refine xO (Qx Qa h4) Qa (xR 1 Qa ?_)
  refine xC [] Qa (F6 n a0n.Name) Qa Qa QS (fun r5=>?_)
  refine xR 2 Qa (xE ?_)
  exact QO (!r5) Qa
 rintro j1
 refine sC j1 Qa ?_ ?_
 ·refine Qg Qd ⟨[(2,B false)],[]⟩ Qa (sT (Q8 ?_))
  exact qR (.id) Qa Qa Qa
 refine sK (Ql ⟨[qq 1],Va a0n⟩ Qa (sS (Qg Qd ⟨[qq 1,(3,I 0)],Va a0n⟩ Qa (sB (QH (fun l6=>⟨[qq 1,(3,I l6)],Va a0n⟩:Int→St) (Xk Qa) ?_)))))
 rintro recl6 l6
 show QX (YF n a0n recl6 l6) _ _ _ _ _ _
 unfold YF
 refine sS (Qg Qd ⟨[qq 1,(3,I l6),(28,B (QL l6 (Qc (mI a0n.Kids))))],Va a0n⟩ Qa (sC (QL l6 (Qc (mI a0n.Kids))) Qa ?_ ?_))
 rotate_left
 ·refine Qz (Kb (KY (QW (Ql ⟨[],[]⟩ Qa (Qg Qd ⟨[(2,B true)],[]⟩ Qa (sT ?_))))))
  exact qR (.id) Qa Qa Qa
 refine sK (Ql ⟨[qq 1,(3,I l6)],Va a0n⟩ Qa (sS (sB (sS (sG (xR 3 Qa ?_))))))
 refine xG Qa Qa (Kg (e:=24) (S:=5) (enc:=GN.cs) (dec:=GN.of) (l:=a0n.Kids) (k:=.i64) (n:=l6) (sv:=.p (.sl 5 (mI a0n.Kids))) GN.of_cs rfl Qa Qa Qa Qa Qa) (fun x7=>?_)
 refine xR 3 Qa (xE (Ql ⟨[qq 1,(3,I l6),qq 4],wh a0n x7⟩ Qa (Yj (fun j8=>⟨[qq 1,(3,I l6),(67,B j8)],Va a0n⟩:Bool→St) ?_ ?_)))
 rotate_left
 ·rintro j8
  refine sC j8 Qa ?_ ?_
  ·refine Qg Qd ⟨[(2,B false)],[]⟩ Qa (sT (Zh (Q8 (Yv (Zh (Q8 ?_))))))
   exact qR (.id) Qa Qa Qa
  refine sK (Za (Ql ⟨[qq 1,(3,I l6)],Va a0n⟩ Qa (sL Qd Qa ?_)))
  exact KZ (wi (l6+1)) Qa
 refine sG (xR 1 Qa ?_)
 refine xC [] Qa (NG n x7) Qa Qa QS (fun r9=>?_)
 refine xR 2 Qa ?_
 refine xS (!r9) (fun h10=>?_) (fun h10=>?_)
 ·refine xN (Qy Qa h10) Qa (xR 27 Qa (xE ?_))
  exact QO true Qa
 refine xO (Qx Qa h10) Qa (xR 3 Qa ?_)
 refine xS (Qi x7.Kind 4) (fun h11=>?_) (fun h11=>?_)
 rotate_left
 ·refine xN (Qq Qa h11) Qa (xR 9 Qa ?_)
  refine xS (Qi x7.Kind 3) (fun h16=>?_) (fun h16=>?_)
  ·refine xO (Qp Qa h16) Qa (xR 3 Qa ?_)
   refine xS (QL 0 l6) (fun h17=>?_) (fun h17=>?_)
   ·refine xO (Qp Qa h17) Qa (xR 3 Qa ?_)
    refine xG Qa Qa (Kg (e:=24) (S:=5) (enc:=GN.cs) (dec:=GN.of) (l:=a0n.Kids) (k:=.i64) (n:=wi (l6 - 1)) (sv:=.p (.sl 5 (mI a0n.Kids))) GN.of_cs rfl Qa Qa Qa Qa Qa) (fun x18=>?_)
    refine xR 5 Qa (xE ?_)
    exact QO (Qi x18.Kind 4) Qa
   refine xN (Qq Qa h17) Qa (xR 9 Qa (xE ?_))
   exact QO false Qa
  refine xN (Qq Qa h16) Qa (xR 13 Qa (xE ?_))
  exact QO false Qa
 refine xO (Qp Qa h11) Qa (xR 5 Qa ?_)
 refine xS (!Qi a0n.N 7) (fun h12=>?_) (fun h12=>?_)
 ·refine xN (Qy Qa h12) Qa (xR 17 Qa (xE ?_))
  exact QO true Qa
 refine xO (Qx Qa h12) Qa (xR 3 Qa ?_)
 refine xS (Qi x7.Kind 3) (fun h13=>?_) (fun h13=>?_)
 ·refine xO (Qp Qa h13) Qa (xR 3 Qa ?_)
  refine xS (QL 0 l6) (fun h14=>?_) (fun h14=>?_)
  ·refine xO (Qp Qa h14) Qa (xR 3 Qa ?_)
   refine xG Qa Qa (Kg (e:=24) (S:=5) (enc:=GN.cs) (dec:=GN.of) (l:=a0n.Kids) (k:=.i64) (n:=wi (l6 - 1)) (sv:=.p (.sl 5 (mI a0n.Kids))) GN.of_cs rfl Qa Qa Qa Qa Qa) (fun x15=>?_)
   refine xR 5 Qa (xE ?_)
   exact QO (Qi x15.Kind 4) Qa
  refine xN (Qq Qa h14) Qa (xR 9 Qa (xE ?_))
  exact QO false Qa
 refine xN (Qq Qa h13) Qa (xR 13 Qa (xE ?_))
 exact QO false Qa
def Yd (n:Nat) (a0n:GN) (recl6:Int→Option Bool) (l6:Int):Option Bool :=
 cond (QL l6 (Qc (List.map KI a0n.Kids)))
  ((Option.bind (Q4 a0n.Kids l6) GN.of).bind fun x7 =>
  (Wj n x7).bind fun r8 =>
  cond (!r8)
   (some false)
   (recl6 (wi (l6+1))))
  (some true)
def KP (n:Nat) (a0n:GN):Option Bool :=
 (cond (!Qi a0n.Kind 1)
  (some true)
  (cond (!QK a0n.Name [])
   (some true)
   (cond (!Qi a0n.N 0)
    (some true)
    ((ZV n a0n 1500).bind fun r5 =>
    some (QL 1500 r5))))).bind fun j1 =>
 cond j1
  (some false)
  (QT (fun recl6 l6=>Yd n a0n recl6 l6) n 0)
theorem G8 (n:Nat) (a0n:GN):∀ r,KP n a0n=some r→Q9 Tryz.prog 15 [ag (GN.cs a0n)] (.ret (B r)):=by
 refine Qt (X:=fun r:Bool=>QV.ret (B r)) Tryz.func15 rfl Tryz.ntmps15 rfl ?_
 unfold KP
 refine Qg Qd ⟨[qq 1],Va a0n⟩ Qa (sS (Yj (fun j1=>⟨[qq 1,(21,B j1)],Va a0n⟩:Bool→St) ?_ ?_))
 ·refine sG (xR 4 Qa ?_)
  refine xS (!Qi a0n.Kind 1) (fun h2=>?_) (fun h2=>?_)
  ·refine xN (Qy Qa h2) Qa (xR 13 Qa (xE ?_))
   exact QO true Qa
  refine xO (Qx Qa h2) Qa (xR 4 Qa ?_)
  refine xS (!QK a0n.Name []) (fun h3=>?_) (fun h3=>?_)
  ·refine xN (Qy Qa h3) Qa (xR 8 Qa (xE ?_))
   exact QO true Qa
  refine xO (Qx Qa h3) Qa (xR 4 Qa ?_)
  refine xS (!Qi a0n.N 0) (fun h4=>?_) (fun h4=>?_)
  ·refine xN (Qy Qa h4) Qa (xR 3 Qa (xE ?_))
   exact QO true Qa
  refine xO (Qx Qa h4) Qa ?_
  refine xC [] Qa (G5 n a0n 1500) Qa Qa QS (fun r5=>?_)
  refine xR 2 Qa (xE ?_)
  exact QO (QL 1500 r5) Qa
 rintro j1
 refine sC j1 Qa ?_ ?_
 ·refine Qg Qd ⟨[(2,B false)],[]⟩ Qa (sT (Q8 ?_))
  exact qR (.id) Qa Qa Qa
 refine sK (Ql ⟨[qq 1],Va a0n⟩ Qa (sS (Qg Qd ⟨[qq 1,(3,I 0)],Va a0n⟩ Qa (sB (QH (fun l6=>⟨[qq 1,(3,I l6)],Va a0n⟩:Int→St) (Xk Qa) ?_)))))
 rintro recl6 l6
 show QX (Yd n a0n recl6 l6) _ _ _ _ _ _
 unfold Yd
 refine sS (Qg Qd ⟨[qq 1,(3,I l6),(26,B (QL l6 (Qc (mI a0n.Kids))))],Va a0n⟩ Qa (sC (QL l6 (Qc (mI a0n.Kids))) Qa ?_ ?_))
 rotate_left
 ·refine Qz (Kb (KY (QW (Ql ⟨[],[]⟩ Qa (Qg Qd ⟨[(2,B true)],[]⟩ Qa (sT ?_))))))
  exact qR (.id) Qa Qa Qa
 refine sK (Ql ⟨[qq 1,(3,I l6)],Va a0n⟩ Qa (sS (sB (sS (sG (xR 3 Qa ?_))))))
 refine xG Qa Qa (Kg (e:=24) (S:=5) (enc:=GN.cs) (dec:=GN.of) (l:=a0n.Kids) (k:=.i64) (n:=l6) (sv:=.p (.sl 5 (mI a0n.Kids))) GN.of_cs rfl Qa Qa Qa Qa Qa) (fun x7=>?_)
 refine xR 1 Qa ?_
 refine xC [] Qa (NH n x7) Qa Qa QS (fun r8=>?_)
 refine xR 1 Qa (xE (Ql ⟨[qq 1,(3,I l6),(35,B (!r8))],Va a0n⟩ Qa (sC (!r8) Qa ?_ ?_)))
 ·refine Qg Qd ⟨[(2,B false)],[]⟩ Qa (sT (Zh (Q8 (Yv (Zh (Q8 ?_))))))
  exact qR (.id) Qa Qa Qa
 refine sK (Za (Ql ⟨[qq 1,(3,I l6)],Va a0n⟩ Qa (sL Qd Qa ?_)))
 exact KZ (wi (l6+1)) Qa
def Y5 (a0name:List UInt8) (recl1:((List Int) × Int)→Option (List UInt8)) (l1_1:List Int) (l1_2:Int):Option (List UInt8) :=
 cond (QL l1_2 (Qc a0name))
  ((Q4 a0name l1_2).bind fun x2 =>
  cond (Qi (KN x2) 98)
   (cond (Zo (List.length (l1_1++[99])) 1) (
    recl1 (l1_1++[99],wi (l1_2+1))) none)
   (cond (Qi (KN x2) 99)
    (cond (Zo (List.length (l1_1++[98])) 1) (
     recl1 (l1_1++[98],wi (l1_2+1))) none)
    (cond (Zo (List.length (l1_1++[KN x2])) 1) (
     recl1 (l1_1++[KN x2],wi (l1_2+1))) none)))
  (some (Me l1_1))
def KD (n:Nat) (a0name:List UInt8):Option (List UInt8) :=
 QT (fun recl1 (l1_1,l1_2)=>Y5 a0name recl1 l1_1 l1_2) n ([],0)
def mD:=fun x0 x1 x2 x3=>([(0,S x0),(3, .tsl 1 (List.map c8 x1) 22),(7,I (x2)),(8,I x3)]:List (Nat × AV))
def F7:=fun x0=>([(22, .arr 5 1 (List.map c8 x0).length)]:List (Nat × Blk))
def wm:=fun x0 x1 x2 x3 x4=>([(0,S x0),(3, .tsl 1 (List.map c8 x1) 22),(5,B8 x2),(7,I (x3)),(8,I x4)]:List (Nat × AV))
def Qcx:=fun x0=>(.arr 5 1 (List.map c8 x0).length:Blk)
def aT:=fun x0 x1 x2 x3=>(⟨mD x0 x1 (x2) x3,[(22,(Qcx x1))]⟩:St)
theorem Ye (n:Nat) (a0name:List UInt8):∀ r,KD n a0name=some r→Q9 Tryz.prog 17 [S a0name] (.ret (S r)):=by
 refine Qt (X:=fun r:List UInt8=>QV.ret (S r)) Tryz.func17 rfl Tryz.ntmps17 rfl ?_
 unfold KD
 refine Qg Qd ⟨[(0,S a0name)],[]⟩ Qa (Qg Qd ⟨[(0,S a0name),(3,zS)],[]⟩ Qa (sS (Qg Qd ⟨[(0,S a0name),(3,zS),(7,I (Qc a0name)),(8,I 0)],[]⟩ Qa (sB (CQ ⟨[(0,S a0name),(3,zS),(7,I (Qc a0name)),(8,I 0)],[]⟩ Qa (Zj (Z8 5 1 22 [3] [] Qa) (QH (fun (l1_1,l1_2)=>⟨mD a0name l1_1 (Qc a0name) l1_2,F7 l1_1⟩:((List Int) × Int)→St) (Xk Qa) ?_)))))))
 rintro recl1 ⟨l1_1,l1_2⟩
 show QX (Y5 a0name recl1 l1_1 l1_2) _ _ _ _ _ _
 unfold Y5
 refine Qg Qd ⟨[(0,S a0name),(3, .tsl 1 (List.map c8 l1_1) 22),(7,I (Qc a0name)),(8,I l1_2),(9,B (QL l1_2 (Qc a0name)))],F7 l1_1⟩ Qa (sS (sC (QL l1_2 (Qc a0name)) Qa ?_ ?_))
 rotate_left
 ·refine Qz (Kb (KY (QW (Ql ⟨[(3, .tsl 1 (List.map c8 l1_1) 22)],F7 l1_1⟩ Qa (sS (sG (xR 1 Qa ?_)))))))
  refine lN (e:=5) (sv:=.tsl 1 (List.map c8 l1_1) 22) (ns:=l1_1) Qa rfl Qa Qa Qa Qa Qa Qa (xR 1 Qa (xE (Ql ⟨[(2,S (Me l1_1))],[]⟩ Qa (sT ?_))))
  exact qR (.id) Qa Qa Qa
 refine sK (Ql ⟨mD a0name l1_1 (Qc a0name) l1_2,F7 l1_1⟩ Qa (sS (sB (Qg Qd ⟨[(0,S a0name),(3, .tsl 1 (List.map c8 l1_1) 22),(4,I l1_2),(7,I (Qc a0name)),(8,I l1_2)],F7 l1_1⟩ Qa (sS (sG (xR 2 Qa ?_)))))))
 refine xG Qa Qa (Wm (l:=a0name) (k:=.i64) (n:=l1_2) rfl Qa Qa Qa) (fun x2=>?_)
 refine xR 1 Qa (xE (Ql ⟨wm a0name l1_1 (KN x2) (Qc a0name) l1_2,F7 l1_1⟩ Qa (sS (Qg Qd ⟨[(0,S a0name),(3, .tsl 1 (List.map c8 l1_1) 22),(5,B8 (KN x2)),(7,I (Qc a0name)),(8,I l1_2),(14,B8 (KN x2))],F7 l1_1⟩ Qa (sB (Qg Qd ⟨[(0,S a0name),(3, .tsl 1 (List.map c8 l1_1) 22),(5,B8 (KN x2)),(7,I (Qc a0name)),(8,I l1_2),(14,B8 (KN x2)),(15,B (Qi (KN x2) 98))],F7 l1_1⟩ Qa (sC (Qi (KN x2) 98) Qa ?_ ?_)))))))
 ·refine sL Qd Qa (Za (Ql ⟨wm a0name l1_1 99 (Qc a0name) l1_2,F7 l1_1⟩ Qa (sG (xR 3 Qa (xF Qa Qa (Zy (e:=5) (S:=1) (by_:=1) (enc:=c8) (tk:=22) (l:=l1_1) (l2:=[99]) (xv:=.tsl 1 (List.map c8 [99]) 21) rfl Qa Qa rfl Qa Qa Qa rfl Qa) (xR 1 Qa (xE ?_)))))))
  refine Za (Ql (aT a0name (l1_1++[99]) (Qc a0name) l1_2) Qa (sL Qd Qa ?_))
  exact KZ (l1_1++[99],wi (l1_2+1)) Qa
 refine Qg Qd ⟨[(0,S a0name),(3, .tsl 1 (List.map c8 l1_1) 22),(5,B8 (KN x2)),(7,I (Qc a0name)),(8,I l1_2),(17,B (Qi (KN x2) 99))],F7 l1_1⟩ Qa (sC (Qi (KN x2) 99) Qa ?_ ?_)
 ·refine sL Qd Qa (Za (Ql ⟨wm a0name l1_1 98 (Qc a0name) l1_2,F7 l1_1⟩ Qa (sG (xR 3 Qa (xF Qa Qa (Zy (e:=5) (S:=1) (by_:=1) (enc:=c8) (tk:=22) (l:=l1_1) (l2:=[98]) (xv:=.tsl 1 (List.map c8 [98]) 21) rfl Qa Qa rfl Qa Qa Qa rfl Qa) (xR 1 Qa (xE ?_)))))))
  refine Za (Ql (aT a0name (l1_1++[98]) (Qc a0name) l1_2) Qa (sL Qd Qa ?_))
  exact KZ (l1_1++[98],wi (l1_2+1)) Qa
 refine sK (Za (Ql ⟨wm a0name l1_1 (KN x2) (Qc a0name) l1_2,F7 l1_1⟩ Qa (sG (xR 3 Qa (xF Qa Qa (Zy (e:=5) (S:=1) (by_:=1) (enc:=c8) (tk:=22) (l:=l1_1) (l2:=[KN x2]) (xv:=.tsl 1 (List.map c8 [KN x2]) 21) rfl Qa Qa rfl Qa Qa Qa rfl Qa) (xR 1 Qa (xE ?_)))))))
 refine Za (Ql (aT a0name (l1_1++[KN x2]) (Qc a0name) l1_2) Qa (sL Qd Qa ?_))
 exact KZ (l1_1++[KN x2],wi (l1_2+1)) Qa
def Yx (a0n:GN) (rf_law04_rename:GN→Option GN) (recl2:(Int × (List (List PV)))→Option (List (List PV))) (l2_1:Int) (l2_2:List (List PV)):Option (List (List PV)) :=
 cond (QL l2_1 (Qc (List.map KI a0n.Kids)))
  ((Option.bind (Q4 a0n.Kids l2_1) GN.of).bind fun x3 =>
  cond (!Qi x3.Kind 4)
   ((rf_law04_rename x3).bind fun r4 =>
   cond (Zo (List.length (l2_2++[GN.cs r4])) 64) (
    recl2 (wi (l2_1+1),l2_2++[GN.cs r4])) none)
   (cond (Zo (List.length (l2_2++[GN.cs x3])) 64) (
    recl2 (wi (l2_1+1),l2_2++[GN.cs x3])) none))
  (some l2_2)
def VC (n:Nat) (rf_law04_rename:GN→Option GN) (a0n:GN):Option GN :=
 (QT (fun recl2 (l2_1,l2_2)=>Yx a0n rf_law04_rename recl2 l2_1 l2_2) n (0,[])).bind fun j1 =>
 (cond (Qi a0n.Kind 2)
  (some true)
  (some (Qi a0n.Kind 5))).bind fun j5 =>
 cond j5
  ((KD n a0n.Name).bind fun r7 =>
  some (⟨a0n.Kind,r7,a0n.N,a0n.At,j1⟩:GN))
  (some (⟨a0n.Kind,a0n.Name,a0n.N,a0n.At,j1⟩:GN))
def ZB:Nat→GN→Option GN
 | 0,_=>none
 | n+1,a0n=>VC n (ZB n) a0n
def Qcy:=fun x0=>(.box 24 [I (GN.Kind x0),S (GN.Name x0),I (GN.N x0),I (GN.At x0), .p (.val (.slice none 0 0))]:Blk)
def mE:=fun x0=>([(1, .box 24 (KJ (GN.cs x0))),(2,(H6 0 [] 0 0)),(3,(Qcy x0))]:List (Nat × Blk))
def mF:=fun x0 x1=>(.box 24 [I (GN.Kind x0),S (GN.Name x0),I (GN.N x0),I (GN.At x0), .tsl 5 (List.map KI x1) 24]:Blk)
def zu:=fun x0 x1=>([(1, .box 24 (KJ (GN.cs x0))),(2,(H6 0 [] 0 0)),(3,(mF x0 x1)),(24, .arr 24 5 (List.map KI x1).length)]:List (Nat × Blk))
def A9:=fun x0 x1=>([(1, .ptr 1 0),(2, .ptr 2 0),(3, .ptr 3 0),(9, .p (.sl 5 (List.map KI (GN.Kids x0)))),(10,I (Qc (List.map KI (GN.Kids x0)))),(11,I x1)]:List (Nat × AV))
def mG:=fun x0 x1=>([(1, .ptr 1 0),(2, .ptr 2 0),(3, .ptr 3 0),(5, .ptr 5 0),(9, .p (.sl 5 (List.map KI (GN.Kids x0)))),(10,I (Qc (List.map KI (GN.Kids x0)))),(11,I x1)]:List (Nat × AV))
def wo:=fun x0 x1 x2=>([(1, .box 24 (KJ (GN.cs x0))),(2,(H6 0 [] 0 0)),(3,(mF x0 x1)),(5, .box 24 (KJ (GN.cs x2))),(24, .arr 24 5 (List.map KI x1).length)]:List (Nat × Blk))
def sj:=fun x0 x1=>([(1, .box 24 (KJ (GN.cs x0))),(2,(H6 0 [] 0 0)),(3,(mF x0 x1)),(24,(bq4 x1))]:List (Nat × Blk))
theorem Bl (n:Nat) (a0n:GN):∀ r,ZB n a0n=some r→Q9 Tryz.prog 16 [ag (GN.cs a0n)] (.ret (ag (GN.cs r))):=by
 induction n generalizing a0n with
 | zero=>intro r hr; cases (show (none:Option GN)=some r from hr)
 | succ n ih =>
 show ∀ r,VC n (ZB n) a0n=some r→_
 generalize ZB n=rf_law04_rename at ih ⊢
 refine Qt (X:=fun r:GN=>QV.ret (ag (GN.cs r))) Tryz.func16 rfl Tryz.ntmps16 rfl ?_
 unfold VC
 refine Qg Qd ⟨[qq 1,qq 2],[(1,F3 a0n),(2,(H6 0 [] 0 0))]⟩ Qa (Qg Qd ⟨fJ,[(1,F3 a0n),(2,(H6 0 [] 0 0)),(3,F3 a0n)]⟩ Qa (Qg Qd ⟨fJ,mE a0n⟩ Qa (Yj (fun j1=>⟨fJ,zu a0n j1⟩:(List (List PV))→St) ?_ ?_)))
 rotate_left
 ·rintro j1
  refine sS (Yj (fun j5=>⟨[qq 1,qq 2,qq 3,(34,B j5)],zu a0n j1⟩:Bool→St) ?_ ?_)
  ·refine sG (xR 4 Qa ?_)
   refine xS (Qi a0n.Kind 2) (fun h6=>?_) (fun h6=>?_)
   ·refine xN (Qy Qa h6) Qa (xR 3 Qa (xE ?_))
    exact QO true Qa
   refine xO (Qx Qa h6) Qa (xR 3 Qa (xE ?_))
   exact QO (Qi a0n.Kind 5) Qa
  rintro j5
  refine sC j5 Qa ?_ ?_
  ·refine sG (xR 2 Qa ?_)
   refine xC [] Qa (Ye n a0n.Name) Qa Qa QS (fun r7=>?_)
   refine xR 2 Qa (xE (Ql ⟨[qq 2,qq 3],[(2,(H6 0 [] 0 0)),(3, .box 24 [I a0n.Kind,S r7,I a0n.N,I a0n.At, .tsl 5 (mI j1) 24]),(24,AY j1)]⟩ Qa (Qg Qd ⟨[qq 2],[(2, .box 24 [I a0n.Kind,S r7,I a0n.N,I a0n.At, .tsl 5 (mI j1) 24]),(24,AY j1)]⟩ Qa (sT ?_))))
   exact qR (.agg [.id, .id, .id, .id, .sl 5]) Qa Qa Qa
  refine sK (Ql ⟨[qq 2,qq 3],[(2,(H6 0 [] 0 0)),(3,(mF a0n j1)),(24,AY j1)]⟩ Qa (Qg Qd ⟨[qq 2],[(2,(mF a0n j1)),(24,AY j1)]⟩ Qa (sT ?_)))
  exact qR (.agg [.id, .id, .id, .id, .sl 5]) Qa Qa Qa
 refine Qg Qd ⟨A9 a0n 0,mE a0n⟩ Qa (sB (CQ ⟨A9 a0n 0,mE a0n⟩ Qa (Zj (Z8 24 5 24 [] [(3,4)] Qa) (QH (fun (l2_1,l2_2)=>⟨A9 a0n l2_1,zu a0n l2_2⟩:(Int × (List (List PV)))→St) (Xk Qa) ?_))))
 rintro recl2 ⟨l2_1,l2_2⟩
 show QX (Yx a0n rf_law04_rename recl2 l2_1 l2_2) _ _ _ _ _ _
 unfold Yx
 refine Qg Qd ⟨[qq 1,qq 2,qq 3,(9, .p (.sl 5 (mI a0n.Kids))),(10,I (Qc (mI a0n.Kids))),(11,I l2_1),(12,B (QL l2_1 (Qc (mI a0n.Kids))))],zu a0n l2_2⟩ Qa (sS (sC (QL l2_1 (Qc (mI a0n.Kids))) Qa ?_ ?_))
 rotate_left
 ·refine Qz (Kb (KY (QW ?_)))
  exact QO l2_2 Qa
 refine sK (Ql ⟨A9 a0n l2_1,zu a0n l2_2⟩ Qa (sS (sB (sS (sG ?_)))))
 refine xG Qa Qa (Kg (e:=24) (S:=5) (enc:=GN.cs) (dec:=GN.of) (l:=a0n.Kids) (k:=.i64) (n:=l2_1) (sv:=.p (.sl 5 (mI a0n.Kids))) GN.of_cs rfl Qa Qa Qa Qa Qa) (fun x3=>?_)
 refine xR 3 Qa (xE (Ql ⟨mG a0n l2_1,wo a0n l2_2 x3⟩ Qa (sS (Qg Qd ⟨[qq 1,qq 2,qq 3,qq 5,(9, .p (.sl 5 (mI a0n.Kids))),(10,I (Qc (mI a0n.Kids))),(11,I l2_1),(17,B (!Qi x3.Kind 4))],wo a0n l2_2 x3⟩ Qa (sC (!Qi x3.Kind 4) Qa ?_ ?_)))))
 ·refine sG (xR 1 Qa ?_)
  refine xC [] Qa (ih x3) Qa Qa QS (fun r4=>?_)
  refine xR 1 Qa (xE (Ql ⟨mG a0n l2_1,wo a0n l2_2 r4⟩ Qa (sG (xR 4 Qa (xF Qa Qa (Zy (e:=24) (S:=5) (by_:=64) (enc:=KI) (tk:=24) (l:=l2_2) (l2:=[GN.cs r4]) (xv:=.tsl 5 (mI [GN.cs r4]) 23) rfl Qa Qa rfl Qa Qa Qa rfl Qa) (xR 2 Qa (xE ?_)))))))
  refine Za (Ql ⟨A9 a0n l2_1,sj a0n (l2_2++[GN.cs r4])⟩ Qa (sL Qd Qa ?_))
  exact KZ (wi (l2_1+1),l2_2++[GN.cs r4]) Qa
 refine sK (Ql ⟨mG a0n l2_1,wo a0n l2_2 x3⟩ Qa (sG (xR 4 Qa (xF Qa Qa (Zy (e:=24) (S:=5) (by_:=64) (enc:=KI) (tk:=24) (l:=l2_2) (l2:=[GN.cs x3]) (xv:=.tsl 5 (mI [GN.cs x3]) 23) rfl Qa Qa rfl Qa Qa Qa rfl Qa) (xR 2 Qa (xE (Za ?_)))))))
 refine Ql ⟨A9 a0n l2_1,sj a0n (l2_2++[GN.cs x3])⟩ Qa (sL Qd Qa ?_)
 exact KZ (wi (l2_1+1),l2_2++[GN.cs x3]) Qa
def VP (a0a:List Zr) (a1b:List Zr) (a2offsets:Bool) (recl1:Int→Option Bool) (l1:Int):Option Bool :=
 cond (QL l1 (Qc (List.map Zr.cs a0a)))
  (((Q4 a0a l1).bind fun x3 =>
  (Q4 a1b l1).bind fun x4 =>
  cond (!Qi x3.Err x4.Err)
   (some true)
   (cond a2offsets
    ((Q4 a0a l1).bind fun x7 =>
    (Q4 a1b l1).bind fun x8 =>
    some (!Qi x7.At x8.At))
    (some false))).bind fun j2 =>
  cond j2
   (some false)
   (recl1 (wi (l1+1))))
  (some true)
def Wt (n:Nat) (a0a:List Zr) (a1b:List Zr) (a2offsets:Bool):Option Bool :=
 cond (!Qi (Qc (List.map Zr.cs a0a)) (Qc (List.map Zr.cs a1b)))
  (some false)
  (QT (fun recl1 l1=>VP a0a a1b a2offsets recl1 l1) n 0)
def su:=fun x0 x1 x2=>([(0, .p (.sl 2 (List.map Zr.cs x0))),(1, .p (.sl 2 (List.map Zr.cs x1))),(2,B x2)]:List (Nat × AV))
def ww:=fun x0 x1 x2 x3=>([(0, .p (.sl 2 (List.map Zr.cs x0))),(1, .p (.sl 2 (List.map Zr.cs x1))),(2,B x2),(14,I (Qc (List.map Zr.cs x0))),(15,I x3)]:List (Nat × AV))
theorem MS (n:Nat) (a0a:List Zr) (a1b:List Zr) (a2offsets:Bool):∀ r,Wt n a0a a1b a2offsets=some r→Q9 Tryz.prog 18 [.p (.sl 2 (K5 a0a)), .p (.sl 2 (K5 a1b)),B a2offsets] (.ret (B r)):=by
 refine Qt (X:=fun r:Bool=>QV.ret (B r)) Tryz.func18 rfl Tryz.ntmps18 rfl ?_
 unfold Wt
 refine Qg Qd ⟨su a0a a1b a2offsets,[]⟩ Qa (sS (Qg Qd ⟨[(0, .p (.sl 2 (K5 a0a))),(1, .p (.sl 2 (K5 a1b))),(2,B a2offsets),(12,B (!Qi (Qc (K5 a0a)) (Qc (K5 a1b))))],[]⟩ Qa (sC (!Qi (Qc (K5 a0a)) (Qc (K5 a1b))) Qa ?_ ?_)))
 ·refine Qg Qd ⟨[(6,B false)],[]⟩ Qa (sT (Q8 ?_))
  exact qR (.id) Qa Qa Qa
 refine sK (Ql ⟨su a0a a1b a2offsets,[]⟩ Qa (sS (Qg Qd ⟨ww a0a a1b a2offsets 0,[]⟩ Qa (sB (QH (fun l1=>⟨ww a0a a1b a2offsets l1,[]⟩:Int→St) (Xk Qa) ?_)))))
 rintro recl1 l1
 show QX (VP a0a a1b a2offsets recl1 l1) _ _ _ _ _ _
 unfold VP
 refine Qg Qd ⟨[(0, .p (.sl 2 (K5 a0a))),(1, .p (.sl 2 (K5 a1b))),(2,B a2offsets),(14,I (Qc (K5 a0a))),(15,I l1),(16,B (QL l1 (Qc (K5 a0a))))],[]⟩ Qa (sS (sC (QL l1 (Qc (K5 a0a))) Qa ?_ ?_))
 rotate_left
 ·refine Qz (Kb (KY (QW (Ql ⟨[],[]⟩ Qa (Qg Qd ⟨[(6,B true)],[]⟩ Qa (sT ?_))))))
  exact qR (.id) Qa Qa Qa
 refine sK (Ql ⟨ww a0a a1b a2offsets l1,[]⟩ Qa (sS (sB (Qg Qd ⟨[(0, .p (.sl 2 (K5 a0a))),(1, .p (.sl 2 (K5 a1b))),(2,B a2offsets),(7,I l1),(14,I (Qc (K5 a0a))),(15,I l1)],[]⟩ Qa (Yj (fun j2=>⟨[(0, .p (.sl 2 (K5 a0a))),(1, .p (.sl 2 (K5 a1b))),(2,B a2offsets),(14,I (Qc (K5 a0a))),(15,I l1),(44,B j2)],[]⟩:Bool→St) ?_ ?_)))))
 rotate_left
 ·rintro j2
  refine sC j2 Qa ?_ ?_
  ·refine Qg Qd ⟨[(6,B false)],[]⟩ Qa (sT (Zh (Q8 (Yv (Zh (Q8 ?_))))))
   exact qR (.id) Qa Qa Qa
  refine sK (Za (Ql ⟨ww a0a a1b a2offsets l1,[]⟩ Qa (sL Qd Qa ?_)))
  exact KZ (wi (l1+1)) Qa
 refine Vo Qd rfl (xR 2 Qa ?_)
 refine xG Qa Qa (QN (e:=65) (S:=2) (enc:=Zr.cs) (l:=a0a) (k:=.i64) (n:=l1) (sv:=.p (.sl 2 (K5 a0a))) rfl Qa Qa Qa Qa Qa) (fun x3=>?_)
 refine xR 4 Qa ?_
 refine xG Qa Qa (QN (e:=65) (S:=2) (enc:=Zr.cs) (l:=a1b) (k:=.i64) (n:=l1) (sv:=.p (.sl 2 (K5 a1b))) rfl Qa Qa Qa Qa Qa) (fun x4=>?_)
 refine xR 4 Qa ?_
 refine xS (!Qi x3.Err x4.Err) (fun h5=>?_) (fun h5=>?_)
 ·refine xN (Qy Qa h5) Qa (xR 14 Qa (Yg Qa ?_))
  exact QO true Qa
 refine xO (Qx Qa h5) Qa (xR 1 Qa ?_)
 refine xS a2offsets (fun h6=>?_) (fun h6=>?_)
 ·refine xO (Qp Qa h6) Qa (xR 1 Qa ?_)
  refine xG Qa Qa (QN (e:=65) (S:=2) (enc:=Zr.cs) (l:=a0a) (k:=.i64) (n:=l1) (sv:=.p (.sl 2 (K5 a0a))) rfl Qa Qa Qa Qa Qa) (fun x7=>?_)
  refine xR 4 Qa ?_
  refine xG Qa Qa (QN (e:=65) (S:=2) (enc:=Zr.cs) (l:=a1b) (k:=.i64) (n:=l1) (sv:=.p (.sl 2 (K5 a1b))) rfl Qa Qa Qa Qa Qa) (fun x8=>?_)
  refine xR 5 Qa (Yg Qa ?_)
  exact QO (!Qi x7.At x8.At) Qa
 refine xN (Qq Qa h6) Qa (xR 12 Qa (Yg Qa ?_))
 exact QO false Qa
def VQ (a0a:Qm) (a1b:Qm) (recl10:Int→Option Bool) (l10:Int):Option Bool :=
 cond (QL l10 (Qc (List.map Q6.cs a0a.Bays)))
  ((Q4 a0a.Bays l10).bind fun x11 =>
  (Q4 a1b.Bays l10).bind fun x12 =>
  cond (!Gz ((QK x11.Name x12.Name)&&((Qi x11.Charger x12.Charger)&&true)))
   (some false)
   (recl10 (wi (l10+1))))
  (some true)
def YG (n:Nat) (a0a:Qm) (a1b:Qm):Option Bool :=
 QT (fun recl10 l10=>VQ a0a a1b recl10 l10) n 0
def VR (n:Nat) (a0a:Qm) (a1b:Qm) (recl13:Int→Option Bool) (l13:Int):Option Bool :=
 cond (QL l13 (Qc (List.map ZT.cs a0a.Chargers)))
  ((Q4 a0a.Chargers l13).bind fun x14 =>
  (Q4 a1b.Chargers l13).bind fun x15 =>
  cond (!Gz ((QK x14.Name x15.Name)&&((Qi x14.At x15.At)&&((Qi x14.Phases x15.Phases)&&((Qi x14.Min x15.Min)&&((Qi x14.Max x15.Max)&&((Qi x14.Step x15.Step)&&((Qi x14.Fallback x15.Fallback)&&((Qi x14.Owner x15.Owner)&&true)))))))))
   (some false)
   (recl13 (wi (l13+1))))
  (YG n a0a a1b)
def YH (n:Nat) (a0a:Qm) (a1b:Qm):Option Bool :=
 QT (fun recl13 l13=>VR n a0a a1b recl13 l13) n 0
def VT (n:Nat) (a0a:Qm) (a1b:Qm) (recl16:Int→Option Bool) (l16:Int):Option Bool :=
 cond (QL l16 (Qc (List.map ZO.cs a0a.Contracts)))
  ((Q4 a0a.Contracts l16).bind fun x17 =>
  (Q4 a1b.Contracts l16).bind fun x18 =>
  cond (!Gz ((QK x17.Name x18.Name)&&((Qi x17.Owner x18.Owner)&&((Qi x17.Rank x18.Rank)&&((Qi x17.Card x18.Card)&&true)))))
   (some false)
   (recl16 (wi (l16+1))))
  (YH n a0a a1b)
def YI (n:Nat) (a0a:Qm) (a1b:Qm):Option Bool :=
 QT (fun recl16 l16=>VT n a0a a1b recl16 l16) n 0
def VV (n:Nat) (a0a:Qm) (a1b:Qm) (recl19:Int→Option Bool) (l19:Int):Option Bool :=
 cond (QL l19 (Qc (List.map QM.cs a0a.Owners)))
  ((Q4 a0a.Owners l19).bind fun x20 =>
  (Q4 a1b.Owners l19).bind fun x21 =>
  cond (!Gz ((QK x20.Name x21.Name)&&true))
   (some false)
   (recl19 (wi (l19+1))))
  (YI n a0a a1b)
def YJ (n:Nat) (a0a:Qm) (a1b:Qm):Option Bool :=
 QT (fun recl19 l19=>VV n a0a a1b recl19 l19) n 0
def YX (n:Nat) (a0a:Qm) (a1b:Qm) (recl22:Int→Option Bool) (l22:Int):Option Bool :=
 cond (QL l22 (Qc (List.map ZE.cs a0a.Conductors)))
  ((Q4 a0a.Conductors l22).bind fun x23 =>
  (Q4 a1b.Conductors l22).bind fun x24 =>
  cond (!Gz ((QK x23.Name x24.Name)&&((Qi x23.Up x24.Up)&&((Qi x23.Limit x24.Limit)&&((Qi x23.Neutral x24.Neutral)&&(((Qi x23.Fuse.Rated x24.Fuse.Rated)&&((Qi x23.Fuse.Heat x24.Fuse.Heat)&&true))&&(((Qi x23.Cable.Ambient x24.Cable.Ambient)&&((Qi x23.Cable.Most x24.Cable.Most)&&((Qi x23.Cable.Gain x24.Cable.Gain)&&((Qi x23.Cable.Loss x24.Cable.Loss)&&((Qi x23.Cable.Den x24.Cable.Den)&&true)))))&&true)))))))
   (some false)
   (recl22 (wi (l22+1))))
  (YJ n a0a a1b)
def Jh (n:Nat) (a0a:Qm) (a1b:Qm):Option Bool :=
 (cond (!Qi (Qc (List.map ZE.cs a0a.Conductors)) (Qc (List.map ZE.cs a1b.Conductors)))
  (some true)
  (cond (!Qi (Qc (List.map QM.cs a0a.Owners)) (Qc (List.map QM.cs a1b.Owners)))
   (some true)
   (cond (!Qi (Qc (List.map ZO.cs a0a.Contracts)) (Qc (List.map ZO.cs a1b.Contracts)))
    (some true)
    (cond (!Qi (Qc (List.map ZT.cs a0a.Chargers)) (Qc (List.map ZT.cs a1b.Chargers)))
     (some true)
     (some (!Qi (Qc (List.map Q6.cs a0a.Bays)) (Qc (List.map Q6.cs a1b.Bays)))))))).bind fun j1 =>
 cond j1
  (some false)
  (QT (fun recl22 l22=>YX n a0a a1b recl22 l22) n 0)
def YT:=fun x0 x1=>([(2, .box 33 (KJ (Qm.cs x0))),(3, .box 33 (KJ (Qm.cs x1)))]:List (Nat × Blk))
def xw:=fun x0 x1=>(⟨[(2, .ptr 2 0),(3, .ptr 3 0)],YT x0 x1⟩:St)
def wy:=fun x0=>([(2, .ptr 2 0),(3, .ptr 3 0),(5,I x0)]:List (Nat × AV))
def wz:=fun x0=>([(2, .ptr 2 0),(3, .ptr 3 0),(6,I x0)]:List (Nat × AV))
def wB:=fun x0=>([(2, .ptr 2 0),(3, .ptr 3 0),(7,I x0)]:List (Nat × AV))
def wC:=fun x0=>([(2, .ptr 2 0),(3, .ptr 3 0),(8,I x0)]:List (Nat × AV))
def wD:=fun x0=>([(2, .ptr 2 0),(3, .ptr 3 0),(9,I x0)]:List (Nat × AV))
theorem NI (n:Nat) (a0a:Qm) (a1b:Qm):∀ r,Jh n a0a a1b=some r→Q9 Tryz.prog 10 [ag (Qm.cs a0a),ag (Qm.cs a1b)] (.ret (B r)):=by
 refine Qt (X:=fun r:Bool=>QV.ret (B r)) Tryz.func10 rfl Tryz.ntmps10 rfl ?_
 unfold Jh
 refine Qg Qd (xw a0a a1b) Qa (sS (Yj (fun j1=>⟨[qq 2,qq 3,(52,B j1)],YT a0a a1b⟩:Bool→St) ?_ ?_))
 ·refine sG (xR 8 Qa ?_)
  refine xS (!Qi (Qc (GV a0a.Conductors)) (Qc (GV a1b.Conductors))) (fun h2=>?_) (fun h2=>?_)
  ·refine xN (Qy Qa h2) Qa (xR 34 Qa (xE ?_))
   exact QO true Qa
  refine xO (Qx Qa h2) Qa (xR 8 Qa ?_)
  refine xS (!Qi (Qc (Kk a0a.Owners)) (Qc (Kk a1b.Owners))) (fun h3=>?_) (fun h3=>?_)
  ·refine xN (Qy Qa h3) Qa (xR 25 Qa (xE ?_))
   exact QO true Qa
  refine xO (Qx Qa h3) Qa (xR 8 Qa ?_)
  refine xS (!Qi (Qc (Gh a0a.Contracts)) (Qc (Gh a1b.Contracts))) (fun h4=>?_) (fun h4=>?_)
  ·refine xN (Qy Qa h4) Qa (xR 16 Qa (xE ?_))
   exact QO true Qa
  refine xO (Qx Qa h4) Qa (xR 8 Qa ?_)
  refine xS (!Qi (Qc (Fb a0a.Chargers)) (Qc (Fb a1b.Chargers))) (fun h5=>?_) (fun h5=>?_)
  ·refine xN (Qy Qa h5) Qa (xR 7 Qa (xE ?_))
   exact QO true Qa
  refine xO (Qx Qa h5) Qa (xR 7 Qa (xE ?_))
  exact QO (!Qi (Qc (VW a0a.Bays)) (Qc (VW a1b.Bays))) Qa
 rintro j1
 refine sC j1 Qa ?_ ?_
 ·refine Qg Qd ⟨[(4,B false)],[]⟩ Qa (sT (Q8 ?_))
  exact qR (.id) Qa Qa Qa
 refine sK (Ql (xw a0a a1b) Qa (Kr (fun _=>(xw a0a a1b):Unit→St) (fun _=>YJ n a0a a1b) ?_ ?_))
 rotate_left
 ·refine Qg Qd ⟨wy 0,YT a0a a1b⟩ Qa (sB (QH (fun l22=>⟨wy l22,YT a0a a1b⟩:Int→St) (Xk Qa) ?_))
  rintro recl22 l22
  show QX (YX n a0a a1b recl22 l22) _ _ _ _ _ _
  unfold YX
  refine sS (Qg Qd ⟨[qq 2,qq 3,(5,I l22),(57,B (QL l22 (Qc (GV a0a.Conductors))))],YT a0a a1b⟩ Qa (sC (QL l22 (Qc (GV a0a.Conductors))) Qa ?_ ?_))
  rotate_left
  ·refine Qz (Kb (KY (QW ?_)))
   exact KZ (k:=fun _=>YJ n a0a a1b) () Qa
  refine sK (Ql ⟨wy l22,YT a0a a1b⟩ Qa (sS (sB (sS (Vo Qd rfl (xR 3 Qa ?_))))))
  refine xG Qa Qa (QN (e:=49) (S:=11) (enc:=ZE.cs) (l:=a0a.Conductors) (k:=.i64) (n:=l22) (sv:=.p (.sl 11 (GV a0a.Conductors))) rfl Qa Qa Qa Qa Qa) (fun x23=>?_)
  refine xR 4 Qa ?_
  refine xG Qa Qa (QN (e:=49) (S:=11) (enc:=ZE.cs) (l:=a1b.Conductors) (k:=.i64) (n:=l22) (sv:=.p (.sl 11 (GV a1b.Conductors))) rfl Qa Qa Qa Qa Qa) (fun x24=>?_)
  refine xR 1 Qa (ZM Qa Qa (R4 (xs:=[S x23.Name,I x23.Up,I x23.Limit,I x23.Neutral,I x23.Fuse.Rated,I x23.Fuse.Heat,I x23.Cable.Ambient,I x23.Cable.Most,I x23.Cable.Gain,I x23.Cable.Loss,I x23.Cable.Den]) (ys:=[S x24.Name,I x24.Up,I x24.Limit,I x24.Neutral,I x24.Fuse.Rated,I x24.Fuse.Heat,I x24.Cable.Ambient,I x24.Cable.Most,I x24.Cable.Gain,I x24.Cable.Loss,I x24.Cable.Den]) (vx:=[.string (JY x23.Name), .int .i64 x23.Up, .int .i64 x23.Limit, .int .i64 x23.Neutral, .int .i64 x23.Fuse.Rated, .int .i64 x23.Fuse.Heat, .int .i64 x23.Cable.Ambient, .int .i64 x23.Cable.Most, .int .i64 x23.Cable.Gain, .int .i64 x23.Cable.Loss, .int .i64 x23.Cable.Den]) (vy:=[.string (JY x24.Name), .int .i64 x24.Up, .int .i64 x24.Limit, .int .i64 x24.Neutral, .int .i64 x24.Fuse.Rated, .int .i64 x24.Fuse.Heat, .int .i64 x24.Cable.Ambient, .int .i64 x24.Cable.Most, .int .i64 x24.Cable.Gain, .int .i64 x24.Cable.Loss, .int .i64 x24.Cable.Den]) (b:=(QK x23.Name x24.Name)&&((Qi x23.Up x24.Up)&&((Qi x23.Limit x24.Limit)&&((Qi x23.Neutral x24.Neutral)&&(((Qi x23.Fuse.Rated x24.Fuse.Rated)&&((Qi x23.Fuse.Heat x24.Fuse.Heat)&&true))&&(((Qi x23.Cable.Ambient x24.Cable.Ambient)&&((Qi x23.Cable.Most x24.Cable.Most)&&((Qi x23.Cable.Gain x24.Cable.Gain)&&((Qi x23.Cable.Loss x24.Cable.Loss)&&((Qi x23.Cable.Den x24.Cable.Den)&&true)))))&&true)))))) rfl Qa Qa Qa Qa Qa Qa) (Yg Qa (Ql ⟨[qq 2,qq 3,(5,I l22),(70,B (!Gz ((QK x23.Name x24.Name)&&((Qi x23.Up x24.Up)&&((Qi x23.Limit x24.Limit)&&((Qi x23.Neutral x24.Neutral)&&(((Qi x23.Fuse.Rated x24.Fuse.Rated)&&((Qi x23.Fuse.Heat x24.Fuse.Heat)&&true))&&(((Qi x23.Cable.Ambient x24.Cable.Ambient)&&((Qi x23.Cable.Most x24.Cable.Most)&&((Qi x23.Cable.Gain x24.Cable.Gain)&&((Qi x23.Cable.Loss x24.Cable.Loss)&&((Qi x23.Cable.Den x24.Cable.Den)&&true)))))&&true))))))))],YT a0a a1b⟩ Qa (sC (!Gz ((QK x23.Name x24.Name)&&((Qi x23.Up x24.Up)&&((Qi x23.Limit x24.Limit)&&((Qi x23.Neutral x24.Neutral)&&(((Qi x23.Fuse.Rated x24.Fuse.Rated)&&((Qi x23.Fuse.Heat x24.Fuse.Heat)&&true))&&(((Qi x23.Cable.Ambient x24.Cable.Ambient)&&((Qi x23.Cable.Most x24.Cable.Most)&&((Qi x23.Cable.Gain x24.Cable.Gain)&&((Qi x23.Cable.Loss x24.Cable.Loss)&&((Qi x23.Cable.Den x24.Cable.Den)&&true)))))&&true))))))) Qa ?_ ?_))))
  ·refine Qg Qd ⟨[(4,B false)],[]⟩ Qa (sT (Zh (Q8 (Yv (Zh (Yv ?_))))))
   exact qR (.id) Qa Qa Qa
  refine sK (Za (Ql ⟨wy l22,YT a0a a1b⟩ Qa (sL Qd Qa ?_)))
  exact KZ (wi (l22+1)) Qa
 rintro _
 show QX (YJ n a0a a1b) _ _ _ _ _ _
 unfold YJ
 refine Kr (fun _=>(xw a0a a1b):Unit→St) (fun _=>YI n a0a a1b) ?_ ?_
 rotate_left
 ·refine Qg Qd ⟨wz 0,YT a0a a1b⟩ Qa (sB (QH (fun l19=>⟨wz l19,YT a0a a1b⟩:Int→St) (Xk Qa) ?_))
  rintro recl19 l19
  show QX (VV n a0a a1b recl19 l19) _ _ _ _ _ _
  unfold VV
  refine sS (Qg Qd ⟨[qq 2,qq 3,(6,I l19),(75,B (QL l19 (Qc (Kk a0a.Owners))))],YT a0a a1b⟩ Qa (sC (QL l19 (Qc (Kk a0a.Owners))) Qa ?_ ?_))
  rotate_left
  ·refine Qz (Kb (KY (QW ?_)))
   exact KZ (k:=fun _=>YI n a0a a1b) () Qa
  refine sK (Ql ⟨wz l19,YT a0a a1b⟩ Qa (sS (sB (sS (Vo Qd rfl (xR 3 Qa ?_))))))
  refine xG Qa Qa (QN (e:=52) (S:=1) (enc:=QM.cs) (l:=a0a.Owners) (k:=.i64) (n:=l19) (sv:=.p (.sl 1 (Kk a0a.Owners))) rfl Qa Qa Qa Qa Qa) (fun x20=>?_)
  refine xR 4 Qa ?_
  refine xG Qa Qa (QN (e:=52) (S:=1) (enc:=QM.cs) (l:=a1b.Owners) (k:=.i64) (n:=l19) (sv:=.p (.sl 1 (Kk a1b.Owners))) rfl Qa Qa Qa Qa Qa) (fun x21=>?_)
  refine xR 1 Qa (ZM Qa Qa (R4 (xs:=[S x20.Name]) (ys:=[S x21.Name]) (vx:=[.string (JY x20.Name)]) (vy:=[.string (JY x21.Name)]) (b:=(QK x20.Name x21.Name)&&true) rfl Qa Qa Qa Qa Qa Qa) (Yg Qa (Ql ⟨[qq 2,qq 3,(6,I l19),(88,B (!Gz ((QK x20.Name x21.Name)&&true)))],YT a0a a1b⟩ Qa (sC (!Gz ((QK x20.Name x21.Name)&&true)) Qa ?_ ?_))))
  ·refine Qg Qd ⟨[(4,B false)],[]⟩ Qa (sT (Zh (Q8 (Yv (Zh (Yv ?_))))))
   exact qR (.id) Qa Qa Qa
  refine sK (Za (Ql ⟨wz l19,YT a0a a1b⟩ Qa (sL Qd Qa ?_)))
  exact KZ (wi (l19+1)) Qa
 rintro _
 show QX (YI n a0a a1b) _ _ _ _ _ _
 unfold YI
 refine Kr (fun _=>(xw a0a a1b):Unit→St) (fun _=>YH n a0a a1b) ?_ ?_
 rotate_left
 ·refine Qg Qd ⟨wB 0,YT a0a a1b⟩ Qa (sB (QH (fun l16=>⟨wB l16,YT a0a a1b⟩:Int→St) (Xk Qa) ?_))
  rintro recl16 l16
  show QX (VT n a0a a1b recl16 l16) _ _ _ _ _ _
  unfold VT
  refine sS (Qg Qd ⟨[qq 2,qq 3,(7,I l16),(93,B (QL l16 (Qc (Gh a0a.Contracts))))],YT a0a a1b⟩ Qa (sC (QL l16 (Qc (Gh a0a.Contracts))) Qa ?_ ?_))
  rotate_left
  ·refine Qz (Kb (KY (QW ?_)))
   exact KZ (k:=fun _=>YH n a0a a1b) () Qa
  refine sK (Ql ⟨wB l16,YT a0a a1b⟩ Qa (sS (sB (sS (Vo Qd rfl (xR 3 Qa ?_))))))
  refine xG Qa Qa (QN (e:=54) (S:=4) (enc:=ZO.cs) (l:=a0a.Contracts) (k:=.i64) (n:=l16) (sv:=.p (.sl 4 (Gh a0a.Contracts))) rfl Qa Qa Qa Qa Qa) (fun x17=>?_)
  refine xR 4 Qa ?_
  refine xG Qa Qa (QN (e:=54) (S:=4) (enc:=ZO.cs) (l:=a1b.Contracts) (k:=.i64) (n:=l16) (sv:=.p (.sl 4 (Gh a1b.Contracts))) rfl Qa Qa Qa Qa Qa) (fun x18=>?_)
  refine xR 1 Qa (ZM Qa Qa (R4 (xs:=[S x17.Name,I x17.Owner,I x17.Rank,I x17.Card]) (ys:=[S x18.Name,I x18.Owner,I x18.Rank,I x18.Card]) (vx:=[.string (JY x17.Name), .int .i64 x17.Owner, .int .i64 x17.Rank, .int .i64 x17.Card]) (vy:=[.string (JY x18.Name), .int .i64 x18.Owner, .int .i64 x18.Rank, .int .i64 x18.Card]) (b:=(QK x17.Name x18.Name)&&((Qi x17.Owner x18.Owner)&&((Qi x17.Rank x18.Rank)&&((Qi x17.Card x18.Card)&&true)))) rfl Qa Qa Qa Qa Qa Qa) (Yg Qa (Ql ⟨[qq 2,qq 3,(7,I l16),(106,B (!Gz ((QK x17.Name x18.Name)&&((Qi x17.Owner x18.Owner)&&((Qi x17.Rank x18.Rank)&&((Qi x17.Card x18.Card)&&true))))))],YT a0a a1b⟩ Qa (sC (!Gz ((QK x17.Name x18.Name)&&((Qi x17.Owner x18.Owner)&&((Qi x17.Rank x18.Rank)&&((Qi x17.Card x18.Card)&&true))))) Qa ?_ ?_))))
  ·refine Qg Qd ⟨[(4,B false)],[]⟩ Qa (sT (Zh (Q8 (Yv (Zh (Yv ?_))))))
   exact qR (.id) Qa Qa Qa
  refine sK (Za (Ql ⟨wB l16,YT a0a a1b⟩ Qa (sL Qd Qa ?_)))
  exact KZ (wi (l16+1)) Qa
 rintro _
 show QX (YH n a0a a1b) _ _ _ _ _ _
 unfold YH
 refine Kr (fun _=>(xw a0a a1b):Unit→St) (fun _=>YG n a0a a1b) ?_ ?_
 rotate_left
 ·refine Qg Qd ⟨wC 0,YT a0a a1b⟩ Qa (sB (QH (fun l13=>⟨wC l13,YT a0a a1b⟩:Int→St) (Xk Qa) ?_))
  rintro recl13 l13
  show QX (VR n a0a a1b recl13 l13) _ _ _ _ _ _
  unfold VR
  refine sS (Qg Qd ⟨[qq 2,qq 3,(8,I l13),(111,B (QL l13 (Qc (Fb a0a.Chargers))))],YT a0a a1b⟩ Qa (sC (QL l13 (Qc (Fb a0a.Chargers))) Qa ?_ ?_))
  rotate_left
  ·refine Qz (Kb (KY (QW ?_)))
   exact KZ (k:=fun _=>YG n a0a a1b) () Qa
  refine sK (Ql ⟨wC l13,YT a0a a1b⟩ Qa (sS (sB (sS (Vo Qd rfl (xR 3 Qa ?_))))))
  refine xG Qa Qa (QN (e:=56) (S:=8) (enc:=ZT.cs) (l:=a0a.Chargers) (k:=.i64) (n:=l13) (sv:=.p (.sl 8 (Fb a0a.Chargers))) rfl Qa Qa Qa Qa Qa) (fun x14=>?_)
  refine xR 4 Qa ?_
  refine xG Qa Qa (QN (e:=56) (S:=8) (enc:=ZT.cs) (l:=a1b.Chargers) (k:=.i64) (n:=l13) (sv:=.p (.sl 8 (Fb a1b.Chargers))) rfl Qa Qa Qa Qa Qa) (fun x15=>?_)
  refine xR 1 Qa (ZM Qa Qa (R4 (xs:=[S x14.Name,I x14.At,I x14.Phases,I x14.Min,I x14.Max,I x14.Step,I x14.Fallback,I x14.Owner]) (ys:=[S x15.Name,I x15.At,I x15.Phases,I x15.Min,I x15.Max,I x15.Step,I x15.Fallback,I x15.Owner]) (vx:=[.string (JY x14.Name), .int .i64 x14.At, .int .i64 x14.Phases, .int .i64 x14.Min, .int .i64 x14.Max, .int .i64 x14.Step, .int .i64 x14.Fallback, .int .i64 x14.Owner]) (vy:=[.string (JY x15.Name), .int .i64 x15.At, .int .i64 x15.Phases, .int .i64 x15.Min, .int .i64 x15.Max, .int .i64 x15.Step, .int .i64 x15.Fallback, .int .i64 x15.Owner]) (b:=(QK x14.Name x15.Name)&&((Qi x14.At x15.At)&&((Qi x14.Phases x15.Phases)&&((Qi x14.Min x15.Min)&&((Qi x14.Max x15.Max)&&((Qi x14.Step x15.Step)&&((Qi x14.Fallback x15.Fallback)&&((Qi x14.Owner x15.Owner)&&true)))))))) rfl Qa Qa Qa Qa Qa Qa) (Yg Qa (Ql ⟨[qq 2,qq 3,(8,I l13),(124,B (!Gz ((QK x14.Name x15.Name)&&((Qi x14.At x15.At)&&((Qi x14.Phases x15.Phases)&&((Qi x14.Min x15.Min)&&((Qi x14.Max x15.Max)&&((Qi x14.Step x15.Step)&&((Qi x14.Fallback x15.Fallback)&&((Qi x14.Owner x15.Owner)&&true))))))))))],YT a0a a1b⟩ Qa (sC (!Gz ((QK x14.Name x15.Name)&&((Qi x14.At x15.At)&&((Qi x14.Phases x15.Phases)&&((Qi x14.Min x15.Min)&&((Qi x14.Max x15.Max)&&((Qi x14.Step x15.Step)&&((Qi x14.Fallback x15.Fallback)&&((Qi x14.Owner x15.Owner)&&true))))))))) Qa ?_ ?_))))
  ·refine Qg Qd ⟨[(4,B false)],[]⟩ Qa (sT (Zh (Q8 (Yv (Zh (Yv ?_))))))
   exact qR (.id) Qa Qa Qa
  refine sK (Za (Ql ⟨wC l13,YT a0a a1b⟩ Qa (sL Qd Qa ?_)))
  exact KZ (wi (l13+1)) Qa
 rintro _
 show QX (YG n a0a a1b) _ _ _ _ _ _
 unfold YG
 refine sS (Qg Qd ⟨wD 0,YT a0a a1b⟩ Qa (sB (QH (fun l10=>⟨wD l10,YT a0a a1b⟩:Int→St) (Xk Qa) ?_)))
 rintro recl10 l10
 show QX (VQ a0a a1b recl10 l10) _ _ _ _ _ _
 unfold VQ
 refine sS (Qg Qd ⟨[qq 2,qq 3,(9,I l10),(129,B (QL l10 (Qc (VW a0a.Bays))))],YT a0a a1b⟩ Qa (sC (QL l10 (Qc (VW a0a.Bays))) Qa ?_ ?_))
 rotate_left
 ·refine Qz (Kb (KY (QW (Ql ⟨[],[]⟩ Qa (Qg Qd ⟨[(4,B true)],[]⟩ Qa (sT ?_))))))
  exact qR (.id) Qa Qa Qa
 refine sK (Ql ⟨wD l10,YT a0a a1b⟩ Qa (sS (sB (sS (Vo Qd rfl (xR 3 Qa ?_))))))
 refine xG Qa Qa (QN (e:=58) (S:=2) (enc:=Q6.cs) (l:=a0a.Bays) (k:=.i64) (n:=l10) (sv:=.p (.sl 2 (VW a0a.Bays))) rfl Qa Qa Qa Qa Qa) (fun x11=>?_)
 refine xR 4 Qa ?_
 refine xG Qa Qa (QN (e:=58) (S:=2) (enc:=Q6.cs) (l:=a1b.Bays) (k:=.i64) (n:=l10) (sv:=.p (.sl 2 (VW a1b.Bays))) rfl Qa Qa Qa Qa Qa) (fun x12=>?_)
 refine xR 1 Qa (ZM Qa Qa (R4 (xs:=[S x11.Name,I x11.Charger]) (ys:=[S x12.Name,I x12.Charger]) (vx:=[.string (JY x11.Name), .int .i64 x11.Charger]) (vy:=[.string (JY x12.Name), .int .i64 x12.Charger]) (b:=(QK x11.Name x12.Name)&&((Qi x11.Charger x12.Charger)&&true)) rfl Qa Qa Qa Qa Qa Qa) (Yg Qa (Ql ⟨[qq 2,qq 3,(9,I l10),(142,B (!Gz ((QK x11.Name x12.Name)&&((Qi x11.Charger x12.Charger)&&true))))],YT a0a a1b⟩ Qa (sC (!Gz ((QK x11.Name x12.Name)&&((Qi x11.Charger x12.Charger)&&true))) Qa ?_ ?_))))
 ·refine Qg Qd ⟨[(4,B false)],[]⟩ Qa (sT (Zh (Q8 (Yv (Zh (Q8 ?_))))))
  exact qR (.id) Qa Qa Qa
 refine sK (Za (Ql ⟨wD l10,YT a0a a1b⟩ Qa (sL Qd Qa ?_)))
 exact KZ (wi (l10+1)) Qa
def ZY (n:Nat) (r8:Qm × (List Zr)) (recl11:(Int × (List ZE))→Option (List ZE)) (l11_1:Int) (l11_2:List ZE):Option (List ZE) :=
 cond (QL l11_1 (Qc (List.map ZE.cs r8.1.Conductors)))
  ((Q4 r8.1.Conductors l11_1).bind fun x12 =>
  (KD n x12.Name).bind fun r13 =>
  cond (Zo (List.length (l11_2++[(⟨r13,x12.Up,x12.Limit,x12.Neutral,x12.Fuse,x12.Cable⟩:ZE)])) 96) (
   recl11 (wi (l11_1+1),l11_2++[(⟨r13,x12.Up,x12.Limit,x12.Neutral,x12.Fuse,x12.Cable⟩:ZE)])) none)
  (some l11_2)
def ZZ (n:Nat) (r8:Qm × (List Zr)) (recl15:(Int × (List QM))→Option (List QM)) (l15_1:Int) (l15_2:List QM):Option (List QM) :=
 cond (QL l15_1 (Qc (List.map QM.cs r8.1.Owners)))
  ((Q4 r8.1.Owners l15_1).bind fun x16 =>
  (KD n x16.Name).bind fun r17 =>
  cond (Zo (List.length (l15_2++[(⟨r17⟩:QM)])) 16) (
   recl15 (wi (l15_1+1),l15_2++[(⟨r17⟩:QM)])) none)
  (some l15_2)
def Z0 (n:Nat) (r8:Qm × (List Zr)) (recl19:(Int × (List ZO))→Option (List ZO)) (l19_1:Int) (l19_2:List ZO):Option (List ZO) :=
 cond (QL l19_1 (Qc (List.map ZO.cs r8.1.Contracts)))
  ((Q4 r8.1.Contracts l19_1).bind fun x20 =>
  (KD n x20.Name).bind fun r21 =>
  cond (Zo (List.length (l19_2++[(⟨r21,x20.Owner,x20.Rank,x20.Card⟩:ZO)])) 40) (
   recl19 (wi (l19_1+1),l19_2++[(⟨r21,x20.Owner,x20.Rank,x20.Card⟩:ZO)])) none)
  (some l19_2)
def Z4 (n:Nat) (r8:Qm × (List Zr)) (recl23:(Int × (List ZT))→Option (List ZT)) (l23_1:Int) (l23_2:List ZT):Option (List ZT) :=
 cond (QL l23_1 (Qc (List.map ZT.cs r8.1.Chargers)))
  ((Q4 r8.1.Chargers l23_1).bind fun x24 =>
  (KD n x24.Name).bind fun r25 =>
  cond (Zo (List.length (l23_2++[(⟨r25,x24.At,x24.Phases,x24.Min,x24.Max,x24.Step,x24.Fallback,x24.Owner⟩:ZT)])) 72) (
   recl23 (wi (l23_1+1),l23_2++[(⟨r25,x24.At,x24.Phases,x24.Min,x24.Max,x24.Step,x24.Fallback,x24.Owner⟩:ZT)])) none)
  (some l23_2)
def Z5 (n:Nat) (r8:Qm × (List Zr)) (recl27:(Int × (List Q6))→Option (List Q6)) (l27_1:Int) (l27_2:List Q6):Option (List Q6) :=
 cond (QL l27_1 (Qc (List.map Q6.cs r8.1.Bays)))
  ((Q4 r8.1.Bays l27_1).bind fun x28 =>
  (KD n x28.Name).bind fun r29 =>
  cond (Zo (List.length (l27_2++[(⟨r29,x28.Charger⟩:Q6)])) 24) (
   recl27 (wi (l27_1+1),l27_2++[(⟨r29,x28.Charger⟩:Q6)])) none)
  (some l27_2)
def Yy (n:Nat) (a0n:GN):Option Bool :=
 (Xi n).bind fun r1 =>
 ((Ub n a0n 400).bind fun r3 =>
 cond (!r3)
  (some true)
  ((KP n a0n).bind fun r5 =>
  some (!r5))).bind fun j2 =>
 cond j2
  (some r1)
  ((ZB n a0n).bind fun r6 =>
  (KP n r6).bind fun r7 =>
  cond (!r7)
   (some r1)
   ((Yi n a0n).bind fun r8 =>
   (Yi n r6).bind fun r9 =>
   (QT (fun recl11 (l11_1,l11_2)=>ZY n r8 recl11 l11_1 l11_2) n (0,[])).bind fun j10 =>
   (QT (fun recl15 (l15_1,l15_2)=>ZZ n r8 recl15 l15_1 l15_2) n (0,[])).bind fun j14 =>
   (QT (fun recl19 (l19_1,l19_2)=>Z0 n r8 recl19 l19_1 l19_2) n (0,[])).bind fun j18 =>
   (QT (fun recl23 (l23_1,l23_2)=>Z4 n r8 recl23 l23_1 l23_2) n (0,[])).bind fun j22 =>
   (QT (fun recl27 (l27_1,l27_2)=>Z5 n r8 recl27 l27_1 l27_2) n (0,[])).bind fun j26 =>
   cond r1
    ((Wt n r8.2 r9.2 true).bind fun r31 =>
    cond r31
     ((Jh n r9.1 (⟨j10,j14,j18,j22,j26⟩:Qm)).bind fun r33 =>
     some r33)
     (some false))
    (some false)))
def zw:=fun x0 x1 x2=>([(3,B x0),(5, .ptr 5 0),(6, .p (.sl 2 (List.map Zr.cs x1))),(7, .ptr 7 0),(8, .p (.sl 2 (List.map Zr.cs x2))),(9, .ptr 9 0)]:List (Nat × AV))
def mH:=fun x0 x1=>([(5, .box 33 (KJ (Qm.cs x0))),(7, .box 33 (KJ (Qm.cs x1))),(9,Oy)]:List (Nat × Blk))
def Qbm:=fun x0=>(.box 33 [.tsl 11 (List.map ZE.cs x0) 61, .p (.val (.slice none 0 0)), .p (.val (.slice none 0 0)), .p (.val (.slice none 0 0)), .p (.val (.slice none 0 0))]:Blk)
def ER:=fun x0 x1 x2=>([(5, .box 33 (KJ (Qm.cs x0))),(7, .box 33 (KJ (Qm.cs x1))),(9,(Qbm x2)),(61,(U8 x2))]:List (Nat × Blk))
def zx:=fun x0 x1 x2 x3 x4=>([(3,B x0),(5, .ptr 5 0),(6, .p (.sl 2 (List.map Zr.cs x1))),(7, .ptr 7 0),(8, .p (.sl 2 (List.map Zr.cs x2))),(9, .ptr 9 0),(47, .p (.sl 11 (List.map ZE.cs x3))),(48,I (Qc (List.map ZE.cs x3))),(49,I x4)]:List (Nat × AV))
def sw:=fun x0 x1 x2 x3 x4=>([(3,B x0),(5, .ptr 5 0),(6, .p (.sl 2 (List.map Zr.cs x1))),(7, .ptr 7 0),(8, .p (.sl 2 (List.map Zr.cs x2))),(9, .ptr 9 0),(11, .ptr 11 0),(47, .p (.sl 11 (List.map ZE.cs x3))),(48,I (Qc (List.map ZE.cs x3))),(49,I x4)]:List (Nat × AV))
def sD:=fun x0 x1 x2 x3=>([(5, .box 33 (KJ (Qm.cs x0))),(7, .box 33 (KJ (Qm.cs x1))),(9,(Qbm x2)),(11, .box 49 (KJ (ZE.cs x3))),(61,(U8 x2))]:List (Nat × Blk))
def Qbn:=fun x0 x1=>(.box 33 [.tsl 11 (List.map ZE.cs x0) 61, .tsl 1 (List.map QM.cs x1) 300, .p (.val (.slice none 0 0)), .p (.val (.slice none 0 0)), .p (.val (.slice none 0 0))]:Blk)
def zy:=fun x0 x1 x2 x3=>([(5, .box 33 (KJ (Qm.cs x0))),(7, .box 33 (KJ (Qm.cs x1))),(9,(Qbn x2 x3)),(61,(U8 x2))]:List (Nat × Blk))
def Y6:=fun x0=>([(300,(Oz x0))]:List (Nat × Blk))
def mJ:=fun x0 x1 x2 x3 x4=>([(3,B x0),(5, .ptr 5 0),(6, .p (.sl 2 (List.map Zr.cs x1))),(7, .ptr 7 0),(8, .p (.sl 2 (List.map Zr.cs x2))),(9, .ptr 9 0),(65, .p (.sl 1 (List.map QM.cs x3))),(66,I (Qc (List.map QM.cs x3))),(67,I x4)]:List (Nat × AV))
def aU:=fun x0 x1 x2 x3 x4 x5 x6 x7 x8=>(⟨mJ x0 x1 x2 x3 x4,zy x5 x6 x7 x8++Y6 x8⟩:St)
def aV:=fun x0 x1 x2=>(.box 33 [.tsl 11 (List.map ZE.cs x0) 61, .tsl 1 (List.map QM.cs x1) 300, .tsl 4 (List.map ZO.cs x2) 96, .p (.val (.slice none 0 0)), .p (.val (.slice none 0 0))]:Blk)
def ES:=fun x0 x1 x2 x3 x4=>([(5, .box 33 (KJ (Qm.cs x0))),(7, .box 33 (KJ (Qm.cs x1))),(9,(aV x2 x3 x4)),(61,(U8 x2)),(96,(FX x4))]:List (Nat × Blk))
def zz:=fun x0 x1 x2 x3 x4=>([(3,B x0),(5, .ptr 5 0),(6, .p (.sl 2 (List.map Zr.cs x1))),(7, .ptr 7 0),(8, .p (.sl 2 (List.map Zr.cs x2))),(9, .ptr 9 0),(82, .p (.sl 4 (List.map ZO.cs x3))),(83,I (Qc (List.map ZO.cs x3))),(84,I x4)]:List (Nat × AV))
def sF:=fun x0 x1 x2 x3 x4=>([(3,B x0),(5, .ptr 5 0),(6, .p (.sl 2 (List.map Zr.cs x1))),(7, .ptr 7 0),(8, .p (.sl 2 (List.map Zr.cs x2))),(9, .ptr 9 0),(15, .ptr 15 0),(82, .p (.sl 4 (List.map ZO.cs x3))),(83,I (Qc (List.map ZO.cs x3))),(84,I x4)]:List (Nat × AV))
def dV:=fun x0 x1 x2 x3=>(.box 33 [.tsl 11 (List.map ZE.cs x0) 61, .tsl 1 (List.map QM.cs x1) 300, .tsl 4 (List.map ZO.cs x2) 96, .tsl 8 (List.map ZT.cs x3) 114, .p (.val (.slice none 0 0))]:Blk)
def zA:=fun x0 x1 x2 x3 x4 x5=>([(5, .box 33 (KJ (Qm.cs x0))),(7, .box 33 (KJ (Qm.cs x1))),(9,(dV x2 x3 x4 x5)),(61,(U8 x2)),(96,(FX x4)),(114,(Tj x5))]:List (Nat × Blk))
def zB:=fun x0 x1 x2 x3 x4=>([(3,B x0),(5, .ptr 5 0),(6, .p (.sl 2 (List.map Zr.cs x1))),(7, .ptr 7 0),(8, .p (.sl 2 (List.map Zr.cs x2))),(9, .ptr 9 0),(100, .p (.sl 8 (List.map ZT.cs x3))),(101,I (Qc (List.map ZT.cs x3))),(102,I x4)]:List (Nat × AV))
def sH:=fun x0 x1 x2 x3 x4=>([(3,B x0),(5, .ptr 5 0),(6, .p (.sl 2 (List.map Zr.cs x1))),(7, .ptr 7 0),(8, .p (.sl 2 (List.map Zr.cs x2))),(9, .ptr 9 0),(17, .ptr 17 0),(100, .p (.sl 8 (List.map ZT.cs x3))),(101,I (Qc (List.map ZT.cs x3))),(102,I x4)]:List (Nat × AV))
def dW:=fun x0 x1 x2 x3 x4=>(.box 33 [.tsl 11 (List.map ZE.cs x0) 61, .tsl 1 (List.map QM.cs x1) 300, .tsl 4 (List.map ZO.cs x2) 96, .tsl 8 (List.map ZT.cs x3) 114, .tsl 2 (List.map Q6.cs x4) 132]:Blk)
def zC:=fun x0 x1 x2 x3 x4=>([(3,B x0),(6, .p (.sl 2 (List.map Zr.cs x1))),(7, .ptr 7 0),(8, .p (.sl 2 (List.map Zr.cs x2))),(9, .ptr 9 0),(118, .p (.sl 2 (List.map Q6.cs x3))),(119,I (Qc (List.map Q6.cs x3))),(120,I x4)]:List (Nat × AV))
def sI:=fun x0 x1 x2 x3 x4=>([(7, .box 33 (KJ (Qm.cs x0))),(9,(dV x1 x2 x3 x4)),(61,(U8 x1)),(96,(FX x3)),(114,(Tj x4))]:List (Nat × Blk))
def wE:=fun x0 x1 x2 x3 x4 x5=>([(7, .box 33 (KJ (Qm.cs x0))),(9,(dW x1 x2 x3 x4 x5)),(61,(U8 x1)),(96,(FX x3)),(114,(Tj x4)),(132,(EP x5))]:List (Nat × Blk))
def sJ:=fun x0 x1 x2 x3 x4=>([(3,B x0),(6, .p (.sl 2 (List.map Zr.cs x1))),(7, .ptr 7 0),(8, .p (.sl 2 (List.map Zr.cs x2))),(9, .ptr 9 0),(19, .ptr 19 0),(118, .p (.sl 2 (List.map Q6.cs x3))),(119,I (Qc (List.map Q6.cs x3))),(120,I x4)]:List (Nat × AV))
abbrev dX (x:List Q6):Go.Abs.Blk:=.arr 58 2 (VW x).length
theorem RD (n:Nat) (a0n:GN):∀ r,Yy n a0n=some r→Q9 Tryz.prog 4 [ag (GN.cs a0n)] (.ret (B r)):=by
 refine Qt (X:=fun r:Bool=>QV.ret (B r)) Tryz.func4 rfl Tryz.ntmps4 rfl ?_
 unfold Yy
 refine Qg Qd ⟨[qq 1],Va a0n⟩ Qa (sS (sG ?_))
 refine xC [] Qa (NF n) Qa Qa QS (fun r1=>?_)
 refine xR 1 Qa (xE (Ql ⟨[qq 1,(3,B r1)],Va a0n⟩ Qa (sS (Yj (fun j2=>⟨[qq 1,(3,B r1),(28,B j2)],Va a0n⟩:Bool→St) ?_ ?_))))
 ·refine sG (xR 1 Qa ?_)
  refine xC [] Qa (EQ n a0n 400) Qa Qa QS (fun r3=>?_)
  refine xR 2 Qa ?_
  refine xS (!r3) (fun h4=>?_) (fun h4=>?_)
  ·refine xN (Qy Qa h4) Qa (xR 3 Qa (xE ?_))
   exact QO true Qa
  refine xO (Qx Qa h4) Qa ?_
  refine xC [] Qa (G8 n a0n) Qa Qa QS (fun r5=>?_)
  refine xR 2 Qa (xE ?_)
  exact QO (!r5) Qa
 rintro j2
 refine sC j2 Qa ?_ ?_
 ·refine Qg Qd ⟨[(2,B r1)],[]⟩ Qa (sT (Q8 ?_))
  exact qR (.id) Qa Qa Qa
 refine sK (Ql ⟨[qq 1,(3,B r1)],Va a0n⟩ Qa (sS (sG (xR 1 Qa ?_))))
 refine xC [] Qa (Bl n a0n) Qa Qa QS (fun r6=>?_)
 refine xR 2 Qa (xE (Ql ⟨[qq 1,(3,B r1),qq 4],wh a0n r6⟩ Qa (sS (sS (sG (xR 1 Qa ?_))))))
 refine xC [] Qa (G8 n r6) Qa Qa QS (fun r7=>?_)
 refine xR 1 Qa (xE (Ql ⟨[qq 1,(3,B r1),qq 4,(34,B (!r7))],wh a0n r6⟩ Qa (sC (!r7) Qa ?_ ?_)))
 ·refine Qg Qd ⟨[(2,B r1)],[]⟩ Qa (sT (Q8 ?_))
  exact qR (.id) Qa Qa Qa
 refine sK (Ql ⟨[qq 1,(3,B r1),qq 4],wh a0n r6⟩ Qa (sS (sG (xR 1 Qa ?_))))
 refine xC [] Qa (Vh n a0n) Qa Qa QS (fun r8=>?_)
 refine xR 6 Qa (xE (Ql ⟨[(3,B r1),qq 4,qq 5,(6, .p (.sl 2 (K5 r8.2)))],[(4,F3 r6),(5,ZN r8.1)]⟩ Qa (sS (sG (xR 1 Qa ?_)))))
 refine xC [] Qa (Vh n r6) Qa Qa QS (fun r9=>?_)
 refine xR 6 Qa (xE (Ql ⟨[(3,B r1),qq 5,(6, .p (.sl 2 (K5 r8.2))),qq 7,(8, .p (.sl 2 (K5 r9.2)))],[(5,ZN r8.1),(7,ZN r9.1)]⟩ Qa (Qg Qd ⟨zw r1 r8.2 r9.2,mH r8.1 r9.1⟩ Qa (Yj (fun j10=>⟨zw r1 r8.2 r9.2,ER r8.1 r9.1 j10⟩:(List ZE)→St) ?_ ?_))))
 ·refine Qg Qd ⟨zx r1 r8.2 r9.2 r8.1.Conductors 0,mH r8.1 r9.1⟩ Qa (sB (CQ ⟨zx r1 r8.2 r9.2 r8.1.Conductors 0,mH r8.1 r9.1⟩ Qa (Zj (Z8 49 11 61 [] [(9,0)] Qa) (QH (fun (l11_1,l11_2)=>⟨zx r1 r8.2 r9.2 r8.1.Conductors l11_1,ER r8.1 r9.1 l11_2⟩:(Int × (List ZE))→St) (Xk Qa) ?_))))
  rintro recl11 ⟨l11_1,l11_2⟩
  show QX (ZY n r8 recl11 l11_1 l11_2) _ _ _ _ _ _
  unfold ZY
  refine Qg Qd ⟨[(3,B r1),qq 5,(6, .p (.sl 2 (K5 r8.2))),qq 7,(8, .p (.sl 2 (K5 r9.2))),qq 9,(47, .p (.sl 11 (GV r8.1.Conductors))),(48,I (Qc (GV r8.1.Conductors))),(49,I l11_1),(50,B (QL l11_1 (Qc (GV r8.1.Conductors))))],ER r8.1 r9.1 l11_2⟩ Qa (sS (sC (QL l11_1 (Qc (GV r8.1.Conductors))) Qa ?_ ?_))
  rotate_left
  ·refine Qz (Kb (KY (QW ?_)))
   exact QO l11_2 Qa
  refine sK (Ql ⟨zx r1 r8.2 r9.2 r8.1.Conductors l11_1,ER r8.1 r9.1 l11_2⟩ Qa (sS (sB (sS (sG ?_)))))
  refine xG Qa Qa (QN (e:=49) (S:=11) (enc:=ZE.cs) (l:=r8.1.Conductors) (k:=.i64) (n:=l11_1) (sv:=.p (.sl 11 (GV r8.1.Conductors))) rfl Qa Qa Qa Qa Qa) (fun x12=>?_)
  refine xR 3 Qa (xE (Ql ⟨sw r1 r8.2 r9.2 r8.1.Conductors l11_1,sD r8.1 r9.1 l11_2 x12⟩ Qa (sS (sG (xR 2 Qa ?_)))))
  refine xC [] Qa (Ye n x12.Name) Qa Qa QS (fun r13=>?_)
  refine xR 2 Qa (xE (Ql ⟨sw r1 r8.2 r9.2 r8.1.Conductors l11_1,sD r8.1 r9.1 l11_2 ⟨r13,x12.Up,x12.Limit,x12.Neutral,x12.Fuse,x12.Cable⟩⟩ Qa (sG (xR 4 Qa (xF Qa Qa (Zy (e:=49) (S:=11) (by_:=96) (enc:=ZE.cs) (tk:=61) (l:=l11_2) (l2:=[(⟨r13,x12.Up,x12.Limit,x12.Neutral,x12.Fuse,x12.Cable⟩:ZE)]) (xv:=.tsl 11 (GV [(⟨r13,x12.Up,x12.Limit,x12.Neutral,x12.Fuse,x12.Cable⟩:ZE)]) 60) rfl Qa Qa rfl Qa Qa Qa rfl Qa) (xR 2 Qa (xE ?_)))))))
  refine Za (Ql ⟨zx r1 r8.2 r9.2 r8.1.Conductors l11_1,ER r8.1 r9.1 (l11_2++[(⟨r13,x12.Up,x12.Limit,x12.Neutral,x12.Fuse,x12.Cable⟩:ZE)])⟩ Qa (sL Qd Qa ?_))
  exact KZ (wi (l11_1+1),l11_2++[(⟨r13,x12.Up,x12.Limit,x12.Neutral,x12.Fuse,x12.Cable⟩:ZE)]) Qa
 rintro j10
 refine Yj (fun j14=>⟨zw r1 r8.2 r9.2,zy r8.1 r9.1 j10 j14++Y6 j14⟩:(List QM)→St) ?_ ?_
 ·refine Qg Qd ⟨mJ r1 r8.2 r9.2 r8.1.Owners 0,ER r8.1 r9.1 j10⟩ Qa (sB (CQ ⟨mJ r1 r8.2 r9.2 r8.1.Owners 0,ER r8.1 r9.1 j10⟩ Qa (Zj (Z8 52 1 300 [] [(9,1)] Qa) (QH (fun (l15_1,l15_2)=>(aU r1 r8.2 r9.2 r8.1.Owners l15_1 r8.1 r9.1 j10 l15_2):(Int × (List QM))→St) (Xk Qa) ?_))))
  rintro recl15 ⟨l15_1,l15_2⟩
  show QX (ZZ n r8 recl15 l15_1 l15_2) _ _ _ _ _ _
  unfold ZZ
  refine Qg Qd ⟨[(3,B r1),qq 5,(6, .p (.sl 2 (K5 r8.2))),qq 7,(8, .p (.sl 2 (K5 r9.2))),qq 9,(65, .p (.sl 1 (Kk r8.1.Owners))),(66,I (Qc (Kk r8.1.Owners))),(67,I l15_1),(68,B (QL l15_1 (Qc (Kk r8.1.Owners))))],zy r8.1 r9.1 j10 l15_2++Y6 l15_2⟩ Qa (sS (sC (QL l15_1 (Qc (Kk r8.1.Owners))) Qa ?_ ?_))
  rotate_left
  ·refine Qz (Kb (KY (QW ?_)))
   exact QO l15_2 Qa
  refine sK (Ql (aU r1 r8.2 r9.2 r8.1.Owners l15_1 r8.1 r9.1 j10 l15_2) Qa (sS (sB (sS (sG ?_)))))
  refine xG Qa Qa (QN (e:=52) (S:=1) (enc:=QM.cs) (l:=r8.1.Owners) (k:=.i64) (n:=l15_1) (sv:=.p (.sl 1 (Kk r8.1.Owners))) rfl Qa Qa Qa Qa Qa) (fun x16=>?_)
  refine xR 3 Qa (xE (Ql ⟨[(3,B r1),qq 5,(6, .p (.sl 2 (K5 r8.2))),qq 7,(8, .p (.sl 2 (K5 r9.2))),qq 9,qq 13,(65, .p (.sl 1 (Kk r8.1.Owners))),(66,I (Qc (Kk r8.1.Owners))),(67,I l15_1)],[(5,ZN r8.1),(7,ZN r9.1),(9,(Qbn j10 l15_2)),(13, .box 52 [S x16.Name]),(61,(U8 j10))]++Y6 l15_2⟩ Qa (Vo Qd rfl (xR 4 Qa ?_))))
  refine xC [] Qa (Ye n x16.Name) Qa Qa QS (fun r17=>?_)
  refine xR 2 Qa (xF Qa Qa (Zy (e:=52) (S:=1) (by_:=16) (enc:=QM.cs) (tk:=300) (l:=l15_2) (l2:=[(⟨r17⟩:QM)]) (xv:=.tsl 1 (Kk [(⟨r17⟩:QM)]) 77) rfl Qa Qa rfl Qa Qa Qa rfl Qa) (xR 2 Qa (Yg Qa (Za (Ql (aU r1 r8.2 r9.2 r8.1.Owners l15_1 r8.1 r9.1 j10 (l15_2++[(⟨r17⟩:QM)])) Qa (sL Qd Qa ?_))))))
  exact KZ (wi (l15_1+1),l15_2++[(⟨r17⟩:QM)]) Qa
 rintro j14
 refine Yj (fun j18=>⟨zw r1 r8.2 r9.2,ES r8.1 r9.1 j10 j14 j18++Y6 j14⟩:(List ZO)→St) ?_ ?_
 ·refine Qg Qd ⟨zz r1 r8.2 r9.2 r8.1.Contracts 0,zy r8.1 r9.1 j10 j14++Y6 j14⟩ Qa (sB (CQ ⟨zz r1 r8.2 r9.2 r8.1.Contracts 0,zy r8.1 r9.1 j10 j14++Y6 j14⟩ Qa (Zj (Z8 54 4 96 [] [(9,2)] Qa) (QH (fun (l19_1,l19_2)=>⟨zz r1 r8.2 r9.2 r8.1.Contracts l19_1,ES r8.1 r9.1 j10 j14 l19_2++Y6 j14⟩:(Int × (List ZO))→St) (Xk Qa) ?_))))
  rintro recl19 ⟨l19_1,l19_2⟩
  show QX (Z0 n r8 recl19 l19_1 l19_2) _ _ _ _ _ _
  unfold Z0
  refine Qg Qd ⟨[(3,B r1),qq 5,(6, .p (.sl 2 (K5 r8.2))),qq 7,(8, .p (.sl 2 (K5 r9.2))),qq 9,(82, .p (.sl 4 (Gh r8.1.Contracts))),(83,I (Qc (Gh r8.1.Contracts))),(84,I l19_1),(85,B (QL l19_1 (Qc (Gh r8.1.Contracts))))],ES r8.1 r9.1 j10 j14 l19_2++Y6 j14⟩ Qa (sS (sC (QL l19_1 (Qc (Gh r8.1.Contracts))) Qa ?_ ?_))
  rotate_left
  ·refine Qz (Kb (KY (QW ?_)))
   exact QO l19_2 Qa
  refine sK (Ql ⟨zz r1 r8.2 r9.2 r8.1.Contracts l19_1,ES r8.1 r9.1 j10 j14 l19_2++Y6 j14⟩ Qa (sS (sB (sS (sG ?_)))))
  refine xG Qa Qa (QN (e:=54) (S:=4) (enc:=ZO.cs) (l:=r8.1.Contracts) (k:=.i64) (n:=l19_1) (sv:=.p (.sl 4 (Gh r8.1.Contracts))) rfl Qa Qa Qa Qa Qa) (fun x20=>?_)
  refine xR 3 Qa (xE (Ql ⟨sF r1 r8.2 r9.2 r8.1.Contracts l19_1,[(5,ZN r8.1),(7,ZN r9.1),(9,(aV j10 j14 l19_2)),(15,yt x20),(61,(U8 j10)),(96,(FX l19_2))]++Y6 j14⟩ Qa (sS (sG (xR 2 Qa ?_)))))
  refine xC [] Qa (Ye n x20.Name) Qa Qa QS (fun r21=>?_)
  refine xR 2 Qa (xE (Ql ⟨sF r1 r8.2 r9.2 r8.1.Contracts l19_1,[(5,ZN r8.1),(7,ZN r9.1),(9,(aV j10 j14 l19_2)),(15, .box 54 [S r21,I x20.Owner,I x20.Rank,I x20.Card]),(61,(U8 j10)),(96,(FX l19_2))]++Y6 j14⟩ Qa (sG (xR 4 Qa (xF Qa Qa (Zy (e:=54) (S:=4) (by_:=40) (enc:=ZO.cs) (tk:=96) (l:=l19_2) (l2:=[(⟨r21,x20.Owner,x20.Rank,x20.Card⟩:ZO)]) (xv:=.tsl 4 (Gh [(⟨r21,x20.Owner,x20.Rank,x20.Card⟩:ZO)]) 95) rfl Qa Qa rfl Qa Qa Qa rfl Qa) (xR 2 Qa (xE ?_)))))))
  refine Za (Ql ⟨zz r1 r8.2 r9.2 r8.1.Contracts l19_1,ES r8.1 r9.1 j10 j14 (l19_2++[(⟨r21,x20.Owner,x20.Rank,x20.Card⟩:ZO)])++Y6 j14⟩ Qa (sL Qd Qa ?_))
  exact KZ (wi (l19_1+1),l19_2++[(⟨r21,x20.Owner,x20.Rank,x20.Card⟩:ZO)]) Qa
 rintro j18
 refine Yj (fun j22=>⟨zw r1 r8.2 r9.2,zA r8.1 r9.1 j10 j14 j18 j22++Y6 j14⟩:(List ZT)→St) ?_ ?_
 ·refine Qg Qd ⟨zB r1 r8.2 r9.2 r8.1.Chargers 0,ES r8.1 r9.1 j10 j14 j18++Y6 j14⟩ Qa (sB (CQ ⟨zB r1 r8.2 r9.2 r8.1.Chargers 0,ES r8.1 r9.1 j10 j14 j18++Y6 j14⟩ Qa (Zj (Z8 56 8 114 [] [(9,3)] Qa) (QH (fun (l23_1,l23_2)=>⟨zB r1 r8.2 r9.2 r8.1.Chargers l23_1,zA r8.1 r9.1 j10 j14 j18 l23_2++Y6 j14⟩:(Int × (List ZT))→St) (Xk Qa) ?_))))
  rintro recl23 ⟨l23_1,l23_2⟩
  show QX (Z4 n r8 recl23 l23_1 l23_2) _ _ _ _ _ _
  unfold Z4
  refine Qg Qd ⟨[(3,B r1),qq 5,(6, .p (.sl 2 (K5 r8.2))),qq 7,(8, .p (.sl 2 (K5 r9.2))),qq 9,(100, .p (.sl 8 (Fb r8.1.Chargers))),(101,I (Qc (Fb r8.1.Chargers))),(102,I l23_1),(103,B (QL l23_1 (Qc (Fb r8.1.Chargers))))],zA r8.1 r9.1 j10 j14 j18 l23_2++Y6 j14⟩ Qa (sS (sC (QL l23_1 (Qc (Fb r8.1.Chargers))) Qa ?_ ?_))
  rotate_left
  ·refine Qz (Kb (KY (QW ?_)))
   exact QO l23_2 Qa
  refine sK (Ql ⟨zB r1 r8.2 r9.2 r8.1.Chargers l23_1,zA r8.1 r9.1 j10 j14 j18 l23_2++Y6 j14⟩ Qa (sS (sB (sS (sG ?_)))))
  refine xG Qa Qa (QN (e:=56) (S:=8) (enc:=ZT.cs) (l:=r8.1.Chargers) (k:=.i64) (n:=l23_1) (sv:=.p (.sl 8 (Fb r8.1.Chargers))) rfl Qa Qa Qa Qa Qa) (fun x24=>?_)
  refine xR 3 Qa (xE (Ql ⟨sH r1 r8.2 r9.2 r8.1.Chargers l23_1,[(5,ZN r8.1),(7,ZN r9.1),(9,(dV j10 j14 j18 l23_2)),(17,MJ x24),(61,(U8 j10)),(96,(FX j18)),(114,(Tj l23_2))]++Y6 j14⟩ Qa (sS (sG (xR 2 Qa ?_)))))
  refine xC [] Qa (Ye n x24.Name) Qa Qa QS (fun r25=>?_)
  refine xR 2 Qa (xE (Ql ⟨sH r1 r8.2 r9.2 r8.1.Chargers l23_1,[(5,ZN r8.1),(7,ZN r9.1),(9,(dV j10 j14 j18 l23_2)),(17, .box 56 [S r25,I x24.At,I x24.Phases,I x24.Min,I x24.Max,I x24.Step,I x24.Fallback,I x24.Owner]),(61,(U8 j10)),(96,(FX j18)),(114,(Tj l23_2))]++Y6 j14⟩ Qa (sG (xR 4 Qa (xF Qa Qa (Zy (e:=56) (S:=8) (by_:=72) (enc:=ZT.cs) (tk:=114) (l:=l23_2) (l2:=[(⟨r25,x24.At,x24.Phases,x24.Min,x24.Max,x24.Step,x24.Fallback,x24.Owner⟩:ZT)]) (xv:=.tsl 8 (Fb [(⟨r25,x24.At,x24.Phases,x24.Min,x24.Max,x24.Step,x24.Fallback,x24.Owner⟩:ZT)]) 113) rfl Qa Qa rfl Qa Qa Qa rfl Qa) (xR 2 Qa (xE ?_)))))))
  refine Za (Ql ⟨zB r1 r8.2 r9.2 r8.1.Chargers l23_1,zA r8.1 r9.1 j10 j14 j18 (l23_2++[(⟨r25,x24.At,x24.Phases,x24.Min,x24.Max,x24.Step,x24.Fallback,x24.Owner⟩:ZT)])++Y6 j14⟩ Qa (sL Qd Qa ?_))
  exact KZ (wi (l23_1+1),l23_2++[(⟨r25,x24.At,x24.Phases,x24.Min,x24.Max,x24.Step,x24.Fallback,x24.Owner⟩:ZT)]) Qa
 rintro j22
 refine Yj (fun j26=>⟨[(3,B r1),(6, .p (.sl 2 (K5 r8.2))),qq 7,(8, .p (.sl 2 (K5 r9.2))),qq 9],[(7,ZN r9.1),(9,(dW j10 j14 j18 j22 j26)),(61,(U8 j10)),(96,(FX j18)),(114,(Tj j22)),(132,dX j26)]++Y6 j14⟩:(List Q6)→St) ?_ ?_
 rotate_left
 ·rintro j26
  refine sS (sG (xR 2 Qa ?_))
  refine xS r1 (fun h30=>?_) (fun h30=>?_)
  rotate_left
  ·refine xN (Qq Qa h30) Qa (xR 9 Qa (xE (Ql ⟨[(2,B false)],[]⟩ Qa (sT ?_))))
   exact qR (.id) Qa Qa Qa
  refine xO (Qp Qa h30) Qa (xR 1 Qa ?_)
  refine xC [] Qa (MS n r8.2 r9.2 true) Qa Qa QS (fun r31=>?_)
  refine xR 2 Qa ?_
  refine xS r31 (fun h32=>?_) (fun h32=>?_)
  ·refine xO (Qp Qa h32) Qa (xR 1 Qa ?_)
   refine xC [.id, .agg [.sl 11, .sl 1, .sl 4, .sl 8, .sl 2]] Qa (NI n r9.1 (⟨j10,j14,j18,j22,j26⟩:Qm)) Qa Qa QS (fun r33=>?_)
   refine xR 2 Qa (xE (Ql ⟨[(2,B r33)],[]⟩ Qa (sT ?_)))
   exact qR (.id) Qa Qa Qa
  refine xN (Qq Qa h32) Qa (xR 4 Qa (xE (Ql ⟨[(2,B false)],[]⟩ Qa (sT ?_))))
  exact qR (.id) Qa Qa Qa
 refine Qg Qd ⟨zC r1 r8.2 r9.2 r8.1.Bays 0,sI r9.1 j10 j14 j18 j22++Y6 j14⟩ Qa (sB (CQ ⟨zC r1 r8.2 r9.2 r8.1.Bays 0,sI r9.1 j10 j14 j18 j22++Y6 j14⟩ Qa (Zj (Z8 58 2 132 [] [(9,4)] Qa) (QH (fun (l27_1,l27_2)=>⟨zC r1 r8.2 r9.2 r8.1.Bays l27_1,wE r9.1 j10 j14 j18 j22 l27_2++Y6 j14⟩:(Int × (List Q6))→St) (Xk Qa) ?_))))
 rintro recl27 ⟨l27_1,l27_2⟩
 show QX (Z5 n r8 recl27 l27_1 l27_2) _ _ _ _ _ _
 unfold Z5
 refine Qg Qd ⟨[(3,B r1),(6, .p (.sl 2 (K5 r8.2))),qq 7,(8, .p (.sl 2 (K5 r9.2))),qq 9,(118, .p (.sl 2 (VW r8.1.Bays))),(119,I (Qc (VW r8.1.Bays))),(120,I l27_1),(121,B (QL l27_1 (Qc (VW r8.1.Bays))))],wE r9.1 j10 j14 j18 j22 l27_2++Y6 j14⟩ Qa (sS (sC (QL l27_1 (Qc (VW r8.1.Bays))) Qa ?_ ?_))
 rotate_left
 ·refine Qz (Kb (KY (QW ?_)))
  exact QO l27_2 Qa
 refine sK (Ql ⟨zC r1 r8.2 r9.2 r8.1.Bays l27_1,wE r9.1 j10 j14 j18 j22 l27_2++Y6 j14⟩ Qa (sS (sB (sS (sG ?_)))))
 refine xG Qa Qa (QN (e:=58) (S:=2) (enc:=Q6.cs) (l:=r8.1.Bays) (k:=.i64) (n:=l27_1) (sv:=.p (.sl 2 (VW r8.1.Bays))) rfl Qa Qa Qa Qa Qa) (fun x28=>?_)
 refine xR 3 Qa (xE (Ql ⟨sJ r1 r8.2 r9.2 r8.1.Bays l27_1,[(7,ZN r9.1),(9,(dW j10 j14 j18 j22 l27_2)),(19,OA x28),(61,(U8 j10)),(96,(FX j18)),(114,(Tj j22)),(132,(EP l27_2))]++Y6 j14⟩ Qa (sS (sG (xR 2 Qa ?_)))))
 refine xC [] Qa (Ye n x28.Name) Qa Qa QS (fun r29=>?_)
 refine xR 2 Qa (xE (Ql ⟨sJ r1 r8.2 r9.2 r8.1.Bays l27_1,[(7,ZN r9.1),(9,(dW j10 j14 j18 j22 l27_2)),(19, .box 58 [S r29,I x28.Charger]),(61,(U8 j10)),(96,(FX j18)),(114,(Tj j22)),(132,(EP l27_2))]++Y6 j14⟩ Qa (sG (xR 4 Qa (xF Qa Qa (Zy (e:=58) (S:=2) (by_:=24) (enc:=Q6.cs) (tk:=132) (l:=l27_2) (l2:=[(⟨r29,x28.Charger⟩:Q6)]) (xv:=.tsl 2 (VW [(⟨r29,x28.Charger⟩:Q6)]) 131) rfl Qa Qa rfl Qa Qa Qa rfl Qa) (xR 2 Qa (xE ?_)))))))
 refine Za (Ql ⟨zC r1 r8.2 r9.2 r8.1.Bays l27_1,wE r9.1 j10 j14 j18 j22 (l27_2++[(⟨r29,x28.Charger⟩:Q6)])++Y6 j14⟩ Qa (sL Qd Qa ?_))
 exact KZ (wi (l27_1+1),l27_2++[(⟨r29,x28.Charger⟩:Q6)]) Qa
structure dY where
 Kind:Int
 Days:Int
 From:Int
 To:Int
 Price:Int
 Unit:Int
 Free:Int
deriving DecidableEq
def dY.cs (x:dY):List PV:=[VI x.Kind,VI x.Days,VI x.From,VI x.To,VI x.Price,VI x.Unit,VI x.Free]
structure GTr where
 article:dY
 values:List (List PV)
 good:Bool
def GTr.cs (x:GTr):List PV:=[VI x.article.Kind,VI x.article.Days,VI x.article.From,VI x.article.To,VI x.article.Price,VI x.article.Unit,VI x.article.Free, .sl 5 (List.map KI x.values),VB x.good]
structure GTf where
 Name:List UInt8
 Articles:List dY
deriving DecidableEq
def GTf.cs (x:GTf):List PV:=[VS x.Name, .sl 7 (List.map dY.cs x.Articles)]
structure sM where
 At:Int
 Offset:Int
deriving DecidableEq
def sM.cs (x:sM):List PV:=[VI x.At,VI x.Offset]
structure GCl where
 Offset:Int
 Changes:List sM
 Holidays:List Int
deriving DecidableEq
def GCl.cs (x:GCl):List PV:=[VI x.Offset, .sl 2 (List.map sM.cs x.Changes), .sl 1 (List.map ci x.Holidays)]
structure Bn where
 Tariff:GTf
 calendar:GCl
 from_:Int
 to_:Int
deriving DecidableEq
def Bn.cs (x:Bn):List PV:=[VS x.Tariff.Name, .sl 7 (List.map dY.cs x.Tariff.Articles),VI x.calendar.Offset, .sl 2 (List.map sM.cs x.calendar.Changes), .sl 1 (List.map ci x.calendar.Holidays),VI x.from_,VI x.to_]
structure sO where
 Minute:Int
 Energy:Int
deriving DecidableEq
def sO.cs (x:sO):List PV:=[VI x.Minute,VI x.Energy]
structure GSs where
 From:Int
 To:Int
 End:Int
 Slices:List sO
deriving DecidableEq
def GSs.cs (x:GSs):List PV:=[VI x.From,VI x.To,VI x.End, .sl 2 (List.map sO.cs x.Slices)]
structure ET where
 Article:Int
 Amount:Int
deriving DecidableEq
def ET.cs (x:ET):List PV:=[VI x.Article,VI x.Amount]
structure wF where
 Lines:List ET
 Net:Int
 Tax:Int
 Total:Int
deriving DecidableEq
def wF.cs (x:wF):List PV:=[.sl 2 (List.map ET.cs x.Lines),VI x.Net,VI x.Tax,VI x.Total]
structure GBB where
 article:dY
 calendar:GCl
 session:GSs
deriving DecidableEq
def GBB.cs (x:GBB):List PV:=[VI x.article.Kind,VI x.article.Days,VI x.article.From,VI x.article.To,VI x.article.Price,VI x.article.Unit,VI x.article.Free,VI x.calendar.Offset, .sl 2 (List.map sM.cs x.calendar.Changes), .sl 1 (List.map ci x.calendar.Holidays),VI x.session.From,VI x.session.To,VI x.session.End, .sl 2 (List.map sO.cs x.session.Slices)]
structure Jy where
 Serial:Int
 Number:Int
 Minute:Int
 Register:Int
 Link:Int
deriving DecidableEq
def Jy.cs (x:Jy):List PV:=[VI x.Serial,VI x.Number,VI x.Minute,VI x.Register,VU x.Link]
structure yw where
 Tariff:GTf
 Calendar:GCl
 Readings:List Jy
 Seed:Int
 Session:GSs
 Bill:wF
deriving DecidableEq
def yw.cs (x:yw):List PV:=[VS x.Tariff.Name, .sl 7 (List.map dY.cs x.Tariff.Articles),VI x.Calendar.Offset, .sl 2 (List.map sM.cs x.Calendar.Changes), .sl 1 (List.map ci x.Calendar.Holidays), .sl 5 (List.map Jy.cs x.Readings),VU x.Seed,VI x.Session.From,VI x.Session.To,VI x.Session.End, .sl 2 (List.map sO.cs x.Session.Slices), .sl 2 (List.map ET.cs x.Bill.Lines),VI x.Bill.Net,VI x.Bill.Tax,VI x.Bill.Total]
structure GAE where
 Claim:yw
 follows:GSs
 bill:wF
 rate:Int
deriving DecidableEq
def GAE.cs (x:GAE):List PV:=[VS x.Claim.Tariff.Name, .sl 7 (List.map dY.cs x.Claim.Tariff.Articles),VI x.Claim.Calendar.Offset, .sl 2 (List.map sM.cs x.Claim.Calendar.Changes), .sl 1 (List.map ci x.Claim.Calendar.Holidays), .sl 5 (List.map Jy.cs x.Claim.Readings),VU x.Claim.Seed,VI x.Claim.Session.From,VI x.Claim.Session.To,VI x.Claim.Session.End, .sl 2 (List.map sO.cs x.Claim.Session.Slices), .sl 2 (List.map ET.cs x.Claim.Bill.Lines),VI x.Claim.Bill.Net,VI x.Claim.Bill.Tax,VI x.Claim.Bill.Total,VI x.follows.From,VI x.follows.To,VI x.follows.End, .sl 2 (List.map sO.cs x.follows.Slices), .sl 2 (List.map ET.cs x.bill.Lines),VI x.bill.Net,VI x.bill.Tax,VI x.bill.Total,VI x.rate]
def Ia (n:Nat) (a0w:List UInt8):Option Bool :=
 (cond (QK a0w [102,101,101,100,101,114])
  (some (QK a0w [102,101,101,100,101,114]))
  (cond (QK a0w [99,97,98,108,101])
   (some (QK a0w [99,97,98,108,101]))
   (cond (QK a0w [111,119,110,101,114])
    (some (QK a0w [111,119,110,101,114]))
    (cond (QK a0w [99,111,110,116,114,97,99,116])
     (some (QK a0w [99,111,110,116,114,97,99,116]))
     (cond (QK a0w [99,104,97,114,103,101,114])
      (some (QK a0w [99,104,97,114,103,101,114]))
      (cond (QK a0w [98,97,121])
       (some (QK a0w [98,97,121]))
       (some (QK a0w [116,97,114,105,102,102])))))))).bind fun j1 =>
 cond j1
  (some true)
  ((cond (QK a0w [108,105,109,105,116])
   (some (QK a0w [108,105,109,105,116]))
   (cond (QK a0w [110,101,117,116,114,97,108])
    (some (QK a0w [110,101,117,116,114,97,108]))
    (cond (QK a0w [102,117,115,101])
     (some (QK a0w [102,117,115,101]))
     (cond (QK a0w [116,104,101,114,109,97,108])
      (some (QK a0w [116,104,101,114,109,97,108]))
      (cond (QK a0w [102,114,111,109])
       (some (QK a0w [102,114,111,109]))
       (cond (QK a0w [97,116])
        (some (QK a0w [97,116]))
        (cond (QK a0w [112,104,97,115,101,115])
         (some (QK a0w [112,104,97,115,101,115]))
         (cond (QK a0w [97,109,112,115])
          (some (QK a0w [97,109,112,115]))
          (cond (QK a0w [102,97,108,108,98,97,99,107])
           (some (QK a0w [102,97,108,108,98,97,99,107]))
           (cond (QK a0w [99,97,114,100])
            (some (QK a0w [99,97,114,100]))
            (some (QK a0w [114,97,110,107])))))))))))).bind fun j2 =>
  cond j2
   (some true)
   ((cond (QK a0w [115,116,97,114,116])
    (some (QK a0w [115,116,97,114,116]))
    (cond (QK a0w [101,110,101,114,103,121])
     (some (QK a0w [101,110,101,114,103,121]))
     (cond (QK a0w [116,105,109,101])
      (some (QK a0w [116,105,109,101]))
      (cond (QK a0w [105,100,108,101])
       (some (QK a0w [105,100,108,101]))
       (cond (QK a0w [99,97,112])
        (some (QK a0w [99,97,112]))
        (some (QK a0w [116,97,120]))))))).bind fun j3 =>
   cond j3
    (some true)
    ((cond (QK a0w [111,110])
     (some (QK a0w [111,110]))
     (cond (QK a0w [119,111,114,107])
      (some (QK a0w [119,111,114,107]))
      (cond (QK a0w [115,97,116,117,114,100,97,121])
       (some (QK a0w [115,97,116,117,114,100,97,121]))
       (cond (QK a0w [115,117,110,100,97,121])
        (some (QK a0w [115,117,110,100,97,121]))
        (cond (QK a0w [98,101,116,119,101,101,110])
         (some (QK a0w [98,101,116,119,101,101,110]))
         (cond (QK a0w [112,101,114])
          (some (QK a0w [112,101,114]))
          (some (QK a0w [102,114,101,101])))))))).bind fun j4 =>
    cond j4
     (some true)
     (some false))))
structure GLs where
 from_:Int
 to_:Int
deriving DecidableEq
def GLs.cs (x:GLs):List PV:=[VI x.from_,VI x.to_]
end Go.Proofs
namespace Go.Proofs
open Go Go.Abs Go.ChangeShapes Go.WideShapes Go.ChangeAt Go.RowKit Go.Proofs.YteakahdpnpecoaaGreat
set_option maxRecDepth 100000
def GN.wfd:Nat→GN→Prop
 | 0,_=>False
 | d+1,x=>fu x.Kind∧Qah x.Name∧fu x.N∧fu x.At∧(List.length x.Kids≤maxLen∧∀ k ∈ x.Kids,∃ y:GN,k=GN.cs y∧GN.wfd d y)
theorem GN.wfd_succ:∀ (d:Nat) (x:GN),GN.wfd d x→GN.wfd (d+1) x
 | 0,_,h=>h.elim
 | d+1,x,h=>by
  obtain ⟨h0,h1,h2,h3,h4⟩:=h
  exact ⟨h0,h1,h2,h3,⟨h4.1,fun k hk=>by obtain ⟨y,e,g⟩:=h4.2 k hk; exact ⟨y,e,GN.wfd_succ d y g⟩⟩⟩
theorem sQ:∀ (d:Nat) (cs:List PV),Sh Tryz.prog d 24 cs→∃ r:GN,cs=GN.cs r∧GN.wfd d r
 | 0,_,h=>h.elim
 | 1,cs,h=>by
  have h:=AC Tryz.underlying24 h
  obtain ⟨_,_,rfl,h0,_,_,rfl,h1,_,_,rfl,h2,_,_,rfl,h3,_,_,rfl,h4,rfl⟩:=h
  exact h0.elim
 | d+2,cs,h=>by
  have h:=AC Tryz.underlying24 h
  obtain ⟨_,_,rfl,h0,_,_,rfl,h1,_,_,rfl,h2,_,_,rfl,h3,_,_,rfl,h4,rfl⟩:=h
  obtain ⟨x0,rfl,w0⟩:=kU Tryz.underlying3 h0
  obtain ⟨x1,rfl,w1⟩:=lK Tryz.underlying9 h1
  obtain ⟨x2,rfl,w2⟩:=kU Tryz.underlying3 h2
  obtain ⟨x3,rfl,w3⟩:=kU Tryz.underlying3 h3
  simp only [Sh,Tryz.underlying22] at h4
  obtain ⟨x4,rfl,w4,g4⟩:=h4
  refine ⟨⟨x0,x1,x2,x3,x4⟩,?_,w0,w1,w2,w3,w4,fun k hk=>?_⟩
  ·simp only [GN.cs,IY,show Tryz.prog.cellsOf 24=5 from by kernel_rfl,List.cons_append,List.nil_append,List.append_nil]
  ·obtain ⟨y,e,g⟩:=sQ d k (g4 k hk)
   exact ⟨y,e,GN.wfd_succ d y g⟩
theorem mK {d:Nat} {cs:List PV} (h:Sh Tryz.prog d 24 cs):∃ r:GN,cs=GN.cs r∧∃ d,GN.wfd d r:=by
 obtain ⟨r,e,g⟩:=sQ d cs h
 exact ⟨r,e,d,g⟩
def Ha:Prop:=∀ (a0:GN),(fun x=>∃ d,GN.wfd d x) a0→∃ n,Yy n a0=some true
theorem EU (h:Ha):∀ (D:Nat) xs,BZ Tryz.prog (D+9) Tryz.f4.params.toList xs→Q9 Tryz.prog 4 xs (.ret (.p (.val (.bool true)))):=by
 intro D xs ha
 rw [Tryz.params4] at ha
 obtain ⟨_,_,rfl,h0,rfl⟩:=ha
 obtain ⟨a0,rfl,w0⟩:=mK h0
 obtain ⟨n,hn⟩:=h a0 w0
 simp only [zb Tryz.underlying24]
 exact RD n a0 true hn
set_option maxRecDepth 100000 in
theorem MV (h:Ha) (os:Os) (started:os.Started) (H:Type) (enc:TypeId × Value→H) :
  ReturnsInHanded {} Tryz.checked os 4 .any (Rows.siteNamesSpec.pre6 enc Tryz.prog Tryz.f4 Rows.siteNamesRow.domain false) (Rows.siteNamesSpec.post enc Tryz.prog Tryz.f4 false true false false):=by
 refine returnsInHanded_of_change (C:=Tryz.checked) Qa started Qa Tryz.func4
  (ChangeSpec.witness6 (enc:=enc) (C:=Tryz.checked) false ⟨#[],#[.agg #[.int .i64 0, .string ⟨#[]⟩, .int .i64 0, .int .i64 0, .slice none 0 0]],[]⟩ 8 Qa Qa Qa Qa) ?_
 intro W base args ds gs before hval hW _ _
 exact SI (P:=Tryz.prog) (f:=4) (fn:=Tryz.f4) (s:=Rows.siteNamesSpec) (tb:=4) (TS:=[3,9,22,24]) Qa Qa Qa Qa Qa Tryz.underlying4 rfl
  (fun ds hd=>by
   have hd:ds.length=1:=by rw [hd,show Tryz.f4.params.size=1 from by kernel_rfl]
   match ds,hd with
   | [d0],_=>rfl)
  (EU h) hval hW
theorem EW (h:Ha):Rows.SiteNamesSaid :=
 OpenClaim.holds_of_wide 4 Tryz.f4 rfl rfl rfl rfl rfl rfl rfl ⟨rfl,rfl,rfl,rfl,rfl⟩ rfl rfl rfl rfl rfl Qa Tryz.func4 Qa
  (of_decide_eq_true Qa) (by unfold Func.isWrapper; first | (rw [if_pos (by decide +kernel)]; kernel_rfl) | (rw [if_neg (by decide +kernel)]; exact ⟨rfl,rfl⟩))
  (fun os started H enc _=>MV h os started H enc)
end Go.Proofs
namespace Go.Proofs
open Go Go.Abs
set_option maxRecDepth 100000
def Does {α:Type} (m:Option α) (Q:α→Prop):Prop:=∃ r,m=some r∧Q r
section
variable {α β V R E:Type}
theorem Qs {x:α} {Q:α→Prop} (h:Q x):Does (some x) Q:=⟨x,rfl,h⟩
theorem Bo {m:Option α} {x:α} {Q:α→Prop} (h:m=some x) (hq:Q x):Does m Q:=⟨x,h,hq⟩
theorem Yf {m:Option α} {Q Q':α→Prop} (h:Does m Q) (hq:∀ x,Q x→Q' x):Does m Q':=by obtain ⟨x,e,h⟩:=h; exact ⟨x,e,hq x h⟩
theorem XK {m:Option α} {k:α→Option β} {Q:α→Prop} {Q':β→Prop} (h:Does m Q) (hk:∀ x,Q x→Does (k x) Q'):Does (m.bind k) Q':=by
 obtain ⟨x,rfl,h⟩:=h
 exact hk x h
theorem Ib {b:Bool} {x y:Option α} {Q:α→Prop} (h1:b=true→Does x Q) (h2:b=false→Does y Q):Does (cond b x y) Q:=by
 cases b
 ·exact h2 rfl
 ·exact h1 rfl
theorem KX {B:(V→Option R)→V→Option R} {Q:V→R→Prop} (μ:V→Nat) (Inv:V→Prop)
  (hB:∀ rec v,Inv v→(∀ v',Inv v'→μ v' < μ v→Does (rec v') (Q v'))→Does (B rec v) (Q v)):∀ {n:Nat} {v:V},Inv v→μ v < n→Does (QT B n v) (Q v)
 | 0,_,_,h=>absurd h (Nat.not_lt_zero _)
 | n+1,v,hv,h=>hB _ v hv (fun v' h1 h2=>KX μ Inv hB h1 zo)
end
theorem ZF {α:Type} {l:List α} {i:Nat}:Q4 l (i:Int)=l[i]?:=by
 unfold Q4; rw [if_neg zo]; simp
theorem Y7 {x:Int} (h1:-9223372036854775808≤x) (h2:x≤9223372036854775807):wi x=x:=by
 simp [wi,IntKind.wrap,IntKind.signed,IntKind.bits]; omega
def Qcz (a r:Jy):Bool:=if r.Serial=a.Serial then decide (a.Minute≤r.Minute∧a.Register≤r.Register) else decide (r.Minute=a.Minute)
def QcA (s x k:Int):Int:=wu ((nR .u64 s (nP .u64 (tO .u64 (wu x) k) 255)) * 1099511628211)
def QcB (s x:Int):Int:=[56,48,40,32,24,16,8,0].foldl (fun s k=>QcA s x k) s
def Qbq (s:Int) (r:Jy):Int:=[r.Serial,r.Number,r.Minute,r.Register].foldl QcB s
def mM (seed:Int) (l:List Jy) (i:Nat):Int:=if i=0 then seed else ((l[i - 1]?).map (·.Link)).getD 0
def dZ (seed:Int) (l:List Jy) (i:Nat):Prop:=∀ r ∈ l[i]?,(1≤r.Serial∧r.Serial≤1000000)∧r.Number=i+1∧(0≤r.Minute∧r.Minute≤52560000)∧(0≤r.Register∧r.Register≤1000000000) ∧
 (i ≠ 0→∀ a ∈ l[i - 1]?,Qcz a r=true)∧r.Link=Qbq (mM seed l i) r
def chainOk (seed:Int) (l:List Jy):Prop:=(1≤l.length∧l.length≤64)∧∀ i,i < l.length→dZ seed l i
theorem Kh (x y:Int):Qi x y=decide (x=y):=by unfold Qi; by_cases h:x=y <;> simp [h]
theorem Zx {α:Type} {b:Bool} {x y:α}:cond b (some x) (some y)=some (cond b x y):=by cases b <;> rfl
def MW (w:List UInt8):Bool:=(Ia 0 w).getD false
def Ll (x:UInt8):Bool:=decide ((97≤KN x∧KN x≤122)∨(48≤KN x∧KN x≤57)∨KN x=95)
def Uk (s:List UInt8):Bool:=decide (1≤s.length∧s.length≤12)&&decide (∀ x ∈ s.head?,97≤KN x∧KN x≤122)&&!MW s&&s.all Ll
theorem Ic {α R:Type} {l:List α} {B:(Int→Option R)→Int→Option R} {F:List α→R} (hlen:l.length≤4611686018427387904)
  (hend:∀ rec,B rec (l.length:Int)=some (F []))
  (hstep:∀ (rec:Int→Option R) (i:Nat) (x:α) (r:List α),l.drop i=x :: r→l[i]?=some x→i < l.length→wi ((i:Int)+1)=((i+1:Nat):Int)→(rec ((i+1:Nat):Int)=some (F r))→B rec (i:Int)=some (F (x :: r))) :
  ∀ {n:Nat} (i:Nat),i≤l.length→l.length - i < n→QT B n (i:Int)=some (F (l.drop i))
 | 0,_,_,h=>absurd h (Nat.not_lt_zero _)
 | n+1,i,hi,h=>by
  unfold QT
  by_cases he:i=l.length
  ·subst he; rw [hend]; simp
  ·have hlt:i < l.length:=by omega
   have hd:l.drop i=l[i] :: l.drop (i+1):=by rw [List.drop_eq_getElem_cons hlt]
   rw [hd]
   exact hstep _ i _ _ hd (by simp [hlt]) hlt (by rw [Y7] <;> omega) (Ic hlen hend hstep (i+1) zo zo)
theorem d9 (c:Int):(bif decide (97≤c) then bif decide (c≤122) then false else bif decide (48≤c) then bif decide (c≤57) then false else !(c == 95) else !(c == 95)
  else bif decide (48≤c) then bif decide (c≤57) then false else !(c == 95) else !(c == 95))=!decide ((97≤c∧c≤122)∨(48≤c∧c≤57)∨c=95):=by
 by_cases h1:97≤c <;> by_cases h2:c≤122 <;> by_cases h3:48≤c <;> by_cases h4:c≤57 <;> by_cases h5:c=95 <;> simp [h1,h2,h3,h4,h5] <;> omega
theorem EX {α R A V:Type} {l:List α} (S:A→Int→V) {B:(V→Option R)→V→Option R} {F:A→List α→R} (Inv:Nat→A→Prop) (hlen:l.length≤4611686018427387904)
  (hend:∀ rec a,Inv l.length a→B rec (S a (l.length:Int))=some (F a []))
  (hstep:∀ (rec:V→Option R) (a:A) (i:Nat) (x:α) (r:List α),Inv i a→l.drop i=x :: r→l[i]?=some x→i < l.length→wi ((i:Int)+1)=((i+1:Nat):Int)→(∀ a,Inv (i+1) a→rec (S a ((i+1:Nat):Int))=some (F a r))→B rec (S a (i:Int))=some (F a (x :: r))) :
  ∀ {n:Nat} (i:Nat) (a:A),Inv i a→i≤l.length→l.length - i < n→QT B n (S a (i:Int))=some (F a (l.drop i))
 | 0,_,_,_,_,h=>absurd h (Nat.not_lt_zero _)
 | n+1,i,a,ha,hi,h=>by
  unfold QT
  by_cases he:i=l.length
  ·subst he; rw [hend _ _ ha]; simp
  ·have hlt:i < l.length:=by omega
   have hd:l.drop i=l[i] :: l.drop (i+1):=by rw [List.drop_eq_getElem_cons hlt]
   rw [hd]
   exact hstep _ a i _ _ ha hd (by simp [hlt]) hlt (by rw [Y7] <;> omega) (fun a ha=>EX S Inv hlen hend hstep (i+1) a ha zo zo)
theorem Ie {α R A V:Type} {l:List α} (S:A→Int→V) {B:(V→Option R)→V→Option R} {Q:A→List α→R→Prop} (Inv:Nat→A→Prop) (hlen:l.length≤4611686018427387904)
  (hend:∀ rec a,Inv l.length a→Does (B rec (S a (l.length:Int))) (Q a []))
  (hstep:∀ (rec:V→Option R) (a:A) (i:Nat) (x:α) (r:List α),Inv i a→l.drop i=x :: r→l[i]?=some x→i < l.length→wi ((i:Int)+1)=((i+1:Nat):Int)→(∀ a,Inv (i+1) a→Does (rec (S a ((i+1:Nat):Int))) (Q a r))→Does (B rec (S a (i:Int))) (Q a (x :: r))) :
  ∀ {n:Nat} (i:Nat) (a:A),Inv i a→i≤l.length→l.length - i < n→Does (QT B n (S a (i:Int))) (Q a (l.drop i))
 | 0,_,_,_,_,h=>absurd h (Nat.not_lt_zero _)
 | n+1,i,a,ha,hi,h=>by
  unfold QT
  by_cases he:i=l.length
  ·subst he; simpa using hend _ _ ha
  ·have hlt:i < l.length:=by omega
   have hd:l.drop i=l[i] :: l.drop (i+1):=by rw [List.drop_eq_getElem_cons hlt]
   rw [hd]
   exact hstep _ a i _ _ ha hd (by simp [hlt]) hlt (by rw [Y7] <;> omega) (fun a ha=>Ie S Inv hlen hend hstep (i+1) a ha zo zo)
def ks:List Nat:=[56,48,40,32,24,16,8,0]
theorem mO (n:Nat) (l:List (List UInt8)) (s:List UInt8) (hn:1000≤n) (hl:l.length≤900):Does (Km n l s) (fun r=>leI 0 r=l.contains s):=by
 unfold Km
 have:=Ie (l:=l) (fun (_:Unit) i=>i) (B:=fun recl1 l1=>Ws l s recl1 l1) (Q:=fun _ r x=>leI 0 x=r.contains s) (fun _ _=>True) zo ?_ ?_ (n:=n) 0 () trivial zo zo
 ·exact this
 ·intro rec a _
  simp only [Ws,Qc,List.length_map,QL]
  rw [K7 zo,cond_false]
  exact Qs rfl
 ·intro rec a i x r _ hd hx hi hw hr
  simp only [Ws,Qc,List.length_map,QL,ZF,hx,ZW,QK]
  rw [YU zo,cond_true]
  by_cases h:x=s
  ·subst h
   rw [beq_self_eq_true,cond_true]
   refine Qs ?_
   simp [leI]
  ·rw [show (x == s)=false from by simpa using h,cond_false,hw]
   refine Yf (hr () trivial) (fun y hy=>?_)
   rw [hy,List.contains_cons,show (s == x)=false from by simpa using fun e=>h e.symm,Bool.false_or]
def keyL:List (List UInt8):=((Vt 0).getD [])++(((ZJ 0).getD [])++(((Zi 0).getD [])++((ZK 0).getD [])))
theorem cse (b c:Bool):(bif b then b else c)=(b||c):=by cases b <;> rfl
theorem iw (b c:Bool):(bif b then true else c)=(b||c):=by cases b <;> rfl
def keyA:List (List UInt8):=[[102,101,101,100,101,114],[99,97,98,108,101],[111,119,110,101,114],[99,111,110,116,114,97,99,116],[99,104,97,114,103,101,114],[98,97,121],[116,97,114,105,102,102],[108,105,109,105,116],[110,101,117,116,114,97,108],[102,117,115,101],[116,104,101,114,109,97,108],[102,114,111,109],[97,116],[112,104,97,115,101,115],[97,109,112,115],[102,97,108,108,98,97,99,107],[99,97,114,100],[114,97,110,107],[115,116,97,114,116],[101,110,101,114,103,121],[116,105,109,101],[105,100,108,101],[99,97,112],[116,97,120],[111,110],[119,111,114,107],[115,97,116,117,114,100,97,121],[115,117,110,100,97,121],[98,101,116,119,101,101,110],[112,101,114],[102,114,101,101]]
theorem mP (s:List UInt8):MW s=keyA.contains s:=by
 unfold MW Ia keyA
 simp only [Zx,ZW,Option.getD_some,cse,iw,QK,List.contains_cons,List.contains_nil,Bool.or_assoc,Bool.or_false]
theorem zD (s:List UInt8):MW s=keyL.contains s:=by
 rw [mP,Bool.eq_iff_iff,List.contains_iff_mem,List.contains_iff_mem]
 have h1:∀ x ∈ keyA,x ∈ keyL:=by decide
 have h2:∀ x ∈ keyL,x ∈ keyA:=by decide
 exact ⟨h1 s,h2 s⟩
theorem OC (n:Nat) (s:List UInt8) (hn:1000≤n):YE n s=some (decide (1≤s.length∧s.length≤12)&&!MW s):=by
 unfold YE Vt ZJ Zi ZK
 simp only [ZW]
 rw [zD]
 unfold keyL Vt ZJ Zi ZK
 simp only [Option.getD_some]
 have e:=fun (l:List (List UInt8)) (hl:l.length≤900)=>mO n l s hn hl
 obtain ⟨r1,e1,h1⟩:=e [[102,101,101,100,101,114],[99,97,98,108,101],[111,119,110,101,114],[99,111,110,116,114,97,99,116],[99,104,97,114,103,101,114],[98,97,121],[116,97,114,105,102,102]] (by decide)
 obtain ⟨r2,e2,h2⟩:=e [[108,105,109,105,116],[110,101,117,116,114,97,108],[102,117,115,101],[116,104,101,114,109,97,108],[102,114,111,109],[97,116],[112,104,97,115,101,115],[97,109,112,115],[102,97,108,108,98,97,99,107],[111,119,110,101,114],[99,97,114,100],[114,97,110,107],[99,104,97,114,103,101,114]] (by decide)
 obtain ⟨r3,e3,h3⟩:=e [[115,116,97,114,116],[101,110,101,114,103,121],[116,105,109,101],[105,100,108,101],[99,97,112],[116,97,120]] (by decide)
 obtain ⟨r4,e4,h4⟩:=e [[111,110],[119,111,114,107],[115,97,116,117,114,100,97,121],[115,117,110,100,97,121],[98,101,116,119,101,101,110],[112,101,114],[102,114,101,101]] (by decide)
 rw [e1,ZW,e2,ZW,e3,ZW,e4,ZW,h1,h2,h3,h4]
 have ha:∀ (a b:List (List UInt8)),(a++b).contains s=(a.contains s||b.contains s):=by intro a b; simp
 rw [ha,ha,ha]
 simp only [Zx,ZW,leI,Qc,iw]
 generalize ((_:Bool)||_)=k
 by_cases c1:1≤s.length
 ·by_cases c2:s.length≤12
  ·rw [YU (show (1:Int)≤s.length by omega),YU (show (s.length:Int)≤12 by omega),YU (show 1≤s.length∧s.length≤12 from ⟨c1,c2⟩)]; rfl
  ·rw [YU (show (1:Int)≤s.length by omega),K7 (show ¬ (s.length:Int)≤12 by omega),K7 (show ¬ (1≤s.length∧s.length≤12) from fun h=>c2 h.2)]; rfl
 ·rw [K7 (show ¬ (1:Int)≤s.length by omega),K7 (show ¬ (1≤s.length∧s.length≤12) from fun h=>c1 h.1)]; rfl
theorem wG (c:Int) (z:Bool):(bif decide (c < 97) then bif z then true else bif decide (c < 48) then !decide (c=95) else bif decide (57 < c) then !decide (c=95) else false
  else bif decide (122 < c) then bif z then true else bif decide (c < 48) then !decide (c=95) else bif decide (57 < c) then !decide (c=95) else false else false)=!(bif z then decide (97≤c∧c≤122) else decide ((97≤c∧c≤122)∨(48≤c∧c≤57)∨c=95)):=by
 cases z <;> by_cases h1:c < 97 <;> by_cases h2:122 < c <;> by_cases h3:c < 48 <;> by_cases h4:57 < c <;> by_cases h5:c=95 <;> simp [h1,h2,h3,h4,h5] <;> omega
theorem aW (n:Nat) (s:List UInt8) (hn:1000≤n) (hl:s.length≤900):KW n s=some (Uk s):=by
 unfold KW
 have h1:∀ (rec:Int→Option Bool) (a:Unit),(1≤s.length∨s.length=0)→Zt n s rec (s.length:Int)=some (([]:List UInt8).all Ll&&(decide (1≤s.length∧s.length≤12)&&!MW s)):=by
  intro rec a ha
  simp only [Zt,Qc,QL]
  rw [K7 zo,cond_false,OC n s hn]
  rfl
 have h2:∀ (rec:Int→Option Bool) (a:Unit) (i:Nat) (x:UInt8) (r:List UInt8),(1≤i∨s.length=0)→s.drop i=x :: r→s[i]?=some x→i < s.length→wi ((i:Int)+1)=((i+1:Nat):Int) →
   (∀ a:Unit,(1≤i+1∨s.length=0)→rec ((i+1:Nat):Int)=some (r.all Ll&&(decide (1≤s.length∧s.length≤12)&&!MW s)))→Zt n s rec (i:Int)=some ((x :: r).all Ll&&(decide (1≤s.length∧s.length≤12)&&!MW s)):=by
  intro rec a i x r ha hd hx hi hw hr
  simp only [Zt,Qc,QL,ZF,hx,ZW,hw,Zx,Kh,wG]
  rw [YU zo,cond_true,K7 (show ¬ (i:Int)=0 by omega),cond_false,hr () (Or.inl zo),List.all_cons]
  show (bif !Ll x then some false else _)=_
  cases Ll x <;> rfl
 cases s with
 | nil =>
  have:=EX (l:=[]) (fun (_:Unit) i=>i) (F:=fun _ r=>r.all Ll&&(decide (1≤([]:List UInt8).length∧([]:List UInt8).length≤12)&&!MW [])) (fun i _=>1≤i∨([]:List UInt8).length=0) zq h1 h2 (n:=n) 0 () (Or.inr rfl) zq (by simp; omega)
  rw [show ((0:Nat):Int)=0 from rfl] at this
  rw [this]; rfl
 | cons x r =>
  obtain ⟨m,rfl⟩:∃ m,n=m+1:=⟨n - 1,by omega⟩
  have hs:=EX (l:=x :: r) (fun (_:Unit) i=>i) (F:=fun _ q=>q.all Ll&&(decide (1≤(x :: r).length∧(x :: r).length≤12)&&!MW (x :: r))) (fun i _=>1≤i∨(x :: r).length=0) zo h1 h2 (n:=m) 1 () (Or.inl (Nat.le_refl _)) zq (by simp at hl ⊢; omega)
  rw [show ((1:Nat):Int)=1 from rfl] at hs
  unfold QT
  show Zt (m+1) (x :: r) (QT (Zt (m+1) (x :: r)) m) 0=_
  generalize QT (Zt (m+1) (x :: r)) m=L at hs ⊢
  unfold Zt
  rw [show Q4 (x :: r) 0=some x from rfl]
  simp only [Qc,QL,ZW,Zx,Kh,wG,show wi (0+1)=1 from rfl]
  rw [hs,YU (show (0:Int) < ((x :: r).length:Nat) by simp),cond_true,decide_true,cond_true]
  unfold Uk
  simp only [List.head?_cons,Option.mem_def,Zb,forall_eq',List.drop_succ_cons,List.drop_zero,List.all_cons]
  by_cases hx:97≤KN x∧KN x≤122
  ·rw [YU hx]
   have:Ll x=true:=by unfold Ll; rw [YU]; exact Or.inl hx
   rw [this]
   cases decide (1≤(x :: r).length∧(x :: r).length≤12) <;> cases MW (x :: r) <;> cases r.all Ll <;> rfl
  ·rw [K7 hx]
   cases decide (1≤(x :: r).length∧(x :: r).length≤12) <;> rfl
theorem yx (n:Nat) (s:List UInt8) (hn:1000≤n):Xb n s=some (decide (1≤s.length∧s.length≤12)&&decide (∀ x ∈ s.head?,97≤KN x∧KN x≤122)&&s.all Ll):=by
 unfold Xb
 simp only [Qc,QL]
 cases s with
 | nil=>simp
 | cons x r =>
  rw [K7 (show ¬ (((x :: r).length:Nat):Int) < 1 by simp only [E8]; omega),cond_false]
  by_cases hl:(x :: r).length≤12
  rotate_left
  ·rw [YU (show (12:Int) < (((x :: r).length:Nat):Int) by omega),K7 (show ¬ (1≤(x :: r).length∧(x :: r).length≤12) by omega)]; rfl
  rw [K7 (show ¬ (12:Int) < (((x :: r).length:Nat):Int) by omega),cond_false,YU (show 1≤(x :: r).length∧(x :: r).length≤12 by simp only [E8] at hl ⊢; omega)]
  rw [show Q4 (x :: r) 0=some x from rfl]
  have hloop:QT (fun recl7 l7=>YC (x :: r) recl7 l7) n 1=some (r.all Ll):=by
   have:=Ic (l:=x :: r) (B:=fun recl7 l7=>YC (x :: r) recl7 l7) (F:=fun r=>r.all Ll) zo ?_ ?_ (n:=n) 1 zq zo
   ·simpa using this
   ·intro rec; simp [YC,QL,Qc]
   ·intro rec i y q hd hx hi hw hr
    unfold YC
    simp only [Qc,ZF,hx,ZW,hw,hr,QL,leI,Qi,Zx]
    rw [YU zo,cond_true,List.all_cons]
    rw [d9,Ll]
    cases decide ((97≤KN y∧KN y≤122)∨(48≤KN y∧KN y≤57)∨KN y=95) <;> simp
  rw [hloop]
  simp only [ZW,Zx,List.head?_cons,Option.mem_def,Zb,forall_eq',Bool.true_and,List.all_cons]
  by_cases h1:KN x < 97
  ·rw [YU h1,K7 (show ¬ (97≤KN x∧KN x≤122) by omega)]; rfl
  ·rw [K7 h1,cond_false]
   by_cases h2:122 < KN x
   ·rw [YU h2,K7 (show ¬ (97≤KN x∧KN x≤122) by omega)]; rfl
   ·have h3:97≤KN x∧KN x≤122:=by omega
    have h4:Ll x=true:=by unfold Ll; rw [YU]; exact Or.inl h3
    rw [K7 h2,YU h3,h4]; rfl
theorem aX (b:Bool) (k r:Int) (hk:k ≠ 0):(!Qi (bif b then k else r) 0)=(b||!Qi r 0):=by
 cases b
 ·rfl
 ·simp [Qi,hk]
theorem cu (n:Nat) (s:List UInt8):UD n s=some (MW s):=by
 unfold UD XG V6 YR WK
 rw [zD]
 simp only [Zx,ZW,cse,iw,keyL,Vt,ZJ,Zi,ZK,Option.getD_some,List.cons_append,List.nil_append,List.contains_cons,List.contains_nil,Bool.or_false,QK]
 rw [aX _ 1 _ (by decide),aX _ 2 _ (by decide),aX _ 3 _ (by decide),aX _ 4 _ (by decide),aX _ 5 _ (by decide),aX _ 6 _ (by decide),aX _ 7 _ (by decide),show (!Qi 0 0)=false from rfl]
 simp only [Bool.or_assoc,Bool.or_false]
theorem EY (n:Nat) (s:List UInt8) (hn:1000≤n):Je n s=some (Uk s):=by
 unfold Je Uk
 rw [yx n s hn,ZW,cu,ZW,Zx]
 generalize decide (1≤s.length∧s.length≤12)=a
 generalize decide (∀ x ∈ s.head?,97≤KN x∧KN x≤122)=b
 generalize s.all Ll=c
 generalize MW s=d
 cases a <;> cases b <;> cases c <;> cases d <;> rfl
theorem OD (k:Int) (s:List UInt8) (m t:Int) (l:List (List PV)):GN.of (GN.cs ⟨k,s,m,t,l⟩)=some ⟨k,s,m,t,l⟩:=by
 unfold GN.cs GN.of
 simp only [IY,RL,if_true]
theorem cz {V R:Type} (B:(V→Option R)→V→Option R) (n:Nat) (v:V):QT B (n+1) v=B (QT B n) v:=rfl
def ZC:Nat→GN→Prop
 | 0,_=>False
 | d+1,x=>(-9223372036854775808≤x.Kind∧x.Kind≤9223372036854775807)∧(-9223372036854775808≤x.N∧x.N≤9223372036854775807)∧(-9223372036854775808≤x.At∧x.At≤9223372036854775807)∧x.Name.length≤maxLen∧x.Kids.length≤maxLen∧∀ k ∈ x.Kids,∃ y,GN.of k=some y∧ZC d y
def Nv (d:Nat) (l:List (List PV)):Prop:=∀ k ∈ l,∃ y,GN.of k=some y∧ZC d y
theorem Q5 {d:Nat} {x:GN} (h:ZC d x):∃ e,d=e+1∧x.Kids.length≤9223372036854775807∧x.Name.length≤9223372036854775807∧Nv e x.Kids:=by
 cases d with
 | zero=>exact h.elim
 | succ e=>exact ⟨e,rfl,by have:=h.2.2.2.2.1; simpa [maxLen] using this,by have:=h.2.2.2.1; simpa [maxLen] using this,h.2.2.2.2.2⟩
theorem RF {d:Nat} {l:List (List PV)} (h:Nv d l) {i:Nat} (hi:i < l.length):∃ y,Option.bind (Q4 l (i:Int)) GN.of=some y∧ZC d y∧(l.drop i=l[i]'hi :: l.drop (i+1)∧GN.of (l[i]'hi)=some y):=by
 obtain ⟨y,e,t⟩:=h (l[i]'hi) (List.getElem_mem hi)
 refine ⟨y,?_,t,List.drop_eq_getElem_cons hi,e⟩
 rw [ZF,List.getElem?_eq_getElem hi]
 exact e
def Tot {α:Type} (m:Option α):Prop:=Does m fun _=>True
theorem Q7 {α:Type} (x:α):Tot (some x):=⟨x,rfl,trivial⟩
theorem Zn {α:Type} {b:Bool} {x y:Option α} (h1:b=true→Tot x) (h2:b=false→Tot y):Tot (cond b x y):=Ib h1 h2
theorem Yu {α β:Type} {m:Option α} {k:α→Option β} (h:Tot m) (hk:∀ x,Tot (k x)):Tot (m.bind k):=XK h fun x _=>hk x
theorem aY {α:Type} {m:Option α} {x:α} (h:m=some x):Tot m:=⟨x,h,trivial⟩
theorem mQ {α:Type} {m:Option α} {Q:α→Prop} (h:Does m Q):Tot m:=Yf h fun _ _=>trivial
theorem Ta {R:Type} {B:(Int→Option R)→Int→Option R} {L:Nat} (hL:L≤9223372036854775807)
  (hB:∀ (rec:Int→Option R) (i:Nat),i≤L→(i < L→wi ((i:Int)+1)=((i+1:Nat):Int)∧Tot (rec ((i+1:Nat):Int)))→Tot (B rec (i:Int))) :
  ∀ {n:Nat} (i:Nat),i≤L→L - i < n→Tot (QT B n (i:Int))
 | 0,_,_,h=>absurd h (Nat.not_lt_zero _)
 | n+1,i,hi,h=>hB _ i hi fun h1=>⟨by rw [Y7 zo zo]; omega,Ta hL hB (i+1) zo zo⟩
theorem MX:∀ (m n d:Nat) (x:GN) (most:Int),ZC d x→0≤most→most≤m→m≤1000000→m+3≤n→Does (ZV n x most) (fun r=>1≤r∧r≤most+1):=by
 intro m
 induction m with
 | zero =>
  intro n d x most ht h0 h1 h2 h3
  obtain ⟨n,rfl⟩:∃ q,n=q+1+1:=⟨n - 2,by omega⟩
  obtain rfl:most=0:=by omega
  refine ⟨1,?_,by omega,by omega⟩
  unfold ZV Yb
  rw [cz]
  unfold Ya
  simp only [show leI 1 0=false from rfl,Zx,ZW]
  cases QL 0 (Qc (List.map KI x.Kids)) <;> rfl
 | succ m ih =>
  intro n d x most ht h0 h1 h2 h3
  obtain ⟨n,rfl⟩:∃ q,n=q+1:=⟨n - 1,by omega⟩
  obtain ⟨e,rfl,hl,_,hk⟩:=Q5 ht
  unfold ZV Yb
  refine KX (Q:=fun _ r=>1≤r∧r≤most+1) (fun v=>(most+1 - v.1).toNat) (fun v=>1≤v.1∧v.1≤most+1∧∃ i:Nat,v.2=(i:Int)∧i≤x.Kids.length) ?_ ⟨by omega,by omega,0,rfl,by omega⟩ (by simp only; omega)
  rintro rec ⟨many,E9⟩ ⟨g1,g2,i,hi,hil⟩ hrec
  simp only at g1 g2 hi hrec ⊢
  subst hi
  unfold Ya
  simp only [Qc,List.length_map,QL,leI]
  by_cases c1:i < x.Kids.length
  rotate_left
  ·rw [K7 zo]
   exact Qs ⟨g1,g2⟩
  rw [YU zo]
  by_cases c2:many≤most
  rotate_left
  ·rw [K7 c2]
   exact Qs ⟨g1,g2⟩
  rw [YU c2]
  obtain ⟨y,hy,hty,_⟩:=RF hk c1
  simp only [cond_true,ZW]
  rw [hy,ZW,Y7 (x:=most - many) zo zo]
  refine XK (ih n e y (most - many) hty zo zo zo zo) ?_
  rintro r ⟨r1,r2⟩
  rw [Y7 (x:=many+r) zo zo,Y7 (x:=(i:Int)+1) zo zo]
  exact hrec (many+r,(i:Int)+1) ⟨by simp only; omega,by simp only; omega,i+1,by simp,c1⟩ (by simp only; omega)
theorem xx:∀ (m n d:Nat) (x:GN) (depth:Int),ZC d x→0≤depth→depth≤m→m≤1000→m+9223372036854775810≤n→Tot (Vs n x depth):=by
 intro m
 induction m with
 | zero =>
  intro n d x depth ht h0 h1 h2 h3
  obtain ⟨n,rfl⟩:∃ q,n=q+1:=⟨n - 1,by omega⟩
  obtain rfl:depth=0:=by omega
  exact ⟨false,rfl,trivial⟩
 | succ m ih =>
  intro n d x depth ht h0 h1 h2 h3
  obtain ⟨n,rfl⟩:∃ q,n=q+1:=⟨n - 1,by omega⟩
  by_cases c0:depth=0
  ·subst c0
   exact ⟨false,rfl,trivial⟩
  obtain ⟨e,rfl,hl,_,hk⟩:=Q5 ht
  unfold Vs Wh
  refine Yu (Zn (fun _=>Q7 _) (fun _=>Q7 _)) fun j1=>Zn (fun _=>Q7 _) fun _=>?_
  refine Ta (L:=x.Kids.length) hl (fun rec i hi hr=>?_) 0 zo zo
  unfold Jg
  simp only [Qc,List.length_map,QL]
  by_cases c1:i < x.Kids.length
  rotate_left
  ·rw [K7 zo]; exact Q7 _
  rw [YU zo,cond_true]
  obtain ⟨y,hy,hty,_⟩:=RF hk c1
  obtain ⟨w1,w2⟩:=hr c1
  rw [hy,ZW,Y7 (x:=depth - 1) zo zo,w1]
  exact Yu (ih n e y (depth - 1) hty zo zo zo zo) fun r=>Zn (fun _=>Q7 _) fun _=>w2
theorem OE {n:Nat} {l:List (List UInt8)} {s:List UInt8} (hn:9223372036854776000≤n) (hl:l.length≤900):Tot (Km n l s):=mQ (mO n l s zo hl)
theorem zF {n:Nat} {s:List UInt8} (hn:9223372036854776000≤n) (hl:s.length≤9223372036854775807):Tot (KW n s):=by
 unfold KW
 refine Ta (L:=s.length) hl (fun rec i hi hr=>?_) 0 zo zo
 unfold Zt
 simp only [Qc,QL]
 by_cases c1:i < s.length
 rotate_left
 ·rw [K7 zo,cond_false]; exact aY (OC n s zo)
 obtain ⟨w1,w2⟩:=hr c1
 rw [YU zo,cond_true,ZF,List.getElem?_eq_getElem c1,ZW,w1]
 simp only [Zx,ZW]
 exact Zn (fun _=>Q7 _) fun _=>w2
theorem xy {n:Nat} {x:GN} {b:Bool} (hn:9223372036854776000≤n) (hl:x.Name.length≤9223372036854775807):Tot (Vu n x b):=by
 unfold Vu ZK
 refine Zn (fun _=>Q7 _) fun _=>Zn (fun _=>?_) fun _=>?_
 ·simp only [Zx,ZW]; exact Q7 _
 ·refine Yu (Zn (fun _=>Zn (fun _=>Yu (zF hn hl) fun r=>Zn (fun _=>Q7 _) fun _=>Zn (fun _=>?_) fun _=>Q7 _) fun _=>Q7 _) fun _=>Q7 _) fun _=>Q7 _
  rw [ZW]
  exact Yu (OE hn (by decide)) fun _=>Q7 _
theorem mR {n d:Nat} {x:GN} (ht:ZC d x) (hn:9223372036854776000≤n):Tot (Wi n x):=by
 obtain ⟨e,rfl,hl,_,hk⟩:=Q5 ht
 unfold Wi ZJ Zi
 refine Yu ?_ fun j=>Zn (fun _=>Q7 _) fun _=>?_
 ·refine Zn (fun _=>Q7 _) fun _=>Zn (fun _=>?_) fun _=>Zn (fun _=>?_) fun _=>Q7 _
  ·rw [ZW]
   refine Yu (OE hn (by decide)) fun _=>Zn (fun _=>Q7 _) fun _=>Zn (fun _=>?_) fun _=>Q7 _
   rw [ZW]
   exact Yu (OE hn (by decide)) fun _=>Q7 _
  ·rw [ZW]
   exact Yu (OE hn (by decide)) fun _=>Q7 _
 refine Ta (L:=x.Kids.length) hl (fun rec i hi hr=>?_) 0 zo zo
 unfold Yc
 simp only [Qc,List.length_map,QL]
 by_cases c1:i < x.Kids.length
 rotate_left
 ·rw [K7 zo]; exact Q7 _
 obtain ⟨y,hy,hty,_⟩:=RF hk c1
 obtain ⟨w1,w2⟩:=hr c1
 obtain ⟨_,_,_,hs,_⟩:=Q5 hty
 rw [YU zo,cond_true,hy,ZW,w1]
 exact Yu (xy hn hs) fun r=>Zn (fun _=>Q7 _) fun _=>w2
theorem xz {n d:Nat} {x:GN} (ht:ZC d x) (hn:9223372036854776000≤n):Tot (Wj n x):=by
 obtain ⟨e,rfl,hl,hs,hk⟩:=Q5 ht
 unfold Wj
 refine Yu ?_ fun j=>Zn (fun _=>Q7 _) fun _=>?_
 ·exact Zn (fun _=>Q7 _) fun _=>Zn (fun _=>Q7 _) fun _=>Zn (fun _=>Q7 _) fun _=>Yu (zF hn hs) fun _=>Q7 _
 refine Ta (L:=x.Kids.length) hl (fun rec i hi hr=>?_) 0 zo zo
 unfold YF
 simp only [Qc,List.length_map,QL]
 by_cases c1:i < x.Kids.length
 rotate_left
 ·rw [K7 zo]; exact Q7 _
 obtain ⟨y,hy,hty,_⟩:=RF hk c1
 obtain ⟨w1,w2⟩:=hr c1
 have hprev:∀ f:GN→Bool,Tot (cond (decide (0 < (i:Int))) ((Option.bind (Q4 x.Kids (wi ((i:Int) - 1))) GN.of).bind fun x15=>some (f x15)) (some false)):=by
  intro f
  refine Zn (fun h=>?_) fun _=>Q7 _
  have h0:0 < i:=by have:=of_decide_eq_true h; omega
  obtain ⟨z,hz,_⟩:=RF hk (show i - 1 < x.Kids.length by omega)
  rw [Y7 (x:=(i:Int) - 1) zo zo,show (i:Int) - 1=((i - 1:Nat):Int) by omega,hz]
  exact Q7 _
 rw [YU zo,cond_true,hy,ZW,w1]
 refine Yu (Yu (mR hty hn) fun r=>Zn (fun _=>Q7 _) fun _=>Zn (fun _=>Zn (fun _=>Q7 _) fun _=>?_) fun _=>?_) fun j=>Zn (fun _=>Q7 _) fun _=>w2
 ·exact Zn (fun _=>hprev fun z=>Qi z.Kind 4) fun _=>Q7 _
 ·exact Zn (fun _=>hprev fun z=>Qi z.Kind 4) fun _=>Q7 _
theorem yz {n d:Nat} {x:GN} (ht:ZC d x) (hn:9223372036854776000≤n):Tot (KP n x):=by
 have ht':=ht
 obtain ⟨e,rfl,hl,hs,hk⟩:=Q5 ht
 unfold KP
 refine Yu ?_ fun j=>Zn (fun _=>Q7 _) fun _=>?_
 ·exact Zn (fun _=>Q7 _) fun _=>Zn (fun _=>Q7 _) fun _=>Zn (fun _=>Q7 _) fun _=>Yu (mQ (MX 1500 n _ x 1500 ht' zo zo zo zo)) fun _=>Q7 _
 refine Ta (L:=x.Kids.length) hl (fun rec i hi hr=>?_) 0 zo zo
 unfold Yd
 simp only [Qc,List.length_map,QL]
 by_cases c1:i < x.Kids.length
 rotate_left
 ·rw [K7 zo]; exact Q7 _
 obtain ⟨y,hy,hty,_⟩:=RF hk c1
 obtain ⟨w1,w2⟩:=hr c1
 rw [YU zo,cond_true,hy,ZW,w1]
 exact Yu (xz hty hn) fun r=>Zn (fun _=>Q7 _) fun _=>w2
theorem QcC (l:List (List PV)):Qi (Qc (List.map KI l)) 0=decide (l=[]):=by
 rw [Kh,Qc,List.length_map]
 cases l
 ·rfl
 ·rw [K7 (by simp only [E8]; omega),K7 (by intro h; cases h)]
theorem K6 {R:Type} {B:(Int→Option R)→Int→Option R} {L:Nat} (Q:Nat→R→Prop) (hL:L≤9223372036854775807)
  (hB:∀ (rec:Int→Option R) (i:Nat),i≤L→(i < L→wi ((i:Int)+1)=((i+1:Nat):Int)∧Does (rec ((i+1:Nat):Int)) (Q (i+1)))→Does (B rec (i:Int)) (Q i)) :
  ∀ {n:Nat} (i:Nat),i≤L→L - i < n→Does (QT B n (i:Int)) (Q i)
 | 0,_,_,h=>absurd h (Nat.not_lt_zero _)
 | n+1,i,hi,h=>hB _ i hi fun h1=>⟨by rw [Y7 zo zo]; omega,K6 Q hL hB (i+1) zo zo⟩
def Qw (l:List (List PV)):List GN:=l.filterMap GN.of
theorem Xj {d:Nat} {l:List (List PV)} (h:Nv d l) {i:Nat} (hi:i < l.length):∃ y,Option.bind (Q4 l (i:Int)) GN.of=some y∧ZC d y∧Qw (l.drop i)=y :: Qw (l.drop (i+1)):=by
 obtain ⟨y,hy,ht,hd,hof⟩:=RF h hi
 refine ⟨y,hy,ht,?_⟩
 rw [hd]
 unfold Qw
 rw [List.filterMap_cons,hof]
theorem WT (l:List (List PV)) {i:Nat} (hi:l.length≤i):Qw (l.drop i)=[]:=by
 rw [List.drop_eq_nil_of_le hi]; rfl
def EZ (s:List UInt8):Bool:=((ZJ 0).getD []).contains s
def E5 (s:List UInt8):Bool:=((Zi 0).getD []).contains s
def Ig (s:List UInt8):Bool:=((ZK 0).getD []).contains s
theorem QcD (b c:Bool):(bif b then b else c)=(b||c):=by cases b <;> rfl
theorem xA (n:Nat) (s:List UInt8):V6 n s=some (EZ s):=by
 unfold V6 EZ ZJ
 simp only [Zx,ZW,cse,iw,Option.getD_some,List.contains_cons,List.contains_nil,Bool.or_false,QK]
theorem cB (n:Nat) (s:List UInt8):YR n s=some (E5 s):=by
 unfold YR E5 Zi
 simp only [Zx,ZW,cse,iw,Option.getD_some,List.contains_cons,List.contains_nil,Bool.or_false,QK]
theorem xB (n:Nat) (s:List UInt8):WK n s=some (Ig s):=by
 unfold WK Ig ZK
 simp only [Zx,ZW,cse,iw,Option.getD_some,List.contains_cons,List.contains_nil,Bool.or_false,QK]
theorem mU {n:Nat} {s:List UInt8} (hn:1000≤n):Does (Km n ((ZJ 0).getD []) s) (fun r=>leI 0 r=EZ s):=mO n _ s hn (by decide)
theorem cK {n:Nat} {s:List UInt8} (hn:1000≤n):Does (Km n ((Zi 0).getD []) s) (fun r=>leI 0 r=E5 s):=mO n _ s hn (by decide)
theorem mV {n:Nat} {s:List UInt8} (hn:1000≤n):Does (Km n ((ZK 0).getD []) s) (fun r=>leI 0 r=Ig s):=mO n _ s hn (by decide)
theorem wH {n:Nat} {s:List UInt8} (hn:9223372036854776000≤n) (hl:s.length≤9223372036854775807):KW n s=some (Uk s):=by
 by_cases h:s.length≤900
 ·exact aW n s zo h
 have hb:Uk s=false:=by
  unfold Uk
  rw [show decide (1≤s.length∧s.length≤12)=false from K7 zo]
  rfl
 rw [hb]
 have:Does (KW n s) (fun r=>r=false):=by
  unfold KW
  refine K6 (L:=s.length) (fun _ r=>r=false) hl (fun rec i hi hr=>?_) 0 zo zo
  unfold Zt
  simp only [Qc,QL]
  by_cases c1:i < s.length
  rotate_left
  ·rw [K7 zo,cond_false,OC n s zo,K7 zo]; exact Qs rfl
  obtain ⟨w1,w2⟩:=hr c1
  rw [YU zo,cond_true,ZF,List.getElem?_eq_getElem c1,ZW,w1]
  simp only [Zx,ZW]
  exact Ib (fun _=>Qs rfl) fun _=>w2
 obtain ⟨r,e,rfl⟩:=this
 exact e
def H8 (words:Bool) (x:GN):Bool :=
 decide (x.Kids=[])&&(bif decide (x.Kind=6) then decide (x.Name=[])&&(decide (0≤x.N)&&decide (x.N≤1000000)) else decide (x.Kind=5)&&(decide (x.N=0)&&(Uk x.Name||(words&&Ig x.Name))))
theorem cO (s:List UInt8):QK s []=decide (s=[]):=by
 cases s <;> rfl
theorem cZ {n:Nat} {x:GN} {b:Bool} (hn:1000≤n):WN n x b=some (H8 b x):=by
 unfold WN H8
 rw [EY n x.Name hn,xB,QcC,cO]
 simp only [ZW,Zx,Kh,leI]
 by_cases k5:x.Kind=5
 ·rw [k5]
  simp only [decide_true,cond_true,show decide ((5:Int)=6)=false from rfl,cond_false]
  cases decide (x.Kids=[]) <;> cases decide (x.N=0) <;> cases Uk x.Name <;> cases b <;> cases Ig x.Name <;> rfl
 ·rw [K7 k5]
  cases decide (x.Kids=[]) <;> cases decide (x.Kind=6) <;> cases decide (x.Name=[]) <;> cases decide (0≤x.N) <;> cases decide (x.N≤1000000) <;> rfl
theorem lt0 (l:List (List PV)):QL 0 (Qc (List.map KI l))=!decide (l=[]):=by
 cases l with
 | nil=>rfl
 | cons a r =>
  rw [K7 (by intro h; cases h)]
  exact YU (by simp only [Qc,List.length_map,E8]; omega)
theorem rf {n:Nat} {x:GN} {b:Bool} (hn:9223372036854776000≤n) (hl:x.Name.length≤9223372036854775807):Vu n x b=some (H8 b x):=by
 unfold Vu H8
 obtain ⟨r,e,h⟩:=mV (n:=n) (s:=x.Name) zo
 rw [wH hn hl,lt0,cO,show ZK n=some ((ZK 0).getD []) from rfl,ZW,ZW,e,ZW,h]
 simp only [ZW,Zx,Kh,leI]
 cases decide (x.Kids=[]) <;> cases decide (x.Kind=5) <;> cases decide (x.Kind=6) <;> cases decide (x.Name=[]) <;> cases decide (0≤x.N) <;> cases decide (x.N≤1000000) <;> cases decide (x.N=0) <;> cases Uk x.Name <;> cases b <;> cases Ig x.Name <;> rfl
def Vv (x:GN):Bool:=decide (x.N=0)&&((decide (x.Kind=3)&&EZ x.Name||decide (x.Kind=4)&&E5 x.Name)&&(Qw x.Kids).all (H8 (decide (x.Kind=4))))
theorem aZ {n d:Nat} {x:GN} (ht:ZC d x) (hn:9223372036854776000≤n):Wi n x=some (Vv x):=by
 obtain ⟨e,rfl,hl,_,hk⟩:=Q5 ht
 have hloop:QT (fun recl13 l13=>Yc n x recl13 l13) n 0=some ((Qw x.Kids).all (H8 (decide (x.Kind=4)))):=by
  have:=K6 (B:=fun recl13 l13=>Yc n x recl13 l13) (n:=n) (L:=x.Kids.length) (fun i r=>r=(Qw (x.Kids.drop i)).all (H8 (decide (x.Kind=4)))) hl (fun rec i hi hr=>?_) 0 zo zo
  ·obtain ⟨r,e,h⟩:=this
   rw [show ((0:Nat):Int)=0 from rfl] at e
   rw [e,h]; rfl
  unfold Yc
  simp only [Qc,List.length_map,QL]
  by_cases c1:i < x.Kids.length
  rotate_left
  ·rw [K7 zo,WT _ zo]; exact Qs rfl
  obtain ⟨y,hy,hty,hc⟩:=Xj hk c1
  obtain ⟨w1,w2⟩:=hr c1
  obtain ⟨_,_,_,hs,_⟩:=Q5 hty
  rw [YU zo,cond_true,hy,ZW,w1,rf hn hs,ZW,hc,List.all_cons,Kh]
  cases H8 (decide (x.Kind=4)) y
  ·exact Qs rfl
  ·simpa using w2
 unfold Wi Vv
 obtain ⟨r1,e1,h1⟩:=mU (n:=n) (s:=x.Name) zo
 obtain ⟨r2,e2,h2⟩:=cK (n:=n) (s:=x.Name) zo
 rw [hloop,show ZJ n=some ((ZJ 0).getD []) from rfl,show Zi n=some ((Zi 0).getD []) from rfl]
 simp only [ZW,e1,e2,h1,h2,Zx,Kh]
 cases decide (x.N=0) <;> cases decide (x.Kind=3) <;> cases decide (x.Kind=4) <;> cases EZ x.Name <;> cases E5 x.Name <;> rfl
theorem ib {n d:Nat} {x:GN} {left:Int} (ht:ZC d x) (hn:9223372036854776000≤n) (hle:(x.Kids.length:Int)≤left∧left≤1500):Does (Jt n x left) (fun r=>r.1=Vv x∧(Vv x=true→r.2=left - x.Kids.length)):=by
 obtain ⟨e,rfl,hl,_,hk⟩:=Q5 ht
 have hw:wi (left - Qc (List.map KI x.Kids))=left - x.Kids.length:=by
  simp only [Qc,List.length_map]; exact Y7 zo zo
 have hloop:QT (fun recl9 l9=>YV n x left recl9 l9) n 0=some ((Qw x.Kids).all (H8 (decide (x.Kind=4))),left - x.Kids.length):=by
  have:=K6 (B:=fun recl9 l9=>YV n x left recl9 l9) (n:=n) (L:=x.Kids.length) (fun i r=>r=((Qw (x.Kids.drop i)).all (H8 (decide (x.Kind=4))),left - (x.Kids.length:Int))) hl (fun rec i hi hr=>?_) 0 zo zo
  ·obtain ⟨r,e,h⟩:=this
   rw [show ((0:Nat):Int)=0 from rfl] at e
   rw [e,h]; rfl
  unfold YV
  rw [hw]
  simp only [Qc,List.length_map,QL]
  by_cases c1:i < x.Kids.length
  rotate_left
  ·rw [K7 zo,WT _ zo]; exact Qs rfl
  obtain ⟨y,hy,hty,hc⟩:=Xj hk c1
  obtain ⟨w1,w2⟩:=hr c1
  rw [YU zo,cond_true,hy,ZW,w1,cZ zo,ZW,hc,List.all_cons,Kh]
  cases H8 (decide (x.Kind=4)) y
  ·exact Qs rfl
  ·simpa using w2
 unfold Jt
 rw [hloop,xA,cB,hw,show QL (left - (x.Kids.length:Int)) 0=false from yV zo]
 simp only [ZW,Zx,Kh]
 have hp:Vv x=(decide (x.N=0)&&((decide (x.Kind=3)&&EZ x.Name||decide (x.Kind=4)&&E5 x.Name)&&(Qw x.Kids).all (H8 (decide (x.Kind=4))))):=rfl
 rw [hp]
 generalize (Qw x.Kids).all (H8 (decide (x.Kind=4)))=z
 by_cases k3:x.Kind=3
 ·rw [k3]
  cases decide (x.N=0) <;> cases EZ x.Name <;> cases z <;> exact Qs ⟨rfl,fun h=>by first | rfl | cases h⟩
 ·rw [K7 k3]
  cases decide (x.N=0) <;> cases decide (x.Kind=4) <;> cases E5 x.Name <;> cases z <;> exact Qs ⟨rfl,fun h=>by first | rfl | cases h⟩
def F8 (n7:Bool):Bool→List GN→Bool
 | _,[]=>true
 | p,k :: r=>(Vv k&&!(decide (k.Kind=4)&&!n7)&&!(decide (k.Kind=3)&&p))&&F8 n7 (decide (k.Kind=4)) r
def G9 (n7:Bool):Bool→List GN→Bool
 | fl,[]=>!fl||n7
 | fl,k :: r=>bif decide (k.Kind=4) then Vv k&&G9 n7 true r else bif fl then false else Vv k&&G9 n7 fl r
theorem xD {k:GN} (h:Vv k=true) (h4:decide (k.Kind=4)=false):decide (k.Kind=3)=true:=by
 unfold Vv at h
 rw [h4] at h
 cases h3:decide (k.Kind=3)
 ·rw [h3] at h
  simp at h
 ·rfl
theorem MZ (n7:Bool):∀ (l:List GN) (fl:Bool),G9 n7 fl l=((!fl||n7)&&F8 n7 fl l)
 | [],fl=>by simp [G9,F8]
 | k :: r,fl=>by
  unfold G9 F8
  rw [MZ n7 r true,MZ n7 r fl]
  cases hp:Vv k
  ·cases decide (k.Kind=4) <;> cases fl <;> simp
  cases h4:decide (k.Kind=4)
  ·rw [xD hp h4]
   cases fl <;> cases n7 <;> simp
  ·have h3:decide (k.Kind=3)=false:=by
    have:=of_decide_eq_true h4
    rw [this]; rfl
   rw [h3]
   cases fl <;> cases n7 <;> simp
def Sg (l:List GN):Int:=(l.map fun k=>(k.Kids.length:Int)).sum
def He (x:GN):Bool:=decide (x.Kind=2)&&(decide (1≤x.N)&&(decide (x.N≤7)&&(Uk x.Name&&F8 (decide (x.N=7)) false (Qw x.Kids))))
end Go.Proofs
