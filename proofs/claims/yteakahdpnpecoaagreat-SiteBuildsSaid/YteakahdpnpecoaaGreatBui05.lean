/-
  A part of the proof of a statement of the seat YteakahdpnpecoaaGreat.
-/
import Derived.Test.YteakahdpnpecoaaGreatBui04
set_option linter.unusedVariables false
namespace Go.Proofs
open Go Go.Abs
set_option maxRecDepth 100000
theorem Al (n:Nat) (yI:GN) (yC:ZJ) (yK:ZT) (yG:ZY) (yB:Zi) (yS:Qm) (yF:Bool) (yD:List ZX) (h7_m:List ((List UInt8) × Bool)) (h8_m:List ((List UInt8) × Kt)) (h10_m:List ((List UInt8) × Bool)):∀ r,Hq n yI yC yK yG yB yS yF yD h7_m h8_m h10_m=some r→WF Tryz.prog 59 [YR, .mv 1011] (Go.Abs.look (MQ yI yC yK yG yB yS yF yD h7_m h8_m h10_m)) (Xo (CL (fun r:Unit=>((.ret (.tup []),MQ yI yC yK yG yB yS yF yD h7_m h8_m h10_m):QX × List (Nat × Blk))) (fun e:(Int × Int)=>((.panic (.ifc 116 (.agg [I e.1,I e.2])),MQ yI yC yK yG yB yS yF yD h7_m h8_m h10_m):QX × List (Nat × Blk)))) r):=by
 refine Y3 (X:=CL (fun r:Unit=>((.ret (.tup []),MQ yI yC yK yG yB yS yF yD h7_m h8_m h10_m):QX × List (Nat × Blk))) (fun e:(Int × Int)=>((.panic (.ifc 116 (.agg [I e.1,I e.2])),MQ yI yC yK yG yB yS yF yD h7_m h8_m h10_m):QX × List (Nat × Blk)))) (MQ yI yC yK yG yB yS yF yD h7_m h8_m h10_m) Tryz.func59 rfl Tryz.ntmps59 rfl ?_
 unfold Hq
 refine ZR (fun _=>⟨[(0,YR)],Pg yI yC yK yG yB yS yF yD h7_m h8_m h10_m⟩:Unit→St) (fun _=>Vt n yI yC yG h10_m) ?_ ?_
 ·rintro _
  show QV (Vt n yI yC yG h10_m) _ _ _ _ _ _
  unfold Vt
  refine K6 (fun j2=>⟨[(0,YR),(68,B j2)],Pg yI yC yK yG yB yS yF yD h7_m h8_m h10_m⟩:Bool→St) ?_ ?_
  rotate_left
  ·rintro j2
   refine sC j2 Qa ?_ ?_
   ·refine sG (xR 4 Qa (Vo [] [I 3, .agg [I yI.Kind,S yI.Name,I yI.N,I yI.At, .p (.sl 5 (mI yI.Kids))]] [] [] [] Qa Tryz.func49 rfl Tryz.ntmps49 rfl Qa Qa Qa (Qg Qd (Hm 3 yI) Qa (sG (xR 6 Qa (XM 116 (.agg [I 3,I yI.At]) Qa rfl Qa (ZN [] [] Qa ?_)))))))
    exact Kn Yg [] Qa Qa Qa
   refine sK ?_
   exact Qam (.id) Yg [] Qa Qa Qa Qa
  refine sG (xR 4 Qa ?_)
  refine ZH Qa Qa (Zt (kt:=9) (e:=4) (ke:=QT) (ve:=QU) (eq:=Qb) (b:=1010) (m:=h10_m) (k:=[116,104,101,114,109,97,108]) (z0:=false) rfl Qa Qa Qa Qa Qa QS (fun _ _=>Q0 rfl _ _) Qa) ?_
  refine xR 1 Qa ?_
  refine xS (QB Qb [116,104,101,114,109,97,108] false h10_m) (fun h3=>?_) (fun h3=>?_)
  rotate_left
  ·refine xN (Qr Qa h3) Qa (xR 15 Qa ?_)
   refine xS (Qi yI.N 5) (fun h8=>?_) (fun h8=>?_)
   ·refine xO (Qq Qa h8) Qa (xR 3 Qa ?_)
    refine xC [] Qa (J6 n yG) Qa Qa QS (fun r9=>?_)
    refine xR 3 Qa (xE ?_)
    exact QQ (!r9) Qa
   refine xN (Qr Qa h8) Qa (xR 7 Qa (xE ?_))
   exact QQ false Qa
  refine xO (Qq Qa h3) Qa (xR 4 Qa ?_)
  refine xC [] Qa (UB n yC.Cable) Qa Qa QS (fun r4=>?_)
  refine xR 3 Qa ?_
  refine xS (!r4) (fun h5=>?_) (fun h5=>?_)
  ·refine xN (Qx Qa h5) Qa (xR 14 Qa (xE ?_))
   exact QQ true Qa
  refine xO (Qw Qa h5) Qa (xR 6 Qa ?_)
  refine xS (Qi yI.N 5) (fun h6=>?_) (fun h6=>?_)
  ·refine xO (Qq Qa h6) Qa (xR 3 Qa ?_)
   refine xC [] Qa (J6 n yG) Qa Qa QS (fun r7=>?_)
   refine xR 3 Qa (xE ?_)
   exact QQ (!r7) Qa
  refine xN (Qr Qa h6) Qa (xR 7 Qa (xE ?_))
  exact QQ false Qa
 refine sS (sG (xR 1 Qa ?_))
 refine mq (t:=75) (m:=1011) (b:=700) (es:=(UH 1012 1013 1014 1015 1016 1017 1018 1019 1020 1021)) Qa rfl rfl Qa Qa Qa Qa Qa (fun en10 ck11 hb11=>?_)
 refine xE (Qp ⟨[(0,YR),(7, .iv 700)],[(700, .it 1011 ck11 (#[]))]++Dr yI yC yK yG yB yS yF yD h7_m h8_m h10_m en10 ck11++Dt⟩ Qa (sB (EU ⟨[(0,YR),(7, .iv 700)],[(700, .it 1011 ck11 (#[]))]++Dr yI yC yK yG yB yS yF yD h7_m h8_m h10_m en10 ck11++Dt⟩ Qa (yQ (b:=700) (m:=1011) (es:=(UH 1012 1013 1014 1015 1016 1017 1018 1019 1020 1021)) _ hb11 rfl rfl Qa Qa Qa Qa Qa Qa Qa rfl ?_ ?_ ?_))))
 ·repeat' first | exact mE | exact lT | exact Qav | exact zG | refine xn ?_ ?_ | refine mr ?_ ?_ | refine mD fun _=>?_
 ·intro sn12 _ hN14
  refine xR 1 Qa (xE (Qp ⟨[(0,YR),(9,B false)],Dr yI yC yK yG yB yS yF yD h7_m h8_m h10_m en10 ck11++Dt⟩ Qa (Zz (JS (en:=en10) (ck:=ck11) 1011 (UH 1012 1013 1014 1015 1016 1017 1018 1019 1020 1021) Qa) (EU ⟨[(0,YR),(9,B false)],Pg yI yC yK yG yB yS yF yD h7_m h8_m h10_m⟩ Qa (sS (Zn Qa (Qz ?_)))))))
  refine ZW (Qcf hN14 (QW ?_))
  exact KQ (k:=fun _=>Vt n yI yC yG h10_m) () Qa
 refine VH ?_ (VH ?_ (VH ?_ (VH ?_ (VH ?_ (VH ?_ (VH ?_ (VH ?_ (VH ?_ (VH ?_ (VH ?_ (VH ?_ (VH ?_ (bP)))))))))))))
 ·intro sn15 q16 _ hN17
  refine xR 1 Qa (xE (Qp (MR ck11 (sn15.push (Q5 en10 0)) yI yC yK yG yB yS yF yD h7_m h8_m h10_m en10) Qa (sS (Zm Qa (sK (Qp (MS ck11 (sn15.push (Q5 en10 0)) yI yC yK yG yB yS yF yD h7_m h8_m h10_m en10) Qa (sB ?_)))))))
  refine sS (sG (VG (b:=700) (m:=1011) (es:=(UH 1012 1013 1014 1015 1016 1017 1018 1019 1020 1021)) (sn:=sn15) 0 hb11 Qa rfl Qa Qa Qa Qa rfl rfl (xR 5 Qa (xE (Qp (aN [108,105,109,105,116] false (.func 78) ck11 (sn15.push (Q5 en10 0)) yI yC yK yG yB yS yF yD h7_m h8_m h10_m en10) Qa ?_)))))
  refine CY 5 2 Qa (fun hw18=>?_)
  refine K6 (fun j19=>(MV j19 ck11 (sn15.push (Q5 en10 0)) yI yC yK yG yB yS yF yD h7_m h8_m h10_m en10):Bool→St) ?_ ?_
  ·refine Vq Qd rfl (xR 6 Qa ?_)
   refine xC [.agg [.sl 1, .id, .id], .id] Qa (QD n [1,2] false yI.N hw18) Qa Qa QS (fun r20=>?_)
   refine xR 1 Qa ?_
   refine xS r20 (fun h21=>?_) (fun h21=>?_)
   ·refine xO (Qq Qa h21) Qa (xR 9 Qa ?_)
    refine ZH Qa Qa (Zt (kt:=9) (e:=4) (ke:=QT) (ve:=QU) (eq:=Qb) (b:=1010) (m:=h10_m) (k:=[108,105,109,105,116]) (z0:=false) rfl Qa Qa Qa Qa Qa QS (fun _ _=>Q0 rfl _ _) Qa) ?_
    refine xR 2 Qa (YB Qa ?_)
    exact QQ (!(QB Qb [108,105,109,105,116] false h10_m)) Qa
   refine xN (Qr Qa h21) Qa (xR 12 Qa (YB Qa ?_))
   exact QQ false Qa
  rintro j19
  refine sC j19 Qa ?_ ?_
  ·refine Zz (JS (en:=en10) (ck:=ck11) 1011 (UH 1012 1013 1014 1015 1016 1017 1018 1019 1020 1021) Qa) (sG (xR 4 Qa (Vo [] [I 4, .agg [I yI.Kind,S yI.Name,I yI.N,I yI.At, .p (.sl 5 (mI yI.Kids))]] [] [] [] Qa Tryz.func49 rfl Tryz.ntmps49 rfl Qa Qa Qa (Qg Qd (Hm 4 yI) Qa (sG (xR 6 Qa (XM 116 (.agg [I 4,I yI.At]) Qa rfl Qa ?_)))))))
   refine ZN [] [] Qa (Ze (EQ hN17 (Ze (Zl ?_))))
   exact Kn Yg [] Qa Qa Qa
  refine sK (Q6 ?_)
  exact MC hN17 ⟨[0,7],[700]++Yg,[],[]⟩ Qa
 ·intro sn22 q23 _ hN24
  refine xR 1 Qa (xE (Qp (MR ck11 (sn22.push (Q5 en10 1)) yI yC yK yG yB yS yF yD h7_m h8_m h10_m en10) Qa (sS (Zm Qa (sK (Qp (MS ck11 (sn22.push (Q5 en10 1)) yI yC yK yG yB yS yF yD h7_m h8_m h10_m en10) Qa (sB ?_)))))))
  refine sS (sG (VG (b:=700) (m:=1011) (es:=(UH 1012 1013 1014 1015 1016 1017 1018 1019 1020 1021)) (sn:=sn22) 1 hb11 Qa rfl Qa Qa Qa Qa rfl rfl (xR 5 Qa (xE (Qp (aN [110,101,117,116,114,97,108] false (.func 79) ck11 (sn22.push (Q5 en10 1)) yI yC yK yG yB yS yF yD h7_m h8_m h10_m en10) Qa ?_)))))
  refine CY 5 2 Qa (fun hw25=>?_)
  refine K6 (fun j26=>(MV j26 ck11 (sn22.push (Q5 en10 1)) yI yC yK yG yB yS yF yD h7_m h8_m h10_m en10):Bool→St) ?_ ?_
  ·refine Vq Qd rfl (xR 6 Qa ?_)
   refine xC [.agg [.sl 1, .id, .id], .id] Qa (QD n [1,2] false yI.N hw25) Qa Qa QS (fun r27=>?_)
   refine xR 1 Qa ?_
   refine xS r27 (fun h28=>?_) (fun h28=>?_)
   ·refine xO (Qq Qa h28) Qa (xR 9 Qa ?_)
    refine ZH Qa Qa (Zt (kt:=9) (e:=4) (ke:=QT) (ve:=QU) (eq:=Qb) (b:=1010) (m:=h10_m) (k:=[110,101,117,116,114,97,108]) (z0:=false) rfl Qa Qa Qa Qa Qa QS (fun _ _=>Q0 rfl _ _) Qa) ?_
    refine xR 2 Qa (YB Qa ?_)
    exact QQ (!(QB Qb [110,101,117,116,114,97,108] false h10_m)) Qa
   refine xN (Qr Qa h28) Qa (xR 12 Qa (YB Qa ?_))
   exact QQ false Qa
  rintro j26
  refine sC j26 Qa ?_ ?_
  ·refine Zz (JS (en:=en10) (ck:=ck11) 1011 (UH 1012 1013 1014 1015 1016 1017 1018 1019 1020 1021) Qa) (sG (xR 4 Qa (Vo [] [I 4, .agg [I yI.Kind,S yI.Name,I yI.N,I yI.At, .p (.sl 5 (mI yI.Kids))]] [] [] [] Qa Tryz.func49 rfl Tryz.ntmps49 rfl Qa Qa Qa (Qg Qd (Hm 4 yI) Qa (sG (xR 6 Qa (XM 116 (.agg [I 4,I yI.At]) Qa rfl Qa ?_)))))))
   refine ZN [] [] Qa (Ze (EQ hN24 (Ze (Zl ?_))))
   exact Kn Yg [] Qa Qa Qa
  refine sK (Q6 ?_)
  exact MC hN24 ⟨[0,7],[700]++Yg,[],[]⟩ Qa
 ·intro sn29 q30 _ hN31
  refine xR 1 Qa (xE (Qp (MR ck11 (sn29.push (Q5 en10 2)) yI yC yK yG yB yS yF yD h7_m h8_m h10_m en10) Qa (sS (Zm Qa (sK (Qp (MS ck11 (sn29.push (Q5 en10 2)) yI yC yK yG yB yS yF yD h7_m h8_m h10_m en10) Qa (sB ?_)))))))
  refine sS (sG (VG (b:=700) (m:=1011) (es:=(UH 1012 1013 1014 1015 1016 1017 1018 1019 1020 1021)) (sn:=sn29) 2 hb11 Qa rfl Qa Qa Qa Qa rfl rfl (xR 5 Qa (xE (Qp (aN [102,117,115,101] true (.func 80) ck11 (sn29.push (Q5 en10 2)) yI yC yK yG yB yS yF yD h7_m h8_m h10_m en10) Qa ?_)))))
  refine CY 5 2 Qa (fun hw32=>?_)
  refine K6 (fun _=>(MV false ck11 (sn29.push (Q5 en10 2)) yI yC yK yG yB yS yF yD h7_m h8_m h10_m en10):Unit→St) ?_ ?_
  ·refine Vq Qd rfl (xR 6 Qa ?_)
   refine xC [.agg [.sl 1, .id, .id], .id] Qa (QD n [1,2] true yI.N hw32) Qa Qa QS (fun r34=>?_)
   refine xR 1 Qa ?_
   refine xS r34 (fun h35=>?_) (fun h35=>?_)
   ·refine xO (Qq Qa h35) Qa (xR 12 Qa (YB Qa ?_))
    exact QQ () Qa
   refine xN (Qr Qa h35) Qa (xR 12 Qa (YB Qa ?_))
   exact QQ () Qa
  rintro _
  refine Zn Qa (sK (Q6 ?_))
  exact MC hN31 ⟨[0,7],[700]++Yg,[],[]⟩ Qa
 ·intro sn36 q37 _ hN38
  refine xR 1 Qa (xE (Qp (MR ck11 (sn36.push (Q5 en10 3)) yI yC yK yG yB yS yF yD h7_m h8_m h10_m en10) Qa (sS (Zm Qa (sK (Qp (MS ck11 (sn36.push (Q5 en10 3)) yI yC yK yG yB yS yF yD h7_m h8_m h10_m en10) Qa (sB ?_)))))))
  refine sS (sG (VG (b:=700) (m:=1011) (es:=(UH 1012 1013 1014 1015 1016 1017 1018 1019 1020 1021)) (sn:=sn36) 3 hb11 Qa rfl Qa Qa Qa Qa rfl rfl (xR 5 Qa (xE (Qp ⟨O0 [116,104,101,114,109,97,108],[(5,Qa9),(700, .it 1011 ck11 (sn36.push (Q5 en10 3)))]++Dr yI yC yK yG yB yS yF yD h7_m h8_m h10_m en10 ck11++Dt⟩ Qa (K6 (fun _=>(MV false ck11 (sn36.push (Q5 en10 3)) yI yC yK yG yB yS yF yD h7_m h8_m h10_m en10):Unit→St) ?_ ?_))))))
  ·refine Vq Qd rfl (xR 6 Qa ?_)
   refine xC [.agg [.sl 1, .id, .id], .id] Qa (QD n [1,2] true yI.N (.func 81,#[],#[])) Qa Qa QS (fun r40=>?_)
   refine xR 1 Qa ?_
   refine xS r40 (fun h41=>?_) (fun h41=>?_)
   ·refine xO (Qq Qa h41) Qa (xR 12 Qa (YB Qa ?_))
    exact QQ () Qa
   refine xN (Qr Qa h41) Qa (xR 12 Qa (YB Qa ?_))
   exact QQ () Qa
  rintro _
  refine Zn Qa (sK (Q6 ?_))
  exact MC hN38 ⟨[0,7],[700]++Yg,[],[]⟩ Qa
 ·intro sn42 q43 _ hN44
  refine xR 1 Qa (xE (Qp (MR ck11 (sn42.push (Q5 en10 4)) yI yC yK yG yB yS yF yD h7_m h8_m h10_m en10) Qa (sS (Zm Qa (sK (Qp (MS ck11 (sn42.push (Q5 en10 4)) yI yC yK yG yB yS yF yD h7_m h8_m h10_m en10) Qa (sB ?_)))))))
  refine sS (sG (VG (b:=700) (m:=1011) (es:=(UH 1012 1013 1014 1015 1016 1017 1018 1019 1020 1021)) (sn:=sn42) 4 hb11 Qa rfl Qa Qa Qa Qa rfl rfl (xR 5 Qa (xE (Qp ⟨O0 [102,114,111,109],[(5,Qba),(700, .it 1011 ck11 (sn42.push (Q5 en10 4)))]++Dr yI yC yK yG yB yS yF yD h7_m h8_m h10_m en10 ck11++Dt⟩ Qa ?_)))))
  refine CY 5 2 Qa (fun hw45=>?_)
  refine K6 (fun j46=>(MV j46 ck11 (sn42.push (Q5 en10 4)) yI yC yK yG yB yS yF yD h7_m h8_m h10_m en10):Bool→St) ?_ ?_
  ·refine Vq Qd rfl (xR 6 Qa ?_)
   refine xC [.agg [.sl 1, .id, .id], .id] Qa (QD n [2] false yI.N hw45) Qa Qa QS (fun r47=>?_)
   refine xR 1 Qa ?_
   refine xS r47 (fun h48=>?_) (fun h48=>?_)
   ·refine xO (Qq Qa h48) Qa (xR 9 Qa ?_)
    refine ZH Qa Qa (Zt (kt:=9) (e:=4) (ke:=QT) (ve:=QU) (eq:=Qb) (b:=1010) (m:=h10_m) (k:=[102,114,111,109]) (z0:=false) rfl Qa Qa Qa Qa Qa QS (fun _ _=>Q0 rfl _ _) Qa) ?_
    refine xR 2 Qa (YB Qa ?_)
    exact QQ (!(QB Qb [102,114,111,109] false h10_m)) Qa
   refine xN (Qr Qa h48) Qa (xR 12 Qa (YB Qa ?_))
   exact QQ false Qa
  rintro j46
  refine sC j46 Qa ?_ ?_
  ·refine Zz (JS (en:=en10) (ck:=ck11) 1011 (UH 1012 1013 1014 1015 1016 1017 1018 1019 1020 1021) Qa) (sG (xR 4 Qa (Vo [] [I 4, .agg [I yI.Kind,S yI.Name,I yI.N,I yI.At, .p (.sl 5 (mI yI.Kids))]] [] [] [] Qa Tryz.func49 rfl Tryz.ntmps49 rfl Qa Qa Qa (Qg Qd (Hm 4 yI) Qa (sG (xR 6 Qa (XM 116 (.agg [I 4,I yI.At]) Qa rfl Qa ?_)))))))
   refine ZN [] [] Qa (Ze (EQ hN44 (Ze (Zl ?_))))
   exact Kn Yg [] Qa Qa Qa
  refine sK (Q6 ?_)
  exact MC hN44 ⟨[0,7],[700]++Yg,[],[]⟩ Qa
 ·intro sn49 q50 _ hN51
  refine xR 1 Qa (xE (Qp (MR ck11 (sn49.push (Q5 en10 5)) yI yC yK yG yB yS yF yD h7_m h8_m h10_m en10) Qa (sS (Zm Qa (sK (Qp (MS ck11 (sn49.push (Q5 en10 5)) yI yC yK yG yB yS yF yD h7_m h8_m h10_m en10) Qa (sB ?_)))))))
  refine sS (sG (VG (b:=700) (m:=1011) (es:=(UH 1012 1013 1014 1015 1016 1017 1018 1019 1020 1021)) (sn:=sn49) 5 hb11 Qa rfl Qa Qa Qa Qa rfl rfl (xR 5 Qa (xE (Qp ⟨O0 [111,119,110,101,114],[(5,Qbd),(700, .it 1011 ck11 (sn49.push (Q5 en10 5)))]++Dr yI yC yK yG yB yS yF yD h7_m h8_m h10_m en10 ck11++Dt⟩ Qa (K6 (fun j52=>(MV j52 ck11 (sn49.push (Q5 en10 5)) yI yC yK yG yB yS yF yD h7_m h8_m h10_m en10):Bool→St) ?_ ?_))))))
  ·refine Vq Qd rfl (xR 6 Qa ?_)
   refine xC [.agg [.sl 1, .id, .id], .id] Qa (QD n [4,5] false yI.N (.func 44,#[],#[])) Qa Qa QS (fun r53=>?_)
   refine xR 1 Qa ?_
   refine xS r53 (fun h54=>?_) (fun h54=>?_)
   ·refine xO (Qq Qa h54) Qa (xR 9 Qa ?_)
    refine ZH Qa Qa (Zt (kt:=9) (e:=4) (ke:=QT) (ve:=QU) (eq:=Qb) (b:=1010) (m:=h10_m) (k:=[111,119,110,101,114]) (z0:=false) rfl Qa Qa Qa Qa Qa QS (fun _ _=>Q0 rfl _ _) Qa) ?_
    refine xR 2 Qa (YB Qa ?_)
    exact QQ (!(QB Qb [111,119,110,101,114] false h10_m)) Qa
   refine xN (Qr Qa h54) Qa (xR 12 Qa (YB Qa ?_))
   exact QQ false Qa
  rintro j52
  refine sC j52 Qa ?_ ?_
  ·refine Zz (JS (en:=en10) (ck:=ck11) 1011 (UH 1012 1013 1014 1015 1016 1017 1018 1019 1020 1021) Qa) (sG (xR 4 Qa (Vo [] [I 4, .agg [I yI.Kind,S yI.Name,I yI.N,I yI.At, .p (.sl 5 (mI yI.Kids))]] [] [] [] Qa Tryz.func49 rfl Tryz.ntmps49 rfl Qa Qa Qa (Qg Qd (Hm 4 yI) Qa (sG (xR 6 Qa (XM 116 (.agg [I 4,I yI.At]) Qa rfl Qa ?_)))))))
   refine ZN [] [] Qa (Ze (EQ hN51 (Ze (Zl ?_))))
   exact Kn Yg [] Qa Qa Qa
  refine sK (Q6 ?_)
  exact MC hN51 ⟨[0,7],[700]++Yg,[],[]⟩ Qa
 ·intro sn55 q56 _ hN57
  refine xR 1 Qa (xE (Qp (MR ck11 (sn55.push (Q5 en10 6)) yI yC yK yG yB yS yF yD h7_m h8_m h10_m en10) Qa (sS (Zm Qa (sK (Qp (MS ck11 (sn55.push (Q5 en10 6)) yI yC yK yG yB yS yF yD h7_m h8_m h10_m en10) Qa (sB ?_)))))))
  refine sS (sG (VG (b:=700) (m:=1011) (es:=(UH 1012 1013 1014 1015 1016 1017 1018 1019 1020 1021)) (sn:=sn55) 6 hb11 Qa rfl Qa Qa Qa Qa rfl rfl (xR 5 Qa (xE (Qp ⟨O0 [114,97,110,107],[(5,Qbe),(700, .it 1011 ck11 (sn55.push (Q5 en10 6)))]++Dr yI yC yK yG yB yS yF yD h7_m h8_m h10_m en10 ck11++Dt⟩ Qa (K6 (fun j58=>(MV j58 ck11 (sn55.push (Q5 en10 6)) yI yC yK yG yB yS yF yD h7_m h8_m h10_m en10):Bool→St) ?_ ?_))))))
  ·refine Vq Qd rfl (xR 6 Qa ?_)
   refine xC [.agg [.sl 1, .id, .id], .id] Qa (QD n [4] false yI.N (.func 46,#[],#[])) Qa Qa QS (fun r59=>?_)
   refine xR 1 Qa ?_
   refine xS r59 (fun h60=>?_) (fun h60=>?_)
   ·refine xO (Qq Qa h60) Qa (xR 9 Qa ?_)
    refine ZH Qa Qa (Zt (kt:=9) (e:=4) (ke:=QT) (ve:=QU) (eq:=Qb) (b:=1010) (m:=h10_m) (k:=[114,97,110,107]) (z0:=false) rfl Qa Qa Qa Qa Qa QS (fun _ _=>Q0 rfl _ _) Qa) ?_
    refine xR 2 Qa (YB Qa ?_)
    exact QQ (!(QB Qb [114,97,110,107] false h10_m)) Qa
   refine xN (Qr Qa h60) Qa (xR 12 Qa (YB Qa ?_))
   exact QQ false Qa
  rintro j58
  refine sC j58 Qa ?_ ?_
  ·refine Zz (JS (en:=en10) (ck:=ck11) 1011 (UH 1012 1013 1014 1015 1016 1017 1018 1019 1020 1021) Qa) (sG (xR 4 Qa (Vo [] [I 4, .agg [I yI.Kind,S yI.Name,I yI.N,I yI.At, .p (.sl 5 (mI yI.Kids))]] [] [] [] Qa Tryz.func49 rfl Tryz.ntmps49 rfl Qa Qa Qa (Qg Qd (Hm 4 yI) Qa (sG (xR 6 Qa (XM 116 (.agg [I 4,I yI.At]) Qa rfl Qa ?_)))))))
   refine ZN [] [] Qa (Ze (EQ hN57 (Ze (Zl ?_))))
   exact Kn Yg [] Qa Qa Qa
  refine sK (Q6 ?_)
  exact MC hN57 ⟨[0,7],[700]++Yg,[],[]⟩ Qa
 ·intro sn61 q62 _ hN63
  refine xR 1 Qa (xE (Qp (MR ck11 (sn61.push (Q5 en10 7)) yI yC yK yG yB yS yF yD h7_m h8_m h10_m en10) Qa (sS (Zm Qa (sK (Qp (MS ck11 (sn61.push (Q5 en10 7)) yI yC yK yG yB yS yF yD h7_m h8_m h10_m en10) Qa (sB ?_)))))))
  refine sS (sG (VG (b:=700) (m:=1011) (es:=(UH 1012 1013 1014 1015 1016 1017 1018 1019 1020 1021)) (sn:=sn61) 7 hb11 Qa rfl Qa Qa Qa Qa rfl rfl (xR 5 Qa (xE (Qp ⟨O0 [99,97,114,100],[(5,Qbf),(700, .it 1011 ck11 (sn61.push (Q5 en10 7)))]++Dr yI yC yK yG yB yS yF yD h7_m h8_m h10_m en10 ck11++Dt⟩ Qa (K6 (fun j64=>(MV j64 ck11 (sn61.push (Q5 en10 7)) yI yC yK yG yB yS yF yD h7_m h8_m h10_m en10):Bool→St) ?_ ?_))))))
  ·refine Vq Qd rfl (xR 6 Qa ?_)
   refine xC [.agg [.sl 1, .id, .id], .id] Qa (QD n [4] false yI.N (.func 48,#[],#[])) Qa Qa QS (fun r65=>?_)
   refine xR 1 Qa ?_
   refine xS r65 (fun h66=>?_) (fun h66=>?_)
   ·refine xO (Qq Qa h66) Qa (xR 9 Qa ?_)
    refine ZH Qa Qa (Zt (kt:=9) (e:=4) (ke:=QT) (ve:=QU) (eq:=Qb) (b:=1010) (m:=h10_m) (k:=[99,97,114,100]) (z0:=false) rfl Qa Qa Qa Qa Qa QS (fun _ _=>Q0 rfl _ _) Qa) ?_
    refine xR 2 Qa (YB Qa ?_)
    exact QQ (!(QB Qb [99,97,114,100] false h10_m)) Qa
   refine xN (Qr Qa h66) Qa (xR 12 Qa (YB Qa ?_))
   exact QQ false Qa
  rintro j64
  refine sC j64 Qa ?_ ?_
  ·refine Zz (JS (en:=en10) (ck:=ck11) 1011 (UH 1012 1013 1014 1015 1016 1017 1018 1019 1020 1021) Qa) (sG (xR 4 Qa (Vo [] [I 4, .agg [I yI.Kind,S yI.Name,I yI.N,I yI.At, .p (.sl 5 (mI yI.Kids))]] [] [] [] Qa Tryz.func49 rfl Tryz.ntmps49 rfl Qa Qa Qa (Qg Qd (Hm 4 yI) Qa (sG (xR 6 Qa (XM 116 (.agg [I 4,I yI.At]) Qa rfl Qa ?_)))))))
   refine ZN [] [] Qa (Ze (EQ hN63 (Ze (Zl ?_))))
   exact Kn Yg [] Qa Qa Qa
  refine sK (Q6 ?_)
  exact MC hN63 ⟨[0,7],[700]++Yg,[],[]⟩ Qa
 ·intro sn67 q68 _ hN69
  refine xR 1 Qa (xE (Qp (MR ck11 (sn67.push (Q5 en10 8)) yI yC yK yG yB yS yF yD h7_m h8_m h10_m en10) Qa (sS (Zm Qa (sK (Qp (MS ck11 (sn67.push (Q5 en10 8)) yI yC yK yG yB yS yF yD h7_m h8_m h10_m en10) Qa (sB ?_)))))))
  refine sS (sG (VG (b:=700) (m:=1011) (es:=(UH 1012 1013 1014 1015 1016 1017 1018 1019 1020 1021)) (sn:=sn67) 8 hb11 Qa rfl Qa Qa Qa Qa rfl rfl (xR 5 Qa (xE (Qp (aO [97,116] (.func (.func 50) #[] #[]) ck11 (sn67.push (Q5 en10 8)) yI yC yK yG yB yS yF yD h7_m h8_m h10_m en10) Qa (K6 (fun j70=>(MV j70 ck11 (sn67.push (Q5 en10 8)) yI yC yK yG yB yS yF yD h7_m h8_m h10_m en10):Bool→St) ?_ ?_))))))
  ·refine Vq Qd rfl (xR 6 Qa ?_)
   refine xC [.agg [.sl 1, .id, .id], .id] Qa (QD n [5] false yI.N (.func 50,#[],#[])) Qa Qa QS (fun r71=>?_)
   refine xR 1 Qa ?_
   refine xS r71 (fun h72=>?_) (fun h72=>?_)
   ·refine xO (Qq Qa h72) Qa (xR 9 Qa ?_)
    refine ZH Qa Qa (Zt (kt:=9) (e:=4) (ke:=QT) (ve:=QU) (eq:=Qb) (b:=1010) (m:=h10_m) (k:=[97,116]) (z0:=false) rfl Qa Qa Qa Qa Qa QS (fun _ _=>Q0 rfl _ _) Qa) ?_
    refine xR 2 Qa (YB Qa ?_)
    exact QQ (!(QB Qb [97,116] false h10_m)) Qa
   refine xN (Qr Qa h72) Qa (xR 12 Qa (YB Qa ?_))
   exact QQ false Qa
  rintro j70
  refine sC j70 Qa ?_ ?_
  ·refine Zz (JS (en:=en10) (ck:=ck11) 1011 (UH 1012 1013 1014 1015 1016 1017 1018 1019 1020 1021) Qa) (sG (xR 4 Qa (Vo [] [I 4, .agg [I yI.Kind,S yI.Name,I yI.N,I yI.At, .p (.sl 5 (mI yI.Kids))]] [] [] [] Qa Tryz.func49 rfl Tryz.ntmps49 rfl Qa Qa Qa (Qg Qd (Hm 4 yI) Qa (sG (xR 6 Qa (XM 116 (.agg [I 4,I yI.At]) Qa rfl Qa ?_)))))))
   refine ZN [] [] Qa (Ze (EQ hN69 (Ze (Zl ?_))))
   exact Kn Yg [] Qa Qa Qa
  refine sK (Q6 ?_)
  exact MC hN69 ⟨[0,7],[700]++Yg,[],[]⟩ Qa
 ·intro sn73 q74 _ hN75
  refine xR 1 Qa (xE (Qp (MR ck11 (sn73.push (Q5 en10 9)) yI yC yK yG yB yS yF yD h7_m h8_m h10_m en10) Qa (sS (Zm Qa (sK (Qp (MS ck11 (sn73.push (Q5 en10 9)) yI yC yK yG yB yS yF yD h7_m h8_m h10_m en10) Qa (sB ?_)))))))
  refine sS (sG (VG (b:=700) (m:=1011) (es:=(UH 1012 1013 1014 1015 1016 1017 1018 1019 1020 1021)) (sn:=sn73) 9 hb11 Qa rfl Qa Qa Qa Qa rfl rfl (xR 5 Qa (xE (Qp (aO [112,104,97,115,101,115] (.func (.func 51) #[] #[]) ck11 (sn73.push (Q5 en10 9)) yI yC yK yG yB yS yF yD h7_m h8_m h10_m en10) Qa (K6 (fun j76=>(MV j76 ck11 (sn73.push (Q5 en10 9)) yI yC yK yG yB yS yF yD h7_m h8_m h10_m en10):Bool→St) ?_ ?_))))))
  ·refine Vq Qd rfl (xR 6 Qa ?_)
   refine xC [.agg [.sl 1, .id, .id], .id] Qa (QD n [5] false yI.N (.func 51,#[],#[])) Qa Qa QS (fun r77=>?_)
   refine xR 1 Qa ?_
   refine xS r77 (fun h78=>?_) (fun h78=>?_)
   ·refine xO (Qq Qa h78) Qa (xR 9 Qa ?_)
    refine ZH Qa Qa (Zt (kt:=9) (e:=4) (ke:=QT) (ve:=QU) (eq:=Qb) (b:=1010) (m:=h10_m) (k:=[112,104,97,115,101,115]) (z0:=false) rfl Qa Qa Qa Qa Qa QS (fun _ _=>Q0 rfl _ _) Qa) ?_
    refine xR 2 Qa (YB Qa ?_)
    exact QQ (!(QB Qb [112,104,97,115,101,115] false h10_m)) Qa
   refine xN (Qr Qa h78) Qa (xR 12 Qa (YB Qa ?_))
   exact QQ false Qa
  rintro j76
  refine sC j76 Qa ?_ ?_
  ·refine Zz (JS (en:=en10) (ck:=ck11) 1011 (UH 1012 1013 1014 1015 1016 1017 1018 1019 1020 1021) Qa) (sG (xR 4 Qa (Vo [] [I 4, .agg [I yI.Kind,S yI.Name,I yI.N,I yI.At, .p (.sl 5 (mI yI.Kids))]] [] [] [] Qa Tryz.func49 rfl Tryz.ntmps49 rfl Qa Qa Qa (Qg Qd (Hm 4 yI) Qa (sG (xR 6 Qa (XM 116 (.agg [I 4,I yI.At]) Qa rfl Qa ?_)))))))
   refine ZN [] [] Qa (Ze (EQ hN75 (Ze (Zl ?_))))
   exact Kn Yg [] Qa Qa Qa
  refine sK (Q6 ?_)
  exact MC hN75 ⟨[0,7],[700]++Yg,[],[]⟩ Qa
 ·intro sn79 q80 _ hN81
  refine xR 1 Qa (xE (Qp (MR ck11 (sn79.push (Q5 en10 10)) yI yC yK yG yB yS yF yD h7_m h8_m h10_m en10) Qa (sS (Zm Qa (sK (Qp (MS ck11 (sn79.push (Q5 en10 10)) yI yC yK yG yB yS yF yD h7_m h8_m h10_m en10) Qa (sB ?_)))))))
  refine sS (sG (VG (b:=700) (m:=1011) (es:=(UH 1012 1013 1014 1015 1016 1017 1018 1019 1020 1021)) (sn:=sn79) 10 hb11 Qa rfl Qa Qa Qa Qa rfl rfl (xR 5 Qa (xE (Qp ⟨O0 [97,109,112,115],[(5,Qbh),(700, .it 1011 ck11 (sn79.push (Q5 en10 10)))]++Dr yI yC yK yG yB yS yF yD h7_m h8_m h10_m en10 ck11++Dt⟩ Qa ?_)))))
  refine CY 5 2 Qa (fun hw82=>?_)
  refine K6 (fun j83=>(MV j83 ck11 (sn79.push (Q5 en10 10)) yI yC yK yG yB yS yF yD h7_m h8_m h10_m en10):Bool→St) ?_ ?_
  ·refine Vq Qd rfl (xR 6 Qa ?_)
   refine xC [.agg [.sl 1, .id, .id], .id] Qa (QD n [5] false yI.N hw82) Qa Qa QS (fun r84=>?_)
   refine xR 1 Qa ?_
   refine xS r84 (fun h85=>?_) (fun h85=>?_)
   ·refine xO (Qq Qa h85) Qa (xR 9 Qa ?_)
    refine ZH Qa Qa (Zt (kt:=9) (e:=4) (ke:=QT) (ve:=QU) (eq:=Qb) (b:=1010) (m:=h10_m) (k:=[97,109,112,115]) (z0:=false) rfl Qa Qa Qa Qa Qa QS (fun _ _=>Q0 rfl _ _) Qa) ?_
    refine xR 2 Qa (YB Qa ?_)
    exact QQ (!(QB Qb [97,109,112,115] false h10_m)) Qa
   refine xN (Qr Qa h85) Qa (xR 12 Qa (YB Qa ?_))
   exact QQ false Qa
  rintro j83
  refine sC j83 Qa ?_ ?_
  ·refine Zz (JS (en:=en10) (ck:=ck11) 1011 (UH 1012 1013 1014 1015 1016 1017 1018 1019 1020 1021) Qa) (sG (xR 4 Qa (Vo [] [I 4, .agg [I yI.Kind,S yI.Name,I yI.N,I yI.At, .p (.sl 5 (mI yI.Kids))]] [] [] [] Qa Tryz.func49 rfl Tryz.ntmps49 rfl Qa Qa Qa (Qg Qd (Hm 4 yI) Qa (sG (xR 6 Qa (XM 116 (.agg [I 4,I yI.At]) Qa rfl Qa ?_)))))))
   refine ZN [] [] Qa (Ze (EQ hN81 (Ze (Zl ?_))))
   exact Kn Yg [] Qa Qa Qa
  refine sK (Q6 ?_)
  exact MC hN81 ⟨[0,7],[700]++Yg,[],[]⟩ Qa
 ·intro sn86 q87 _ hN88
  refine xR 1 Qa (xE (Qp (MR ck11 (sn86.push (Q5 en10 11)) yI yC yK yG yB yS yF yD h7_m h8_m h10_m en10) Qa (sS (Zm Qa (sK (Qp (MS ck11 (sn86.push (Q5 en10 11)) yI yC yK yG yB yS yF yD h7_m h8_m h10_m en10) Qa (sB ?_)))))))
  refine sS (sG (VG (b:=700) (m:=1011) (es:=(UH 1012 1013 1014 1015 1016 1017 1018 1019 1020 1021)) (sn:=sn86) 11 hb11 Qa rfl Qa Qa Qa Qa rfl rfl (xR 5 Qa (xE (Qp (aO [102,97,108,108,98,97,99,107] (.func (.func 54) #[] #[]) ck11 (sn86.push (Q5 en10 11)) yI yC yK yG yB yS yF yD h7_m h8_m h10_m en10) Qa (K6 (fun j89=>(MV j89 ck11 (sn86.push (Q5 en10 11)) yI yC yK yG yB yS yF yD h7_m h8_m h10_m en10):Bool→St) ?_ ?_))))))
  ·refine Vq Qd rfl (xR 6 Qa ?_)
   refine xC [.agg [.sl 1, .id, .id], .id] Qa (QD n [5] false yI.N (.func 54,#[],#[])) Qa Qa QS (fun r90=>?_)
   refine xR 1 Qa ?_
   refine xS r90 (fun h91=>?_) (fun h91=>?_)
   ·refine xO (Qq Qa h91) Qa (xR 9 Qa ?_)
    refine ZH Qa Qa (Zt (kt:=9) (e:=4) (ke:=QT) (ve:=QU) (eq:=Qb) (b:=1010) (m:=h10_m) (k:=[102,97,108,108,98,97,99,107]) (z0:=false) rfl Qa Qa Qa Qa Qa QS (fun _ _=>Q0 rfl _ _) Qa) ?_
    refine xR 2 Qa (YB Qa ?_)
    exact QQ (!(QB Qb [102,97,108,108,98,97,99,107] false h10_m)) Qa
   refine xN (Qr Qa h91) Qa (xR 12 Qa (YB Qa ?_))
   exact QQ false Qa
  rintro j89
  refine sC j89 Qa ?_ ?_
  ·refine Zz (JS (en:=en10) (ck:=ck11) 1011 (UH 1012 1013 1014 1015 1016 1017 1018 1019 1020 1021) Qa) (sG (xR 4 Qa (Vo [] [I 4, .agg [I yI.Kind,S yI.Name,I yI.N,I yI.At, .p (.sl 5 (mI yI.Kids))]] [] [] [] Qa Tryz.func49 rfl Tryz.ntmps49 rfl Qa Qa Qa (Qg Qd (Hm 4 yI) Qa (sG (xR 6 Qa (XM 116 (.agg [I 4,I yI.At]) Qa rfl Qa ?_)))))))
   refine ZN [] [] Qa (Ze (EQ hN88 (Ze (Zl ?_))))
   exact Kn Yg [] Qa Qa Qa
  refine sK (Q6 ?_)
  exact MC hN88 ⟨[0,7],[700]++Yg,[],[]⟩ Qa
 intro sn92 q93 _ hN94
 refine xR 1 Qa (xE (Qp (MR ck11 (sn92.push (Q5 en10 12)) yI yC yK yG yB yS yF yD h7_m h8_m h10_m en10) Qa (sS (Zm Qa (sK (Qp (MS ck11 (sn92.push (Q5 en10 12)) yI yC yK yG yB yS yF yD h7_m h8_m h10_m en10) Qa (sB ?_)))))))
 refine sS (sG (VG (b:=700) (m:=1011) (es:=(UH 1012 1013 1014 1015 1016 1017 1018 1019 1020 1021)) (sn:=sn92) 12 hb11 Qa rfl Qa Qa Qa Qa rfl rfl (xR 5 Qa (xE (Qp ⟨O0 [99,104,97,114,103,101,114],[(5,Qbj),(700, .it 1011 ck11 (sn92.push (Q5 en10 12)))]++Dr yI yC yK yG yB yS yF yD h7_m h8_m h10_m en10 ck11++Dt⟩ Qa (K6 (fun j95=>(MV j95 ck11 (sn92.push (Q5 en10 12)) yI yC yK yG yB yS yF yD h7_m h8_m h10_m en10):Bool→St) ?_ ?_))))))
 ·refine Vq Qd rfl (xR 6 Qa ?_)
  refine xC [.agg [.sl 1, .id, .id], .id] Qa (QD n [6] false yI.N (.func 55,#[],#[])) Qa Qa QS (fun r96=>?_)
  refine xR 1 Qa ?_
  refine xS r96 (fun h97=>?_) (fun h97=>?_)
  ·refine xO (Qq Qa h97) Qa (xR 9 Qa ?_)
   refine ZH Qa Qa (Zt (kt:=9) (e:=4) (ke:=QT) (ve:=QU) (eq:=Qb) (b:=1010) (m:=h10_m) (k:=[99,104,97,114,103,101,114]) (z0:=false) rfl Qa Qa Qa Qa Qa QS (fun _ _=>Q0 rfl _ _) Qa) ?_
   refine xR 2 Qa (YB Qa ?_)
   exact QQ (!(QB Qb [99,104,97,114,103,101,114] false h10_m)) Qa
  refine xN (Qr Qa h97) Qa (xR 12 Qa (YB Qa ?_))
  exact QQ false Qa
 rintro j95
 refine sC j95 Qa ?_ ?_
 ·refine Zz (JS (en:=en10) (ck:=ck11) 1011 (UH 1012 1013 1014 1015 1016 1017 1018 1019 1020 1021) Qa) (sG (xR 4 Qa (Vo [] [I 4, .agg [I yI.Kind,S yI.Name,I yI.N,I yI.At, .p (.sl 5 (mI yI.Kids))]] [] [] [] Qa Tryz.func49 rfl Tryz.ntmps49 rfl Qa Qa Qa (Qg Qd (Hm 4 yI) Qa (sG (xR 6 Qa (XM 116 (.agg [I 4,I yI.At]) Qa rfl Qa ?_)))))))
  refine ZN [] [] Qa (Ze (EQ hN94 (Ze (Zl ?_))))
  exact Kn Yg [] Qa Qa Qa
 refine sK (Q6 ?_)
 exact MC hN94 ⟨[0,7],[700]++Yg,[],[]⟩ Qa
abbrev ty7:=(Int × (List ZJ) × (List Zb) × (List ZT) × (List ZY) × (List Zi) × Bool × (List ZX) × (List ((List UInt8) × Bool)) × (List ((List UInt8) × Kt)))
abbrev ty4:=((List ZJ) × (List Zb) × (List ZT) × (List ZY) × (List Zi) × Bool × (List ZX) × (List ((List UInt8) × Bool)) × (List ((List UInt8) × Kt)))
def Y6 (n:Nat) (a0n:GN) (recl3:ty7→Option ty4) (l3_1:Int) (l3_2:List ZJ) (l3_3:List Zb) (l3_4:List ZT) (l3_5:List ZY) (l3_6:List Zi) (l3_7:Bool) (l3_8:List ZX) (l3_9:List ((List UInt8) × Bool)) (l3_10:List ((List UInt8) × Kt)):Option ty4 :=
 cond (QO l3_1 (Qc (List.map KP a0n.Kids)))
  ((Option.bind (Q8 a0n.Kids l3_1) GN.of).bind fun x4 =>
  ((cond (QB Qb x4.Name false l3_9)
   (some true)
   (cond (Qi x4.N 1)
    (some l3_7)
    (some false))).bind fun j6 =>
  (cond l3_7
   (some true)
   (some (Qi x4.N 1))).bind fun j9 =>
  cond j6
   (cond (ZB (List.length (l3_8++[(⟨5,x4.At⟩:ZX)])) 16) (
    some (l3_2,l3_3,l3_4,l3_5,l3_6,j9,l3_8++[(⟨5,x4.At⟩:ZX)],l3_10)) none)
   (cond (Qi x4.N 7)
    (some (l3_2,l3_3,l3_4,l3_5,l3_6,j9,l3_8,l3_10))
    (((cond (Qi x4.N 1)
     (some (Qi x4.N 1))
     (some (Qi x4.N 2))).bind fun j12 =>
    cond j12
     (some (Qc (List.map ZJ.cs l3_2),16))
     (cond (Qi x4.N 3)
      (some (Qc (List.map Zb.cs l3_3),8))
      (cond (Qi x4.N 4)
       (some (Qc (List.map ZT.cs l3_4),32))
       (cond (Qi x4.N 5)
        (some (Qc (List.map ZY.cs l3_5),16))
        (some (Qc (List.map Zi.cs l3_6),24)))))).bind fun (j11_1,j11_2) =>
    cond (leI j11_2 j11_1)
     (cond (ZB (List.length (l3_8++[(⟨2,x4.At⟩:ZX)])) 16) (
      some (l3_2,l3_3,l3_4,l3_5,l3_6,j9,l3_8++[(⟨2,x4.At⟩:ZX)],l3_10)) none)
     ((Ho n x4 (⟨[],0,0,0,(⟨0,0⟩:Rw),(⟨0,0,0,0,0⟩:J4)⟩:ZJ) (⟨[],0,0,0⟩:ZT) (⟨[],0,0,0,0,0,0,0⟩:ZY) (⟨[],0⟩:Zi) (⟨l3_2,l3_3,l3_4,l3_5,l3_6⟩:Qm) j9 l3_8 (Qk Qb x4.Name true l3_9) l3_10 []).bind (Rk (fun r13 =>
      (Hq n x4 r13.1 r13.2.1 r13.2.2.1 r13.2.2.2.1 (⟨l3_2,l3_3,l3_4,l3_5,l3_6⟩:Qm) j9 l3_8 (Qk Qb x4.Name true l3_9) l3_10 r13.2.2.2.2).bind (Rk (fun r15 =>
       ((cond (Qi x4.N 1)
        (some (Qi x4.N 1))
        (some (Qi x4.N 2))).bind fun j18 =>
       cond j18
        (some (Qc (List.map ZJ.cs l3_2)))
        (cond (Qi x4.N 3)
         (some (Qc (List.map Zb.cs l3_3)))
         (cond (Qi x4.N 4)
          (some (Qc (List.map ZT.cs l3_4)))
          (cond (Qi x4.N 5)
           (some (Qc (List.map ZY.cs l3_5)))
           (some (Qc (List.map Zi.cs l3_6))))))).bind fun j17 =>
       cond (Qi x4.N 1)
        (cond (ZB (List.length (l3_2++[(⟨x4.Name,(-1),r13.1.Limit,r13.1.Neutral,r13.1.Fuse,r13.1.Cable⟩:ZJ)])) 96) (
         some (l3_2++[(⟨x4.Name,(-1),r13.1.Limit,r13.1.Neutral,r13.1.Fuse,r13.1.Cable⟩:ZJ)],l3_3,l3_4,l3_5,l3_6,j9,l3_8,Qk Qv x4.Name (⟨x4.N,j17⟩:Kt) l3_10)) none)
        (cond (Qi x4.N 2)
         (cond (ZB (List.length (l3_2++[(⟨x4.Name,r13.1.Up,r13.1.Limit,r13.1.Neutral,r13.1.Fuse,r13.1.Cable⟩:ZJ)])) 96) (
          some (l3_2++[(⟨x4.Name,r13.1.Up,r13.1.Limit,r13.1.Neutral,r13.1.Fuse,r13.1.Cable⟩:ZJ)],l3_3,l3_4,l3_5,l3_6,j9,l3_8,Qk Qv x4.Name (⟨x4.N,j17⟩:Kt) l3_10)) none)
         (cond (Qi x4.N 3)
          (cond (ZB (List.length (l3_3++[(⟨x4.Name⟩:Zb)])) 16) (
           some (l3_2,l3_3++[(⟨x4.Name⟩:Zb)],l3_4,l3_5,l3_6,j9,l3_8,Qk Qv x4.Name (⟨x4.N,j17⟩:Kt) l3_10)) none)
          (cond (Qi x4.N 4)
           (cond (ZB (List.length (l3_4++[(⟨x4.Name,r13.2.1.Owner,r13.2.1.Rank,r13.2.1.Card⟩:ZT)])) 40) (
            some (l3_2,l3_3,l3_4++[(⟨x4.Name,r13.2.1.Owner,r13.2.1.Rank,r13.2.1.Card⟩:ZT)],l3_5,l3_6,j9,l3_8,Qk Qv x4.Name (⟨x4.N,j17⟩:Kt) l3_10)) none)
           (cond (Qi x4.N 5)
            (cond (ZB (List.length (l3_5++[(⟨x4.Name,r13.2.2.1.At,r13.2.2.1.Phases,r13.2.2.1.Min,r13.2.2.1.Max,r13.2.2.1.Step,r13.2.2.1.Fallback,r13.2.2.1.Owner⟩:ZY)])) 72) (
             some (l3_2,l3_3,l3_4,l3_5++[(⟨x4.Name,r13.2.2.1.At,r13.2.2.1.Phases,r13.2.2.1.Min,r13.2.2.1.Max,r13.2.2.1.Step,r13.2.2.1.Fallback,r13.2.2.1.Owner⟩:ZY)],l3_6,j9,l3_8,Qk Qv x4.Name (⟨x4.N,j17⟩:Kt) l3_10)) none)
            (cond (Qi x4.N 6)
             (cond (ZB (List.length (l3_6++[(⟨x4.Name,r13.2.2.2.1.Charger⟩:Zi)])) 24) (
              some (l3_2,l3_3,l3_4,l3_5,l3_6++[(⟨x4.Name,r13.2.2.2.1.Charger⟩:Zi)],j9,l3_8,Qk Qv x4.Name (⟨x4.N,j17⟩:Kt) l3_10)) none)
             (some (l3_2,l3_3,l3_4,l3_5,l3_6,j9,l3_8,Qk Qv x4.Name (⟨x4.N,j17⟩:Kt) l3_10)))))))) fun e16=>cond (ZB (List.length (l3_8++[(⟨e16.1,e16.2⟩:ZX)])) 16) (
       some (l3_2,l3_3,l3_4,l3_5,l3_6,j9,l3_8++[(⟨e16.1,e16.2⟩:ZX)],l3_10)) none)) fun e14=>cond (ZB (List.length (l3_8++[(⟨e14.1.1,e14.1.2⟩:ZX)])) 16) (
      some (l3_2,l3_3,l3_4,l3_5,l3_6,j9,l3_8++[(⟨e14.1.1,e14.1.2⟩:ZX)],l3_10)) none))))).bind fun (j5_1,j5_2,j5_3,j5_4,j5_5,j5_6,j5_7,j5_8) =>
  cond (Qi (Qc (List.map ZX.cs j5_7)) 20)
   (some (j5_1,j5_2,j5_3,j5_4,j5_5,j5_6,j5_7,Qk Qb x4.Name true l3_9,j5_8))
   (recl3 (wi (l3_1+1),j5_1,j5_2,j5_3,j5_4,j5_5,j5_6,j5_7,Qk Qb x4.Name true l3_9,j5_8)))
  (some (l3_2,l3_3,l3_4,l3_5,l3_6,l3_7,l3_8,l3_9,l3_10))
def YG (n:Nat) (a0n:GN):Option (Qm × (List ZX)) :=
 (Xe n a0n).bind fun r1 =>
 cond (!r1)
  (some ((⟨[],[],[],[],[]⟩:Qm),[(⟨1,0⟩:ZX)]))
  ((QZ (fun recl3 (l3_1,l3_2,l3_3,l3_4,l3_5,l3_6,l3_7,l3_8,l3_9,l3_10)=>Y6 n a0n recl3 l3_1 l3_2 l3_3 l3_4 l3_5 l3_6 l3_7 l3_8 l3_9 l3_10) n (0,[],[],[],[],[],false,[],[],[])).bind fun (j2_1,j2_2,j2_3,j2_4,j2_5,j2_6,j2_7,j2_8,j2_9) =>
  cond (QO 0 (Qc (List.map ZX.cs j2_7)))
   (some ((⟨[],[],[],[],[]⟩:Qm),j2_7))
   (cond (!j2_6)
    (some ((⟨[],[],[],[],[]⟩:Qm),[(⟨4,0⟩:ZX)]))
    (some ((⟨j2_1,j2_2,j2_3,j2_4,j2_5⟩:Qm),[]))))
def zQ:Blk:=.box 33 [.p (.val (.slice none 0 0)), .p (.val (.slice none 0 0)), .p (.val (.slice none 0 0)), .p (.val (.slice none 0 0)), .p (.val (.slice none 0 0))]
def aP:=fun x0=>([(1, .box 24 (Ya (GN.cs x0))),(2,zQ)]:List (Nat × Blk))
def Qbl:Blk:=.box 74 [.p (.val (.slice none 0 0)), .p (.val (.slice none 0 0)), .p (.val (.slice none 0 0)), .p (.val (.slice none 0 0)), .p (.val (.slice none 0 0)), .mv 14,B false, .mv 15, .p (.val (.slice none 0 0))]
def Qbm:=fun x0=>([(1, .box 24 (Ya (GN.cs x0))),(2,zQ),(14, .mp (JD QT QU [])),(15, .mp (JD VK VL [])),(17,Qbl)]:List (Nat × Blk))
def aQ:Blk:=.box 104 [.tsl 1 (List.map ci [1,2]) 3]
def Sj:Blk:=.box 104 [.tsl 1 (List.map ci [1,2]) 403]
def Qbn:List (Nat × Blk):=[(401,Sj),(402, .box 103 [I 1,I 1000]),(403, .arr 3 1 (List.map ci [1,2]).length),(405, .mf [(true,[108,105,109,105,116], .agg [.tsl 1 (List.map ci [1,2]) 403,B false, .fn (.func 78) [] [.ptr 402 0]]),(true,[110,101,117,116,114,97,108], .agg [.tsl 1 (List.map ci [1,2]) 403,B false, .fn (.func 79) [] [.ptr 402 0]]),(true,[102,117,115,101], .agg [.tsl 1 (List.map ci [1,2]) 403,B true, .fn (.func 80) [] [.ptr 402 0]]),(true,[116,104,101,114,109,97,108], .agg [.tsl 1 (List.map ci [1,2]) 403,B true, .p (.val (.func (.func 81) #[] #[]))]),(true,[102,114,111,109], .agg [.tsl 1 (List.map ci [2]) 417,B false, .fn (.func 82) [] [.ptr 401 0]])]),(417, .arr 3 1 (List.map ci [2]).length)]
def Qbo:List (Nat × Blk):=[(401,Sj),(402, .box 103 [I 1,I 1000]),(403, .arr 3 1 (List.map ci [1,2]).length),(405, .mf [(true,[108,105,109,105,116], .agg [.tsl 1 (List.map ci [1,2]) 403,B false, .fn (.func 78) [] [.ptr 402 0]]),(true,[110,101,117,116,114,97,108], .agg [.tsl 1 (List.map ci [1,2]) 403,B false, .fn (.func 79) [] [.ptr 402 0]]),(true,[102,117,115,101], .agg [.tsl 1 (List.map ci [1,2]) 403,B true, .fn (.func 80) [] [.ptr 402 0]]),(true,[116,104,101,114,109,97,108], .agg [.tsl 1 (List.map ci [1,2]) 403,B true, .p (.val (.func (.func 81) #[] #[]))]),(true,[102,114,111,109], .agg [.tsl 1 (List.map ci [2]) 417,B false, .fn (.func 82) [] [.ptr 401 0]]),(true,[111,119,110,101,114], .agg [.tsl 1 (List.map ci [4,5]) 7,B false, .p (.val (.func (.func 44) #[] #[]))]),(true,[114,97,110,107], .agg [.tsl 1 (List.map ci [4]) 10,B false, .p (.val (.func (.func 46) #[] #[]))]),(true,[99,97,114,100], .agg [.tsl 1 (List.map ci [4]) 13,B false, .p (.val (.func (.func 48) #[] #[]))])]),(417, .arr 3 1 (List.map ci [2]).length)]
def aR:List (Nat × AV):=[(1, .mv 405),(2, .ptr 2 0),(3, .tsl 1 (List.map ci [5]) 15)]
def mV:List (Nat × Blk):=[(2, .box 103 [I 1,I 80]),(7, .arr 3 1 (List.map ci [4,5]).length),(10, .arr 3 1 (List.map ci [4]).length),(13, .arr 3 1 (List.map ci [4]).length),(15, .arr 3 1 (List.map ci [5]).length)]
def Qbp:List (Nat × Blk):=[(2, .box 103 [I 1,I 80]),(7, .arr 3 1 (List.map ci [4,5]).length),(10, .arr 3 1 (List.map ci [4]).length),(13, .arr 3 1 (List.map ci [4]).length),(15, .arr 3 1 (List.map ci [5]).length),(30, .arr 3 1 (List.map ci [6]).length)]
def Qbq:List (Nat × Blk):=[(401,Sj),(402, .box 103 [I 1,I 1000]),(403, .arr 3 1 (List.map ci [1,2]).length),(405, .mf (UH 403 402 417 401 7 10 13 15 2 30)),(417, .arr 3 1 (List.map ci [2]).length)]
def aS:List (Nat × Blk):=[(401,Sj),(402, .box 103 [I 1,I 80]),(403, .arr 3 1 (List.map ci [1,2]).length),(405, .mf (UH 403 439 417 401 407 410 413 415 402 430)),(407, .arr 3 1 (List.map ci [4,5]).length),(410, .arr 3 1 (List.map ci [4]).length),(413, .arr 3 1 (List.map ci [4]).length),(415, .arr 3 1 (List.map ci [5]).length),(417, .arr 3 1 (List.map ci [2]).length),(430, .arr 3 1 (List.map ci [6]).length),(439, .box 103 [I 1,I 1000])]
def Qbr:=fun x0 x1 x2 x3 x4 x5 x6=>(.box 74 [.tsl 11 (List.map ZJ.cs x0) 700, .tsl 1 (List.map Zb.cs x1) 701, .tsl 4 (List.map ZT.cs x2) 702, .tsl 8 (List.map ZY.cs x3) 703, .tsl 2 (List.map Zi.cs x4) 704, .mv 14,B x5, .mv 15, .tsl 2 (List.map ZX.cs x6) 423]:Blk)
def xU:=fun x0 x1 x2 x3 x4 x5 x6 x7 x8=>([(2,zQ),(14, .mp (JD QT QU x0)),(15, .mp (JD VK VL x1)),(17,(Qbr x2 x3 x4 x5 x6 x7 x8))]:List (Nat × Blk))
def zR:=fun x0=>(.arr 49 11 (List.map ZJ.cs x0).length:Blk)
def zT:=fun x0=>(.arr 52 1 (List.map Zb.cs x0).length:Blk)
def zU:=fun x0=>(.arr 54 4 (List.map ZT.cs x0).length:Blk)
def zV:=fun x0=>(.arr 56 8 (List.map ZY.cs x0).length:Blk)
def zW:=fun x0=>(.arr 58 2 (List.map Zi.cs x0).length:Blk)
def y7:=fun x0 x1 x2 x3 x4=>([(700,(zR x0)),(701,(zT x1)),(702,(zU x2)),(703,(zV x3)),(704,(zW x4))]:List (Nat × Blk))
def aT:=fun x0 x1 x2 x3 x4 x5 x6 x7 x8=>(⟨[(2, .ptr 2 0),(4, .ptr 17 0)],xU x0 x1 x2 x3 x4 x5 x6 x7 x8++[(423,(WE x8))]++y7 x2 x3 x4 x5 x6⟩:St)
def aU:=fun x0 x1=>([(2, .ptr 2 0),(4, .ptr 17 0),(5, .mv 405),(20, .p (.sl 5 (List.map KP (GN.Kids x0)))),(21,I (Qc (List.map KP (GN.Kids x0)))),(22,I x1)]:List (Nat × AV))
def Qbs:List (Nat × Blk):=[(2,zQ),(14, .mp (JD QT QU [])),(15, .mp (JD VK VL [])),(17,Qbl)]
def wz:=fun x0=>([(401,Sj),(402, .box 103 [I 1,I 80]),(403, .arr 3 1 (List.map ci [1,2]).length),(405, .mf (UH 403 439 417 401 407 410 413 415 402 430)),(407, .arr 3 1 (List.map ci [4,5]).length),(410, .arr 3 1 (List.map ci [4]).length),(413, .arr 3 1 (List.map ci [4]).length),(415, .arr 3 1 (List.map ci [5]).length),(417, .arr 3 1 (List.map ci [2]).length),(423,(WE x0)),(430, .arr 3 1 (List.map ci [6]).length),(439, .box 103 [I 1,I 1000])]:List (Nat × Blk))
def cz:=fun x0 x1 x2 x3 x4 x5 x6 x7 x8 x9 x10=>(⟨aU x0 x1,xU x2 x3 x4 x5 x6 x7 x8 x9 x10++wz x10++y7 x4 x5 x6 x7 x8⟩:St)
def aV:=fun x0 x1 x2 x3 x4 x5 x6=>(.box 74 [.tsl 11 (List.map ZJ.cs x0) 1004, .tsl 1 (List.map Zb.cs x1) 1005, .tsl 4 (List.map ZT.cs x2) 1006, .tsl 8 (List.map ZY.cs x3) 1007, .tsl 2 (List.map Zi.cs x4) 1008, .mv 1000,B x5, .mv 1001, .tsl 2 (List.map ZX.cs x6) 1003]:Blk)
def F8:=fun x0 x1 x2 x3 x4 x5 x6 x7 x8=>([(1000, .mp (JD QT QU x0)),(1001, .mp (JD VK VL x1)),(1002,(aV x2 x3 x4 x5 x6 x7 x8)),(1003,(WE x8)),(1004,(zR x2)),(1005,(zT x3)),(1006,(zU x4)),(1007,(zV x5)),(1008,(zW x6)),(1009,Qbb)]:List (Nat × Blk))
def QcO:List (Nat × AV):=[(2, .mv 1012),(3, .ptr 1900 0),(4, .ptr 4 0)]
def RG:List (Nat × Blk):=[(1010, .box 103 [I 1,I 80]),(1011, .arr 3 1 (List.map ci [1,2]).length),(1012, .mf (UH 1011 1019 1017 1009 1013 1014 1015 1016 1010 1018)),(1013, .arr 3 1 (List.map ci [4,5]).length),(1014, .arr 3 1 (List.map ci [4]).length),(1015, .arr 3 1 (List.map ci [4]).length),(1016, .arr 3 1 (List.map ci [5]).length),(1017, .arr 3 1 (List.map ci [2]).length),(1018, .arr 3 1 (List.map ci [6]).length),(1019, .box 103 [I 1,I 1000]),(1900, .box 70 [.ptr 1002 0])]
def cB:=fun x0 x1 x2 x3 x4 x5 x6 x7 x8 x9=>(⟨QcO,Hy x0++F8 x1 x2 x3 x4 x5 x6 x7 x8 x9++RG⟩:St)
def aW:=fun x0=>([(2, .mv 1012),(3, .ptr 1900 0),(4, .ptr 4 0),(6,B x0)]:List (Nat × AV))
def uj:List (Nat × Nat):=[(1000,1000),(1001,1001),(1002,1002),(1003,1003),(1004,1004),(1005,1005),(1006,1006),(1007,1007),(1008,1008),(1009,1900)]
def YC:=fun x0 x1 x2 x3 x4 x5 x6 x7 x8=>([(1000, .mp (JD QT QU x0)),(1001, .mp (JD VK VL x1)),(1002,(aV x2 x3 x4 x5 x6 x7 x8)),(1003,(WE x8)),(1004,(zR x2)),(1005,(zT x3)),(1006,(zU x4)),(1007,(zV x5)),(1008,(zW x6)),(1009, .box 70 [.ptr 1002 0])]:List (Nat × Blk))
def cK:=fun x0 x1=>([(0, .ptr 1009 0),(1, .ifc 116 (.agg [I x0,I x1])),(6,B true)]:List (Nat × AV))
def cO:=fun x0 x1=>([(0, .ptr 1009 0),(1, .ifc 116 (.agg [I x0,I x1])),(2, .ptr 2 0),(3,B true)]:List (Nat × AV))
def Bq:=fun x0 x1=>([(2, .box 116 [I x0,I x1])]:List (Nat × Blk))
def cZ:=fun x0 x1=>([(0, .ptr 1009 0),(1, .ifc 116 (.agg [I x0,I x1])),(2, .ptr 2 0),(13,B false)]:List (Nat × AV))
def rf:=fun x0 x1 x2 x3 x4 x5 x6 x7 x8 x9 x10=>(⟨[(0, .ptr 1009 0),(2, .ptr 2 0)],Bq x0 x1++YC x2 x3 x4 x5 x6 x7 x8 x9 x10⟩:St)
def zX:List (Nat × AV):=[(0, .ptr 1009 0),(1, .p (.val (.nilIface))),(6,B false)]
def Vy:=fun x0 x1 x2 x3 x4 x5 x6 x7 x8=>([(1000, .mp (JD QT QU x0)),(1001, .mp (JD VK VL x1)),(1002,(aV x2 x3 x4 x5 x6 x7 x8)),(1003,(WE x8)),(1004,(zR x2)),(1005,(zT x3)),(1006,(zU x4)),(1007,(zV x5)),(1008,(zW x6))]:List (Nat × Blk))
def rq:=fun x0 x1=>([(0, .ptr 1002 0),(6,I x0),(7,B x1)]:List (Nat × AV))
def Qbt:=fun x0=>([(4,I (Qc (List.map ZJ.cs x0))),(5,I 16)]:List (Nat × AV))
def Qbu:=fun x0=>([(4,I (Qc (List.map ZT.cs x0))),(5,I 32)]:List (Nat × AV))
def Qbv:List (Nat × Nat):=[(1000,69),(1001,1002),(1002,1004),(1003,1005),(1004,1006),(1005,1007),(1006,1008),(1007,1000),(1008,1001),(1009,1003),(1010,67),(1011,1012),(1012,1011),(1013,1019),(1014,1017),(1015,1009),(1016,1013),(1017,1014),(1018,1015),(1019,1016),(1020,1010),(1021,1018)]
def Qbw:=fun x0 x1 x2 x3 x4 x5=>(.box 108 ([.ptr 1002 0]++Ya (GN.cs x0)++[.mv 67]++Ya (ZJ.cs x1)++Ya (ZT.cs x2)++Ya (ZY.cs x3)++[S x4,I x5]):Blk)
def QcP:=fun x0 x1 x2 x3 x4 x5=>(.box 108 ([.ptr 1004 0]++Ya (GN.cs x0)++[.mv 1000]++Ya (ZJ.cs x1)++Ya (ZT.cs x2)++Ya (ZY.cs x3)++[S x4,I x5]):Blk)
def aX:=fun x0 x1 x2 x3 x4 x5 x6=>(.box 74 [.tsl 11 (List.map ZJ.cs x0) 1006, .tsl 1 (List.map Zb.cs x1) 1007, .tsl 4 (List.map ZT.cs x2) 1008, .tsl 8 (List.map ZY.cs x3) 1009, .tsl 2 (List.map Zi.cs x4) 1010, .mv 1002,B x5, .mv 1003, .tsl 2 (List.map ZX.cs x6) 1005]:Blk)
def Gi:=fun x0 x1 x2 x3 x4 x5 x6 x7 x8 x9 x10 x11 x12 x13 x14 x15=>([(1000, .mp (JD QT QU x0)),(1001,(QcP x1 x2 x3 x4 x5 x6)),(1002, .mp (JD QT QU x7)),(1003, .mp (JD VK VL x8)),(1004,(aX x9 x10 x11 x12 x13 x14 x15)),(1005,(WE x15)),(1006,(zR x9)),(1007,(zT x10)),(1008,(zU x11)),(1009,(zV x12)),(1010,(zW x13))]:List (Nat × Blk))
def Qbx:=fun x0=>([(0, .ptr 1001 0),(2,S x0),(3, .ptr 1004 0)]:List (Nat × AV))
theorem Wp (n:Nat) (a0n:GN):∀ r,YG n a0n=some r→Q9 Tryz.prog 9 [ag (GN.cs a0n)] (.ret (.tup [ag (Qm.cs r.1), .p (.sl 2 (Wm r.2))])):=by
 refine Qs (X:=fun r:Qm × (List ZX)=>QX.ret (.tup [ag (Qm.cs r.1), .p (.sl 2 (Wm r.2))])) Tryz.func9 rfl Tryz.ntmps9 rfl ?_
 unfold YG
 refine Qg Qd ⟨[qq 1,qq 2],aP a0n⟩ Qa (sS (sS (sG (xR 1 Qa ?_))))
 refine xC [] Qa (Bn n a0n) Qa Qa QS (fun r1=>?_)
 refine xR 1 Qa (xE (Qp ⟨[qq 1,qq 2,(10,B (!r1))],aP a0n⟩ Qa (sC (!r1) Qa ?_ ?_)))
 ·refine Qg Qd ⟨[qq 2,(3, .tsl 2 (Wm [(⟨1,0⟩:ZX)]) 13)],[(2,zQ),(13,(dC (⟨1,0⟩:ZX)))]⟩ Qa (sT (Q7 ?_))
  exact qR (.agg [.agg [.sl 11, .sl 1, .sl 4, .sl 8, .sl 2], .sl 2]) Qa Qa Qa
 refine sK (Qp ⟨[qq 1,qq 2],aP a0n⟩ Qa (sS (sG (ZH Qa Qa (EH (d:=14) (rsv:=none) rfl rfl Qa) (ZH Qa Qa (EH (d:=15) (rsv:=none) rfl rfl Qa) (xR 3 Qa (xE ?_)))))))
 refine Qp ⟨[qq 1,qq 2,(4, .ptr 17 0)],Qbm a0n⟩ Qa (sS (sG (Vo [] [] [(2,402),(7,407),(10,410),(13,413),(15,415),(30,430),(401,401),(402,439),(403,403),(405,405),(417,417)] [] [] Qa Tryz.func25 rfl Tryz.ntmps25 rfl Qa Qa Qa (Qg Qd ⟨[],[]⟩ Qa (sS (sG (Vo [] [] [(1,401),(2,402),(3,403),(5,405),(17,417)] [] [] Qa Tryz.func43 rfl Tryz.ntmps43 rfl Qa Qa Qa ?_)))))))
 refine Qg Qd ⟨[],[]⟩ Qa (Qg Qd ⟨[qq 1],[(1,aQ),(3, .arr 3 1 (List.map ci [1,2]).length)]⟩ Qa (Qg Qd ⟨[qq 1,qq 2],[(1,aQ),(2, .box 103 [I 1,I 1000]),(3, .arr 3 1 (List.map ci [1,2]).length)]⟩ Qa (sS (sG (xR 4 Qa (ES Qa rfl Qa Qa (xR 3 Qa ?_)))))))
 refine ES Qa rfl Qa Qa (xR 3 Qa (ES Qa rfl Qa Qa (xR 2 Qa (ES Qa rfl Qa Qa (xR 3 Qa (ES Qa rfl Qa Qa (xR 2 Qa ?_)))))))
 refine xE (Qp ⟨[(0, .mv 5)],[(1,aQ),(2, .box 103 [I 1,I 1000]),(3, .arr 3 1 (List.map ci [1,2]).length),(5, .mf [(true,[108,105,109,105,116], .agg [.tsl 1 (List.map ci [1,2]) 3,B false, .fn (.func 78) [] [.ptr 2 0]]),(true,[110,101,117,116,114,97,108], .agg [.tsl 1 (List.map ci [1,2]) 3,B false, .fn (.func 79) [] [.ptr 2 0]]),(true,[102,117,115,101], .agg [.tsl 1 (List.map ci [1,2]) 3,B true, .fn (.func 80) [] [.ptr 2 0]]),(true,[116,104,101,114,109,97,108], .agg [.tsl 1 (List.map ci [1,2]) 3,B true, .p (.val (.func (.func 81) #[] #[]))]),(true,[102,114,111,109], .agg [.tsl 1 (List.map ci [2]) 17,B false, .fn (.func 82) [] [.ptr 1 0]])]),(17, .arr 3 1 (List.map ci [2]).length)]⟩ Qa (sT (Q4 (.id) [1,2,3,5,17] [] (.mv 5) Qa Qa (WQ (xR 1 Qa (xE (Qp ⟨[(1, .mv 405)],Qbn⟩ Qa ?_)))))))
 refine Qg Qd ⟨[(1, .mv 405),qq 2],[(2, .box 103 [I 1,I 80])]++Qbn⟩ Qa (Qg Qd ⟨[(1, .mv 405),qq 2],[(2, .box 103 [I 1,I 80]),(7, .arr 3 1 (List.map ci [4,5]).length),(401,Sj),(402, .box 103 [I 1,I 1000]),(403, .arr 3 1 (List.map ci [1,2]).length),(405, .mf [(true,[108,105,109,105,116], .agg [.tsl 1 (List.map ci [1,2]) 403,B false, .fn (.func 78) [] [.ptr 402 0]]),(true,[110,101,117,116,114,97,108], .agg [.tsl 1 (List.map ci [1,2]) 403,B false, .fn (.func 79) [] [.ptr 402 0]]),(true,[102,117,115,101], .agg [.tsl 1 (List.map ci [1,2]) 403,B true, .fn (.func 80) [] [.ptr 402 0]]),(true,[116,104,101,114,109,97,108], .agg [.tsl 1 (List.map ci [1,2]) 403,B true, .p (.val (.func (.func 81) #[] #[]))]),(true,[102,114,111,109], .agg [.tsl 1 (List.map ci [2]) 417,B false, .fn (.func 82) [] [.ptr 401 0]]),(true,[111,119,110,101,114], .agg [.tsl 1 (List.map ci [4,5]) 7,B false, .p (.val (.func (.func 44) #[] #[]))])]),(417, .arr 3 1 (List.map ci [2]).length)]⟩ Qa (Qg Qd ⟨[(1, .mv 405),qq 2],[(2, .box 103 [I 1,I 80]),(7, .arr 3 1 (List.map ci [4,5]).length),(10, .arr 3 1 (List.map ci [4]).length),(401,Sj),(402, .box 103 [I 1,I 1000]),(403, .arr 3 1 (List.map ci [1,2]).length),(405, .mf [(true,[108,105,109,105,116], .agg [.tsl 1 (List.map ci [1,2]) 403,B false, .fn (.func 78) [] [.ptr 402 0]]),(true,[110,101,117,116,114,97,108], .agg [.tsl 1 (List.map ci [1,2]) 403,B false, .fn (.func 79) [] [.ptr 402 0]]),(true,[102,117,115,101], .agg [.tsl 1 (List.map ci [1,2]) 403,B true, .fn (.func 80) [] [.ptr 402 0]]),(true,[116,104,101,114,109,97,108], .agg [.tsl 1 (List.map ci [1,2]) 403,B true, .p (.val (.func (.func 81) #[] #[]))]),(true,[102,114,111,109], .agg [.tsl 1 (List.map ci [2]) 417,B false, .fn (.func 82) [] [.ptr 401 0]]),(true,[111,119,110,101,114], .agg [.tsl 1 (List.map ci [4,5]) 7,B false, .p (.val (.func (.func 44) #[] #[]))]),(true,[114,97,110,107], .agg [.tsl 1 (List.map ci [4]) 10,B false, .p (.val (.func (.func 46) #[] #[]))])]),(417, .arr 3 1 (List.map ci [2]).length)]⟩ Qa (Qg Qd ⟨[(1, .mv 405),qq 2],[(2, .box 103 [I 1,I 80]),(7, .arr 3 1 (List.map ci [4,5]).length),(10, .arr 3 1 (List.map ci [4]).length),(13, .arr 3 1 (List.map ci [4]).length)]++Qbo⟩ Qa (Qg Qd ⟨aR,mV++Qbo⟩ Qa (Qg Qd ⟨aR,mV++[(401,Sj),(402, .box 103 [I 1,I 1000]),(403, .arr 3 1 (List.map ci [1,2]).length),(405, .mf [(true,[108,105,109,105,116], .agg [.tsl 1 (List.map ci [1,2]) 403,B false, .fn (.func 78) [] [.ptr 402 0]]),(true,[110,101,117,116,114,97,108], .agg [.tsl 1 (List.map ci [1,2]) 403,B false, .fn (.func 79) [] [.ptr 402 0]]),(true,[102,117,115,101], .agg [.tsl 1 (List.map ci [1,2]) 403,B true, .fn (.func 80) [] [.ptr 402 0]]),(true,[116,104,101,114,109,97,108], .agg [.tsl 1 (List.map ci [1,2]) 403,B true, .p (.val (.func (.func 81) #[] #[]))]),(true,[102,114,111,109], .agg [.tsl 1 (List.map ci [2]) 417,B false, .fn (.func 82) [] [.ptr 401 0]]),(true,[111,119,110,101,114], .agg [.tsl 1 (List.map ci [4,5]) 7,B false, .p (.val (.func (.func 44) #[] #[]))]),(true,[114,97,110,107], .agg [.tsl 1 (List.map ci [4]) 10,B false, .p (.val (.func (.func 46) #[] #[]))]),(true,[99,97,114,100], .agg [.tsl 1 (List.map ci [4]) 13,B false, .p (.val (.func (.func 48) #[] #[]))]),(true,[97,116], .agg [.tsl 1 (List.map ci [5]) 15,B false, .p (.val (.func (.func 50) #[] #[]))])]),(417, .arr 3 1 (List.map ci [2]).length)]⟩ Qa (Qg Qd ⟨aR,mV++[(401,Sj),(402, .box 103 [I 1,I 1000]),(403, .arr 3 1 (List.map ci [1,2]).length),(405, .mf (Qck 403 402 417 401 7 10 13 15)),(417, .arr 3 1 (List.map ci [2]).length)]⟩ Qa (Qg Qd ⟨[(1, .mv 405),(3, .tsl 1 (List.map ci [5]) 15)],mV++[(401,Sj),(402, .box 103 [I 1,I 1000]),(403, .arr 3 1 (List.map ci [1,2]).length),(405, .mf (Qcj 403 402 417 401 7 10 13 15 2)),(417, .arr 3 1 (List.map ci [2]).length)]⟩ Qa ?_)))))))
 refine Qg Qd ⟨[(1, .mv 405)],mV++[(401,Sj),(402, .box 103 [I 1,I 1000]),(403, .arr 3 1 (List.map ci [1,2]).length),(405, .mf (Qci 403 402 417 401 7 10 13 15 2)),(417, .arr 3 1 (List.map ci [2]).length)]⟩ Qa (Qg Qd ⟨[(1, .mv 405)],Qbp++Qbq⟩ Qa (Qg Qd ⟨[(0, .mv 405)],Qbp++Qbq⟩ Qa (sT (Q4 (.id) [2,7,10,13,15,30,401,402,403,405,417] [] (.mv 405) Qa Qa (WQ (xR 1 Qa (xE ?_)))))))
 refine Qp ⟨[qq 1,qq 2,(4, .ptr 17 0),(5, .mv 405)],Qbm a0n++aS⟩ Qa (K6 (fun (j2_1,j2_2,j2_3,j2_4,j2_5,j2_6,j2_7,j2_8,j2_9)=>(aT j2_8 j2_9 j2_1 j2_2 j2_3 j2_4 j2_5 j2_6 j2_7):ty4→St) ?_ ?_)
 rotate_left
 ·rintro ⟨j2_1,j2_2,j2_3,j2_4,j2_5,j2_6,j2_7,j2_8,j2_9⟩
  refine sS (Qg Qd ⟨[qq 2,(4, .ptr 17 0),(42,B (QO 0 (Qc (Wm j2_7))))],xU j2_8 j2_9 j2_1 j2_2 j2_3 j2_4 j2_5 j2_6 j2_7++[(423,(WE j2_7))]++y7 j2_1 j2_2 j2_3 j2_4 j2_5⟩ Qa (sC (QO 0 (Qc (Wm j2_7))) Qa ?_ ?_))
  ·refine Qg Qd ⟨[qq 2,(3, .tsl 2 (Wm j2_7) 423)],[(2,zQ),(423,(WE j2_7))]⟩ Qa (sT (Q7 ?_))
   exact qR (.agg [.agg [.sl 11, .sl 1, .sl 4, .sl 8, .sl 2], .sl 2]) Qa Qa Qa
  refine sK (Qp (aT j2_8 j2_9 j2_1 j2_2 j2_3 j2_4 j2_5 j2_6 j2_7) Qa (sS (Qg Qd ⟨[qq 2,(4, .ptr 17 0),(52,B (!j2_6))],xU j2_8 j2_9 j2_1 j2_2 j2_3 j2_4 j2_5 j2_6 j2_7++[(423,(WE j2_7))]++y7 j2_1 j2_2 j2_3 j2_4 j2_5⟩ Qa (sC (!j2_6) Qa ?_ ?_))))
  ·refine Qg Qd ⟨[qq 2,(3, .tsl 2 (Wm [(⟨4,0⟩:ZX)]) 55)],[(2,zQ),(55,(dC (⟨4,0⟩:ZX)))]⟩ Qa (sT (Q7 ?_))
   exact qR (.agg [.agg [.sl 11, .sl 1, .sl 4, .sl 8, .sl 2], .sl 2]) Qa Qa Qa
  refine sK (Qp (aT j2_8 j2_9 j2_1 j2_2 j2_3 j2_4 j2_5 j2_6 j2_7) Qa (Qg Qd ⟨[qq 2,(3,zS)],[(2, .box 33 [.tsl 11 (Gg j2_1) 700, .tsl 1 (Kq j2_2) 701, .tsl 4 (Ht j2_3) 702, .tsl 8 (Gq j2_4) 703, .tsl 2 (VJ j2_5) 704]),(700,(zR j2_1)),(701,(zT j2_2)),(702,(zU j2_3)),(703,(zV j2_4)),(704,(zW j2_5))]⟩ Qa (sT ?_)))
  exact qR (.agg [.agg [.sl 11, .sl 1, .sl 4, .sl 8, .sl 2], .sl 2]) Qa Qa Qa
 refine Qg Qd ⟨aU a0n 0,Qbs++aS⟩ Qa (sB (EU ⟨aU a0n 0,Qbs++aS⟩ Qa (Zz (Weak.trans (KT 65 2 423 [] [(17,8)] Qa) (Weak.trans (KT 49 11 700 [] [(17,0)] Qa) (Weak.trans (KT 52 1 701 [] [(17,1)] Qa) (Weak.trans (KT 54 4 702 [] [(17,2)] Qa) (Weak.trans (KT 56 8 703 [] [(17,3)] Qa) (KT 58 2 704 [] [(17,4)] Qa)))))) (QI (fun (l3_1,l3_2,l3_3,l3_4,l3_5,l3_6,l3_7,l3_8,l3_9,l3_10)=>(cz a0n l3_1 l3_9 l3_10 l3_2 l3_3 l3_4 l3_5 l3_6 l3_7 l3_8):ty7→St) (Xg Qa) ?_))))
 rintro recl3 ⟨l3_1,l3_2,l3_3,l3_4,l3_5,l3_6,l3_7,l3_8,l3_9,l3_10⟩
 show QV (Y6 n a0n recl3 l3_1 l3_2 l3_3 l3_4 l3_5 l3_6 l3_7 l3_8 l3_9 l3_10) _ _ _ _ _ _
 unfold Y6
 refine Qg Qd ⟨[qq 2,(4, .ptr 17 0),(5, .mv 405),(20, .p (.sl 5 (mI a0n.Kids))),(21,I (Qc (mI a0n.Kids))),(22,I l3_1),(23,B (QO l3_1 (Qc (mI a0n.Kids))))],xU l3_9 l3_10 l3_2 l3_3 l3_4 l3_5 l3_6 l3_7 l3_8++wz l3_8++y7 l3_2 l3_3 l3_4 l3_5 l3_6⟩ Qa (sS (sC (QO l3_1 (Qc (mI a0n.Kids))) Qa ?_ ?_))
 rotate_left
 ·refine Qz (ZW (KM (QW ?_)))
  exact QQ (l3_2,l3_3,l3_4,l3_5,l3_6,l3_7,l3_8,l3_9,l3_10) Qa
 refine sK (Qp (cz a0n l3_1 l3_9 l3_10 l3_2 l3_3 l3_4 l3_5 l3_6 l3_7 l3_8) Qa (sS (sB (sS (sG ?_)))))
 refine xG Qa Qa (Yc (e:=24) (S:=5) (enc:=GN.cs) (dec:=GN.of) (l:=a0n.Kids) (k:=.i64) (n:=l3_1) (sv:=.p (.sl 5 (mI a0n.Kids))) GN.of_cs rfl Qa Qa Qa Qa Qa) (fun x4=>?_)
 refine xR 3 Qa (xE (Qp ⟨[qq 2,(4, .ptr 17 0),(5, .mv 405),qq 7,(20, .p (.sl 5 (mI a0n.Kids))),(21,I (Qc (mI a0n.Kids))),(22,I l3_1)],[(2,zQ),(7,RF x4),(14, .mp (JD QT QU l3_9)),(15, .mp (JD VK VL l3_10)),(17,(Qbr l3_2 l3_3 l3_4 l3_5 l3_6 l3_7 l3_8))]++wz l3_8++y7 l3_2 l3_3 l3_4 l3_5 l3_6⟩ Qa (K6 (fun (j5_1,j5_2,j5_3,j5_4,j5_5,j5_6,j5_7,j5_8)=>(cz a0n l3_1 (Qk Qb x4.Name true l3_9) j5_8 j5_1 j5_2 j5_3 j5_4 j5_5 j5_6 j5_7):((List ZJ) × (List Zb) × (List ZT) × (List ZY) × (List Zi) × Bool × (List ZX) × (List ((List UInt8) × Kt)))→St) ?_ ?_)))
 rotate_left
 ·rintro ⟨j5_1,j5_2,j5_3,j5_4,j5_5,j5_6,j5_7,j5_8⟩
  refine Qg Qd ⟨[qq 2,(4, .ptr 17 0),(5, .mv 405),(20, .p (.sl 5 (mI a0n.Kids))),(21,I (Qc (mI a0n.Kids))),(22,I l3_1),(35,B (Qi (Qc (Wm j5_7)) 20))],xU (Qk Qb x4.Name true l3_9) j5_8 j5_1 j5_2 j5_3 j5_4 j5_5 j5_6 j5_7++wz j5_7++y7 j5_1 j5_2 j5_3 j5_4 j5_5⟩ Qa (sC (Qi (Qc (Wm j5_7)) 20) Qa ?_ ?_)
  ·refine Qz (Oq rfl (ZW (KM (QW ?_))))
   exact QQ (j5_1,j5_2,j5_3,j5_4,j5_5,j5_6,j5_7,Qk Qb x4.Name true l3_9,j5_8) Qa
  refine sK (Q6 (Qp (cz a0n l3_1 (Qk Qb x4.Name true l3_9) j5_8 j5_1 j5_2 j5_3 j5_4 j5_5 j5_6 j5_7) Qa (sL Qd Qa ?_)))
  exact KQ (wi (l3_1+1),j5_1,j5_2,j5_3,j5_4,j5_5,j5_6,j5_7,Qk Qb x4.Name true l3_9,j5_8) Qa
 refine sG (xR 3 Qa (Yb (f:=26) (args:=[.ptr 17 0, .agg [I x4.Kind,S x4.Name,I x4.N,I x4.At, .p (.sl 5 (mI x4.Kids))], .mv 405]) Qa Qa Qa ?_))
 refine T9 (hc:=(F8 l3_9 l3_10 l3_2 l3_3 l3_4 l3_5 l3_6 l3_7 l3_8++[(1010, .box 103 [I 1,I 80]),(1011, .arr 3 1 (List.map ci [1,2]).length),(1012, .mf (UH 1011 1019 1017 1009 1013 1014 1015 1016 1010 1018)),(1013, .arr 3 1 (List.map ci [4,5]).length),(1014, .arr 3 1 (List.map ci [4]).length),(1015, .arr 3 1 (List.map ci [4]).length),(1016, .arr 3 1 (List.map ci [5]).length),(1017, .arr 3 1 (List.map ci [2]).length),(1018, .arr 3 1 (List.map ci [6]).length),(1019, .box 103 [I 1,I 1000])])) (args':=[Lx, .agg [I x4.Kind,S x4.Name,I x4.N,I x4.At, .p (.sl 5 (mI x4.Kids))], .mv 1012]) [(1000,14),(1001,15),(1002,17),(1009,401),(1010,402),(1011,403),(1012,405),(1013,407),(1014,410),(1015,413),(1016,415),(1017,417),(1003,423),(1018,430),(1019,439),(1004,700),(1005,701),(1006,702),(1007,703),(1008,704)] [] [] (⟨_,_,_,_,_,_,[3],10,_,rfl,rfl,rfl,rfl,rfl,rfl,rfl,rfl,by decide⟩:GY Tryz.f26 56) [(3,1900)] Tryz.func26 Tryz.ntmps26 Qa Qa Qa Qa Qa Qd rfl Qa Qa ?_
 refine EU (cB x4 l3_9 l3_10 l3_2 l3_3 l3_4 l3_5 l3_6 l3_7 l3_8) Qa (K6 (fun j6=>⟨aW j6,Hy x4++F8 l3_9 l3_10 l3_2 l3_3 l3_4 l3_5 l3_6 l3_7 l3_8++RG⟩:Bool→St) ?_ ?_)
 ·refine Vq Qd rfl (xR 6 Qa ?_)
  refine ZH Qa Qa (Zt (kt:=9) (e:=4) (ke:=QT) (ve:=QU) (eq:=Qb) (b:=1000) (m:=l3_9) (k:=x4.Name) (z0:=false) rfl Qa Qa Qa Qa Qa QS (fun _ _=>Q0 rfl _ _) Qa) ?_
  refine xR 1 Qa ?_
  refine xS (QB Qb x4.Name false l3_9) (fun h7=>?_) (fun h7=>?_)
  ·refine xN (Qx Qa h7) Qa (xR 10 Qa (YB Qa ?_))
   exact QQ true Qa
  refine xO (Qw Qa h7) Qa (xR 3 Qa ?_)
  refine xS (Qi x4.N 1) (fun h8=>?_) (fun h8=>?_)
  ·refine xO (Qq Qa h8) Qa (xR 6 Qa (YB Qa ?_))
   exact QQ l3_7 Qa
  refine xN (Qr Qa h8) Qa (xR 6 Qa (YB Qa ?_))
  exact QQ false Qa
 rintro j6
 refine sS (Vq Qd rfl (xR 6 Qa ?_))
 refine ZH Qa Qa (Yd (kt:=9) (e:=4) (ke:=QT) (ve:=QU) (eq:=Qb) (b:=1000) (m:=l3_9) (k:=x4.Name) (v:=true) rfl Qa Qa Qa Qa Qa Qa QS (fun _ _=>Q0 rfl _ _)) ?_
 refine YB Qa (Qp ⟨aW j6,Hy x4++F8 (Qk Qb x4.Name true l3_9) l3_10 l3_2 l3_3 l3_4 l3_5 l3_6 l3_7 l3_8++RG⟩ Qa (K6 (fun j9=>⟨aW j6,Hy x4++F8 (Qk Qb x4.Name true l3_9) l3_10 l3_2 l3_3 l3_4 l3_5 l3_6 j9 l3_8++RG⟩:Bool→St) ?_ ?_))
 ·refine Vq Qd rfl (xR 6 Qa ?_)
  refine xS l3_7 (fun h10=>?_) (fun h10=>?_)
  ·refine xN (Qx Qa h10) Qa (xR 6 Qa (YB Qa ?_))
   exact QQ true Qa
  refine xO (Qw Qa h10) Qa (xR 6 Qa (YB Qa ?_))
  exact QQ (Qi x4.N 1) Qa
 rintro j9
 refine sS (Qg Qd ⟨[(2, .mv 1012),(3, .ptr 1900 0),qq 4,(47,B j6)],Hy x4++F8 (Qk Qb x4.Name true l3_9) l3_10 l3_2 l3_3 l3_4 l3_5 l3_6 j9 l3_8++RG⟩ Qa (sC j6 Qa ?_ ?_))
 ·refine sG (xR 1 Qa (Vo [] [I 5, .agg [I x4.Kind,S x4.Name,I x4.N,I x4.At, .p (.sl 5 (mI x4.Kids))]] [] [] [] Qa Tryz.func49 rfl Tryz.ntmps49 rfl Qa Qa Qa (Qg Qd ⟨[(0,I 5),qq 3],WL x4⟩ Qa (sG (xR 6 Qa (XM 116 (.agg [I 5,I x4.At]) Qa rfl Qa (ZN [] [] Qa ?_)))))))
  refine Z8 ?_
  refine JB (⟨Tryz.f56,_,_,_,4,1,_,_,Tryz.func56,rfl,rfl,rfl,rfl,rfl,rfl,rfl,by decide,by decide⟩:Ke Tryz.prog 56) uj (YC (Qk Qb x4.Name true l3_9) l3_10 l3_2 l3_3 l3_4 l3_5 l3_6 j9 l3_8) (.ifc 116 (.agg [I 5,I x4.At])) [.ptr 1009 0] [] rfl Qa Qa Qa Qa ?_
  refine Qg Qd ⟨cK 5 x4.At,YC (Qk Qb x4.Name true l3_9) l3_10 l3_2 l3_3 l3_4 l3_5 l3_6 j9 l3_8⟩ Qa (Zm Qa (Qg Qd ⟨cO 5 x4.At,Bq 5 x4.At++YC (Qk Qb x4.Name true l3_9) l3_10 l3_2 l3_3 l3_4 l3_5 l3_6 j9 l3_8⟩ Qa (sS (Qg Qd ⟨cZ 5 x4.At,Bq 5 x4.At++YC (Qk Qb x4.Name true l3_9) l3_10 l3_2 l3_3 l3_4 l3_5 l3_6 j9 l3_8⟩ Qa (Zn Qa (sK (Qp (rf 5 x4.At (Qk Qb x4.Name true l3_9) l3_10 l3_2 l3_3 l3_4 l3_5 l3_6 j9 l3_8) Qa ?_)))))))
  refine Vq Qd rfl (xR 8 Qa (xF Qa Qa (ZM (e:=65) (S:=2) (by_:=16) (enc:=ZX.cs) (tk:=1003) (l:=l3_8) (l2:=[(⟨5,x4.At⟩:ZX)]) (xv:=.tsl 2 (Wm [(⟨5,x4.At⟩:ZX)]) 22) rfl Qa Qa rfl Qa Qa Qa rfl Qa) (xR 3 Qa (YB Qa (CO [1000,1001,1002,1003,1004,1005,1006,1007,1008,1009] [] Qa Qa (Q4 (.id) [1000,1001,1002,1003,1004,1005,1006,1007,1008,1009,1010,1011,1012,1013,1014,1015,1016,1017,1018,1019] [] (.tup []) Qa Qa (WQ ?_)))))))
  refine xE ?_
  exact QQ (l3_2,l3_3,l3_4,l3_5,l3_6,j9,l3_8++[(⟨5,x4.At⟩:ZX)],l3_10) Qa
 refine sK (Qp (cB x4 (Qk Qb x4.Name true l3_9) l3_10 l3_2 l3_3 l3_4 l3_5 l3_6 j9 l3_8) Qa (sS (Qg Qd ⟨[(2, .mv 1012),(3, .ptr 1900 0),qq 4,(52,B (Qi x4.N 7))],Hy x4++F8 (Qk Qb x4.Name true l3_9) l3_10 l3_2 l3_3 l3_4 l3_5 l3_6 j9 l3_8++RG⟩ Qa (sC (Qi x4.N 7) Qa ?_ ?_))))
 ·refine sT (Q7 ?_)
  refine JB (⟨Tryz.f56,_,_,_,4,1,_,_,Tryz.func56,rfl,rfl,rfl,rfl,rfl,rfl,rfl,by decide,by decide⟩:Ke Tryz.prog 56) uj (YC (Qk Qb x4.Name true l3_9) l3_10 l3_2 l3_3 l3_4 l3_5 l3_6 j9 l3_8) (.p (.val (.nilIface))) [.ptr 1009 0] [] rfl Qa Qa Qa Qa ?_
  refine Qg Qd ⟨zX,YC (Qk Qb x4.Name true l3_9) l3_10 l3_2 l3_3 l3_4 l3_5 l3_6 j9 l3_8⟩ Qa (Zn Qa (sK (CO [1000,1001,1002,1003,1004,1005,1006,1007,1008,1009] [] Qa Qa (Q4 (.id) [1000,1001,1002,1003,1004,1005,1006,1007,1008,1009,1010,1011,1012,1013,1014,1015,1016,1017,1018,1019] [] (.tup []) Qa Qa (WQ (xE ?_))))))
  exact QQ (l3_2,l3_3,l3_4,l3_5,l3_6,j9,l3_8,l3_10) Qa
 refine sK (Qp (cB x4 (Qk Qb x4.Name true l3_9) l3_10 l3_2 l3_3 l3_4 l3_5 l3_6 j9 l3_8) Qa (sS (K6 (fun (j11_1,j11_2)=>⟨[(2, .mv 1012),(3, .ptr 1900 0),qq 4,(7,I j11_1),(8,I j11_2)],Hy x4++F8 (Qk Qb x4.Name true l3_9) l3_10 l3_2 l3_3 l3_4 l3_5 l3_6 j9 l3_8++RG⟩:(Int × Int)→St) ?_ ?_)))
 ·refine sG (xR 3 Qa (Vo (Vy (Qk Qb x4.Name true l3_9) l3_10 l3_2 l3_3 l3_4 l3_5 l3_6 j9 l3_8) [Lx,I x4.N] [(1000,1000),(1001,1001),(1002,1002),(1003,1003),(1004,1004),(1005,1005),(1006,1006),(1007,1007),(1008,1008)] [] [] Qa Tryz.func57 rfl Tryz.ntmps57 rfl Qa Qa Qa (Qg Qd ⟨[(0,Lx),(1,I x4.N)],Vy (Qk Qb x4.Name true l3_9) l3_10 l3_2 l3_3 l3_4 l3_5 l3_6 j9 l3_8⟩ Qa (sS (Qg Qd ⟨[(0,Lx),(6,I x4.N)],Vy (Qk Qb x4.Name true l3_9) l3_10 l3_2 l3_3 l3_4 l3_5 l3_6 j9 l3_8⟩ Qa (sB (K6 (fun j12=>⟨rq x4.N j12,Vy (Qk Qb x4.Name true l3_9) l3_10 l3_2 l3_3 l3_4 l3_5 l3_6 j9 l3_8⟩:Bool→St) ?_ ?_)))))))
  ·refine Qg Qd ⟨rq x4.N (Qi x4.N 1),Vy (Qk Qb x4.Name true l3_9) l3_10 l3_2 l3_3 l3_4 l3_5 l3_6 j9 l3_8⟩ Qa (sC (Qi x4.N 1) Qa ?_ ?_)
   ·refine sK ?_
    exact QQ (Qi x4.N 1) Qa
   refine sL Qd Qa ?_
   exact QQ (Qi x4.N 2) Qa
  rintro j12
  refine sC j12 Qa ?_ ?_
  ·refine Qg Qd ⟨Qbt l3_2,Vy (Qk Qb x4.Name true l3_9) l3_10 l3_2 l3_3 l3_4 l3_5 l3_6 j9 l3_8⟩ Qa (sT (Zd (Q7 (Q4 (.id) [1000,1001,1002,1003,1004,1005,1006,1007,1008] [] (.tup [I (Qc (Gg l3_2)),I 16]) Qa Qa (WQ (xR 5 Qa (xE ?_)))))))
   exact QQ (Qc (Gg l3_2),16) Qa
  refine Qg Qd ⟨[(0,Lx),(6,I x4.N),(16,B (Qi x4.N 3))],Vy (Qk Qb x4.Name true l3_9) l3_10 l3_2 l3_3 l3_4 l3_5 l3_6 j9 l3_8⟩ Qa (sC (Qi x4.N 3) Qa ?_ ?_)
  ·refine Qg Qd ⟨[(4,I (Qc (Kq l3_3))),(5,I 8)],Vy (Qk Qb x4.Name true l3_9) l3_10 l3_2 l3_3 l3_4 l3_5 l3_6 j9 l3_8⟩ Qa (sT (Zd (Q7 (Q4 (.id) [1000,1001,1002,1003,1004,1005,1006,1007,1008] [] (.tup [I (Qc (Kq l3_3)),I 8]) Qa Qa (WQ (xR 5 Qa (xE ?_)))))))
   exact QQ (Qc (Kq l3_3),8) Qa
  refine Qg Qd ⟨[(0,Lx),(6,I x4.N),(24,B (Qi x4.N 4))],Vy (Qk Qb x4.Name true l3_9) l3_10 l3_2 l3_3 l3_4 l3_5 l3_6 j9 l3_8⟩ Qa (sC (Qi x4.N 4) Qa ?_ ?_)
  ·refine Qg Qd ⟨Qbu l3_4,Vy (Qk Qb x4.Name true l3_9) l3_10 l3_2 l3_3 l3_4 l3_5 l3_6 j9 l3_8⟩ Qa (sT (Zd (Q7 (Q4 (.id) [1000,1001,1002,1003,1004,1005,1006,1007,1008] [] (.tup [I (Qc (Ht l3_4)),I 32]) Qa Qa (WQ (xR 5 Qa (xE ?_)))))))
   exact QQ (Qc (Ht l3_4),32) Qa
  refine Qg Qd ⟨[(0,Lx),(32,B (Qi x4.N 5))],Vy (Qk Qb x4.Name true l3_9) l3_10 l3_2 l3_3 l3_4 l3_5 l3_6 j9 l3_8⟩ Qa (sC (Qi x4.N 5) Qa ?_ ?_)
  ·refine Qg Qd ⟨[(4,I (Qc (Gq l3_5))),(5,I 16)],Vy (Qk Qb x4.Name true l3_9) l3_10 l3_2 l3_3 l3_4 l3_5 l3_6 j9 l3_8⟩ Qa (sT (Zd (Q7 (Q4 (.id) [1000,1001,1002,1003,1004,1005,1006,1007,1008] [] (.tup [I (Qc (Gq l3_5)),I 16]) Qa Qa (WQ (xR 5 Qa (xE ?_)))))))
   exact QQ (Qc (Gq l3_5),16) Qa
  refine sK (Q6 (Qp ⟨[(0,Lx)],Vy (Qk Qb x4.Name true l3_9) l3_10 l3_2 l3_3 l3_4 l3_5 l3_6 j9 l3_8⟩ Qa (Qg Qd ⟨[(4,I (Qc (VJ l3_6))),(5,I 24)],Vy (Qk Qb x4.Name true l3_9) l3_10 l3_2 l3_3 l3_4 l3_5 l3_6 j9 l3_8⟩ Qa (sT (Q4 (.id) [1000,1001,1002,1003,1004,1005,1006,1007,1008] [] (.tup [I (Qc (VJ l3_6)),I 24]) Qa Qa (WQ (xR 5 Qa ?_)))))))
  refine xE ?_
  exact QQ (Qc (VJ l3_6),24) Qa
 rintro ⟨j11_1,j11_2⟩
 refine Qg Qd ⟨[(2, .mv 1012),(3, .ptr 1900 0),qq 4,(62,B (leI j11_2 j11_1))],Hy x4++F8 (Qk Qb x4.Name true l3_9) l3_10 l3_2 l3_3 l3_4 l3_5 l3_6 j9 l3_8++RG⟩ Qa (sC (leI j11_2 j11_1) Qa ?_ ?_)
 ·refine sG (xR 1 Qa (Vo [] [I 2, .agg [I x4.Kind,S x4.Name,I x4.N,I x4.At, .p (.sl 5 (mI x4.Kids))]] [] [] [] Qa Tryz.func49 rfl Tryz.ntmps49 rfl Qa Qa Qa (Qg Qd ⟨[(0,I 2),qq 3],WL x4⟩ Qa (sG (xR 6 Qa (XM 116 (.agg [I 2,I x4.At]) Qa rfl Qa (ZN [] [] Qa ?_)))))))
  refine Z8 ?_
  refine JB (⟨Tryz.f56,_,_,_,4,1,_,_,Tryz.func56,rfl,rfl,rfl,rfl,rfl,rfl,rfl,by decide,by decide⟩:Ke Tryz.prog 56) uj (YC (Qk Qb x4.Name true l3_9) l3_10 l3_2 l3_3 l3_4 l3_5 l3_6 j9 l3_8) (.ifc 116 (.agg [I 2,I x4.At])) [.ptr 1009 0] [] rfl Qa Qa Qa Qa ?_
  refine Qg Qd ⟨cK 2 x4.At,YC (Qk Qb x4.Name true l3_9) l3_10 l3_2 l3_3 l3_4 l3_5 l3_6 j9 l3_8⟩ Qa (Zm Qa (Qg Qd ⟨cO 2 x4.At,Bq 2 x4.At++YC (Qk Qb x4.Name true l3_9) l3_10 l3_2 l3_3 l3_4 l3_5 l3_6 j9 l3_8⟩ Qa (sS (Qg Qd ⟨cZ 2 x4.At,Bq 2 x4.At++YC (Qk Qb x4.Name true l3_9) l3_10 l3_2 l3_3 l3_4 l3_5 l3_6 j9 l3_8⟩ Qa (Zn Qa (sK (Qp (rf 2 x4.At (Qk Qb x4.Name true l3_9) l3_10 l3_2 l3_3 l3_4 l3_5 l3_6 j9 l3_8) Qa ?_)))))))
  refine Vq Qd rfl (xR 8 Qa (xF Qa Qa (ZM (e:=65) (S:=2) (by_:=16) (enc:=ZX.cs) (tk:=1003) (l:=l3_8) (l2:=[(⟨2,x4.At⟩:ZX)]) (xv:=.tsl 2 (Wm [(⟨2,x4.At⟩:ZX)]) 22) rfl Qa Qa rfl Qa Qa Qa rfl Qa) (xR 3 Qa (YB Qa (CO [1000,1001,1002,1003,1004,1005,1006,1007,1008,1009] [] Qa Qa (Q4 (.id) [1000,1001,1002,1003,1004,1005,1006,1007,1008,1009,1010,1011,1012,1013,1014,1015,1016,1017,1018,1019] [] (.tup []) Qa Qa (WQ ?_)))))))
  refine xE ?_
  exact QQ (l3_2,l3_3,l3_4,l3_5,l3_6,j9,l3_8++[(⟨2,x4.At⟩:ZX)],l3_10) Qa
 refine sK (Qp (cB x4 (Qk Qb x4.Name true l3_9) l3_10 l3_2 l3_3 l3_4 l3_5 l3_6 j9 l3_8) Qa (sS (sG (xR 2 Qa (ZH Qa Qa (EH (d:=67) (rsv:=none) rfl rfl Qa) (xR 3 Qa (xE ?_)))))))
 refine Qp ⟨[(2, .mv 1012),(9, .ptr 69 0)],[(67, .mp (JD QT QU [])),(69, .box 108 ([Lx]++Ya (GN.cs x4)++[.mv 67,S [],I 0,I 0,I 0,I 0,I 0,I 0,I 0,I 0,I 0,I 0,S [],I 0,I 0,I 0,S [],I 0,I 0,I 0,I 0,I 0,I 0,I 0,S [],I 0]))]++F8 (Qk Qb x4.Name true l3_9) l3_10 l3_2 l3_3 l3_4 l3_5 l3_6 j9 l3_8++RG⟩ Qa (sS (sG (xR 2 Qa ?_)))
 refine U6 Qbv [] [] Qa (Ak n x4 (⟨[],0,0,0,(⟨0,0⟩:Rw),(⟨0,0,0,0,0⟩:J4)⟩:ZJ) (⟨[],0,0,0⟩:ZT) (⟨[],0,0,0,0,0,0,0⟩:ZY) (⟨[],0⟩:Zi) (⟨l3_2,l3_3,l3_4,l3_5,l3_6⟩:Qm) j9 l3_8 (Qk Qb x4.Name true l3_9) l3_10 []) Qa Qa Qa QS QS QS QS (fun r13=>?_) (fun e14=>?_)
 rotate_left
 ·refine Z8 ?_
  refine JB (⟨Tryz.f56,_,_,_,4,1,_,_,Tryz.func56,rfl,rfl,rfl,rfl,rfl,rfl,rfl,by decide,by decide⟩:Ke Tryz.prog 56) uj (YC (Qk Qb x4.Name true l3_9) l3_10 l3_2 l3_3 l3_4 l3_5 l3_6 j9 l3_8) (.ifc 116 (.agg [I e14.1.1,I e14.1.2])) [.ptr 1009 0] [] rfl Qa Qa Qa Qa ?_
  refine Qg Qd ⟨cK e14.1.1 e14.1.2,YC (Qk Qb x4.Name true l3_9) l3_10 l3_2 l3_3 l3_4 l3_5 l3_6 j9 l3_8⟩ Qa (Zm Qa (Qg Qd ⟨cO e14.1.1 e14.1.2,Bq e14.1.1 e14.1.2++YC (Qk Qb x4.Name true l3_9) l3_10 l3_2 l3_3 l3_4 l3_5 l3_6 j9 l3_8⟩ Qa (sS (Qg Qd ⟨cZ e14.1.1 e14.1.2,Bq e14.1.1 e14.1.2++YC (Qk Qb x4.Name true l3_9) l3_10 l3_2 l3_3 l3_4 l3_5 l3_6 j9 l3_8⟩ Qa (Zn Qa (sK (Qp (rf e14.1.1 e14.1.2 (Qk Qb x4.Name true l3_9) l3_10 l3_2 l3_3 l3_4 l3_5 l3_6 j9 l3_8) Qa ?_)))))))
  refine Vq Qd rfl (xR 8 Qa (xF Qa Qa (ZM (e:=65) (S:=2) (by_:=16) (enc:=ZX.cs) (tk:=1003) (l:=l3_8) (l2:=[(⟨e14.1.1,e14.1.2⟩:ZX)]) (xv:=.tsl 2 (Wm [(⟨e14.1.1,e14.1.2⟩:ZX)]) 22) rfl Qa Qa rfl Qa Qa Qa rfl Qa) (xR 3 Qa (YB Qa (CO [1000,1001,1002,1003,1004,1005,1006,1007,1008,1009] [] Qa Qa (Q4 (.id) [1000,1001,1002,1003,1004,1005,1006,1007,1008,1009,1010,1011,1012,1013,1014,1015,1016,1017,1018,1019] [] (.tup []) Qa Qa (WQ ?_)))))))
  refine xE ?_
  exact QQ (l3_2,l3_3,l3_4,l3_5,l3_6,j9,l3_8++[(⟨e14.1.1,e14.1.2⟩:ZX)],l3_10) Qa
 refine xE (Qp ⟨[(2, .mv 1012),(9, .ptr 69 0)],[(67, .mp (JD QT QU r13.2.2.2.2)),(69,(Qbw x4 r13.1 r13.2.1 r13.2.2.1 r13.2.2.2.1.Name r13.2.2.2.1.Charger))]++F8 (Qk Qb x4.Name true l3_9) l3_10 l3_2 l3_3 l3_4 l3_5 l3_6 j9 l3_8++RG⟩ Qa (sS (sG (xR 2 Qa ?_))))
 refine U6 Qbv [] [] Qa (Al n x4 r13.1 r13.2.1 r13.2.2.1 r13.2.2.2.1 (⟨l3_2,l3_3,l3_4,l3_5,l3_6⟩:Qm) j9 l3_8 (Qk Qb x4.Name true l3_9) l3_10 r13.2.2.2.2) Qa Qa Qa QS QS QS QS (fun r15=>?_) (fun e16=>?_)
 rotate_left
 ·refine Z8 ?_
  refine JB (⟨Tryz.f56,_,_,_,4,1,_,_,Tryz.func56,rfl,rfl,rfl,rfl,rfl,rfl,rfl,by decide,by decide⟩:Ke Tryz.prog 56) uj (YC (Qk Qb x4.Name true l3_9) l3_10 l3_2 l3_3 l3_4 l3_5 l3_6 j9 l3_8) (.ifc 116 (.agg [I e16.1,I e16.2])) [.ptr 1009 0] [] rfl Qa Qa Qa Qa ?_
  refine Qg Qd ⟨cK e16.1 e16.2,YC (Qk Qb x4.Name true l3_9) l3_10 l3_2 l3_3 l3_4 l3_5 l3_6 j9 l3_8⟩ Qa (Zm Qa (Qg Qd ⟨cO e16.1 e16.2,Bq e16.1 e16.2++YC (Qk Qb x4.Name true l3_9) l3_10 l3_2 l3_3 l3_4 l3_5 l3_6 j9 l3_8⟩ Qa (sS (Qg Qd ⟨cZ e16.1 e16.2,Bq e16.1 e16.2++YC (Qk Qb x4.Name true l3_9) l3_10 l3_2 l3_3 l3_4 l3_5 l3_6 j9 l3_8⟩ Qa (Zn Qa (sK (Qp (rf e16.1 e16.2 (Qk Qb x4.Name true l3_9) l3_10 l3_2 l3_3 l3_4 l3_5 l3_6 j9 l3_8) Qa ?_)))))))
  refine Vq Qd rfl (xR 8 Qa (xF Qa Qa (ZM (e:=65) (S:=2) (by_:=16) (enc:=ZX.cs) (tk:=1003) (l:=l3_8) (l2:=[(⟨e16.1,e16.2⟩:ZX)]) (xv:=.tsl 2 (Wm [(⟨e16.1,e16.2⟩:ZX)]) 22) rfl Qa Qa rfl Qa Qa Qa rfl Qa) (xR 3 Qa (YB Qa (CO [1000,1001,1002,1003,1004,1005,1006,1007,1008,1009] [] Qa Qa (Q4 (.id) [1000,1001,1002,1003,1004,1005,1006,1007,1008,1009,1010,1011,1012,1013,1014,1015,1016,1017,1018,1019] [] (.tup []) Qa Qa (WQ ?_)))))))
  refine xE ?_
  exact QQ (l3_2,l3_3,l3_4,l3_5,l3_6,j9,l3_8++[(⟨e16.1,e16.2⟩:ZX)],l3_10) Qa
 refine xE (Qp ⟨[(9, .ptr 69 0)],[(67, .mp (JD QT QU r13.2.2.2.2)),(69,(Qbw x4 r13.1 r13.2.1 r13.2.2.1 r13.2.2.2.1.Name r13.2.2.2.1.Charger))]++F8 (Qk Qb x4.Name true l3_9) l3_10 l3_2 l3_3 l3_4 l3_5 l3_6 j9 l3_8++RG⟩ Qa (sG (xR 1 Qa (Vo (Gi r13.2.2.2.2 x4 r13.1 r13.2.1 r13.2.2.1 r13.2.2.2.1.Name r13.2.2.2.1.Charger (Qk Qb x4.Name true l3_9) l3_10 l3_2 l3_3 l3_4 l3_5 l3_6 j9 l3_8) [Tj] [(1000,67),(1001,69),(1002,1000),(1003,1001),(1004,1002),(1005,1003),(1006,1004),(1007,1005),(1008,1006),(1009,1007),(1010,1008)] [] [] Qa Tryz.func60 rfl Tryz.ntmps60 rfl Qa Qa Qa (Qg Qd ⟨Qbx x4.Name,Gi r13.2.2.2.2 x4 r13.1 r13.2.1 r13.2.2.1 r13.2.2.2.1.Name r13.2.2.2.1.Charger (Qk Qb x4.Name true l3_9) l3_10 l3_2 l3_3 l3_4 l3_5 l3_6 j9 l3_8⟩ Qa (K6 (fun j17=>⟨[(0,Tj),(2,S x4.Name),(3, .ptr 1004 0),(4,I j17)],Gi r13.2.2.2.2 x4 r13.1 r13.2.1 r13.2.2.1 r13.2.2.2.1.Name r13.2.2.2.1.Charger (Qk Qb x4.Name true l3_9) l3_10 l3_2 l3_3 l3_4 l3_5 l3_6 j9 l3_8⟩:Int→St) ?_ ?_))))))
 ·refine V5 [0,1,2,3,4,5,6,7,8] [12] [(9,[10,11,12]),(13,[]),(14,[])] Qd rfl Qa Qa (K7 (f:=57) (args:=[.ptr 1004 0,I x4.N]) (dst:=some 27) Qa Qa (Zy (hc:=(Vy (Qk Qb x4.Name true l3_9) l3_10 l3_2 l3_3 l3_4 l3_5 l3_6 j9 l3_8)) (args':=[Lx,I x4.N]) [(1000,1002),(1001,1003),(1002,1004),(1003,1005),(1004,1006),(1005,1007),(1006,1008),(1007,1009),(1008,1010)] [] [] Tryz.func57 rfl Tryz.ntmps57 rfl Qa Qa Qa (Qg Qd ⟨[(0,Lx),(1,I x4.N)],Vy (Qk Qb x4.Name true l3_9) l3_10 l3_2 l3_3 l3_4 l3_5 l3_6 j9 l3_8⟩ Qa (sS (Qg Qd ⟨[(0,Lx),(6,I x4.N)],Vy (Qk Qb x4.Name true l3_9) l3_10 l3_2 l3_3 l3_4 l3_5 l3_6 j9 l3_8⟩ Qa (sB (K6 (fun j18=>⟨rq x4.N j18,Vy (Qk Qb x4.Name true l3_9) l3_10 l3_2 l3_3 l3_4 l3_5 l3_6 j9 l3_8⟩:Bool→St) ?_ ?_)))))))
  ·refine Qg Qd ⟨rq x4.N (Qi x4.N 1),Vy (Qk Qb x4.Name true l3_9) l3_10 l3_2 l3_3 l3_4 l3_5 l3_6 j9 l3_8⟩ Qa (sC (Qi x4.N 1) Qa ?_ ?_)
   ·refine sK ?_
    exact QQ (Qi x4.N 1) Qa
   refine sL Qd Qa ?_
   exact QQ (Qi x4.N 2) Qa
  rintro j18
  refine sC j18 Qa ?_ ?_
  ·refine Qg Qd ⟨Qbt l3_2,Vy (Qk Qb x4.Name true l3_9) l3_10 l3_2 l3_3 l3_4 l3_5 l3_6 j9 l3_8⟩ Qa (sT (Zd (Q7 (Q4 (.id) [1000,1001,1002,1003,1004,1005,1006,1007,1008] [] (.tup [I (Qc (Gg l3_2)),I 16]) Qa Qa (kh [] Qa (Ql) Qa (Jm [12] Qa Qa (QR (Zq (I 16) Qa rfl) (Ql)) (Jm [] Qa Qa (Ql) ?_)))))))
   refine JH ?_
   exact QQ (Qc (Gg l3_2)) Qa
  refine Qg Qd ⟨[(0,Lx),(6,I x4.N),(16,B (Qi x4.N 3))],Vy (Qk Qb x4.Name true l3_9) l3_10 l3_2 l3_3 l3_4 l3_5 l3_6 j9 l3_8⟩ Qa (sC (Qi x4.N 3) Qa ?_ ?_)
  ·refine Qg Qd ⟨[(4,I (Qc (Kq l3_3))),(5,I 8)],Vy (Qk Qb x4.Name true l3_9) l3_10 l3_2 l3_3 l3_4 l3_5 l3_6 j9 l3_8⟩ Qa (sT (Zd (Q7 (Q4 (.id) [1000,1001,1002,1003,1004,1005,1006,1007,1008] [] (.tup [I (Qc (Kq l3_3)),I 8]) Qa Qa (kh [] Qa (Ql) Qa (Jm [12] Qa Qa (QR (Zq (I 8) Qa rfl) (Ql)) (Jm [] Qa Qa (Ql) ?_)))))))
   refine JH ?_
   exact QQ (Qc (Kq l3_3)) Qa
  refine Qg Qd ⟨[(0,Lx),(6,I x4.N),(24,B (Qi x4.N 4))],Vy (Qk Qb x4.Name true l3_9) l3_10 l3_2 l3_3 l3_4 l3_5 l3_6 j9 l3_8⟩ Qa (sC (Qi x4.N 4) Qa ?_ ?_)
  ·refine Qg Qd ⟨Qbu l3_4,Vy (Qk Qb x4.Name true l3_9) l3_10 l3_2 l3_3 l3_4 l3_5 l3_6 j9 l3_8⟩ Qa (sT (Zd (Q7 (Q4 (.id) [1000,1001,1002,1003,1004,1005,1006,1007,1008] [] (.tup [I (Qc (Ht l3_4)),I 32]) Qa Qa (kh [] Qa (Ql) Qa (Jm [12] Qa Qa (QR (Zq (I 32) Qa rfl) (Ql)) (Jm [] Qa Qa (Ql) ?_)))))))
   refine JH ?_
   exact QQ (Qc (Ht l3_4)) Qa
  refine Qg Qd ⟨[(0,Lx),(32,B (Qi x4.N 5))],Vy (Qk Qb x4.Name true l3_9) l3_10 l3_2 l3_3 l3_4 l3_5 l3_6 j9 l3_8⟩ Qa (sC (Qi x4.N 5) Qa ?_ ?_)
  ·refine Qg Qd ⟨[(4,I (Qc (Gq l3_5))),(5,I 16)],Vy (Qk Qb x4.Name true l3_9) l3_10 l3_2 l3_3 l3_4 l3_5 l3_6 j9 l3_8⟩ Qa (sT (Zd (Q7 (Q4 (.id) [1000,1001,1002,1003,1004,1005,1006,1007,1008] [] (.tup [I (Qc (Gq l3_5)),I 16]) Qa Qa (kh [] Qa (Ql) Qa (Jm [12] Qa Qa (QR (Zq (I 16) Qa rfl) (Ql)) (Jm [] Qa Qa (Ql) ?_)))))))
   refine JH ?_
   exact QQ (Qc (Gq l3_5)) Qa
  refine sK (Q6 (Qp ⟨[(0,Lx)],Vy (Qk Qb x4.Name true l3_9) l3_10 l3_2 l3_3 l3_4 l3_5 l3_6 j9 l3_8⟩ Qa (Qg Qd ⟨[(4,I (Qc (VJ l3_6))),(5,I 24)],Vy (Qk Qb x4.Name true l3_9) l3_10 l3_2 l3_3 l3_4 l3_5 l3_6 j9 l3_8⟩ Qa (sT (Q4 (.id) [1000,1001,1002,1003,1004,1005,1006,1007,1008] [] (.tup [I (Qc (VJ l3_6)),I 24]) Qa Qa (kh [] Qa (Ql) Qa (Jm [12] Qa Qa (QR (Zq (I 24) Qa rfl) (Ql)) ?_)))))))
  refine Jm [] Qa Qa (Ql) (JH ?_)
  exact QQ (Qc (VJ l3_6)) Qa
 rintro j17
 refine sS (Vq Qd rfl (xR 15 Qa ?_))
 refine ZH Qa Qa (Yd (kt:=9) (e:=137) (ke:=VK) (ve:=VL) (eq:=Qv) (b:=1003) (m:=l3_10) (k:=x4.Name) (v:=(⟨x4.N,j17⟩:Kt)) rfl Qa Qa Qa Qa Qa Qa QS (fun _ _=>Q0 rfl _ _)) ?_
 refine YB Qa (Qp ⟨Qbx x4.Name,Gi r13.2.2.2.2 x4 r13.1 r13.2.1 r13.2.2.1 r13.2.2.2.1.Name r13.2.2.2.1.Charger (Qk Qb x4.Name true l3_9) (Qk Qv x4.Name (⟨x4.N,j17⟩:Kt) l3_10) l3_2 l3_3 l3_4 l3_5 l3_6 j9 l3_8⟩ Qa (Qg Qd ⟨[(0,Tj),(2,S x4.Name),(3, .ptr 1004 0),(49,I x4.N)],Gi r13.2.2.2.2 x4 r13.1 r13.2.1 r13.2.2.1 r13.2.2.2.1.Name r13.2.2.2.1.Charger (Qk Qb x4.Name true l3_9) (Qk Qv x4.Name (⟨x4.N,j17⟩:Kt) l3_10) l3_2 l3_3 l3_4 l3_5 l3_6 j9 l3_8⟩ Qa (sB (Qg Qd ⟨[(0,Tj),(2,S x4.Name),(3, .ptr 1004 0),(49,I x4.N),(50,B (Qi x4.N 1))],Gi r13.2.2.2.2 x4 r13.1 r13.2.1 r13.2.2.1 r13.2.2.2.1.Name r13.2.2.2.1.Charger (Qk Qb x4.Name true l3_9) (Qk Qv x4.Name (⟨x4.N,j17⟩:Kt) l3_10) l3_2 l3_3 l3_4 l3_5 l3_6 j9 l3_8⟩ Qa (sC (Qi x4.N 1) Qa ?_ ?_)))))
 ·refine Qg Qd ⟨[(0,Tj),(3, .ptr 1004 0)],Gi r13.2.2.2.2 x4 ⟨x4.Name,(-1),r13.1.Limit,r13.1.Neutral,r13.1.Fuse,r13.1.Cable⟩ r13.2.1 r13.2.2.1 r13.2.2.2.1.Name r13.2.2.2.1.Charger (Qk Qb x4.Name true l3_9) (Qk Qv x4.Name (⟨x4.N,j17⟩:Kt) l3_10) l3_2 l3_3 l3_4 l3_5 l3_6 j9 l3_8⟩ Qa (Vq Qd rfl (xR 10 Qa (xF Qa Qa (ZM (e:=49) (S:=11) (by_:=96) (enc:=ZJ.cs) (tk:=1006) (l:=l3_2) (l2:=[(⟨x4.Name,(-1),r13.1.Limit,r13.1.Neutral,r13.1.Fuse,r13.1.Cable⟩:ZJ)]) (xv:=.tsl 11 (Gg [(⟨x4.Name,(-1),r13.1.Limit,r13.1.Neutral,r13.1.Fuse,r13.1.Cable⟩:ZJ)]) 70) rfl Qa Qa rfl Qa Qa Qa rfl Qa) (xR 3 Qa (YB Qa (Q6 (Hw (.id) [1000,1001,1002,1003,1004,1005,1006,1007,1008,1009,1010] [] (.tup []) Qa Qa ?_)))))))
  refine WQ (xE ?_)
  refine JB (⟨Tryz.f56,_,_,_,4,1,_,_,Tryz.func56,rfl,rfl,rfl,rfl,rfl,rfl,rfl,by decide,by decide⟩:Ke Tryz.prog 56) uj (YC (Qk Qb x4.Name true l3_9) (Qk Qv x4.Name (⟨x4.N,j17⟩:Kt) l3_10) (l3_2++[(⟨x4.Name,(-1),r13.1.Limit,r13.1.Neutral,r13.1.Fuse,r13.1.Cable⟩:ZJ)]) l3_3 l3_4 l3_5 l3_6 j9 l3_8) (.p (.val (.nilIface))) [.ptr 1009 0] [] rfl Qa Qa Qa Qa ?_
  refine Qg Qd ⟨zX,YC (Qk Qb x4.Name true l3_9) (Qk Qv x4.Name (⟨x4.N,j17⟩:Kt) l3_10) (l3_2++[(⟨x4.Name,(-1),r13.1.Limit,r13.1.Neutral,r13.1.Fuse,r13.1.Cable⟩:ZJ)]) l3_3 l3_4 l3_5 l3_6 j9 l3_8⟩ Qa (Zn Qa (sK (CO [1000,1001,1002,1003,1004,1005,1006,1007,1008,1009] [] Qa Qa (Q4 (.id) [1000,1001,1002,1003,1004,1005,1006,1007,1008,1009,1010,1011,1012,1013,1014,1015,1016,1017,1018,1019] [] (.tup []) Qa Qa (WQ (xE ?_))))))
  exact QQ (l3_2++[(⟨x4.Name,(-1),r13.1.Limit,r13.1.Neutral,r13.1.Fuse,r13.1.Cable⟩:ZJ)],l3_3,l3_4,l3_5,l3_6,j9,l3_8,Qk Qv x4.Name (⟨x4.N,j17⟩:Kt) l3_10) Qa
 refine Qg Qd ⟨[(0,Tj),(2,S x4.Name),(3, .ptr 1004 0),(49,I x4.N),(74,B (Qi x4.N 2))],Gi r13.2.2.2.2 x4 r13.1 r13.2.1 r13.2.2.1 r13.2.2.2.1.Name r13.2.2.2.1.Charger (Qk Qb x4.Name true l3_9) (Qk Qv x4.Name (⟨x4.N,j17⟩:Kt) l3_10) l3_2 l3_3 l3_4 l3_5 l3_6 j9 l3_8⟩ Qa (sC (Qi x4.N 2) Qa ?_ ?_)
 ·refine Qg Qd ⟨[(0,Tj),(3, .ptr 1004 0)],Gi r13.2.2.2.2 x4 ⟨x4.Name,r13.1.Up,r13.1.Limit,r13.1.Neutral,r13.1.Fuse,r13.1.Cable⟩ r13.2.1 r13.2.2.1 r13.2.2.2.1.Name r13.2.2.2.1.Charger (Qk Qb x4.Name true l3_9) (Qk Qv x4.Name (⟨x4.N,j17⟩:Kt) l3_10) l3_2 l3_3 l3_4 l3_5 l3_6 j9 l3_8⟩ Qa (Vq Qd rfl (xR 10 Qa (xF Qa Qa (ZM (e:=49) (S:=11) (by_:=96) (enc:=ZJ.cs) (tk:=1006) (l:=l3_2) (l2:=[(⟨x4.Name,r13.1.Up,r13.1.Limit,r13.1.Neutral,r13.1.Fuse,r13.1.Cable⟩:ZJ)]) (xv:=.tsl 11 (Gg [(⟨x4.Name,r13.1.Up,r13.1.Limit,r13.1.Neutral,r13.1.Fuse,r13.1.Cable⟩:ZJ)]) 90) rfl Qa Qa rfl Qa Qa Qa rfl Qa) (xR 3 Qa (YB Qa (Q6 (Hw (.id) [1000,1001,1002,1003,1004,1005,1006,1007,1008,1009,1010] [] (.tup []) Qa Qa ?_)))))))
  refine WQ (xE ?_)
  refine JB (⟨Tryz.f56,_,_,_,4,1,_,_,Tryz.func56,rfl,rfl,rfl,rfl,rfl,rfl,rfl,by decide,by decide⟩:Ke Tryz.prog 56) uj (YC (Qk Qb x4.Name true l3_9) (Qk Qv x4.Name (⟨x4.N,j17⟩:Kt) l3_10) (l3_2++[(⟨x4.Name,r13.1.Up,r13.1.Limit,r13.1.Neutral,r13.1.Fuse,r13.1.Cable⟩:ZJ)]) l3_3 l3_4 l3_5 l3_6 j9 l3_8) (.p (.val (.nilIface))) [.ptr 1009 0] [] rfl Qa Qa Qa Qa ?_
  refine Qg Qd ⟨zX,YC (Qk Qb x4.Name true l3_9) (Qk Qv x4.Name (⟨x4.N,j17⟩:Kt) l3_10) (l3_2++[(⟨x4.Name,r13.1.Up,r13.1.Limit,r13.1.Neutral,r13.1.Fuse,r13.1.Cable⟩:ZJ)]) l3_3 l3_4 l3_5 l3_6 j9 l3_8⟩ Qa (Zn Qa (sK (CO [1000,1001,1002,1003,1004,1005,1006,1007,1008,1009] [] Qa Qa (Q4 (.id) [1000,1001,1002,1003,1004,1005,1006,1007,1008,1009,1010,1011,1012,1013,1014,1015,1016,1017,1018,1019] [] (.tup []) Qa Qa (WQ (xE ?_))))))
  exact QQ (l3_2++[(⟨x4.Name,r13.1.Up,r13.1.Limit,r13.1.Neutral,r13.1.Fuse,r13.1.Cable⟩:ZJ)],l3_3,l3_4,l3_5,l3_6,j9,l3_8,Qk Qv x4.Name (⟨x4.N,j17⟩:Kt) l3_10) Qa
 refine Qg Qd ⟨[(0,Tj),(2,S x4.Name),(3, .ptr 1004 0),(49,I x4.N),(94,B (Qi x4.N 3))],Gi r13.2.2.2.2 x4 r13.1 r13.2.1 r13.2.2.1 r13.2.2.2.1.Name r13.2.2.2.1.Charger (Qk Qb x4.Name true l3_9) (Qk Qv x4.Name (⟨x4.N,j17⟩:Kt) l3_10) l3_2 l3_3 l3_4 l3_5 l3_6 j9 l3_8⟩ Qa (sC (Qi x4.N 3) Qa ?_ ?_)
 ·refine sG (xR 8 Qa (xF Qa Qa (ZM (e:=52) (S:=1) (by_:=16) (enc:=Zb.cs) (tk:=1007) (l:=l3_3) (l2:=[(⟨x4.Name⟩:Zb)]) (xv:=.tsl 1 (Kq [(⟨x4.Name⟩:Zb)]) 103) rfl Qa Qa rfl Qa Qa Qa rfl Qa) (xR 3 Qa (xE (Q6 (Hw (.id) [1000,1001,1002,1003,1004,1005,1006,1007,1008,1009,1010] [] (.tup []) Qa Qa (WQ ?_)))))))
  refine xE ?_
  refine JB (⟨Tryz.f56,_,_,_,4,1,_,_,Tryz.func56,rfl,rfl,rfl,rfl,rfl,rfl,rfl,by decide,by decide⟩:Ke Tryz.prog 56) uj (YC (Qk Qb x4.Name true l3_9) (Qk Qv x4.Name (⟨x4.N,j17⟩:Kt) l3_10) l3_2 (l3_3++[(⟨x4.Name⟩:Zb)]) l3_4 l3_5 l3_6 j9 l3_8) (.p (.val (.nilIface))) [.ptr 1009 0] [] rfl Qa Qa Qa Qa ?_
  refine Qg Qd ⟨zX,YC (Qk Qb x4.Name true l3_9) (Qk Qv x4.Name (⟨x4.N,j17⟩:Kt) l3_10) l3_2 (l3_3++[(⟨x4.Name⟩:Zb)]) l3_4 l3_5 l3_6 j9 l3_8⟩ Qa (Zn Qa (sK (CO [1000,1001,1002,1003,1004,1005,1006,1007,1008,1009] [] Qa Qa (Q4 (.id) [1000,1001,1002,1003,1004,1005,1006,1007,1008,1009,1010,1011,1012,1013,1014,1015,1016,1017,1018,1019] [] (.tup []) Qa Qa (WQ (xE ?_))))))
  exact QQ (l3_2,l3_3++[(⟨x4.Name⟩:Zb)],l3_4,l3_5,l3_6,j9,l3_8,Qk Qv x4.Name (⟨x4.N,j17⟩:Kt) l3_10) Qa
 refine Qg Qd ⟨[(0,Tj),(2,S x4.Name),(3, .ptr 1004 0),(49,I x4.N),(107,B (Qi x4.N 4))],Gi r13.2.2.2.2 x4 r13.1 r13.2.1 r13.2.2.1 r13.2.2.2.1.Name r13.2.2.2.1.Charger (Qk Qb x4.Name true l3_9) (Qk Qv x4.Name (⟨x4.N,j17⟩:Kt) l3_10) l3_2 l3_3 l3_4 l3_5 l3_6 j9 l3_8⟩ Qa (sC (Qi x4.N 4) Qa ?_ ?_)
 ·refine Qg Qd ⟨[(0,Tj),(3, .ptr 1004 0)],[(1000, .mp (JD QT QU r13.2.2.2.2)),(1001, .box 108 ([.ptr 1004 0]++Ya (GN.cs x4)++[.mv 1000]++Ya (ZJ.cs r13.1)++[S x4.Name,I r13.2.1.Owner,I r13.2.1.Rank,I r13.2.1.Card]++Ya (ZY.cs r13.2.2.1)++[S r13.2.2.2.1.Name,I r13.2.2.2.1.Charger])),(1002, .mp (JD QT QU (Qk Qb x4.Name true l3_9))),(1003, .mp (JD VK VL (Qk Qv x4.Name (⟨x4.N,j17⟩:Kt) l3_10))),(1004,(aX l3_2 l3_3 l3_4 l3_5 l3_6 j9 l3_8)),(1005,(WE l3_8)),(1006,(zR l3_2)),(1007,(zT l3_3)),(1008,(zU l3_4)),(1009,(zV l3_5)),(1010,(zW l3_6))]⟩ Qa (Vq Qd rfl (xR 10 Qa (xF Qa Qa (ZM (e:=54) (S:=4) (by_:=40) (enc:=ZT.cs) (tk:=1008) (l:=l3_4) (l2:=[(⟨x4.Name,r13.2.1.Owner,r13.2.1.Rank,r13.2.1.Card⟩:ZT)]) (xv:=.tsl 4 (Ht [(⟨x4.Name,r13.2.1.Owner,r13.2.1.Rank,r13.2.1.Card⟩:ZT)]) 123) rfl Qa Qa rfl Qa Qa Qa rfl Qa) (xR 3 Qa (YB Qa (Q6 (Hw (.id) [1000,1001,1002,1003,1004,1005,1006,1007,1008,1009,1010] [] (.tup []) Qa Qa ?_)))))))
  refine WQ (xE ?_)
  refine JB (⟨Tryz.f56,_,_,_,4,1,_,_,Tryz.func56,rfl,rfl,rfl,rfl,rfl,rfl,rfl,by decide,by decide⟩:Ke Tryz.prog 56) uj (YC (Qk Qb x4.Name true l3_9) (Qk Qv x4.Name (⟨x4.N,j17⟩:Kt) l3_10) l3_2 l3_3 (l3_4++[(⟨x4.Name,r13.2.1.Owner,r13.2.1.Rank,r13.2.1.Card⟩:ZT)]) l3_5 l3_6 j9 l3_8) (.p (.val (.nilIface))) [.ptr 1009 0] [] rfl Qa Qa Qa Qa ?_
  refine Qg Qd ⟨zX,YC (Qk Qb x4.Name true l3_9) (Qk Qv x4.Name (⟨x4.N,j17⟩:Kt) l3_10) l3_2 l3_3 (l3_4++[(⟨x4.Name,r13.2.1.Owner,r13.2.1.Rank,r13.2.1.Card⟩:ZT)]) l3_5 l3_6 j9 l3_8⟩ Qa (Zn Qa (sK (CO [1000,1001,1002,1003,1004,1005,1006,1007,1008,1009] [] Qa Qa (Q4 (.id) [1000,1001,1002,1003,1004,1005,1006,1007,1008,1009,1010,1011,1012,1013,1014,1015,1016,1017,1018,1019] [] (.tup []) Qa Qa (WQ (xE ?_))))))
  exact QQ (l3_2,l3_3,l3_4++[(⟨x4.Name,r13.2.1.Owner,r13.2.1.Rank,r13.2.1.Card⟩:ZT)],l3_5,l3_6,j9,l3_8,Qk Qv x4.Name (⟨x4.N,j17⟩:Kt) l3_10) Qa
 refine Qg Qd ⟨[(0,Tj),(2,S x4.Name),(3, .ptr 1004 0),(49,I x4.N),(127,B (Qi x4.N 5))],Gi r13.2.2.2.2 x4 r13.1 r13.2.1 r13.2.2.1 r13.2.2.2.1.Name r13.2.2.2.1.Charger (Qk Qb x4.Name true l3_9) (Qk Qv x4.Name (⟨x4.N,j17⟩:Kt) l3_10) l3_2 l3_3 l3_4 l3_5 l3_6 j9 l3_8⟩ Qa (sC (Qi x4.N 5) Qa ?_ ?_)
 ·refine Qg Qd ⟨[(0,Tj),(3, .ptr 1004 0)],[(1000, .mp (JD QT QU r13.2.2.2.2)),(1001, .box 108 ([.ptr 1004 0]++Ya (GN.cs x4)++[.mv 1000]++Ya (ZJ.cs r13.1)++Ya (ZT.cs r13.2.1)++[S x4.Name,I r13.2.2.1.At,I r13.2.2.1.Phases,I r13.2.2.1.Min,I r13.2.2.1.Max,I r13.2.2.1.Step,I r13.2.2.1.Fallback,I r13.2.2.1.Owner,S r13.2.2.2.1.Name,I r13.2.2.2.1.Charger])),(1002, .mp (JD QT QU (Qk Qb x4.Name true l3_9))),(1003, .mp (JD VK VL (Qk Qv x4.Name (⟨x4.N,j17⟩:Kt) l3_10))),(1004,(aX l3_2 l3_3 l3_4 l3_5 l3_6 j9 l3_8)),(1005,(WE l3_8)),(1006,(zR l3_2)),(1007,(zT l3_3)),(1008,(zU l3_4)),(1009,(zV l3_5)),(1010,(zW l3_6))]⟩ Qa (Vq Qd rfl (xR 10 Qa (xF Qa Qa (ZM (e:=56) (S:=8) (by_:=72) (enc:=ZY.cs) (tk:=1009) (l:=l3_5) (l2:=[(⟨x4.Name,r13.2.2.1.At,r13.2.2.1.Phases,r13.2.2.1.Min,r13.2.2.1.Max,r13.2.2.1.Step,r13.2.2.1.Fallback,r13.2.2.1.Owner⟩:ZY)]) (xv:=.tsl 8 (Gq [(⟨x4.Name,r13.2.2.1.At,r13.2.2.1.Phases,r13.2.2.1.Min,r13.2.2.1.Max,r13.2.2.1.Step,r13.2.2.1.Fallback,r13.2.2.1.Owner⟩:ZY)]) 143) rfl Qa Qa rfl Qa Qa Qa rfl Qa) (xR 3 Qa (YB Qa (Q6 (Hw (.id) [1000,1001,1002,1003,1004,1005,1006,1007,1008,1009,1010] [] (.tup []) Qa Qa ?_)))))))
  refine WQ (xE ?_)
  refine JB (⟨Tryz.f56,_,_,_,4,1,_,_,Tryz.func56,rfl,rfl,rfl,rfl,rfl,rfl,rfl,by decide,by decide⟩:Ke Tryz.prog 56) uj (YC (Qk Qb x4.Name true l3_9) (Qk Qv x4.Name (⟨x4.N,j17⟩:Kt) l3_10) l3_2 l3_3 l3_4 (l3_5++[(⟨x4.Name,r13.2.2.1.At,r13.2.2.1.Phases,r13.2.2.1.Min,r13.2.2.1.Max,r13.2.2.1.Step,r13.2.2.1.Fallback,r13.2.2.1.Owner⟩:ZY)]) l3_6 j9 l3_8) (.p (.val (.nilIface))) [.ptr 1009 0] [] rfl Qa Qa Qa Qa ?_
  refine Qg Qd ⟨zX,YC (Qk Qb x4.Name true l3_9) (Qk Qv x4.Name (⟨x4.N,j17⟩:Kt) l3_10) l3_2 l3_3 l3_4 (l3_5++[(⟨x4.Name,r13.2.2.1.At,r13.2.2.1.Phases,r13.2.2.1.Min,r13.2.2.1.Max,r13.2.2.1.Step,r13.2.2.1.Fallback,r13.2.2.1.Owner⟩:ZY)]) l3_6 j9 l3_8⟩ Qa (Zn Qa (sK (CO [1000,1001,1002,1003,1004,1005,1006,1007,1008,1009] [] Qa Qa (Q4 (.id) [1000,1001,1002,1003,1004,1005,1006,1007,1008,1009,1010,1011,1012,1013,1014,1015,1016,1017,1018,1019] [] (.tup []) Qa Qa (WQ (xE ?_))))))
  exact QQ (l3_2,l3_3,l3_4,l3_5++[(⟨x4.Name,r13.2.2.1.At,r13.2.2.1.Phases,r13.2.2.1.Min,r13.2.2.1.Max,r13.2.2.1.Step,r13.2.2.1.Fallback,r13.2.2.1.Owner⟩:ZY)],l3_6,j9,l3_8,Qk Qv x4.Name (⟨x4.N,j17⟩:Kt) l3_10) Qa
 refine Qg Qd ⟨[(0,Tj),(2,S x4.Name),(3, .ptr 1004 0),(147,B (Qi x4.N 6))],Gi r13.2.2.2.2 x4 r13.1 r13.2.1 r13.2.2.1 r13.2.2.2.1.Name r13.2.2.2.1.Charger (Qk Qb x4.Name true l3_9) (Qk Qv x4.Name (⟨x4.N,j17⟩:Kt) l3_10) l3_2 l3_3 l3_4 l3_5 l3_6 j9 l3_8⟩ Qa (sC (Qi x4.N 6) Qa ?_ ?_)
 rotate_left
 ·refine sK (Q6 (Hw (.id) [1000,1001,1002,1003,1004,1005,1006,1007,1008,1009,1010] [] (.tup []) Qa Qa (WQ (xE ?_))))
  refine JB (⟨Tryz.f56,_,_,_,4,1,_,_,Tryz.func56,rfl,rfl,rfl,rfl,rfl,rfl,rfl,by decide,by decide⟩:Ke Tryz.prog 56) uj (YC (Qk Qb x4.Name true l3_9) (Qk Qv x4.Name (⟨x4.N,j17⟩:Kt) l3_10) l3_2 l3_3 l3_4 l3_5 l3_6 j9 l3_8) (.p (.val (.nilIface))) [.ptr 1009 0] [] rfl Qa Qa Qa Qa ?_
  refine Qg Qd ⟨zX,YC (Qk Qb x4.Name true l3_9) (Qk Qv x4.Name (⟨x4.N,j17⟩:Kt) l3_10) l3_2 l3_3 l3_4 l3_5 l3_6 j9 l3_8⟩ Qa (Zn Qa (sK (CO [1000,1001,1002,1003,1004,1005,1006,1007,1008,1009] [] Qa Qa (Q4 (.id) [1000,1001,1002,1003,1004,1005,1006,1007,1008,1009,1010,1011,1012,1013,1014,1015,1016,1017,1018,1019] [] (.tup []) Qa Qa (WQ (xE ?_))))))
  exact QQ (l3_2,l3_3,l3_4,l3_5,l3_6,j9,l3_8,Qk Qv x4.Name (⟨x4.N,j17⟩:Kt) l3_10) Qa
 refine Qg Qd ⟨[(0,Tj),(3, .ptr 1004 0)],Gi r13.2.2.2.2 x4 r13.1 r13.2.1 r13.2.2.1 x4.Name r13.2.2.2.1.Charger (Qk Qb x4.Name true l3_9) (Qk Qv x4.Name (⟨x4.N,j17⟩:Kt) l3_10) l3_2 l3_3 l3_4 l3_5 l3_6 j9 l3_8⟩ Qa (Vq Qd rfl (xR 10 Qa (xF Qa Qa (ZM (e:=58) (S:=2) (by_:=24) (enc:=Zi.cs) (tk:=1010) (l:=l3_6) (l2:=[(⟨x4.Name,r13.2.2.2.1.Charger⟩:Zi)]) (xv:=.tsl 2 (VJ [(⟨x4.Name,r13.2.2.2.1.Charger⟩:Zi)]) 163) rfl Qa Qa rfl Qa Qa Qa rfl Qa) (xR 3 Qa (YB Qa (Q6 (Hw (.id) [1000,1001,1002,1003,1004,1005,1006,1007,1008,1009,1010] [] (.tup []) Qa Qa ?_)))))))
 refine WQ (xE ?_)
 refine JB (⟨Tryz.f56,_,_,_,4,1,_,_,Tryz.func56,rfl,rfl,rfl,rfl,rfl,rfl,rfl,by decide,by decide⟩:Ke Tryz.prog 56) uj (YC (Qk Qb x4.Name true l3_9) (Qk Qv x4.Name (⟨x4.N,j17⟩:Kt) l3_10) l3_2 l3_3 l3_4 l3_5 (l3_6++[(⟨x4.Name,r13.2.2.2.1.Charger⟩:Zi)]) j9 l3_8) (.p (.val (.nilIface))) [.ptr 1009 0] [] rfl Qa Qa Qa Qa ?_
 refine Qg Qd ⟨zX,YC (Qk Qb x4.Name true l3_9) (Qk Qv x4.Name (⟨x4.N,j17⟩:Kt) l3_10) l3_2 l3_3 l3_4 l3_5 (l3_6++[(⟨x4.Name,r13.2.2.2.1.Charger⟩:Zi)]) j9 l3_8⟩ Qa (Zn Qa (sK (CO [1000,1001,1002,1003,1004,1005,1006,1007,1008,1009] [] Qa Qa (Q4 (.id) [1000,1001,1002,1003,1004,1005,1006,1007,1008,1009,1010,1011,1012,1013,1014,1015,1016,1017,1018,1019] [] (.tup []) Qa Qa (WQ (xE ?_))))))
 exact QQ (l3_2,l3_3,l3_4,l3_5,l3_6++[(⟨x4.Name,r13.2.2.2.1.Charger⟩:Zi)],j9,l3_8,Qk Qv x4.Name (⟨x4.N,j17⟩:Kt) l3_10) Qa
def WG (a0s:Qm) (recl2:((List (List UInt8)) × Int)→Option (List (List UInt8))) (l2_1:List (List UInt8)) (l2_2:Int):Option (List (List UInt8)) :=
 cond (QO l2_2 (Qc (List.map ZJ.cs a0s.Conductors)))
  ((Q8 a0s.Conductors l2_2).bind fun x3 =>
  cond (ZB (List.length (l2_1++[x3.Name])) 16) (
   recl2 (l2_1++[x3.Name],wi (l2_2+1))) none)
  (some l2_1)
def WH (a0s:Qm) (recl5:((List (List UInt8)) × Int)→Option (List (List UInt8))) (l5_1:List (List UInt8)) (l5_2:Int):Option (List (List UInt8)) :=
 cond (QO l5_2 (Qc (List.map Zb.cs a0s.Owners)))
  ((Q8 a0s.Owners l5_2).bind fun x6 =>
  cond (ZB (List.length (l5_1++[x6.Name])) 16) (
   recl5 (l5_1++[x6.Name],wi (l5_2+1))) none)
  (some l5_1)
def WI (a0s:Qm) (recl8:((List (List UInt8)) × Int)→Option (List (List UInt8))) (l8_1:List (List UInt8)) (l8_2:Int):Option (List (List UInt8)) :=
 cond (QO l8_2 (Qc (List.map ZT.cs a0s.Contracts)))
  ((Q8 a0s.Contracts l8_2).bind fun x9 =>
  cond (ZB (List.length (l8_1++[x9.Name])) 16) (
   recl8 (l8_1++[x9.Name],wi (l8_2+1))) none)
  (some l8_1)
def Wi (a0s:Qm) (recl11:((List (List UInt8)) × Int)→Option (List (List UInt8))) (l11_1:List (List UInt8)) (l11_2:Int):Option (List (List UInt8)) :=
 cond (QO l11_2 (Qc (List.map ZY.cs a0s.Chargers)))
  ((Q8 a0s.Chargers l11_2).bind fun x12 =>
  cond (ZB (List.length (l11_1++[x12.Name])) 16) (
   recl11 (l11_1++[x12.Name],wi (l11_2+1))) none)
  (some l11_1)
def Wj (a0s:Qm) (recl13:((List (List UInt8)) × Int)→Option (List (List UInt8))) (l13_1:List (List UInt8)) (l13_2:Int):Option (List (List UInt8)) :=
 cond (QO l13_2 (Qc (List.map Zi.cs a0s.Bays)))
  ((Q8 a0s.Bays l13_2).bind fun x14 =>
  cond (ZB (List.length (l13_1++[x14.Name])) 16) (
   recl13 (l13_1++[x14.Name],wi (l13_2+1))) none)
  (some l13_1)
def Jb (n:Nat) (a0s:Qm):Option (List (List UInt8)) :=
 (QZ (fun recl2 (l2_1,l2_2)=>WG a0s recl2 l2_1 l2_2) n ([],0)).bind fun j1 =>
 (QZ (fun recl5 (l5_1,l5_2)=>WH a0s recl5 l5_1 l5_2) n (j1,0)).bind fun j4 =>
 (QZ (fun recl8 (l8_1,l8_2)=>WI a0s recl8 l8_1 l8_2) n (j4,0)).bind fun j7 =>
 (QZ (fun recl11 (l11_1,l11_2)=>Wi a0s recl11 l11_1 l11_2) n (j7,0)).bind fun j10 =>
 QZ (fun recl13 (l13_1,l13_2)=>Wj a0s recl13 l13_1 l13_2) n (j10,0)
def ZF:=fun x0=>([(1, .box 33 (Ya (Qm.cs x0)))]:List (Nat × Blk))
def zY:=fun x0=>([(1, .ptr 1 0),(3, .tsl 1 (List.map Zg x0) 25)]:List (Nat × AV))
def Ku:=fun x0 x1=>([(1, .box 33 (Ya (Qm.cs x0))),(25, .arr 9 1 (List.map Zg x1).length)]:List (Nat × Blk))
def Qby:=fun x0=>([(1, .ptr 1 0),(3, .p (.val (.slice none 0 0))),(15, .p (.sl 11 (List.map ZJ.cs (Qm.Conductors x0)))),(16,I (Qc (List.map ZJ.cs (Qm.Conductors x0)))),(17,I 0)]:List (Nat × AV))
def aY:=fun x0 x1 x2=>([(1, .ptr 1 0),(3, .tsl 1 (List.map Zg x0) 25),(15, .p (.sl 11 (List.map ZJ.cs (Qm.Conductors x1)))),(16,I (Qc (List.map ZJ.cs (Qm.Conductors x1)))),(17,I x2)]:List (Nat × AV))
def Qbz:=fun x0=>(.arr 9 1 (List.map Zg x0).length:Blk)
def Br:=fun x0 x1=>([(1, .box 33 (Ya (Qm.cs x0))),(25,(Qbz x1))]:List (Nat × Blk))
def wB:=fun x0 x1 x2=>([(1, .ptr 1 0),(3, .tsl 1 (List.map Zg x0) 25),(28, .p (.sl 1 (List.map Zb.cs (Qm.Owners x1)))),(29,I (Qc (List.map Zb.cs (Qm.Owners x1)))),(30,I x2)]:List (Nat × AV))
def wC:=fun x0 x1 x2=>([(1, .ptr 1 0),(3, .tsl 1 (List.map Zg x0) 25),(41, .p (.sl 4 (List.map ZT.cs (Qm.Contracts x1)))),(42,I (Qc (List.map ZT.cs (Qm.Contracts x1)))),(43,I x2)]:List (Nat × AV))
def wD:=fun x0 x1 x2=>([(1, .ptr 1 0),(3, .tsl 1 (List.map Zg x0) 25),(54, .p (.sl 8 (List.map ZY.cs (Qm.Chargers x1)))),(55,I (Qc (List.map ZY.cs (Qm.Chargers x1)))),(56,I x2)]:List (Nat × AV))
def wE:=fun x0 x1 x2=>([(3, .tsl 1 (List.map Zg x0) 25),(67, .p (.sl 2 (List.map Zi.cs (Qm.Bays x1)))),(68,I (Qc (List.map Zi.cs (Qm.Bays x1)))),(69,I x2)]:List (Nat × AV))
def F9:=fun x0=>([(25, .arr 9 1 (List.map Zg x0).length)]:List (Nat × Blk))
def QbA:=fun x0=>(⟨[(3, .tsl 1 (List.map Zg x0) 25)],F9 x0⟩:St)
abbrev Wq (x:Qm):Go.Abs.Blk:=.box 33 (Ya (Qm.cs x))
abbrev y8 (x:ZJ):Go.Abs.Blk:=.box 49 (Ya (ZJ.cs x))
abbrev Sl (x:ZY):Go.Abs.Blk:=.box 56 (Ya (ZY.cs x))
abbrev wF (x:Zi):Go.Abs.Blk:=.box 58 (Ya (Zi.cs x))
theorem Bt (n:Nat) (a0s:Qm):∀ r,Jb n a0s=some r→Q9 Tryz.prog 31 [ag (Qm.cs a0s)] (.ret (.p (.sl 1 (List.map Zg r)))):=by
 refine Qs (X:=fun r:List (List UInt8)=>QX.ret (.p (.sl 1 (List.map Zg r)))) Tryz.func31 rfl Tryz.ntmps31 rfl ?_
 unfold Jb
 refine Qg Qd ⟨[qq 1],ZF a0s⟩ Qa (Qg Qd ⟨zL,ZF a0s⟩ Qa (K6 (fun j1=>⟨zY j1,Ku a0s j1⟩:(List (List UInt8))→St) ?_ ?_))
 ·refine Qg Qd ⟨Qby a0s,ZF a0s⟩ Qa (sB (EU ⟨Qby a0s,ZF a0s⟩ Qa (Zz (KT 9 1 25 [3] [] Qa) (QI (fun (l2_1,l2_2)=>⟨aY l2_1 a0s l2_2,Ku a0s l2_1⟩:((List (List UInt8)) × Int)→St) (Xg Qa) ?_))))
  rintro recl2 ⟨l2_1,l2_2⟩
  show QV (WG a0s recl2 l2_1 l2_2) _ _ _ _ _ _
  unfold WG
  refine Qg Qd ⟨[qq 1,(3, .tsl 1 (List.map Zg l2_1) 25),(15, .p (.sl 11 (Gg a0s.Conductors))),(16,I (Qc (Gg a0s.Conductors))),(17,I l2_2),(18,B (QO l2_2 (Qc (Gg a0s.Conductors))))],Ku a0s l2_1⟩ Qa (sS (sC (QO l2_2 (Qc (Gg a0s.Conductors))) Qa ?_ ?_))
  rotate_left
  ·refine Qz (ZW (KM (QW ?_)))
   exact QQ l2_1 Qa
  refine sK (Qp ⟨aY l2_1 a0s l2_2,Ku a0s l2_1⟩ Qa (sS (sB (sS (sG ?_)))))
  refine xG Qa Qa (QN (e:=49) (S:=11) (enc:=ZJ.cs) (l:=a0s.Conductors) (k:=.i64) (n:=l2_2) (sv:=.p (.sl 11 (Gg a0s.Conductors))) rfl Qa Qa Qa Qa Qa) (fun x3=>?_)
  refine xR 3 Qa (xE (Qp ⟨[qq 1,(3, .tsl 1 (List.map Zg l2_1) 25),qq 5,(15, .p (.sl 11 (Gg a0s.Conductors))),(16,I (Qc (Gg a0s.Conductors))),(17,I l2_2)],[(1,Wq a0s),(5,y8 x3),(25, .arr 9 1 (List.map Zg l2_1).length)]⟩ Qa (sG (xR 4 Qa (xF Qa Qa (ZM (e:=9) (S:=1) (by_:=16) (enc:=Zg) (tk:=25) (l:=l2_1) (l2:=[x3.Name]) (xv:=.tsl 1 (List.map Zg [x3.Name]) 24) rfl Qa Qa rfl Qa Qa Qa rfl Qa) (xR 1 Qa (xE ?_)))))))
  refine Q6 (Qp ⟨aY (l2_1++[x3.Name]) a0s l2_2,Br a0s (l2_1++[x3.Name])⟩ Qa (sL Qd Qa ?_))
  exact KQ (l2_1++[x3.Name],wi (l2_2+1)) Qa
 rintro j1
 refine K6 (fun j4=>⟨zY j4,Ku a0s j4⟩:(List (List UInt8))→St) ?_ ?_
 ·refine Qg Qd ⟨wB j1 a0s 0,Ku a0s j1⟩ Qa (sB (QI (fun (l5_1,l5_2)=>⟨wB l5_1 a0s l5_2,Ku a0s l5_1⟩:((List (List UInt8)) × Int)→St) (Xg Qa) ?_))
  rintro recl5 ⟨l5_1,l5_2⟩
  show QV (WH a0s recl5 l5_1 l5_2) _ _ _ _ _ _
  unfold WH
  refine Qg Qd ⟨[qq 1,(3, .tsl 1 (List.map Zg l5_1) 25),(28, .p (.sl 1 (Kq a0s.Owners))),(29,I (Qc (Kq a0s.Owners))),(30,I l5_2),(31,B (QO l5_2 (Qc (Kq a0s.Owners))))],Ku a0s l5_1⟩ Qa (sS (sC (QO l5_2 (Qc (Kq a0s.Owners))) Qa ?_ ?_))
  rotate_left
  ·refine Qz (ZW (KM (QW ?_)))
   exact QQ l5_1 Qa
  refine sK (Qp ⟨wB l5_1 a0s l5_2,Ku a0s l5_1⟩ Qa (sS (sB (sS (sG ?_)))))
  refine xG Qa Qa (QN (e:=52) (S:=1) (enc:=Zb.cs) (l:=a0s.Owners) (k:=.i64) (n:=l5_2) (sv:=.p (.sl 1 (Kq a0s.Owners))) rfl Qa Qa Qa Qa Qa) (fun x6=>?_)
  refine xR 3 Qa (xE (Qp ⟨[qq 1,(3, .tsl 1 (List.map Zg l5_1) 25),qq 7,(28, .p (.sl 1 (Kq a0s.Owners))),(29,I (Qc (Kq a0s.Owners))),(30,I l5_2)],[(1,Wq a0s),(7, .box 52 [S x6.Name]),(25, .arr 9 1 (List.map Zg l5_1).length)]⟩ Qa (sG (xR 4 Qa (xF Qa Qa (ZM (e:=9) (S:=1) (by_:=16) (enc:=Zg) (tk:=25) (l:=l5_1) (l2:=[x6.Name]) (xv:=.tsl 1 (List.map Zg [x6.Name]) 37) rfl Qa Qa rfl Qa Qa Qa rfl Qa) (xR 1 Qa (xE ?_)))))))
  refine Q6 (Qp ⟨wB (l5_1++[x6.Name]) a0s l5_2,Br a0s (l5_1++[x6.Name])⟩ Qa (sL Qd Qa ?_))
  exact KQ (l5_1++[x6.Name],wi (l5_2+1)) Qa
 rintro j4
 refine K6 (fun j7=>⟨zY j7,Ku a0s j7⟩:(List (List UInt8))→St) ?_ ?_
 ·refine Qg Qd ⟨wC j4 a0s 0,Ku a0s j4⟩ Qa (sB (QI (fun (l8_1,l8_2)=>⟨wC l8_1 a0s l8_2,Ku a0s l8_1⟩:((List (List UInt8)) × Int)→St) (Xg Qa) ?_))
  rintro recl8 ⟨l8_1,l8_2⟩
  show QV (WI a0s recl8 l8_1 l8_2) _ _ _ _ _ _
  unfold WI
  refine Qg Qd ⟨[qq 1,(3, .tsl 1 (List.map Zg l8_1) 25),(41, .p (.sl 4 (Ht a0s.Contracts))),(42,I (Qc (Ht a0s.Contracts))),(43,I l8_2),(44,B (QO l8_2 (Qc (Ht a0s.Contracts))))],Ku a0s l8_1⟩ Qa (sS (sC (QO l8_2 (Qc (Ht a0s.Contracts))) Qa ?_ ?_))
  rotate_left
  ·refine Qz (ZW (KM (QW ?_)))
   exact QQ l8_1 Qa
  refine sK (Qp ⟨wC l8_1 a0s l8_2,Ku a0s l8_1⟩ Qa (sS (sB (sS (sG ?_)))))
  refine xG Qa Qa (QN (e:=54) (S:=4) (enc:=ZT.cs) (l:=a0s.Contracts) (k:=.i64) (n:=l8_2) (sv:=.p (.sl 4 (Ht a0s.Contracts))) rfl Qa Qa Qa Qa Qa) (fun x9=>?_)
  refine xR 3 Qa (xE (Qp ⟨[qq 1,(3, .tsl 1 (List.map Zg l8_1) 25),qq 9,(41, .p (.sl 4 (Ht a0s.Contracts))),(42,I (Qc (Ht a0s.Contracts))),(43,I l8_2)],[(1,Wq a0s),(9,mU x9),(25, .arr 9 1 (List.map Zg l8_1).length)]⟩ Qa (sG (xR 4 Qa (xF Qa Qa (ZM (e:=9) (S:=1) (by_:=16) (enc:=Zg) (tk:=25) (l:=l8_1) (l2:=[x9.Name]) (xv:=.tsl 1 (List.map Zg [x9.Name]) 50) rfl Qa Qa rfl Qa Qa Qa rfl Qa) (xR 1 Qa (xE ?_)))))))
  refine Q6 (Qp ⟨wC (l8_1++[x9.Name]) a0s l8_2,Br a0s (l8_1++[x9.Name])⟩ Qa (sL Qd Qa ?_))
  exact KQ (l8_1++[x9.Name],wi (l8_2+1)) Qa
 rintro j7
 refine K6 (fun j10=>⟨zY j10,Ku a0s j10⟩:(List (List UInt8))→St) ?_ ?_
 ·refine Qg Qd ⟨wD j7 a0s 0,Ku a0s j7⟩ Qa (sB (QI (fun (l11_1,l11_2)=>⟨wD l11_1 a0s l11_2,Ku a0s l11_1⟩:((List (List UInt8)) × Int)→St) (Xg Qa) ?_))
  rintro recl11 ⟨l11_1,l11_2⟩
  show QV (Wi a0s recl11 l11_1 l11_2) _ _ _ _ _ _
  unfold Wi
  refine Qg Qd ⟨[qq 1,(3, .tsl 1 (List.map Zg l11_1) 25),(54, .p (.sl 8 (Gq a0s.Chargers))),(55,I (Qc (Gq a0s.Chargers))),(56,I l11_2),(57,B (QO l11_2 (Qc (Gq a0s.Chargers))))],Ku a0s l11_1⟩ Qa (sS (sC (QO l11_2 (Qc (Gq a0s.Chargers))) Qa ?_ ?_))
  rotate_left
  ·refine Qz (ZW (KM (QW ?_)))
   exact QQ l11_1 Qa
  refine sK (Qp ⟨wD l11_1 a0s l11_2,Ku a0s l11_1⟩ Qa (sS (sB (sS (sG ?_)))))
  refine xG Qa Qa (QN (e:=56) (S:=8) (enc:=ZY.cs) (l:=a0s.Chargers) (k:=.i64) (n:=l11_2) (sv:=.p (.sl 8 (Gq a0s.Chargers))) rfl Qa Qa Qa Qa Qa) (fun x12=>?_)
  refine xR 3 Qa (xE (Qp ⟨[qq 1,(3, .tsl 1 (List.map Zg l11_1) 25),qq 11,(54, .p (.sl 8 (Gq a0s.Chargers))),(55,I (Qc (Gq a0s.Chargers))),(56,I l11_2)],[(1,Wq a0s),(11,Sl x12),(25, .arr 9 1 (List.map Zg l11_1).length)]⟩ Qa (sG (xR 4 Qa (xF Qa Qa (ZM (e:=9) (S:=1) (by_:=16) (enc:=Zg) (tk:=25) (l:=l11_1) (l2:=[x12.Name]) (xv:=.tsl 1 (List.map Zg [x12.Name]) 63) rfl Qa Qa rfl Qa Qa Qa rfl Qa) (xR 1 Qa (xE ?_)))))))
  refine Q6 (Qp ⟨wD (l11_1++[x12.Name]) a0s l11_2,Br a0s (l11_1++[x12.Name])⟩ Qa (sL Qd Qa ?_))
  exact KQ (l11_1++[x12.Name],wi (l11_2+1)) Qa
 rintro j10
 refine sS (Qg Qd ⟨wE j10 a0s 0,F9 j10⟩ Qa (sB (QI (fun (l13_1,l13_2)=>⟨wE l13_1 a0s l13_2,F9 l13_1⟩:((List (List UInt8)) × Int)→St) (Xg Qa) ?_)))
 rintro recl13 ⟨l13_1,l13_2⟩
 show QV (Wj a0s recl13 l13_1 l13_2) _ _ _ _ _ _
 unfold Wj
 refine Qg Qd ⟨[(3, .tsl 1 (List.map Zg l13_1) 25),(67, .p (.sl 2 (VJ a0s.Bays))),(68,I (Qc (VJ a0s.Bays))),(69,I l13_2),(70,B (QO l13_2 (Qc (VJ a0s.Bays))))],F9 l13_1⟩ Qa (sS (sC (QO l13_2 (Qc (VJ a0s.Bays))) Qa ?_ ?_))
 rotate_left
 ·refine Qz (ZW (KM (QW (Qp (QbA l13_1) Qa (Qg Qd ⟨[(2, .tsl 1 (List.map Zg l13_1) 25)],F9 l13_1⟩ Qa (sT ?_))))))
  exact qR (.sl 1) Qa Qa Qa
 refine sK (Qp ⟨wE l13_1 a0s l13_2,F9 l13_1⟩ Qa (sS (sB (sS (sG ?_)))))
 refine xG Qa Qa (QN (e:=58) (S:=2) (enc:=Zi.cs) (l:=a0s.Bays) (k:=.i64) (n:=l13_2) (sv:=.p (.sl 2 (VJ a0s.Bays))) rfl Qa Qa Qa Qa Qa) (fun x14=>?_)
 refine xR 3 Qa (xE (Qp ⟨[(3, .tsl 1 (List.map Zg l13_1) 25),qq 13,(67, .p (.sl 2 (VJ a0s.Bays))),(68,I (Qc (VJ a0s.Bays))),(69,I l13_2)],[(13,wF x14),(25, .arr 9 1 (List.map Zg l13_1).length)]⟩ Qa (sG (xR 4 Qa (xF Qa Qa (ZM (e:=9) (S:=1) (by_:=16) (enc:=Zg) (tk:=25) (l:=l13_1) (l2:=[x14.Name]) (xv:=.tsl 1 (List.map Zg [x14.Name]) 76) rfl Qa Qa rfl Qa Qa Qa rfl Qa) (xR 1 Qa (xE ?_)))))))
 refine Q6 (Qp ⟨wE (l13_1++[x14.Name]) a0s l13_2,[(25,(Qbz (l13_1++[x14.Name])))]⟩ Qa (sL Qd Qa ?_))
 exact KQ (l13_1++[x14.Name],wi (l13_2+1)) Qa
def Ws (n:Nat) (a0text:List UInt8):Option Bool :=
 (Xe n (⟨1,[],0,0,[GN.cs (⟨2,a0text,3,0,[]⟩:GN)]⟩:GN)).bind fun r1 =>
 some r1
theorem Du (n:Nat) (a0text:List UInt8):∀ r,Ws n a0text=some r→Q9 Tryz.prog 32 [S a0text] (.ret (B r)):=by
 refine Qs (X:=fun r:Bool=>QX.ret (B r)) Tryz.func32 rfl Tryz.ntmps32 rfl ?_
 unfold Ws
 refine Qg Qd ⟨[(0,S a0text)],[]⟩ Qa (sR Qd ⟨[3],[3],[],[(3,[.id, .id, .id, .id, .sl 5])]⟩ ⟨[qq 3],[(3,(wy ⟨2,a0text,3,0,[]⟩))]⟩ Qa (sS (sG (xR 3 Qa ?_))))
 refine xC [.agg [.id, .id, .id, .id, .sl 5]] Qa (Bn n (⟨1,[],0,0,[GN.cs (⟨2,a0text,3,0,[]⟩:GN)]⟩:GN)) Qa Qa QS (fun r1=>?_)
 refine xR 1 Qa (xE (Qp ⟨[(2,B r1)],[]⟩ Qa (sT ?_)))
 exact qR (.id) Qa Qa Qa
def KX (n:Nat) (a0c:ZJ) (a1index:Int):Option Bool :=
 (cond (Qi a1index 0)
  (cond (!Qi a0c.Up (-1))
   (some true)
   (cond (QO 0 a1index)
    (cond (QO a0c.Up 0)
     (some true)
     (some (leI a1index a0c.Up)))
    (some false)))
  (cond (QO 0 a1index)
   (cond (QO a0c.Up 0)
    (some true)
    (some (leI a1index a0c.Up)))
   (some false))).bind fun j1 =>
 cond j1
  (some false)
  (((Qy n (⟨1,1000⟩:ZA) a0c.Limit).bind fun r9 =>
  cond (!r9)
   (some true)
   ((Qy n (⟨1,1000⟩:ZA) a0c.Neutral).bind fun r11 =>
   some (!r11))).bind fun j8 =>
  cond j8
   (some false)
   ((cond (!Xx ((Qi a0c.Fuse.Rated 0)&&((Qi a0c.Fuse.Heat 0)&&true)))
    ((Qy n (⟨1,1000⟩:ZA) a0c.Fuse.Rated).bind fun r14 =>
    cond r14
     ((Qy n (⟨0,1000000⟩:ZA) a0c.Fuse.Heat).bind fun r16 =>
     some (!r16))
     (some true))
    (some false)).bind fun j12 =>
   cond j12
    (some false)
    (cond (Xx ((Qi a0c.Cable.Ambient 0)&&((Qi a0c.Cable.Most 0)&&((Qi a0c.Cable.Gain 0)&&((Qi a0c.Cable.Loss 0)&&((Qi a0c.Cable.Den 0)&&true))))))
     (some true)
     (((Qy n (⟨0,200000⟩:ZA) a0c.Cable.Ambient).bind fun r18 =>
     cond r18
      ((Qy n (⟨0,200000⟩:ZA) a0c.Cable.Most).bind fun r20 =>
      cond r20
       ((Qy n (⟨0,1000⟩:ZA) a0c.Cable.Gain).bind fun r22 =>
       cond r22
        ((Qy n (⟨0,1000⟩:ZA) a0c.Cable.Loss).bind fun r24 =>
        cond r24
         ((Qy n (⟨1,1000000⟩:ZA) a0c.Cable.Den).bind fun r26 =>
         cond r26
          ((YN n a0c.Cable).bind fun r28 =>
          some r28)
          (some false))
         (some false))
        (some false))
       (some false))
      (some false)).bind fun j17 =>
     some j17))))
def IB:=fun x0=>([(2, .box 49 (Ya (ZJ.cs x0)))]:List (Nat × Blk))
def mW:=fun x0=>([(2, .box 49 (Ya (ZJ.cs x0))),(5, .box 103 [I 1,I 1000])]:List (Nat × Blk))
def wG:=fun x0=>([(7, .box 47 (Ya (J4.cs (ZJ.Cable x0))))]:List (Nat × Blk))
abbrev Sm (x:Rw):Go.Abs.Blk:=.box 45 (Ya (Rw.cs x))
theorem GG (n:Nat) (a0c:ZJ) (a1index:Int):∀ r,KX n a0c a1index=some r→Q9 Tryz.prog 63 [ag (ZJ.cs a0c),I a1index] (.ret (B r)):=by
 refine Qs (X:=fun r:Bool=>QX.ret (B r)) Tryz.func63 rfl Tryz.ntmps63 rfl ?_
 unfold KX
 refine Qg Qd ⟨[(1,I a1index),qq 2],IB a0c⟩ Qa (sS (K6 (fun j1=>⟨[qq 2,(31,B j1)],IB a0c⟩:Bool→St) ?_ ?_))
 ·refine sG (xR 3 Qa ?_)
  refine xS (Qi a1index 0) (fun h2=>?_) (fun h2=>?_)
  rotate_left
  ·refine xN (Qr Qa h2) Qa (xR 7 Qa ?_)
   refine xS (QO 0 a1index) (fun h6=>?_) (fun h6=>?_)
   ·refine xO (Qq Qa h6) Qa (xR 3 Qa ?_)
    refine xS (QO a0c.Up 0) (fun h7=>?_) (fun h7=>?_)
    ·refine xN (Qx Qa h7) Qa (xR 6 Qa (xE ?_))
     exact QQ true Qa
    refine xO (Qw Qa h7) Qa (xR 6 Qa (xE ?_))
    exact QQ (leI a1index a0c.Up) Qa
   refine xN (Qr Qa h6) Qa (xR 10 Qa (xE ?_))
   exact QQ false Qa
  refine xO (Qq Qa h2) Qa (xR 4 Qa ?_)
  refine xS (!Qi a0c.Up (-1)) (fun h3=>?_) (fun h3=>?_)
  ·refine xN (Qx Qa h3) Qa (xR 13 Qa (xE ?_))
   exact QQ true Qa
  refine xO (Qw Qa h3) Qa (xR 2 Qa ?_)
  refine xS (QO 0 a1index) (fun h4=>?_) (fun h4=>?_)
  ·refine xO (Qq Qa h4) Qa (xR 3 Qa ?_)
   refine xS (QO a0c.Up 0) (fun h5=>?_) (fun h5=>?_)
   ·refine xN (Qx Qa h5) Qa (xR 6 Qa (xE ?_))
    exact QQ true Qa
   refine xO (Qw Qa h5) Qa (xR 6 Qa (xE ?_))
   exact QQ (leI a1index a0c.Up) Qa
  refine xN (Qr Qa h4) Qa (xR 10 Qa (xE ?_))
  exact QQ false Qa
 rintro j1
 refine sC j1 Qa ?_ ?_
 ·refine Qg Qd ⟨[(4,B false)],[]⟩ Qa (sT (Q7 ?_))
  exact qR (.id) Qa Qa Qa
 refine sK (Qp ⟨[qq 2],IB a0c⟩ Qa (Qg Qd ⟨[qq 2,qq 5],mW a0c⟩ Qa (sS (K6 (fun j8=>⟨[qq 2,qq 5,(44,B j8)],mW a0c⟩:Bool→St) ?_ ?_))))
 ·refine sG (xR 3 Qa ?_)
  refine xC [] Qa (QF n (⟨1,1000⟩:ZA) a0c.Limit) Qa Qa QS (fun r9=>?_)
  refine xR 2 Qa ?_
  refine xS (!r9) (fun h10=>?_) (fun h10=>?_)
  ·refine xN (Qx Qa h10) Qa (xR 5 Qa (xE ?_))
   exact QQ true Qa
  refine xO (Qw Qa h10) Qa (xR 2 Qa ?_)
  refine xC [] Qa (QF n (⟨1,1000⟩:ZA) a0c.Neutral) Qa Qa QS (fun r11=>?_)
  refine xR 2 Qa (xE ?_)
  exact QQ (!r11) Qa
 rintro j8
 refine sC j8 Qa ?_ ?_
 ·refine Qg Qd ⟨[(4,B false)],[]⟩ Qa (sT (Q7 ?_))
  exact qR (.id) Qa Qa Qa
 refine sK (Qp ⟨[qq 2,qq 5],mW a0c⟩ Qa (Qg Qd ⟨[qq 5,qq 6,qq 7],[(5, .box 103 [I 1,I 1000]),(6,Sm a0c.Fuse),(7,UU a0c.Cable)]⟩ Qa (sS (K6 (fun j12=>⟨[qq 7,(64,B j12)],wG a0c⟩:Bool→St) ?_ ?_))))
 ·refine sG (xR 2 Qa (ZH Qa Qa (FP (xs:=[I a0c.Fuse.Rated,I a0c.Fuse.Heat]) (ys:=[I 0,I 0]) (vx:=[.int .i64 a0c.Fuse.Rated, .int .i64 a0c.Fuse.Heat]) (vy:=[.int .i64 0, .int .i64 0]) (b:=(Qi a0c.Fuse.Rated 0)&&((Qi a0c.Fuse.Heat 0)&&true)) rfl Qa Qa Qa Qa Qa Qa) (xR 1 Qa ?_)))
  refine xS (!Xx ((Qi a0c.Fuse.Rated 0)&&((Qi a0c.Fuse.Heat 0)&&true))) (fun h13=>?_) (fun h13=>?_)
  ·refine xO (Qq Qa h13) Qa (xR 2 Qa ?_)
   refine xC [] Qa (QF n (⟨1,1000⟩:ZA) a0c.Fuse.Rated) Qa Qa QS (fun r14=>?_)
   refine xR 1 Qa ?_
   refine xS r14 (fun h15=>?_) (fun h15=>?_)
   ·refine xO (Qq Qa h15) Qa (xR 2 Qa ?_)
    refine xC [] Qa (QF n (⟨0,1000000⟩:ZA) a0c.Fuse.Heat) Qa Qa QS (fun r16=>?_)
    refine xR 3 Qa (xE ?_)
    exact QQ (!r16) Qa
   refine xN (Qr Qa h15) Qa (xR 6 Qa (xE ?_))
   exact QQ true Qa
  refine xN (Qr Qa h13) Qa (xR 11 Qa (xE ?_))
  exact QQ false Qa
 rintro j12
 refine sC j12 Qa ?_ ?_
 ·refine Qg Qd ⟨[(4,B false)],[]⟩ Qa (sT (Q7 ?_))
  exact qR (.id) Qa Qa Qa
 refine sK (Qp ⟨[qq 7],wG a0c⟩ Qa (sS (sS (sG (xR 2 Qa (ZH Qa Qa (FO (xs:=[I a0c.Cable.Ambient,I a0c.Cable.Most,I a0c.Cable.Gain,I a0c.Cable.Loss,I a0c.Cable.Den]) (ys:=[I 0,I 0,I 0,I 0,I 0]) (vx:=[.int .i64 a0c.Cable.Ambient, .int .i64 a0c.Cable.Most, .int .i64 a0c.Cable.Gain, .int .i64 a0c.Cable.Loss, .int .i64 a0c.Cable.Den]) (vy:=[.int .i64 0, .int .i64 0, .int .i64 0, .int .i64 0, .int .i64 0]) (b:=(Qi a0c.Cable.Ambient 0)&&((Qi a0c.Cable.Most 0)&&((Qi a0c.Cable.Gain 0)&&((Qi a0c.Cable.Loss 0)&&((Qi a0c.Cable.Den 0)&&true))))) rfl Qa Qa Qa Qa Qa Qa) (xE ?_)))))))
 refine Qp ⟨[qq 7,(67,B (Xx ((Qi a0c.Cable.Ambient 0)&&((Qi a0c.Cable.Most 0)&&((Qi a0c.Cable.Gain 0)&&((Qi a0c.Cable.Loss 0)&&((Qi a0c.Cable.Den 0)&&true)))))))],wG a0c⟩ Qa (sC (Xx ((Qi a0c.Cable.Ambient 0)&&((Qi a0c.Cable.Most 0)&&((Qi a0c.Cable.Gain 0)&&((Qi a0c.Cable.Loss 0)&&((Qi a0c.Cable.Den 0)&&true)))))) Qa ?_ ?_)
 ·refine Qg Qd ⟨[(4,B true)],[]⟩ Qa (sT (Q7 ?_))
  exact qR (.id) Qa Qa Qa
 refine sK (Qp ⟨[qq 7],wG a0c⟩ Qa (Qg Qd ⟨[qq 7,qq 8,qq 9],[(7,UU a0c.Cable),(8, .box 103 [I 0,I 200000]),(9, .box 103 [I 0,I 1000])]⟩ Qa (K6 (fun j17=>⟨[(4,B j17)],[]⟩:Bool→St) ?_ ?_)))
 rotate_left
 ·rintro j17
  refine sT ?_
  exact qR (.id) Qa Qa Qa
 refine sG (xR 3 Qa ?_)
 refine xC [] Qa (QF n (⟨0,200000⟩:ZA) a0c.Cable.Ambient) Qa Qa QS (fun r18=>?_)
 refine xR 1 Qa ?_
 refine xS r18 (fun h19=>?_) (fun h19=>?_)
 rotate_left
 ·refine xN (Qr Qa h19) Qa (xR 27 Qa (xE ?_))
  exact QQ false Qa
 refine xO (Qq Qa h19) Qa (xR 2 Qa ?_)
 refine xC [] Qa (QF n (⟨0,200000⟩:ZA) a0c.Cable.Most) Qa Qa QS (fun r20=>?_)
 refine xR 2 Qa ?_
 refine xS r20 (fun h21=>?_) (fun h21=>?_)
 rotate_left
 ·refine xN (Qr Qa h21) Qa (xR 21 Qa (xE ?_))
  exact QQ false Qa
 refine xO (Qq Qa h21) Qa (xR 2 Qa ?_)
 refine xC [] Qa (QF n (⟨0,1000⟩:ZA) a0c.Cable.Gain) Qa Qa QS (fun r22=>?_)
 refine xR 2 Qa ?_
 refine xS r22 (fun h23=>?_) (fun h23=>?_)
 rotate_left
 ·refine xN (Qr Qa h23) Qa (xR 15 Qa (xE ?_))
  exact QQ false Qa
 refine xO (Qq Qa h23) Qa (xR 2 Qa ?_)
 refine xC [] Qa (QF n (⟨0,1000⟩:ZA) a0c.Cable.Loss) Qa Qa QS (fun r24=>?_)
 refine xR 2 Qa ?_
 refine xS r24 (fun h25=>?_) (fun h25=>?_)
 ·refine xO (Qq Qa h25) Qa (xR 2 Qa ?_)
  refine xC [] Qa (QF n (⟨1,1000000⟩:ZA) a0c.Cable.Den) Qa Qa QS (fun r26=>?_)
  refine xR 2 Qa ?_
  refine xS r26 (fun h27=>?_) (fun h27=>?_)
  ·refine xO (Qq Qa h27) Qa ?_
   refine xC [] Qa (UB n a0c.Cable) Qa Qa QS (fun r28=>?_)
   refine xR 2 Qa (xE ?_)
   exact QQ r28 Qa
  refine xN (Qr Qa h27) Qa (xR 3 Qa (xE ?_))
  exact QQ false Qa
 refine xN (Qr Qa h25) Qa (xR 9 Qa (xE ?_))
 exact QQ false Qa
def YD (n:Nat) (a0s:Qm) (a1c:ZY):Option Bool :=
 ((Qy n (⟨0,wi ((Qc (List.map ZJ.cs a0s.Conductors)) - 1)⟩:ZA) a1c.At).bind fun r2 =>
 cond r2
  ((Qy n (⟨0,wi ((Qc (List.map Zb.cs a0s.Owners)) - 1)⟩:ZA) a1c.Owner).bind fun r4 =>
  cond r4
   ((Qy n (⟨1,7⟩:ZA) a1c.Phases).bind fun r6 =>
   cond r6
    ((Qy n (⟨1,80⟩:ZA) a1c.Min).bind fun r8 =>
    cond r8
     ((Qy n (⟨1,80⟩:ZA) a1c.Max).bind fun r10 =>
     cond r10
      ((Qy n (⟨1,80⟩:ZA) a1c.Step).bind fun r12 =>
      cond r12
       ((Qy n (⟨0,80⟩:ZA) a1c.Fallback).bind fun r14 =>
       cond r14
        ((KR n a1c).bind fun r16 =>
        some r16)
        (some false))
       (some false))
      (some false))
     (some false))
    (some false))
   (some false))
  (some false)).bind fun j1 =>
 some j1
theorem F5 (n:Nat) (a0s:Qm) (a1c:ZY):∀ r,YD n a0s a1c=some r→Q9 Tryz.prog 65 [ag (Qm.cs a0s),ag (ZY.cs a1c)] (.ret (B r)):=by
 refine Qs (X:=fun r:Bool=>QX.ret (B r)) Tryz.func65 rfl Tryz.ntmps65 rfl ?_
 unfold YD
 refine Qg Qd ⟨[qq 2,qq 3],[(2,Wq a0s),(3,Sl a1c)]⟩ Qa (Qg Qd ⟨[qq 2,qq 3,qq 5],[(2,Wq a0s),(3,Sl a1c),(5, .box 103 [I 1,I 80])]⟩ Qa (K6 (fun j1=>⟨[(4,B j1)],[]⟩:Bool→St) ?_ ?_))
 rotate_left
 ·rintro j1
  refine sT ?_
  exact qR (.id) Qa Qa Qa
 refine sG (xR 7 Qa ?_)
 refine xC [] Qa (QF n (⟨0,wi ((Qc (Gg a0s.Conductors)) - 1)⟩:ZA) a1c.At) Qa Qa QS (fun r2=>?_)
 refine xR 1 Qa ?_
 refine xS r2 (fun h3=>?_) (fun h3=>?_)
 rotate_left
 ·refine xN (Qr Qa h3) Qa (xR 43 Qa (xE ?_))
  exact QQ false Qa
 refine xO (Qq Qa h3) Qa (xR 6 Qa ?_)
 refine xC [] Qa (QF n (⟨0,wi ((Qc (Kq a0s.Owners)) - 1)⟩:ZA) a1c.Owner) Qa Qa QS (fun r4=>?_)
 refine xR 2 Qa ?_
 refine xS r4 (fun h5=>?_) (fun h5=>?_)
 rotate_left
 ·refine xN (Qr Qa h5) Qa (xR 33 Qa (xE ?_))
  exact QQ false Qa
 refine xO (Qq Qa h5) Qa (xR 2 Qa ?_)
 refine xC [] Qa (QF n (⟨1,7⟩:ZA) a1c.Phases) Qa Qa QS (fun r6=>?_)
 refine xR 2 Qa ?_
 refine xS r6 (fun h7=>?_) (fun h7=>?_)
 rotate_left
 ·refine xN (Qr Qa h7) Qa (xR 27 Qa (xE ?_))
  exact QQ false Qa
 refine xO (Qq Qa h7) Qa (xR 2 Qa ?_)
 refine xC [] Qa (QF n (⟨1,80⟩:ZA) a1c.Min) Qa Qa QS (fun r8=>?_)
 refine xR 2 Qa ?_
 refine xS r8 (fun h9=>?_) (fun h9=>?_)
 rotate_left
 ·refine xN (Qr Qa h9) Qa (xR 21 Qa (xE ?_))
  exact QQ false Qa
 refine xO (Qq Qa h9) Qa (xR 2 Qa ?_)
 refine xC [] Qa (QF n (⟨1,80⟩:ZA) a1c.Max) Qa Qa QS (fun r10=>?_)
 refine xR 2 Qa ?_
 refine xS r10 (fun h11=>?_) (fun h11=>?_)
 rotate_left
 ·refine xN (Qr Qa h11) Qa (xR 15 Qa (xE ?_))
  exact QQ false Qa
 refine xO (Qq Qa h11) Qa (xR 2 Qa ?_)
 refine xC [] Qa (QF n (⟨1,80⟩:ZA) a1c.Step) Qa Qa QS (fun r12=>?_)
 refine xR 2 Qa ?_
 refine xS r12 (fun h13=>?_) (fun h13=>?_)
 ·refine xO (Qq Qa h13) Qa (xR 2 Qa ?_)
  refine xC [] Qa (QF n (⟨0,80⟩:ZA) a1c.Fallback) Qa Qa QS (fun r14=>?_)
  refine xR 2 Qa ?_
  refine xS r14 (fun h15=>?_) (fun h15=>?_)
  ·refine xO (Qq Qa h15) Qa ?_
   refine xC [] Qa (J6 n a1c) Qa Qa QS (fun r16=>?_)
   refine xR 2 Qa (xE ?_)
   exact QQ r16 Qa
  refine xN (Qr Qa h15) Qa (xR 3 Qa (xE ?_))
  exact QQ false Qa
 refine xN (Qr Qa h13) Qa (xR 9 Qa (xE ?_))
 exact QQ false Qa
def Yh (n:Nat) (a0s:Qm) (recl4:Int→Option Bool) (l4:Int):Option Bool :=
 cond (QO l4 (Qc (List.map Zi.cs a0s.Bays)))
  ((Q8 a0s.Bays l4).bind fun x5 =>
  (Qy n (⟨0,wi ((Qc (List.map ZY.cs a0s.Chargers)) - 1)⟩:ZA) x5.Charger).bind fun r6 =>
  cond (!r6)
   (some false)
   (recl4 (wi (l4+1))))
  (some true)
def KA (n:Nat) (a0s:Qm):Option Bool :=
 QZ (fun recl4 l4=>Yh n a0s recl4 l4) n 0
def Yi (n:Nat) (a0s:Qm) (recl7:Int→Option Bool) (l7:Int):Option Bool :=
 cond (QO l7 (Qc (List.map ZY.cs a0s.Chargers)))
  ((Q8 a0s.Chargers l7).bind fun x8 =>
  (YD n a0s x8).bind fun r9 =>
  cond (!r9)
   (some false)
   (recl7 (wi (l7+1))))
  (KA n a0s)
def KC (n:Nat) (a0s:Qm):Option Bool :=
 QZ (fun recl7 l7=>Yi n a0s recl7 l7) n 0
def Kg (n:Nat) (a0s:Qm) (recl10:(Int × (List (Int × Bool)))→Option Bool) (l10_1:Int) (l10_2:List (Int × Bool)):Option Bool :=
 cond (QO l10_1 (Qc (List.map ZT.cs a0s.Contracts)))
  ((Q8 a0s.Contracts l10_1).bind fun x11 =>
  ((Qy n (⟨0,wi ((Qc (List.map Zb.cs a0s.Owners)) - 1)⟩:ZA) x11.Owner).bind fun r13 =>
  cond (!r13)
   (some true)
   ((Qy n (⟨1,9⟩:ZA) x11.Rank).bind fun r15 =>
   cond (!r15)
    (some true)
    ((Qy n (⟨1,1000000⟩:ZA) x11.Card).bind fun r17 =>
    cond (!r17)
     (some true)
     (some (QB Zf x11.Card false l10_2))))).bind fun j12 =>
  cond j12
   (some false)
   (recl10 (wi (l10_1+1),Qk Zf x11.Card true l10_2)))
  (KC n a0s)
def KD (n:Nat) (a0s:Qm):Option Bool :=
 QZ (fun recl10 (l10_1,l10_2)=>Kg n a0s recl10 l10_1 l10_2) n (0,[])
def KY (n:Nat) (a0s:Qm) (recl19:Int→Option Bool) (l19:Int):Option Bool :=
 cond (QO l19 (Qc (List.map ZJ.cs a0s.Conductors)))
  ((Q8 a0s.Conductors l19).bind fun x20 =>
  (KX n x20 l19).bind fun r21 =>
  cond (!r21)
   (some false)
   (recl19 (wi (l19+1))))
  (KD n a0s)
def Vf (n:Nat) (a0s:Qm):Option Bool :=
 QZ (fun recl19 l19=>KY n a0s recl19 l19) n 0
def wH:=fun x0 x1=>([(1, .ptr 1 0),(13, .p (.sl 11 (List.map ZJ.cs (Qm.Conductors x0)))),(14,I (Qc (List.map ZJ.cs (Qm.Conductors x0)))),(15,I x1)]:List (Nat × AV))
def IC:=fun x0 x1=>([(1, .box 33 (Ya (Qm.cs x0))),(25, .mp (JD JU JV x1))]:List (Nat × Blk))
def wI:=fun x0 x1=>([(1, .ptr 1 0),(5, .mv 25),(27, .p (.sl 4 (List.map ZT.cs (Qm.Contracts x0)))),(28,I (Qc (List.map ZT.cs (Qm.Contracts x0)))),(29,I x1)]:List (Nat × AV))
def sJ:=fun x0 x1=>([(1, .ptr 1 0),(5, .mv 25),(7, .ptr 7 0),(27, .p (.sl 4 (List.map ZT.cs (Qm.Contracts x0)))),(28,I (Qc (List.map ZT.cs (Qm.Contracts x0)))),(29,I x1)]:List (Nat × AV))
def mX:=fun x0 x1 x2=>([(1, .box 33 (Ya (Qm.cs x0))),(7, .box 54 (Ya (ZT.cs x1))),(25, .mp (JD JU JV x2))]:List (Nat × Blk))
def wJ:=fun x0 x1=>([(1, .ptr 1 0),(67, .p (.sl 8 (List.map ZY.cs (Qm.Chargers x0)))),(68,I (Qc (List.map ZY.cs (Qm.Chargers x0)))),(69,I x1)]:List (Nat × AV))
def wK:=fun x0 x1=>([(1, .ptr 1 0),(79, .p (.sl 2 (List.map Zi.cs (Qm.Bays x0)))),(80,I (Qc (List.map Zi.cs (Qm.Bays x0)))),(81,I x1)]:List (Nat × AV))
theorem RH (n:Nat) (a0s:Qm):∀ r,Vf n a0s=some r→Q9 Tryz.prog 33 [ag (Qm.cs a0s)] (.ret (B r)):=by
 refine Qs (X:=fun r:Bool=>QX.ret (B r)) Tryz.func33 rfl Tryz.ntmps33 rfl ?_
 unfold Vf
 refine Qg Qd ⟨[qq 1],ZF a0s⟩ Qa (ZR (fun _=>⟨[qq 1],ZF a0s⟩:Unit→St) (fun _=>KD n a0s) ?_ ?_)
 rotate_left
 ·refine Qg Qd ⟨wH a0s 0,ZF a0s⟩ Qa (sB (QI (fun l19=>⟨wH a0s l19,ZF a0s⟩:Int→St) (Xg Qa) ?_))
  rintro recl19 l19
  show QV (KY n a0s recl19 l19) _ _ _ _ _ _
  unfold KY
  refine Qg Qd ⟨[qq 1,(13, .p (.sl 11 (Gg a0s.Conductors))),(14,I (Qc (Gg a0s.Conductors))),(15,I l19),(16,B (QO l19 (Qc (Gg a0s.Conductors))))],ZF a0s⟩ Qa (sS (sC (QO l19 (Qc (Gg a0s.Conductors))) Qa ?_ ?_))
  rotate_left
  ·refine Qz (ZW (KM (QW ?_)))
   exact KQ (k:=fun _=>KD n a0s) () Qa
  refine sK (Qp ⟨wH a0s l19,ZF a0s⟩ Qa (sS (sB (sS (sG (xR 1 Qa ?_))))))
  refine xG Qa Qa (QN (e:=49) (S:=11) (enc:=ZJ.cs) (l:=a0s.Conductors) (k:=.i64) (n:=l19) (sv:=.p (.sl 11 (Gg a0s.Conductors))) rfl Qa Qa Qa Qa Qa) (fun x20=>?_)
  refine xR 4 Qa (xE (Qp ⟨[qq 1,(3,I l19),qq 4,(13, .p (.sl 11 (Gg a0s.Conductors))),(14,I (Qc (Gg a0s.Conductors))),(15,I l19)],[(1,Wq a0s),(4,y8 x20)]⟩ Qa (sS (sG (xR 2 Qa ?_)))))
  refine xC [] Qa (GG n x20 l19) Qa Qa QS (fun r21=>?_)
  refine xR 1 Qa (xE (Qp ⟨[qq 1,(13, .p (.sl 11 (Gg a0s.Conductors))),(14,I (Qc (Gg a0s.Conductors))),(15,I l19),(23,B (!r21))],ZF a0s⟩ Qa (sC (!r21) Qa ?_ ?_)))
  ·refine Qg Qd ⟨[(2,B false)],[]⟩ Qa (sT (Zd (Q7 (KH (Zd (KH ?_))))))
   exact qR (.id) Qa Qa Qa
  refine sK (Q6 (Qp ⟨wH a0s l19,ZF a0s⟩ Qa (sL Qd Qa ?_)))
  exact KQ (wi (l19+1)) Qa
 rintro _
 show QV (KD n a0s) _ _ _ _ _ _
 unfold KD
 refine sS (sG (ZH Qa Qa (EH (d:=25) (rsv:=none) rfl rfl Qa) (xR 1 Qa (xE (Qp ⟨[qq 1,(5, .mv 25)],IC a0s []⟩ Qa (ZR (fun _=>⟨[qq 1],ZF a0s⟩:Unit→St) (fun _=>KC n a0s) ?_ ?_))))))
 rotate_left
 ·refine Qg Qd ⟨wI a0s 0,IC a0s []⟩ Qa (sB (QI (fun (l10_1,l10_2)=>⟨wI a0s l10_1,IC a0s l10_2⟩:(Int × (List (Int × Bool)))→St) (Xg Qa) ?_))
  rintro recl10 ⟨l10_1,l10_2⟩
  show QV (Kg n a0s recl10 l10_1 l10_2) _ _ _ _ _ _
  unfold Kg
  refine Qg Qd ⟨[qq 1,(5, .mv 25),(27, .p (.sl 4 (Ht a0s.Contracts))),(28,I (Qc (Ht a0s.Contracts))),(29,I l10_1),(30,B (QO l10_1 (Qc (Ht a0s.Contracts))))],IC a0s l10_2⟩ Qa (sS (sC (QO l10_1 (Qc (Ht a0s.Contracts))) Qa ?_ ?_))
  rotate_left
  ·refine Qz (ZW (KM (QW ?_)))
   exact KQ (k:=fun _=>KC n a0s) () Qa
  refine sK (Qp ⟨wI a0s l10_1,IC a0s l10_2⟩ Qa (sS (sB (sS (sG ?_)))))
  refine xG Qa Qa (QN (e:=54) (S:=4) (enc:=ZT.cs) (l:=a0s.Contracts) (k:=.i64) (n:=l10_1) (sv:=.p (.sl 4 (Ht a0s.Contracts))) rfl Qa Qa Qa Qa Qa) (fun x11=>?_)
  refine xR 3 Qa (xE (Qp ⟨sJ a0s l10_1,mX a0s x11 l10_2⟩ Qa (sS (K6 (fun j12=>⟨[qq 1,(5, .mv 25),qq 7,(27, .p (.sl 4 (Ht a0s.Contracts))),(28,I (Qc (Ht a0s.Contracts))),(29,I l10_1),(61,B j12)],mX a0s x11 l10_2⟩:Bool→St) ?_ ?_))))
  rotate_left
  ·rintro j12
   refine sC j12 Qa ?_ ?_
   ·refine Qg Qd ⟨[(2,B false)],[]⟩ Qa (sT (Q7 (Zd (Q7 (KH (Zd (KH ?_)))))))
    exact qR (.id) Qa Qa Qa
   refine sK (Qp ⟨sJ a0s l10_1,mX a0s x11 l10_2⟩ Qa (sG (xR 3 Qa ?_)))
   refine ZH Qa Qa (Yd (kt:=3) (e:=4) (ke:=JU) (ve:=JV) (eq:=Zf) (b:=25) (m:=l10_2) (k:=x11.Card) (v:=true) rfl Qa Qa Qa Qa Qa Qa QS (fun _ _=>(CG _ _ _ _ _).symm.trans Qa)) ?_
   refine xE (Q6 (Qp ⟨wI a0s l10_1,IC a0s (Qk Zf x11.Card true l10_2)⟩ Qa (sL Qd Qa ?_)))
   exact KQ (wi (l10_1+1),Qk Zf x11.Card true l10_2) Qa
  refine sG (xR 7 Qa ?_)
  refine xC [] Qa (QF n (⟨0,wi ((Qc (Kq a0s.Owners)) - 1)⟩:ZA) x11.Owner) Qa Qa QS (fun r13=>?_)
  refine xR 2 Qa ?_
  refine xS (!r13) (fun h14=>?_) (fun h14=>?_)
  ·refine xN (Qx Qa h14) Qa (xR 18 Qa (xE ?_))
   exact QQ true Qa
  refine xO (Qw Qa h14) Qa (xR 2 Qa ?_)
  refine xC [] Qa (QF n (⟨1,9⟩:ZA) x11.Rank) Qa Qa QS (fun r15=>?_)
  refine xR 3 Qa ?_
  refine xS (!r15) (fun h16=>?_) (fun h16=>?_)
  ·refine xN (Qx Qa h16) Qa (xR 11 Qa (xE ?_))
   exact QQ true Qa
  refine xO (Qw Qa h16) Qa (xR 2 Qa ?_)
  refine xC [] Qa (QF n (⟨1,1000000⟩:ZA) x11.Card) Qa Qa QS (fun r17=>?_)
  refine xR 3 Qa ?_
  refine xS (!r17) (fun h18=>?_) (fun h18=>?_)
  ·refine xN (Qx Qa h18) Qa (xR 4 Qa (xE ?_))
   exact QQ true Qa
  refine xO (Qw Qa h18) Qa (xR 2 Qa ?_)
  refine ZH Qa Qa (Zt (kt:=3) (e:=4) (ke:=JU) (ve:=JV) (eq:=Zf) (b:=25) (m:=l10_2) (k:=x11.Card) (z0:=false) rfl Qa Qa Qa Qa Qa QS (fun _ _=>(CG _ _ _ _ _).symm.trans Qa) Qa) ?_
  refine xR 1 Qa (xE ?_)
  exact QQ (QB Zf x11.Card false l10_2) Qa
 rintro _
 show QV (KC n a0s) _ _ _ _ _ _
 unfold KC
 refine ZR (fun _=>⟨[qq 1],ZF a0s⟩:Unit→St) (fun _=>KA n a0s) ?_ ?_
 rotate_left
 ·refine Qg Qd ⟨wJ a0s 0,ZF a0s⟩ Qa (sB (QI (fun l7=>⟨wJ a0s l7,ZF a0s⟩:Int→St) (Xg Qa) ?_))
  rintro recl7 l7
  show QV (Yi n a0s recl7 l7) _ _ _ _ _ _
  unfold Yi
  refine Qg Qd ⟨[qq 1,(67, .p (.sl 8 (Gq a0s.Chargers))),(68,I (Qc (Gq a0s.Chargers))),(69,I l7),(70,B (QO l7 (Qc (Gq a0s.Chargers))))],ZF a0s⟩ Qa (sS (sC (QO l7 (Qc (Gq a0s.Chargers))) Qa ?_ ?_))
  rotate_left
  ·refine Qz (ZW (KM (QW ?_)))
   exact KQ (k:=fun _=>KA n a0s) () Qa
  refine sK (Qp ⟨wJ a0s l7,ZF a0s⟩ Qa (sS (sB (sS (sG ?_)))))
  refine xG Qa Qa (QN (e:=56) (S:=8) (enc:=ZY.cs) (l:=a0s.Chargers) (k:=.i64) (n:=l7) (sv:=.p (.sl 8 (Gq a0s.Chargers))) rfl Qa Qa Qa Qa Qa) (fun x8=>?_)
  refine xR 3 Qa (xE (Qp ⟨[qq 1,qq 9,(67, .p (.sl 8 (Gq a0s.Chargers))),(68,I (Qc (Gq a0s.Chargers))),(69,I l7)],[(1,Wq a0s),(9,Sl x8)]⟩ Qa (sS (sG (xR 2 Qa ?_)))))
  refine xC [] Qa (F5 n a0s x8) Qa Qa QS (fun r9=>?_)
  refine xR 1 Qa (xE (Qp ⟨[qq 1,(67, .p (.sl 8 (Gq a0s.Chargers))),(68,I (Qc (Gq a0s.Chargers))),(69,I l7),(76,B (!r9))],ZF a0s⟩ Qa (sC (!r9) Qa ?_ ?_)))
  ·refine Qg Qd ⟨[(2,B false)],[]⟩ Qa (sT (Zd (Q7 (KH (Zd (KH ?_))))))
   exact qR (.id) Qa Qa Qa
  refine sK (Q6 (Qp ⟨wJ a0s l7,ZF a0s⟩ Qa (sL Qd Qa ?_)))
  exact KQ (wi (l7+1)) Qa
 rintro _
 show QV (KA n a0s) _ _ _ _ _ _
 unfold KA
 refine sS (Qg Qd ⟨wK a0s 0,ZF a0s⟩ Qa (sB (QI (fun l4=>⟨wK a0s l4,ZF a0s⟩:Int→St) (Xg Qa) ?_)))
 rintro recl4 l4
 show QV (Yh n a0s recl4 l4) _ _ _ _ _ _
 unfold Yh
 refine Qg Qd ⟨[qq 1,(79, .p (.sl 2 (VJ a0s.Bays))),(80,I (Qc (VJ a0s.Bays))),(81,I l4),(82,B (QO l4 (Qc (VJ a0s.Bays))))],ZF a0s⟩ Qa (sS (sC (QO l4 (Qc (VJ a0s.Bays))) Qa ?_ ?_))
 rotate_left
 ·refine Qz (ZW (KM (QW (Qp ⟨[],[]⟩ Qa (Qg Qd ⟨[(2,B true)],[]⟩ Qa (sT ?_))))))
  exact qR (.id) Qa Qa Qa
 refine sK (Qp ⟨wK a0s l4,ZF a0s⟩ Qa (sS (sB (sS (sG ?_)))))
 refine xG Qa Qa (QN (e:=58) (S:=2) (enc:=Zi.cs) (l:=a0s.Bays) (k:=.i64) (n:=l4) (sv:=.p (.sl 2 (VJ a0s.Bays))) rfl Qa Qa Qa Qa Qa) (fun x5=>?_)
 refine xR 3 Qa (xE (Qp ⟨[qq 1,qq 11,(79, .p (.sl 2 (VJ a0s.Bays))),(80,I (Qc (VJ a0s.Bays))),(81,I l4)],[(1,Wq a0s),(11,wF x5)]⟩ Qa (sS (sG (xR 7 Qa ?_)))))
 refine xC [] Qa (QF n (⟨0,wi ((Qc (Gq a0s.Chargers)) - 1)⟩:ZA) x5.Charger) Qa Qa QS (fun r6=>?_)
 refine xR 1 Qa (xE (Qp ⟨[qq 1,(79, .p (.sl 2 (VJ a0s.Bays))),(80,I (Qc (VJ a0s.Bays))),(81,I l4),(93,B (!r6))],ZF a0s⟩ Qa (sC (!r6) Qa ?_ ?_)))
 ·refine Qg Qd ⟨[(2,B false)],[]⟩ Qa (sT (Zd (Q7 (KH (Zd (Q7 ?_))))))
  exact qR (.id) Qa Qa Qa
 refine sK (Q6 (Qp ⟨wK a0s l4,ZF a0s⟩ Qa (sL Qd Qa ?_)))
 exact KQ (wi (l4+1)) Qa
def Y7 (n:Nat) (a0s:Qm):Option Bool :=
 (Vf n a0s).bind fun r8 =>
 some r8
def YO (n:Nat) (a0s:Qm) (r9:List (List UInt8)) (recl10:(Int × (List ((List UInt8) × Bool)))→Option Bool) (l10_1:Int) (l10_2:List ((List UInt8) × Bool)):Option Bool :=
 cond (QO l10_1 (Qc (List.map Zg r9)))
  ((Q8 r9 l10_1).bind fun x11 =>
  ((Ws n x11).bind fun r13 =>
  cond (!r13)
   (some true)
   (some (QB Qb x11 false l10_2))).bind fun j12 =>
  cond j12
   (some false)
   (recl10 (wi (l10_1+1),Qk Qb x11 true l10_2)))
  (Y7 n a0s)
def Vg (n:Nat) (a0s:Qm):Option Bool :=
 (cond (QO (Qc (List.map ZJ.cs a0s.Conductors)) 1)
  (some true)
  (cond (QO 16 (Qc (List.map ZJ.cs a0s.Conductors)))
   (some true)
   (cond (QO 8 (Qc (List.map Zb.cs a0s.Owners)))
    (some true)
    (cond (QO 32 (Qc (List.map ZT.cs a0s.Contracts)))
     (some true)
     (cond (QO 16 (Qc (List.map ZY.cs a0s.Chargers)))
      (some true)
      (some (QO 24 (Qc (List.map Zi.cs a0s.Bays))))))))).bind fun j1 =>
 cond j1
  (some false)
  ((Jb n a0s).bind fun r9 =>
  QZ (fun recl10 (l10_1,l10_2)=>YO n a0s r9 recl10 l10_1 l10_2) n (0,[]))
def Bv:=fun x0 x1=>([(1, .box 33 (Ya (Qm.cs x0))),(40, .mp (JD QT QU x1))]:List (Nat × Blk))
def wL:=fun x0 x1=>([(1, .ptr 1 0),(3, .mv 40),(42, .p (.sl 1 (List.map Zg x0))),(43,I (Qc (List.map Zg x0))),(44,I x1)]:List (Nat × AV))
def sM:=fun x0 x1 x2=>([(1, .ptr 1 0),(3, .mv 40),(5,S x0),(42, .p (.sl 1 (List.map Zg x1))),(43,I (Qc (List.map Zg x1))),(44,I x2)]:List (Nat × AV))
theorem Uw (n:Nat) (a0s:Qm):∀ r,Vg n a0s=some r→Q9 Tryz.prog 13 [ag (Qm.cs a0s)] (.ret (B r)):=by
 refine Qs (X:=fun r:Bool=>QX.ret (B r)) Tryz.func13 rfl Tryz.ntmps13 rfl ?_
 unfold Vg
 refine Qg Qd ⟨[qq 1],ZF a0s⟩ Qa (sS (K6 (fun j1=>⟨[qq 1,(39,B j1)],ZF a0s⟩:Bool→St) ?_ ?_))
 ·refine sG (xR 5 Qa ?_)
  refine xS (QO (Qc (Gg a0s.Conductors)) 1) (fun h2=>?_) (fun h2=>?_)
  ·refine xN (Qx Qa h2) Qa (xR 28 Qa (xE ?_))
   exact QQ true Qa
  refine xO (Qw Qa h2) Qa (xR 5 Qa ?_)
  refine xS (QO 16 (Qc (Gg a0s.Conductors))) (fun h3=>?_) (fun h3=>?_)
  ·refine xN (Qx Qa h3) Qa (xR 22 Qa (xE ?_))
   exact QQ true Qa
  refine xO (Qw Qa h3) Qa (xR 5 Qa ?_)
  refine xS (QO 8 (Qc (Kq a0s.Owners))) (fun h4=>?_) (fun h4=>?_)
  ·refine xN (Qx Qa h4) Qa (xR 16 Qa (xE ?_))
   exact QQ true Qa
  refine xO (Qw Qa h4) Qa (xR 5 Qa ?_)
  refine xS (QO 32 (Qc (Ht a0s.Contracts))) (fun h5=>?_) (fun h5=>?_)
  ·refine xN (Qx Qa h5) Qa (xR 10 Qa (xE ?_))
   exact QQ true Qa
  refine xO (Qw Qa h5) Qa (xR 5 Qa ?_)
  refine xS (QO 16 (Qc (Gq a0s.Chargers))) (fun h6=>?_) (fun h6=>?_)
  ·refine xN (Qx Qa h6) Qa (xR 4 Qa (xE ?_))
   exact QQ true Qa
  refine xO (Qw Qa h6) Qa (xR 4 Qa (xE ?_))
  exact QQ (QO 24 (Qc (VJ a0s.Bays))) Qa
 rintro j1
 refine sC j1 Qa ?_ ?_
 ·refine Qg Qd ⟨[(2,B false)],[]⟩ Qa (sT (Q7 ?_))
  exact qR (.id) Qa Qa Qa
 refine sK (Qp ⟨[qq 1],ZF a0s⟩ Qa (sS (sG (ZH Qa Qa (EH (d:=40) (rsv:=none) rfl rfl Qa) (xR 1 Qa (xE (Qp ⟨[qq 1,(3, .mv 40)],Bv a0s []⟩ Qa ?_)))))))
 refine ZR (fun _=>⟨[qq 1],ZF a0s⟩:Unit→St) (fun _=>Y7 n a0s) ?_ ?_
 ·rintro _
  show QV (Y7 n a0s) _ _ _ _ _ _
  unfold Y7
  refine sS (sG (xR 1 Qa ?_))
  refine xC [] Qa (RH n a0s) Qa Qa QS (fun r8=>?_)
  refine xR 1 Qa (xE (Qp ⟨[(2,B r8)],[]⟩ Qa (sT ?_)))
  exact qR (.id) Qa Qa Qa
 refine sS (sG (xR 1 Qa ?_))
 refine xC [] Qa (Bt n a0s) Qa Qa QS (fun r9=>?_)
 refine xR 2 Qa (xE (Qp ⟨wL r9 0,Bv a0s []⟩ Qa (sB (QI (fun (l10_1,l10_2)=>⟨wL r9 l10_1,Bv a0s l10_2⟩:(Int × (List ((List UInt8) × Bool)))→St) (Xg Qa) ?_))))
 rintro recl10 ⟨l10_1,l10_2⟩
 show QV (YO n a0s r9 recl10 l10_1 l10_2) _ _ _ _ _ _
 unfold YO
 refine Qg Qd ⟨[qq 1,(3, .mv 40),(42, .p (.sl 1 (List.map Zg r9))),(43,I (Qc (List.map Zg r9))),(44,I l10_1),(45,B (QO l10_1 (Qc (List.map Zg r9))))],Bv a0s l10_2⟩ Qa (sS (sC (QO l10_1 (Qc (List.map Zg r9))) Qa ?_ ?_))
 rotate_left
 ·refine Qz (ZW (KM (QW ?_)))
  exact KQ (k:=fun _=>Y7 n a0s) () Qa
 refine sK (Qp ⟨wL r9 l10_1,Bv a0s l10_2⟩ Qa (sS (sB (sS (sG ?_)))))
 refine xG Qa Qa (QN (e:=9) (S:=1) (enc:=Zg) (l:=r9) (k:=.i64) (n:=l10_1) (sv:=.p (.sl 1 (List.map Zg r9))) rfl Qa Qa Qa Qa Qa) (fun x11=>?_)
 refine xR 2 Qa (xE (Qp ⟨sM x11 r9 l10_1,Bv a0s l10_2⟩ Qa (sS (K6 (fun j12=>⟨[qq 1,(3, .mv 40),(5,S x11),(42, .p (.sl 1 (List.map Zg r9))),(43,I (Qc (List.map Zg r9))),(44,I l10_1),(55,B j12)],Bv a0s l10_2⟩:Bool→St) ?_ ?_))))
 ·refine sG (xR 1 Qa ?_)
  refine xC [] Qa (Du n x11) Qa Qa QS (fun r13=>?_)
  refine xR 2 Qa ?_
  refine xS (!r13) (fun h14=>?_) (fun h14=>?_)
  ·refine xN (Qx Qa h14) Qa (xR 3 Qa (xE ?_))
   exact QQ true Qa
  refine xO (Qw Qa h14) Qa (xR 1 Qa ?_)
  refine ZH Qa Qa (Zt (kt:=9) (e:=4) (ke:=QT) (ve:=QU) (eq:=Qb) (b:=40) (m:=l10_2) (k:=x11) (z0:=false) rfl Qa Qa Qa Qa Qa QS (fun _ _=>Q0 rfl _ _) Qa) ?_
  refine xR 1 Qa (xE ?_)
  exact QQ (QB Qb x11 false l10_2) Qa
 rintro j12
 refine sC j12 Qa ?_ ?_
 ·refine Qg Qd ⟨[(2,B false)],[]⟩ Qa (sT (Q7 (Zd (Q7 (KH (Zd (KH ?_)))))))
  exact qR (.id) Qa Qa Qa
 refine sK (Qp ⟨sM x11 r9 l10_1,Bv a0s l10_2⟩ Qa (sG (xR 2 Qa ?_)))
 refine ZH Qa Qa (Yd (kt:=9) (e:=4) (ke:=QT) (ve:=QU) (eq:=Qb) (b:=40) (m:=l10_2) (k:=x11) (v:=true) rfl Qa Qa Qa Qa Qa Qa QS (fun _ _=>Q0 rfl _ _)) ?_
 refine xE (Q6 (Qp ⟨wL r9 l10_1,Bv a0s (Qk Qb x11 true l10_2)⟩ Qa (sL Qd Qa ?_)))
 exact KQ (wi (l10_1+1),Qk Qb x11 true l10_2) Qa
def Xv (n:Nat):Option Bool :=
 (Tf n [102,101,101,100,101,114,32,102,32,108,105,109,105,116,32,49,48,48,32,110,101,117,116,114,97,108,32,56,48,59,32,99,97,98,108,101,32,99,32,102,114,111,109,32,102,32,108,105,109,105,116,32,52,48,32,110,101,117,116,114,97,108,32,52,48,32,102,117,115,101,32,51,50,32,53,48,48,48,59,32,111,119,110,101,114,32,111,59,32,99,104,97,114,103,101,114,32,120,32,97,116,32,99,32,112,104,97,115,101,115,32,49,32,51,32,97,109,112,115,32,54,32,51,50,32,49,32,102,97,108,108,98,97,99,107,32,54,32,111,119,110,101,114,32,111,59,32,98,97,121,32,98,32,99,104,97,114,103,101,114,32,120,59]).bind fun r1 =>
 (YG n r1.1).bind fun r2 =>
 (Tf n [102,101,101,100,101,114,32,102,32,108,105,109,105,116,32,48,32,110,101,117,116,114,97,108,32,56,48,59]).bind fun r3 =>
 (YG n r3.1).bind fun r4 =>
 (YG n (⟨1,[],0,0,[]⟩:GN)).bind fun r5 =>
 (YG n (⟨0,[],0,0,[]⟩:GN)).bind fun r6 =>
 (cond (QO 0 (Qc (List.map ZX.cs r1.2)))
  (some true)
  (cond (QO 0 (Qc (List.map ZX.cs r2.2)))
   (some true)
   (cond (QO 0 (Qc (List.map ZX.cs r3.2)))
    (some true)
    (cond (!Qi (Qc (List.map ZX.cs r4.2)) 1)
     (some true)
     (cond (!Qi (Qc (List.map ZX.cs r5.2)) 1)
      (some true)
      (cond (!Qi (Qc (List.map ZX.cs r6.2)) 1)
       (some true)
       (cond (!Qi (Qc (List.map ZJ.cs r2.1.Conductors)) 2)
        (some true)
        (cond (!Qi (Qc (List.map Zb.cs r2.1.Owners)) 1)
         (some true)
         (cond (!Qi (Qc (List.map ZY.cs r2.1.Chargers)) 1)
          (some true)
          (cond (!Qi (Qc (List.map Zi.cs r2.1.Bays)) 1)
           (some true)
           (some (!Qi (Qc (List.map ZT.cs r2.1.Contracts)) 0)))))))))))).bind fun j7 =>
 cond j7
  (some false)
  (((Q8 r4.2 0).bind fun x19 =>
  cond (Xx ((Qi x19.Err 3)&&((Qi x19.At 9)&&true)))
   ((Q8 r5.2 0).bind fun x21 =>
   cond (Qi x21.Err 4)
    ((Q8 r6.2 0).bind fun x23 =>
    cond (Qi x23.Err 1)
     ((Q8 r2.1.Conductors 0).bind fun x25 =>
     cond (Xx ((QP x25.Name [102])&&((Qi x25.Up (-1))&&((Qi x25.Limit 100)&&((Qi x25.Neutral 80)&&(((Qi x25.Fuse.Rated 0)&&((Qi x25.Fuse.Heat 0)&&true))&&(((Qi x25.Cable.Ambient 0)&&((Qi x25.Cable.Most 0)&&((Qi x25.Cable.Gain 0)&&((Qi x25.Cable.Loss 0)&&((Qi x25.Cable.Den 0)&&true)))))&&true)))))))
      ((Q8 r2.1.Conductors 1).bind fun x27 =>
      cond (Xx ((QP x27.Name [99])&&((Qi x27.Up 0)&&((Qi x27.Limit 40)&&((Qi x27.Neutral 40)&&(((Qi x27.Fuse.Rated 32)&&((Qi x27.Fuse.Heat 5000)&&true))&&(((Qi x27.Cable.Ambient 0)&&((Qi x27.Cable.Most 0)&&((Qi x27.Cable.Gain 0)&&((Qi x27.Cable.Loss 0)&&((Qi x27.Cable.Den 0)&&true)))))&&true)))))))
       ((Q8 r2.1.Chargers 0).bind fun x29 =>
       cond (Xx ((QP x29.Name [120])&&((Qi x29.At 1)&&((Qi x29.Phases 5)&&((Qi x29.Min 6)&&((Qi x29.Max 32)&&((Qi x29.Step 1)&&((Qi x29.Fallback 6)&&((Qi x29.Owner 0)&&true)))))))))
        ((Q8 r2.1.Bays 0).bind fun x31 =>
        cond (Xx ((QP x31.Name [98])&&((Qi x31.Charger 0)&&true)))
         ((Vg n r2.1).bind fun r33 =>
         cond r33
          ((Vg n (⟨[],[],[],[],[]⟩:Qm)).bind fun r35 =>
          some (!r35))
          (some false))
         (some false))
        (some false))
       (some false))
      (some false))
     (some false))
    (some false))
   (some false)).bind fun j18 =>
  some j18)
def IE:=fun x0=>([(3, .box 33 (Ya (Qm.cs x0)))]:List (Nat × Blk))
theorem NQ (n:Nat):∀ r,Xv n=some r→Q9 Tryz.prog 7 [] (.ret (B r)):=by
 refine Qs (X:=fun r:Bool=>QX.ret (B r)) Tryz.func7 rfl Tryz.ntmps7 rfl ?_
 unfold Xv
 refine Qg Qd ⟨[],[]⟩ Qa (sS (sG ?_))
 refine xC [] Qa (Bj n [102,101,101,100,101,114,32,102,32,108,105,109,105,116,32,49,48,48,32,110,101,117,116,114,97,108,32,56,48,59,32,99,97,98,108,101,32,99,32,102,114,111,109,32,102,32,108,105,109,105,116,32,52,48,32,110,101,117,116,114,97,108,32,52,48,32,102,117,115,101,32,51,50,32,53,48,48,48,59,32,111,119,110,101,114,32,111,59,32,99,104,97,114,103,101,114,32,120,32,97,116,32,99,32,112,104,97,115,101,115,32,49,32,51,32,97,109,112,115,32,54,32,51,50,32,49,32,102,97,108,108,98,97,99,107,32,54,32,111,119,110,101,114,32,111,59,32,98,97,121,32,98,32,99,104,97,114,103,101,114,32,120,59]) Qa Qa QS (fun r1=>?_)
 refine xR 6 Qa (xE (Qp ⟨[qq 1,(2, .p (.sl 2 (Wm r1.2)))],Lp r1.1⟩ Qa (sS (sG (xR 1 Qa ?_)))))
 refine xC [] Qa (Wp n r1.1) Qa Qa QS (fun r2=>?_)
 refine xR 6 Qa (xE (Qp ⟨[(2, .p (.sl 2 (Wm r1.2))),qq 3,(4, .p (.sl 2 (Wm r2.2)))],IE r2.1⟩ Qa (sS (sG ?_))))
 refine xC [] Qa (Bj n [102,101,101,100,101,114,32,102,32,108,105,109,105,116,32,48,32,110,101,117,116,114,97,108,32,56,48,59]) Qa Qa QS (fun r3=>?_)
 refine xR 6 Qa (xE (Qp ⟨[(2, .p (.sl 2 (Wm r1.2))),qq 3,(4, .p (.sl 2 (Wm r2.2))),qq 5,(6, .p (.sl 2 (Wm r3.2)))],[(3,Wq r2.1),(5,RF r3.1)]⟩ Qa (sS (sG (xR 1 Qa ?_)))))
 refine xC [] Qa (Wp n r3.1) Qa Qa QS (fun r4=>?_)
 refine xR 6 Qa (xE (Qp ⟨[(2, .p (.sl 2 (Wm r1.2))),qq 3,(4, .p (.sl 2 (Wm r2.2))),(6, .p (.sl 2 (Wm r3.2))),(8, .p (.sl 2 (Wm r4.2)))],IE r2.1⟩ Qa (sS (sG (xR 1 Qa ?_)))))
 refine xC [.agg [.id, .id, .id, .id, .sl 5]] Qa (Wp n (⟨1,[],0,0,[]⟩:GN)) Qa Qa QS (fun r5=>?_)
 refine xR 6 Qa (xE (Qp ⟨[(2, .p (.sl 2 (Wm r1.2))),qq 3,(4, .p (.sl 2 (Wm r2.2))),(6, .p (.sl 2 (Wm r3.2))),(8, .p (.sl 2 (Wm r4.2))),(10, .p (.sl 2 (Wm r5.2)))],IE r2.1⟩ Qa (sS (sG (xR 1 Qa ?_)))))
 refine xC [.agg [.id, .id, .id, .id, .sl 5]] Qa (Wp n (⟨0,[],0,0,[]⟩:GN)) Qa Qa QS (fun r6=>?_)
 refine xR 6 Qa (xE (Qp ⟨[(2, .p (.sl 2 (Wm r1.2))),qq 3,(4, .p (.sl 2 (Wm r2.2))),(6, .p (.sl 2 (Wm r3.2))),(8, .p (.sl 2 (Wm r4.2))),(10, .p (.sl 2 (Wm r5.2))),(12, .p (.sl 2 (Wm r6.2)))],IE r2.1⟩ Qa (sS (K6 (fun j7=>⟨[qq 3,(8, .p (.sl 2 (Wm r4.2))),(10, .p (.sl 2 (Wm r5.2))),(12, .p (.sl 2 (Wm r6.2))),(98,B j7)],IE r2.1⟩:Bool→St) ?_ ?_))))
 ·refine sG (xR 4 Qa ?_)
  refine xS (QO 0 (Qc (Wm r1.2))) (fun h8=>?_) (fun h8=>?_)
  ·refine xN (Qx Qa h8) Qa (xR 53 Qa (xE ?_))
   exact QQ true Qa
  refine xO (Qw Qa h8) Qa (xR 4 Qa ?_)
  refine xS (QO 0 (Qc (Wm r2.2))) (fun h9=>?_) (fun h9=>?_)
  ·refine xN (Qx Qa h9) Qa (xR 48 Qa (xE ?_))
   exact QQ true Qa
  refine xO (Qw Qa h9) Qa (xR 4 Qa ?_)
  refine xS (QO 0 (Qc (Wm r3.2))) (fun h10=>?_) (fun h10=>?_)
  ·refine xN (Qx Qa h10) Qa (xR 43 Qa (xE ?_))
   exact QQ true Qa
  refine xO (Qw Qa h10) Qa (xR 4 Qa ?_)
  refine xS (!Qi (Qc (Wm r4.2)) 1) (fun h11=>?_) (fun h11=>?_)
  ·refine xN (Qx Qa h11) Qa (xR 38 Qa (xE ?_))
   exact QQ true Qa
  refine xO (Qw Qa h11) Qa (xR 4 Qa ?_)
  refine xS (!Qi (Qc (Wm r5.2)) 1) (fun h12=>?_) (fun h12=>?_)
  ·refine xN (Qx Qa h12) Qa (xR 33 Qa (xE ?_))
   exact QQ true Qa
  refine xO (Qw Qa h12) Qa (xR 4 Qa ?_)
  refine xS (!Qi (Qc (Wm r6.2)) 1) (fun h13=>?_) (fun h13=>?_)
  ·refine xN (Qx Qa h13) Qa (xR 28 Qa (xE ?_))
   exact QQ true Qa
  refine xO (Qw Qa h13) Qa (xR 5 Qa ?_)
  refine xS (!Qi (Qc (Gg r2.1.Conductors)) 2) (fun h14=>?_) (fun h14=>?_)
  ·refine xN (Qx Qa h14) Qa (xR 22 Qa (xE ?_))
   exact QQ true Qa
  refine xO (Qw Qa h14) Qa (xR 5 Qa ?_)
  refine xS (!Qi (Qc (Kq r2.1.Owners)) 1) (fun h15=>?_) (fun h15=>?_)
  ·refine xN (Qx Qa h15) Qa (xR 16 Qa (xE ?_))
   exact QQ true Qa
  refine xO (Qw Qa h15) Qa (xR 5 Qa ?_)
  refine xS (!Qi (Qc (Gq r2.1.Chargers)) 1) (fun h16=>?_) (fun h16=>?_)
  ·refine xN (Qx Qa h16) Qa (xR 10 Qa (xE ?_))
   exact QQ true Qa
  refine xO (Qw Qa h16) Qa (xR 5 Qa ?_)
  refine xS (!Qi (Qc (VJ r2.1.Bays)) 1) (fun h17=>?_) (fun h17=>?_)
  ·refine xN (Qx Qa h17) Qa (xR 4 Qa (xE ?_))
   exact QQ true Qa
  refine xO (Qw Qa h17) Qa (xR 4 Qa (xE ?_))
  exact QQ (!Qi (Qc (Ht r2.1.Contracts)) 0) Qa
 rintro j7
 refine sC j7 Qa ?_ ?_
 ·refine Qg Qd ⟨[(0,B false)],[]⟩ Qa (sT (Q7 ?_))
  exact qR (.id) Qa Qa Qa
 refine sK (Qp ⟨[qq 3,(8, .p (.sl 2 (Wm r4.2))),(10, .p (.sl 2 (Wm r5.2))),(12, .p (.sl 2 (Wm r6.2)))],IE r2.1⟩ Qa (K6 (fun j18=>⟨[(0,B j18)],[]⟩:Bool→St) ?_ ?_))
 rotate_left
 ·rintro j18
  refine sT ?_
  exact qR (.id) Qa Qa Qa
 refine sG (xR 1 Qa ?_)
 refine xG Qa Qa (QN (e:=65) (S:=2) (enc:=ZX.cs) (l:=r4.2) (k:=.i64) (n:=0) (sv:=.p (.sl 2 (Wm r4.2))) rfl Qa Qa Qa Qa Qa) (fun x19=>?_)
 refine xR 2 Qa (ZH Qa Qa (FO (xs:=[I x19.Err,I x19.At]) (ys:=[I 3,I 9]) (vx:=[.int .i64 x19.Err, .int .i64 x19.At]) (vy:=[.int .i64 3, .int .i64 9]) (b:=(Qi x19.Err 3)&&((Qi x19.At 9)&&true)) rfl Qa Qa Qa Qa Qa Qa) (xR 1 Qa ?_))
 refine xS (Xx ((Qi x19.Err 3)&&((Qi x19.At 9)&&true))) (fun h20=>?_) (fun h20=>?_)
 rotate_left
 ·refine xN (Qr Qa h20) Qa (xR 55 Qa (xE ?_))
  exact QQ false Qa
 refine xO (Qq Qa h20) Qa ?_
 refine xG Qa Qa (QN (e:=65) (S:=2) (enc:=ZX.cs) (l:=r5.2) (k:=.i64) (n:=0) (sv:=.p (.sl 2 (Wm r5.2))) rfl Qa Qa Qa Qa Qa) (fun x21=>?_)
 refine xR 5 Qa ?_
 refine xS (Qi x21.Err 4) (fun h22=>?_) (fun h22=>?_)
 rotate_left
 ·refine xN (Qr Qa h22) Qa (xR 48 Qa (xE ?_))
  exact QQ false Qa
 refine xO (Qq Qa h22) Qa ?_
 refine xG Qa Qa (QN (e:=65) (S:=2) (enc:=ZX.cs) (l:=r6.2) (k:=.i64) (n:=0) (sv:=.p (.sl 2 (Wm r6.2))) rfl Qa Qa Qa Qa Qa) (fun x23=>?_)
 refine xR 5 Qa ?_
 refine xS (Qi x23.Err 1) (fun h24=>?_) (fun h24=>?_)
 rotate_left
 ·refine xN (Qr Qa h24) Qa (xR 41 Qa (xE ?_))
  exact QQ false Qa
 refine xO (Qq Qa h24) Qa (xR 1 Qa ?_)
 refine xG Qa Qa (QN (e:=49) (S:=11) (enc:=ZJ.cs) (l:=r2.1.Conductors) (k:=.i64) (n:=0) (sv:=.p (.sl 11 (Gg r2.1.Conductors))) rfl Qa Qa Qa Qa Qa) (fun x25=>?_)
 refine xR 2 Qa (ZH Qa Qa (FO (xs:=[S x25.Name,I x25.Up,I x25.Limit,I x25.Neutral,I x25.Fuse.Rated,I x25.Fuse.Heat,I x25.Cable.Ambient,I x25.Cable.Most,I x25.Cable.Gain,I x25.Cable.Loss,I x25.Cable.Den]) (ys:=[S [102],I (-1),I 100,I 80,I 0,I 0,I 0,I 0,I 0,I 0,I 0]) (vx:=[.string (XW x25.Name), .int .i64 x25.Up, .int .i64 x25.Limit, .int .i64 x25.Neutral, .int .i64 x25.Fuse.Rated, .int .i64 x25.Fuse.Heat, .int .i64 x25.Cable.Ambient, .int .i64 x25.Cable.Most, .int .i64 x25.Cable.Gain, .int .i64 x25.Cable.Loss, .int .i64 x25.Cable.Den]) (vy:=[.string (XW [102]), .int .i64 (-1), .int .i64 100, .int .i64 80, .int .i64 0, .int .i64 0, .int .i64 0, .int .i64 0, .int .i64 0, .int .i64 0, .int .i64 0]) (b:=(QP x25.Name [102])&&((Qi x25.Up (-1))&&((Qi x25.Limit 100)&&((Qi x25.Neutral 80)&&(((Qi x25.Fuse.Rated 0)&&((Qi x25.Fuse.Heat 0)&&true))&&(((Qi x25.Cable.Ambient 0)&&((Qi x25.Cable.Most 0)&&((Qi x25.Cable.Gain 0)&&((Qi x25.Cable.Loss 0)&&((Qi x25.Cable.Den 0)&&true)))))&&true)))))) rfl Qa Qa Qa Qa Qa Qa) (xR 2 Qa ?_))
 refine xS (Xx ((QP x25.Name [102])&&((Qi x25.Up (-1))&&((Qi x25.Limit 100)&&((Qi x25.Neutral 80)&&(((Qi x25.Fuse.Rated 0)&&((Qi x25.Fuse.Heat 0)&&true))&&(((Qi x25.Cable.Ambient 0)&&((Qi x25.Cable.Most 0)&&((Qi x25.Cable.Gain 0)&&((Qi x25.Cable.Loss 0)&&((Qi x25.Cable.Den 0)&&true)))))&&true))))))) (fun h26=>?_) (fun h26=>?_)
 rotate_left
 ·refine xN (Qr Qa h26) Qa (xR 33 Qa (xE ?_))
  exact QQ false Qa
 refine xO (Qq Qa h26) Qa (xR 1 Qa ?_)
 refine xG Qa Qa (QN (e:=49) (S:=11) (enc:=ZJ.cs) (l:=r2.1.Conductors) (k:=.i64) (n:=1) (sv:=.p (.sl 11 (Gg r2.1.Conductors))) rfl Qa Qa Qa Qa Qa) (fun x27=>?_)
 refine xR 3 Qa (ZH Qa Qa (FO (xs:=[S x27.Name,I x27.Up,I x27.Limit,I x27.Neutral,I x27.Fuse.Rated,I x27.Fuse.Heat,I x27.Cable.Ambient,I x27.Cable.Most,I x27.Cable.Gain,I x27.Cable.Loss,I x27.Cable.Den]) (ys:=[S [99],I 0,I 40,I 40,I 32,I 5000,I 0,I 0,I 0,I 0,I 0]) (vx:=[.string (XW x27.Name), .int .i64 x27.Up, .int .i64 x27.Limit, .int .i64 x27.Neutral, .int .i64 x27.Fuse.Rated, .int .i64 x27.Fuse.Heat, .int .i64 x27.Cable.Ambient, .int .i64 x27.Cable.Most, .int .i64 x27.Cable.Gain, .int .i64 x27.Cable.Loss, .int .i64 x27.Cable.Den]) (vy:=[.string (XW [99]), .int .i64 0, .int .i64 40, .int .i64 40, .int .i64 32, .int .i64 5000, .int .i64 0, .int .i64 0, .int .i64 0, .int .i64 0, .int .i64 0]) (b:=(QP x27.Name [99])&&((Qi x27.Up 0)&&((Qi x27.Limit 40)&&((Qi x27.Neutral 40)&&(((Qi x27.Fuse.Rated 32)&&((Qi x27.Fuse.Heat 5000)&&true))&&(((Qi x27.Cable.Ambient 0)&&((Qi x27.Cable.Most 0)&&((Qi x27.Cable.Gain 0)&&((Qi x27.Cable.Loss 0)&&((Qi x27.Cable.Den 0)&&true)))))&&true)))))) rfl Qa Qa Qa Qa Qa Qa) (xR 2 Qa ?_))
 refine xS (Xx ((QP x27.Name [99])&&((Qi x27.Up 0)&&((Qi x27.Limit 40)&&((Qi x27.Neutral 40)&&(((Qi x27.Fuse.Rated 32)&&((Qi x27.Fuse.Heat 5000)&&true))&&(((Qi x27.Cable.Ambient 0)&&((Qi x27.Cable.Most 0)&&((Qi x27.Cable.Gain 0)&&((Qi x27.Cable.Loss 0)&&((Qi x27.Cable.Den 0)&&true)))))&&true))))))) (fun h28=>?_) (fun h28=>?_)
 rotate_left
 ·refine xN (Qr Qa h28) Qa (xR 24 Qa (xE ?_))
  exact QQ false Qa
 refine xO (Qq Qa h28) Qa (xR 1 Qa ?_)
 refine xG Qa Qa (QN (e:=56) (S:=8) (enc:=ZY.cs) (l:=r2.1.Chargers) (k:=.i64) (n:=0) (sv:=.p (.sl 8 (Gq r2.1.Chargers))) rfl Qa Qa Qa Qa Qa) (fun x29=>?_)
 refine xR 2 Qa (ZH Qa Qa (FO (xs:=[S x29.Name,I x29.At,I x29.Phases,I x29.Min,I x29.Max,I x29.Step,I x29.Fallback,I x29.Owner]) (ys:=[S [120],I 1,I 5,I 6,I 32,I 1,I 6,I 0]) (vx:=[.string (XW x29.Name), .int .i64 x29.At, .int .i64 x29.Phases, .int .i64 x29.Min, .int .i64 x29.Max, .int .i64 x29.Step, .int .i64 x29.Fallback, .int .i64 x29.Owner]) (vy:=[.string (XW [120]), .int .i64 1, .int .i64 5, .int .i64 6, .int .i64 32, .int .i64 1, .int .i64 6, .int .i64 0]) (b:=(QP x29.Name [120])&&((Qi x29.At 1)&&((Qi x29.Phases 5)&&((Qi x29.Min 6)&&((Qi x29.Max 32)&&((Qi x29.Step 1)&&((Qi x29.Fallback 6)&&((Qi x29.Owner 0)&&true)))))))) rfl Qa Qa Qa Qa Qa Qa) (xR 2 Qa ?_))
 refine xS (Xx ((QP x29.Name [120])&&((Qi x29.At 1)&&((Qi x29.Phases 5)&&((Qi x29.Min 6)&&((Qi x29.Max 32)&&((Qi x29.Step 1)&&((Qi x29.Fallback 6)&&((Qi x29.Owner 0)&&true))))))))) (fun h30=>?_) (fun h30=>?_)
 rotate_left
 ·refine xN (Qr Qa h30) Qa (xR 16 Qa (xE ?_))
  exact QQ false Qa
 refine xO (Qq Qa h30) Qa (xR 1 Qa ?_)
 refine xG Qa Qa (QN (e:=58) (S:=2) (enc:=Zi.cs) (l:=r2.1.Bays) (k:=.i64) (n:=0) (sv:=.p (.sl 2 (VJ r2.1.Bays))) rfl Qa Qa Qa Qa Qa) (fun x31=>?_)
 refine xR 2 Qa (ZH Qa Qa (FO (xs:=[S x31.Name,I x31.Charger]) (ys:=[S [98],I 0]) (vx:=[.string (XW x31.Name), .int .i64 x31.Charger]) (vy:=[.string (XW [98]), .int .i64 0]) (b:=(QP x31.Name [98])&&((Qi x31.Charger 0)&&true)) rfl Qa Qa Qa Qa Qa Qa) (xR 2 Qa ?_))
 refine xS (Xx ((QP x31.Name [98])&&((Qi x31.Charger 0)&&true))) (fun h32=>?_) (fun h32=>?_)
 ·refine xO (Qq Qa h32) Qa ?_
  refine xC [] Qa (Uw n r2.1) Qa Qa QS (fun r33=>?_)
  refine xR 2 Qa ?_
  refine xS r33 (fun h34=>?_) (fun h34=>?_)
  ·refine xO (Qq Qa h34) Qa ?_
   refine xC [.agg [.sl 11, .sl 1, .sl 4, .sl 8, .sl 2]] Qa (Uw n (⟨[],[],[],[],[]⟩:Qm)) Qa Qa QS (fun r35=>?_)
   refine xR 3 Qa (xE ?_)
   exact QQ (!r35) Qa
  refine xN (Qr Qa h34) Qa (xR 4 Qa (xE ?_))
  exact QQ false Qa
 refine xN (Qr Qa h32) Qa (xR 8 Qa (xE ?_))
 exact QQ false Qa
def K3 (a0n:GN) (a1most:Int) (rf_ref02_Count:GN→Int→Option Int) (recl1:(Int × Int)→Option Int) (l1_1:Int) (l1_2:Int):Option Int :=
 (cond (QO l1_2 (Qc (List.map KP a0n.Kids)))
  (some (leI l1_1 a1most))
  (some false)).bind fun j2 =>
 cond j2
  ((Option.bind (Q8 a0n.Kids l1_2) GN.of).bind fun x4 =>
  (rf_ref02_Count x4 (wi (a1most - l1_1))).bind fun r5 =>
  recl1 (wi (l1_1+r5),wi (l1_2+1)))
  (some l1_1)
def K4 (n:Nat) (rf_ref02_Count:GN→Int→Option Int) (a0n:GN) (a1most:Int):Option Int :=
 QZ (fun recl1 (l1_1,l1_2)=>K3 a0n a1most rf_ref02_Count recl1 l1_1 l1_2) n (1,0)
def Kr:Nat→GN→Int→Option Int
 | 0,_,_=>none
 | n+1,a0n,a1most=>K4 n (Kr n) a0n a1most
def wM:=fun x0 x1 x2=>([(1,I x0),(2, .ptr 2 0),(5,I x1),(6,I x2)]:List (Nat × AV))
theorem MW (n:Nat) (a0n:GN) (a1most:Int):∀ r,Kr n a0n a1most=some r→Q9 Tryz.prog 22 [ag (GN.cs a0n),I a1most] (.ret (I r)):=by
 induction n generalizing a0n a1most with
 | zero=>intro r hr; cases (show (none:Option Int)=some r from hr)
 | succ n ih =>
 show ∀ r,K4 n (Kr n) a0n a1most=some r→_
 generalize Kr n=rf_ref02_Count at ih ⊢
 refine Qs (X:=fun r:Int=>QX.ret (I r)) Tryz.func22 rfl Tryz.ntmps22 rfl ?_
 unfold K4
 refine Qg Qd (mO a1most a0n) Qa (Qg Qd ⟨xL a1most 1,Yj a0n⟩ Qa (sS (Qg Qd ⟨wM a1most 1 0,Yj a0n⟩ Qa (sB (QI (fun (l1_1,l1_2)=>⟨wM a1most l1_1 l1_2,Yj a0n⟩:(Int × Int)→St) (Xg Qa) ?_)))))
 rintro recl1 ⟨l1_1,l1_2⟩
 show QV (K3 a0n a1most rf_ref02_Count recl1 l1_1 l1_2) _ _ _ _ _ _
 unfold K3
 refine sS (K6 (fun j2=>⟨[(1,I a1most),qq 2,(5,I l1_1),(6,I l1_2),(16,B j2)],Yj a0n⟩:Bool→St) ?_ ?_)
 ·refine sG (xR 6 Qa ?_)
  refine xS (QO l1_2 (Qc (mI a0n.Kids))) (fun h3=>?_) (fun h3=>?_)
  ·refine xO (Qq Qa h3) Qa (xR 3 Qa (xE ?_))
   exact QQ (leI l1_1 a1most) Qa
  refine xN (Qr Qa h3) Qa (xR 3 Qa (xE ?_))
  exact QQ false Qa
 rintro j2
 refine sC j2 Qa ?_ ?_
 ·refine sK (Qp ⟨wM a1most l1_1 l1_2,Yj a0n⟩ Qa (sS (sB (sG (xR 4 Qa ?_)))))
  refine xG Qa Qa (Yc (e:=24) (S:=5) (enc:=GN.cs) (dec:=GN.of) (l:=a0n.Kids) (k:=.i64) (n:=l1_2) (sv:=.p (.sl 5 (mI a0n.Kids))) GN.of_cs rfl Qa Qa Qa Qa Qa) (fun x4=>?_)
  refine xR 4 Qa ?_
  refine xC [] Qa (ih x4 (wi (a1most - l1_1))) Qa Qa QS (fun r5=>?_)
  refine xR 2 Qa (xE (Q6 (Qp ⟨wM a1most (wi (l1_1+r5)) l1_2,Yj a0n⟩ Qa (sL Qd Qa ?_))))
  exact KQ (wi (l1_1+r5),wi (l1_2+1)) Qa
 refine Qz (ZW (KM (QW (Qp ⟨[(5,I l1_1)],[]⟩ Qa (Qg Qd ⟨[(4,I l1_1)],[]⟩ Qa (sT ?_))))))
 exact qR (.id) Qa Qa Qa
def Jq (a0n:GN) (a1depth:Int) (rf_ref02_names:GN→Int→Option Bool) (recl3:Int→Option Bool) (l3:Int):Option Bool :=
 cond (QO l3 (Qc (List.map KP a0n.Kids)))
  ((Option.bind (Q8 a0n.Kids l3) GN.of).bind fun x4 =>
  (rf_ref02_names x4 (wi (a1depth - 1))).bind fun r5 =>
  cond (!r5)
   (some false)
   (recl3 (wi (l3+1))))
  (some true)
def Wl (n:Nat) (rf_ref02_names:GN→Int→Option Bool) (a0n:GN) (a1depth:Int):Option Bool :=
 (cond (Qi a1depth 0)
  (some true)
  (some (QO 40 (Qc a0n.Name)))).bind fun j1 =>
 cond j1
  (some false)
  (QZ (fun recl3 l3=>Jq a0n a1depth rf_ref02_names recl3 l3) n 0)
def Vu:Nat→GN→Int→Option Bool
 | 0,_,_=>none
 | n+1,a0n,a1depth=>Wl n (Vu n) a0n a1depth
theorem MX (n:Nat) (a0n:GN) (a1depth:Int):∀ r,Vu n a0n a1depth=some r→Q9 Tryz.prog 23 [ag (GN.cs a0n),I a1depth] (.ret (B r)):=by
 induction n generalizing a0n a1depth with
 | zero=>intro r hr; cases (show (none:Option Bool)=some r from hr)
 | succ n ih =>
 show ∀ r,Wl n (Vu n) a0n a1depth=some r→_
 generalize Vu n=rf_ref02_names at ih ⊢
 refine Qs (X:=fun r:Bool=>QX.ret (B r)) Tryz.func23 rfl Tryz.ntmps23 rfl ?_
 unfold Wl
 refine Qg Qd (mO a1depth a0n) Qa (sS (K6 (fun j1=>⟨[(1,I a1depth),qq 2,(13,B j1)],Yj a0n⟩:Bool→St) ?_ ?_))
 ·refine sG (xR 3 Qa ?_)
  refine xS (Qi a1depth 0) (fun h2=>?_) (fun h2=>?_)
  ·refine xN (Qx Qa h2) Qa (xR 4 Qa (xE ?_))
   exact QQ true Qa
  refine xO (Qw Qa h2) Qa (xR 4 Qa (xE ?_))
  exact QQ (QO 40 (Qc a0n.Name)) Qa
 rintro j1
 refine sC j1 Qa ?_ ?_
 ·refine Qg Qd ⟨[(4,B false)],[]⟩ Qa (sT (Q7 ?_))
  exact qR (.id) Qa Qa Qa
 refine sK (Qp (mO a1depth a0n) Qa (sS (Qg Qd ⟨xL a1depth 0,Yj a0n⟩ Qa (sB (QI (fun l3=>⟨xL a1depth l3,Yj a0n⟩:Int→St) (Xg Qa) ?_)))))
 rintro recl3 l3
 show QV (Jq a0n a1depth rf_ref02_names recl3 l3) _ _ _ _ _ _
 unfold Jq
 refine sS (Qg Qd ⟨[(1,I a1depth),qq 2,(5,I l3),(18,B (QO l3 (Qc (mI a0n.Kids))))],Yj a0n⟩ Qa (sC (QO l3 (Qc (mI a0n.Kids))) Qa ?_ ?_))
 rotate_left
 ·refine Qz (ZW (KM (QW (Qp ⟨[],[]⟩ Qa (Qg Qd ⟨[(4,B true)],[]⟩ Qa (sT ?_))))))
  exact qR (.id) Qa Qa Qa
 refine sK (Qp ⟨xL a1depth l3,Yj a0n⟩ Qa (sS (sB (sS (sG (xR 3 Qa ?_))))))
 refine xG Qa Qa (Yc (e:=24) (S:=5) (enc:=GN.cs) (dec:=GN.of) (l:=a0n.Kids) (k:=.i64) (n:=l3) (sv:=.p (.sl 5 (mI a0n.Kids))) GN.of_cs rfl Qa Qa Qa Qa Qa) (fun x4=>?_)
 refine xR 3 Qa ?_
 refine xC [] Qa (ih x4 (wi (a1depth - 1))) Qa Qa QS (fun r5=>?_)
 refine xR 1 Qa (xE (Qp ⟨[(1,I a1depth),qq 2,(5,I l3),(29,B (!r5))],Yj a0n⟩ Qa (sC (!r5) Qa ?_ ?_)))
 ·refine Qg Qd ⟨[(4,B false)],[]⟩ Qa (sT (Zd (Q7 (KH (Zd (Q7 ?_))))))
  exact qR (.id) Qa Qa Qa
 refine sK (Q6 (Qp ⟨xL a1depth l3,Yj a0n⟩ Qa (sL Qd Qa ?_)))
 exact KQ (wi (l3+1)) Qa
def Uk (n:Nat) (a0n:GN) (a1most:Int):Option Bool :=
 (Kr n a0n a1most).bind fun r1 =>
 cond (leI r1 a1most)
  ((Vu n a0n 50).bind fun r3 =>
  some r3)
  (some false)
theorem Sn (n:Nat) (a0n:GN) (a1most:Int):∀ r,Uk n a0n a1most=some r→Q9 Tryz.prog 8 [ag (GN.cs a0n),I a1most] (.ret (B r)):=by
 refine Qs (X:=fun r:Bool=>QX.ret (B r)) Tryz.func8 rfl Tryz.ntmps8 rfl ?_
 unfold Uk
 refine Qg Qd (mO a1most a0n) Qa (sS (sG (xR 2 Qa ?_)))
 refine xC [] Qa (MW n a0n a1most) Qa Qa QS (fun r1=>?_)
 refine xR 3 Qa ?_
 refine xS (leI r1 a1most) (fun h2=>?_) (fun h2=>?_)
 ·refine xO (Qq Qa h2) Qa ?_
  refine xC [] Qa (MX n a0n 50) Qa Qa QS (fun r3=>?_)
  refine xR 2 Qa (xE (Qp ⟨[(4,B r3)],[]⟩ Qa (sT ?_)))
  exact qR (.id) Qa Qa Qa
 refine xN (Qr Qa h2) Qa (xR 3 Qa (xE (Qp ⟨[(4,B false)],[]⟩ Qa (sT ?_))))
 exact qR (.id) Qa Qa Qa
def VO (a0a:Qm) (a1b:Qm) (recl10:Int→Option Bool) (l10:Int):Option Bool :=
 cond (QO l10 (Qc (List.map Zi.cs a0a.Bays)))
  ((Q8 a0a.Bays l10).bind fun x11 =>
  (Q8 a1b.Bays l10).bind fun x12 =>
  cond (!Xx ((QP x11.Name x12.Name)&&((Qi x11.Charger x12.Charger)&&true)))
   (some false)
   (recl10 (wi (l10+1))))
  (some true)
def Yu (n:Nat) (a0a:Qm) (a1b:Qm):Option Bool :=
 QZ (fun recl10 l10=>VO a0a a1b recl10 l10) n 0
def VP (n:Nat) (a0a:Qm) (a1b:Qm) (recl13:Int→Option Bool) (l13:Int):Option Bool :=
 cond (QO l13 (Qc (List.map ZY.cs a0a.Chargers)))
  ((Q8 a0a.Chargers l13).bind fun x14 =>
  (Q8 a1b.Chargers l13).bind fun x15 =>
  cond (!Xx ((QP x14.Name x15.Name)&&((Qi x14.At x15.At)&&((Qi x14.Phases x15.Phases)&&((Qi x14.Min x15.Min)&&((Qi x14.Max x15.Max)&&((Qi x14.Step x15.Step)&&((Qi x14.Fallback x15.Fallback)&&((Qi x14.Owner x15.Owner)&&true)))))))))
   (some false)
   (recl13 (wi (l13+1))))
  (Yu n a0a a1b)
def Yv (n:Nat) (a0a:Qm) (a1b:Qm):Option Bool :=
 QZ (fun recl13 l13=>VP n a0a a1b recl13 l13) n 0
def VQ (n:Nat) (a0a:Qm) (a1b:Qm) (recl16:Int→Option Bool) (l16:Int):Option Bool :=
 cond (QO l16 (Qc (List.map ZT.cs a0a.Contracts)))
  ((Q8 a0a.Contracts l16).bind fun x17 =>
  (Q8 a1b.Contracts l16).bind fun x18 =>
  cond (!Xx ((QP x17.Name x18.Name)&&((Qi x17.Owner x18.Owner)&&((Qi x17.Rank x18.Rank)&&((Qi x17.Card x18.Card)&&true)))))
   (some false)
   (recl16 (wi (l16+1))))
  (Yv n a0a a1b)
def Yw (n:Nat) (a0a:Qm) (a1b:Qm):Option Bool :=
 QZ (fun recl16 l16=>VQ n a0a a1b recl16 l16) n 0
def VR (n:Nat) (a0a:Qm) (a1b:Qm) (recl19:Int→Option Bool) (l19:Int):Option Bool :=
 cond (QO l19 (Qc (List.map Zb.cs a0a.Owners)))
  ((Q8 a0a.Owners l19).bind fun x20 =>
  (Q8 a1b.Owners l19).bind fun x21 =>
  cond (!Xx ((QP x20.Name x21.Name)&&true))
   (some false)
   (recl19 (wi (l19+1))))
  (Yw n a0a a1b)
def Yx (n:Nat) (a0a:Qm) (a1b:Qm):Option Bool :=
 QZ (fun recl19 l19=>VR n a0a a1b recl19 l19) n 0
def YP (n:Nat) (a0a:Qm) (a1b:Qm) (recl22:Int→Option Bool) (l22:Int):Option Bool :=
 cond (QO l22 (Qc (List.map ZJ.cs a0a.Conductors)))
  ((Q8 a0a.Conductors l22).bind fun x23 =>
  (Q8 a1b.Conductors l22).bind fun x24 =>
  cond (!Xx ((QP x23.Name x24.Name)&&((Qi x23.Up x24.Up)&&((Qi x23.Limit x24.Limit)&&((Qi x23.Neutral x24.Neutral)&&(((Qi x23.Fuse.Rated x24.Fuse.Rated)&&((Qi x23.Fuse.Heat x24.Fuse.Heat)&&true))&&(((Qi x23.Cable.Ambient x24.Cable.Ambient)&&((Qi x23.Cable.Most x24.Cable.Most)&&((Qi x23.Cable.Gain x24.Cable.Gain)&&((Qi x23.Cable.Loss x24.Cable.Loss)&&((Qi x23.Cable.Den x24.Cable.Den)&&true)))))&&true)))))))
   (some false)
   (recl22 (wi (l22+1))))
  (Yx n a0a a1b)
def Jr (n:Nat) (a0a:Qm) (a1b:Qm):Option Bool :=
 (cond (!Qi (Qc (List.map ZJ.cs a0a.Conductors)) (Qc (List.map ZJ.cs a1b.Conductors)))
  (some true)
  (cond (!Qi (Qc (List.map Zb.cs a0a.Owners)) (Qc (List.map Zb.cs a1b.Owners)))
   (some true)
   (cond (!Qi (Qc (List.map ZT.cs a0a.Contracts)) (Qc (List.map ZT.cs a1b.Contracts)))
    (some true)
    (cond (!Qi (Qc (List.map ZY.cs a0a.Chargers)) (Qc (List.map ZY.cs a1b.Chargers)))
     (some true)
     (some (!Qi (Qc (List.map Zi.cs a0a.Bays)) (Qc (List.map Zi.cs a1b.Bays)))))))).bind fun j1 =>
 cond j1
  (some false)
  (QZ (fun recl22 l22=>YP n a0a a1b recl22 l22) n 0)
def YJ:=fun x0 x1=>([(2, .box 33 (Ya (Qm.cs x0))),(3, .box 33 (Ya (Qm.cs x1)))]:List (Nat × Blk))
def xV:=fun x0 x1=>(⟨[(2, .ptr 2 0),(3, .ptr 3 0)],YJ x0 x1⟩:St)
def wN:=fun x0=>([(2, .ptr 2 0),(3, .ptr 3 0),(5,I x0)]:List (Nat × AV))
def wO:=fun x0=>([(2, .ptr 2 0),(3, .ptr 3 0),(6,I x0)]:List (Nat × AV))
def wP:=fun x0=>([(2, .ptr 2 0),(3, .ptr 3 0),(7,I x0)]:List (Nat × AV))
def wQ:=fun x0=>([(2, .ptr 2 0),(3, .ptr 3 0),(8,I x0)]:List (Nat × AV))
def wR:=fun x0=>([(2, .ptr 2 0),(3, .ptr 3 0),(9,I x0)]:List (Nat × AV))
theorem NR (n:Nat) (a0a:Qm) (a1b:Qm):∀ r,Jr n a0a a1b=some r→Q9 Tryz.prog 10 [ag (Qm.cs a0a),ag (Qm.cs a1b)] (.ret (B r)):=by
 refine Qs (X:=fun r:Bool=>QX.ret (B r)) Tryz.func10 rfl Tryz.ntmps10 rfl ?_
 unfold Jr
 refine Qg Qd (xV a0a a1b) Qa (sS (K6 (fun j1=>⟨[qq 2,qq 3,(52,B j1)],YJ a0a a1b⟩:Bool→St) ?_ ?_))
 ·refine sG (xR 8 Qa ?_)
  refine xS (!Qi (Qc (Gg a0a.Conductors)) (Qc (Gg a1b.Conductors))) (fun h2=>?_) (fun h2=>?_)
  ·refine xN (Qx Qa h2) Qa (xR 34 Qa (xE ?_))
   exact QQ true Qa
  refine xO (Qw Qa h2) Qa (xR 8 Qa ?_)
  refine xS (!Qi (Qc (Kq a0a.Owners)) (Qc (Kq a1b.Owners))) (fun h3=>?_) (fun h3=>?_)
  ·refine xN (Qx Qa h3) Qa (xR 25 Qa (xE ?_))
   exact QQ true Qa
  refine xO (Qw Qa h3) Qa (xR 8 Qa ?_)
  refine xS (!Qi (Qc (Ht a0a.Contracts)) (Qc (Ht a1b.Contracts))) (fun h4=>?_) (fun h4=>?_)
  ·refine xN (Qx Qa h4) Qa (xR 16 Qa (xE ?_))
   exact QQ true Qa
  refine xO (Qw Qa h4) Qa (xR 8 Qa ?_)
  refine xS (!Qi (Qc (Gq a0a.Chargers)) (Qc (Gq a1b.Chargers))) (fun h5=>?_) (fun h5=>?_)
  ·refine xN (Qx Qa h5) Qa (xR 7 Qa (xE ?_))
   exact QQ true Qa
  refine xO (Qw Qa h5) Qa (xR 7 Qa (xE ?_))
  exact QQ (!Qi (Qc (VJ a0a.Bays)) (Qc (VJ a1b.Bays))) Qa
 rintro j1
 refine sC j1 Qa ?_ ?_
 ·refine Qg Qd ⟨[(4,B false)],[]⟩ Qa (sT (Q7 ?_))
  exact qR (.id) Qa Qa Qa
 refine sK (Qp (xV a0a a1b) Qa (ZR (fun _=>(xV a0a a1b):Unit→St) (fun _=>Yx n a0a a1b) ?_ ?_))
 rotate_left
 ·refine Qg Qd ⟨wN 0,YJ a0a a1b⟩ Qa (sB (QI (fun l22=>⟨wN l22,YJ a0a a1b⟩:Int→St) (Xg Qa) ?_))
  rintro recl22 l22
  show QV (YP n a0a a1b recl22 l22) _ _ _ _ _ _
  unfold YP
  refine sS (Qg Qd ⟨[qq 2,qq 3,(5,I l22),(57,B (QO l22 (Qc (Gg a0a.Conductors))))],YJ a0a a1b⟩ Qa (sC (QO l22 (Qc (Gg a0a.Conductors))) Qa ?_ ?_))
  rotate_left
  ·refine Qz (ZW (KM (QW ?_)))
   exact KQ (k:=fun _=>Yx n a0a a1b) () Qa
  refine sK (Qp ⟨wN l22,YJ a0a a1b⟩ Qa (sS (sB (sS (Vq Qd rfl (xR 3 Qa ?_))))))
  refine xG Qa Qa (QN (e:=49) (S:=11) (enc:=ZJ.cs) (l:=a0a.Conductors) (k:=.i64) (n:=l22) (sv:=.p (.sl 11 (Gg a0a.Conductors))) rfl Qa Qa Qa Qa Qa) (fun x23=>?_)
  refine xR 4 Qa ?_
  refine xG Qa Qa (QN (e:=49) (S:=11) (enc:=ZJ.cs) (l:=a1b.Conductors) (k:=.i64) (n:=l22) (sv:=.p (.sl 11 (Gg a1b.Conductors))) rfl Qa Qa Qa Qa Qa) (fun x24=>?_)
  refine xR 1 Qa (ZH Qa Qa (FP (xs:=[S x23.Name,I x23.Up,I x23.Limit,I x23.Neutral,I x23.Fuse.Rated,I x23.Fuse.Heat,I x23.Cable.Ambient,I x23.Cable.Most,I x23.Cable.Gain,I x23.Cable.Loss,I x23.Cable.Den]) (ys:=[S x24.Name,I x24.Up,I x24.Limit,I x24.Neutral,I x24.Fuse.Rated,I x24.Fuse.Heat,I x24.Cable.Ambient,I x24.Cable.Most,I x24.Cable.Gain,I x24.Cable.Loss,I x24.Cable.Den]) (vx:=[.string (XW x23.Name), .int .i64 x23.Up, .int .i64 x23.Limit, .int .i64 x23.Neutral, .int .i64 x23.Fuse.Rated, .int .i64 x23.Fuse.Heat, .int .i64 x23.Cable.Ambient, .int .i64 x23.Cable.Most, .int .i64 x23.Cable.Gain, .int .i64 x23.Cable.Loss, .int .i64 x23.Cable.Den]) (vy:=[.string (XW x24.Name), .int .i64 x24.Up, .int .i64 x24.Limit, .int .i64 x24.Neutral, .int .i64 x24.Fuse.Rated, .int .i64 x24.Fuse.Heat, .int .i64 x24.Cable.Ambient, .int .i64 x24.Cable.Most, .int .i64 x24.Cable.Gain, .int .i64 x24.Cable.Loss, .int .i64 x24.Cable.Den]) (b:=(QP x23.Name x24.Name)&&((Qi x23.Up x24.Up)&&((Qi x23.Limit x24.Limit)&&((Qi x23.Neutral x24.Neutral)&&(((Qi x23.Fuse.Rated x24.Fuse.Rated)&&((Qi x23.Fuse.Heat x24.Fuse.Heat)&&true))&&(((Qi x23.Cable.Ambient x24.Cable.Ambient)&&((Qi x23.Cable.Most x24.Cable.Most)&&((Qi x23.Cable.Gain x24.Cable.Gain)&&((Qi x23.Cable.Loss x24.Cable.Loss)&&((Qi x23.Cable.Den x24.Cable.Den)&&true)))))&&true)))))) rfl Qa Qa Qa Qa Qa Qa) (YB Qa (Qp ⟨[qq 2,qq 3,(5,I l22),(70,B (!Xx ((QP x23.Name x24.Name)&&((Qi x23.Up x24.Up)&&((Qi x23.Limit x24.Limit)&&((Qi x23.Neutral x24.Neutral)&&(((Qi x23.Fuse.Rated x24.Fuse.Rated)&&((Qi x23.Fuse.Heat x24.Fuse.Heat)&&true))&&(((Qi x23.Cable.Ambient x24.Cable.Ambient)&&((Qi x23.Cable.Most x24.Cable.Most)&&((Qi x23.Cable.Gain x24.Cable.Gain)&&((Qi x23.Cable.Loss x24.Cable.Loss)&&((Qi x23.Cable.Den x24.Cable.Den)&&true)))))&&true))))))))],YJ a0a a1b⟩ Qa (sC (!Xx ((QP x23.Name x24.Name)&&((Qi x23.Up x24.Up)&&((Qi x23.Limit x24.Limit)&&((Qi x23.Neutral x24.Neutral)&&(((Qi x23.Fuse.Rated x24.Fuse.Rated)&&((Qi x23.Fuse.Heat x24.Fuse.Heat)&&true))&&(((Qi x23.Cable.Ambient x24.Cable.Ambient)&&((Qi x23.Cable.Most x24.Cable.Most)&&((Qi x23.Cable.Gain x24.Cable.Gain)&&((Qi x23.Cable.Loss x24.Cable.Loss)&&((Qi x23.Cable.Den x24.Cable.Den)&&true)))))&&true))))))) Qa ?_ ?_))))
  ·refine Qg Qd ⟨[(4,B false)],[]⟩ Qa (sT (Zd (Q7 (KH (Zd (KH ?_))))))
   exact qR (.id) Qa Qa Qa
  refine sK (Q6 (Qp ⟨wN l22,YJ a0a a1b⟩ Qa (sL Qd Qa ?_)))
  exact KQ (wi (l22+1)) Qa
 rintro _
 show QV (Yx n a0a a1b) _ _ _ _ _ _
 unfold Yx
 refine ZR (fun _=>(xV a0a a1b):Unit→St) (fun _=>Yw n a0a a1b) ?_ ?_
 rotate_left
 ·refine Qg Qd ⟨wO 0,YJ a0a a1b⟩ Qa (sB (QI (fun l19=>⟨wO l19,YJ a0a a1b⟩:Int→St) (Xg Qa) ?_))
  rintro recl19 l19
  show QV (VR n a0a a1b recl19 l19) _ _ _ _ _ _
  unfold VR
  refine sS (Qg Qd ⟨[qq 2,qq 3,(6,I l19),(75,B (QO l19 (Qc (Kq a0a.Owners))))],YJ a0a a1b⟩ Qa (sC (QO l19 (Qc (Kq a0a.Owners))) Qa ?_ ?_))
  rotate_left
  ·refine Qz (ZW (KM (QW ?_)))
   exact KQ (k:=fun _=>Yw n a0a a1b) () Qa
  refine sK (Qp ⟨wO l19,YJ a0a a1b⟩ Qa (sS (sB (sS (Vq Qd rfl (xR 3 Qa ?_))))))
  refine xG Qa Qa (QN (e:=52) (S:=1) (enc:=Zb.cs) (l:=a0a.Owners) (k:=.i64) (n:=l19) (sv:=.p (.sl 1 (Kq a0a.Owners))) rfl Qa Qa Qa Qa Qa) (fun x20=>?_)
  refine xR 4 Qa ?_
  refine xG Qa Qa (QN (e:=52) (S:=1) (enc:=Zb.cs) (l:=a1b.Owners) (k:=.i64) (n:=l19) (sv:=.p (.sl 1 (Kq a1b.Owners))) rfl Qa Qa Qa Qa Qa) (fun x21=>?_)
  refine xR 1 Qa (ZH Qa Qa (FP (xs:=[S x20.Name]) (ys:=[S x21.Name]) (vx:=[.string (XW x20.Name)]) (vy:=[.string (XW x21.Name)]) (b:=(QP x20.Name x21.Name)&&true) rfl Qa Qa Qa Qa Qa Qa) (YB Qa (Qp ⟨[qq 2,qq 3,(6,I l19),(88,B (!Xx ((QP x20.Name x21.Name)&&true)))],YJ a0a a1b⟩ Qa (sC (!Xx ((QP x20.Name x21.Name)&&true)) Qa ?_ ?_))))
  ·refine Qg Qd ⟨[(4,B false)],[]⟩ Qa (sT (Zd (Q7 (KH (Zd (KH ?_))))))
   exact qR (.id) Qa Qa Qa
  refine sK (Q6 (Qp ⟨wO l19,YJ a0a a1b⟩ Qa (sL Qd Qa ?_)))
  exact KQ (wi (l19+1)) Qa
 rintro _
 show QV (Yw n a0a a1b) _ _ _ _ _ _
 unfold Yw
 refine ZR (fun _=>(xV a0a a1b):Unit→St) (fun _=>Yv n a0a a1b) ?_ ?_
 rotate_left
 ·refine Qg Qd ⟨wP 0,YJ a0a a1b⟩ Qa (sB (QI (fun l16=>⟨wP l16,YJ a0a a1b⟩:Int→St) (Xg Qa) ?_))
  rintro recl16 l16
  show QV (VQ n a0a a1b recl16 l16) _ _ _ _ _ _
  unfold VQ
  refine sS (Qg Qd ⟨[qq 2,qq 3,(7,I l16),(93,B (QO l16 (Qc (Ht a0a.Contracts))))],YJ a0a a1b⟩ Qa (sC (QO l16 (Qc (Ht a0a.Contracts))) Qa ?_ ?_))
  rotate_left
  ·refine Qz (ZW (KM (QW ?_)))
   exact KQ (k:=fun _=>Yv n a0a a1b) () Qa
  refine sK (Qp ⟨wP l16,YJ a0a a1b⟩ Qa (sS (sB (sS (Vq Qd rfl (xR 3 Qa ?_))))))
  refine xG Qa Qa (QN (e:=54) (S:=4) (enc:=ZT.cs) (l:=a0a.Contracts) (k:=.i64) (n:=l16) (sv:=.p (.sl 4 (Ht a0a.Contracts))) rfl Qa Qa Qa Qa Qa) (fun x17=>?_)
  refine xR 4 Qa ?_
  refine xG Qa Qa (QN (e:=54) (S:=4) (enc:=ZT.cs) (l:=a1b.Contracts) (k:=.i64) (n:=l16) (sv:=.p (.sl 4 (Ht a1b.Contracts))) rfl Qa Qa Qa Qa Qa) (fun x18=>?_)
  refine xR 1 Qa (ZH Qa Qa (FP (xs:=[S x17.Name,I x17.Owner,I x17.Rank,I x17.Card]) (ys:=[S x18.Name,I x18.Owner,I x18.Rank,I x18.Card]) (vx:=[.string (XW x17.Name), .int .i64 x17.Owner, .int .i64 x17.Rank, .int .i64 x17.Card]) (vy:=[.string (XW x18.Name), .int .i64 x18.Owner, .int .i64 x18.Rank, .int .i64 x18.Card]) (b:=(QP x17.Name x18.Name)&&((Qi x17.Owner x18.Owner)&&((Qi x17.Rank x18.Rank)&&((Qi x17.Card x18.Card)&&true)))) rfl Qa Qa Qa Qa Qa Qa) (YB Qa (Qp ⟨[qq 2,qq 3,(7,I l16),(106,B (!Xx ((QP x17.Name x18.Name)&&((Qi x17.Owner x18.Owner)&&((Qi x17.Rank x18.Rank)&&((Qi x17.Card x18.Card)&&true))))))],YJ a0a a1b⟩ Qa (sC (!Xx ((QP x17.Name x18.Name)&&((Qi x17.Owner x18.Owner)&&((Qi x17.Rank x18.Rank)&&((Qi x17.Card x18.Card)&&true))))) Qa ?_ ?_))))
  ·refine Qg Qd ⟨[(4,B false)],[]⟩ Qa (sT (Zd (Q7 (KH (Zd (KH ?_))))))
   exact qR (.id) Qa Qa Qa
  refine sK (Q6 (Qp ⟨wP l16,YJ a0a a1b⟩ Qa (sL Qd Qa ?_)))
  exact KQ (wi (l16+1)) Qa
 rintro _
 show QV (Yv n a0a a1b) _ _ _ _ _ _
 unfold Yv
 refine ZR (fun _=>(xV a0a a1b):Unit→St) (fun _=>Yu n a0a a1b) ?_ ?_
 rotate_left
 ·refine Qg Qd ⟨wQ 0,YJ a0a a1b⟩ Qa (sB (QI (fun l13=>⟨wQ l13,YJ a0a a1b⟩:Int→St) (Xg Qa) ?_))
  rintro recl13 l13
  show QV (VP n a0a a1b recl13 l13) _ _ _ _ _ _
  unfold VP
  refine sS (Qg Qd ⟨[qq 2,qq 3,(8,I l13),(111,B (QO l13 (Qc (Gq a0a.Chargers))))],YJ a0a a1b⟩ Qa (sC (QO l13 (Qc (Gq a0a.Chargers))) Qa ?_ ?_))
  rotate_left
  ·refine Qz (ZW (KM (QW ?_)))
   exact KQ (k:=fun _=>Yu n a0a a1b) () Qa
  refine sK (Qp ⟨wQ l13,YJ a0a a1b⟩ Qa (sS (sB (sS (Vq Qd rfl (xR 3 Qa ?_))))))
  refine xG Qa Qa (QN (e:=56) (S:=8) (enc:=ZY.cs) (l:=a0a.Chargers) (k:=.i64) (n:=l13) (sv:=.p (.sl 8 (Gq a0a.Chargers))) rfl Qa Qa Qa Qa Qa) (fun x14=>?_)
  refine xR 4 Qa ?_
  refine xG Qa Qa (QN (e:=56) (S:=8) (enc:=ZY.cs) (l:=a1b.Chargers) (k:=.i64) (n:=l13) (sv:=.p (.sl 8 (Gq a1b.Chargers))) rfl Qa Qa Qa Qa Qa) (fun x15=>?_)
  refine xR 1 Qa (ZH Qa Qa (FP (xs:=[S x14.Name,I x14.At,I x14.Phases,I x14.Min,I x14.Max,I x14.Step,I x14.Fallback,I x14.Owner]) (ys:=[S x15.Name,I x15.At,I x15.Phases,I x15.Min,I x15.Max,I x15.Step,I x15.Fallback,I x15.Owner]) (vx:=[.string (XW x14.Name), .int .i64 x14.At, .int .i64 x14.Phases, .int .i64 x14.Min, .int .i64 x14.Max, .int .i64 x14.Step, .int .i64 x14.Fallback, .int .i64 x14.Owner]) (vy:=[.string (XW x15.Name), .int .i64 x15.At, .int .i64 x15.Phases, .int .i64 x15.Min, .int .i64 x15.Max, .int .i64 x15.Step, .int .i64 x15.Fallback, .int .i64 x15.Owner]) (b:=(QP x14.Name x15.Name)&&((Qi x14.At x15.At)&&((Qi x14.Phases x15.Phases)&&((Qi x14.Min x15.Min)&&((Qi x14.Max x15.Max)&&((Qi x14.Step x15.Step)&&((Qi x14.Fallback x15.Fallback)&&((Qi x14.Owner x15.Owner)&&true)))))))) rfl Qa Qa Qa Qa Qa Qa) (YB Qa (Qp ⟨[qq 2,qq 3,(8,I l13),(124,B (!Xx ((QP x14.Name x15.Name)&&((Qi x14.At x15.At)&&((Qi x14.Phases x15.Phases)&&((Qi x14.Min x15.Min)&&((Qi x14.Max x15.Max)&&((Qi x14.Step x15.Step)&&((Qi x14.Fallback x15.Fallback)&&((Qi x14.Owner x15.Owner)&&true))))))))))],YJ a0a a1b⟩ Qa (sC (!Xx ((QP x14.Name x15.Name)&&((Qi x14.At x15.At)&&((Qi x14.Phases x15.Phases)&&((Qi x14.Min x15.Min)&&((Qi x14.Max x15.Max)&&((Qi x14.Step x15.Step)&&((Qi x14.Fallback x15.Fallback)&&((Qi x14.Owner x15.Owner)&&true))))))))) Qa ?_ ?_))))
  ·refine Qg Qd ⟨[(4,B false)],[]⟩ Qa (sT (Zd (Q7 (KH (Zd (KH ?_))))))
   exact qR (.id) Qa Qa Qa
  refine sK (Q6 (Qp ⟨wQ l13,YJ a0a a1b⟩ Qa (sL Qd Qa ?_)))
  exact KQ (wi (l13+1)) Qa
 rintro _
 show QV (Yu n a0a a1b) _ _ _ _ _ _
 unfold Yu
 refine sS (Qg Qd ⟨wR 0,YJ a0a a1b⟩ Qa (sB (QI (fun l10=>⟨wR l10,YJ a0a a1b⟩:Int→St) (Xg Qa) ?_)))
 rintro recl10 l10
 show QV (VO a0a a1b recl10 l10) _ _ _ _ _ _
 unfold VO
 refine sS (Qg Qd ⟨[qq 2,qq 3,(9,I l10),(129,B (QO l10 (Qc (VJ a0a.Bays))))],YJ a0a a1b⟩ Qa (sC (QO l10 (Qc (VJ a0a.Bays))) Qa ?_ ?_))
 rotate_left
 ·refine Qz (ZW (KM (QW (Qp ⟨[],[]⟩ Qa (Qg Qd ⟨[(4,B true)],[]⟩ Qa (sT ?_))))))
  exact qR (.id) Qa Qa Qa
 refine sK (Qp ⟨wR l10,YJ a0a a1b⟩ Qa (sS (sB (sS (Vq Qd rfl (xR 3 Qa ?_))))))
 refine xG Qa Qa (QN (e:=58) (S:=2) (enc:=Zi.cs) (l:=a0a.Bays) (k:=.i64) (n:=l10) (sv:=.p (.sl 2 (VJ a0a.Bays))) rfl Qa Qa Qa Qa Qa) (fun x11=>?_)
 refine xR 4 Qa ?_
 refine xG Qa Qa (QN (e:=58) (S:=2) (enc:=Zi.cs) (l:=a1b.Bays) (k:=.i64) (n:=l10) (sv:=.p (.sl 2 (VJ a1b.Bays))) rfl Qa Qa Qa Qa Qa) (fun x12=>?_)
 refine xR 1 Qa (ZH Qa Qa (FP (xs:=[S x11.Name,I x11.Charger]) (ys:=[S x12.Name,I x12.Charger]) (vx:=[.string (XW x11.Name), .int .i64 x11.Charger]) (vy:=[.string (XW x12.Name), .int .i64 x12.Charger]) (b:=(QP x11.Name x12.Name)&&((Qi x11.Charger x12.Charger)&&true)) rfl Qa Qa Qa Qa Qa Qa) (YB Qa (Qp ⟨[qq 2,qq 3,(9,I l10),(142,B (!Xx ((QP x11.Name x12.Name)&&((Qi x11.Charger x12.Charger)&&true))))],YJ a0a a1b⟩ Qa (sC (!Xx ((QP x11.Name x12.Name)&&((Qi x11.Charger x12.Charger)&&true))) Qa ?_ ?_))))
 ·refine Qg Qd ⟨[(4,B false)],[]⟩ Qa (sT (Zd (Q7 (KH (Zd (Q7 ?_))))))
  exact qR (.id) Qa Qa Qa
 refine sK (Q6 (Qp ⟨wR l10,YJ a0a a1b⟩ Qa (sL Qd Qa ?_)))
 exact KQ (wi (l10+1)) Qa
def Vh (a0n:GN) (recl1:(Int × Int × Int × Int × Int × Int × Int)→Option (Int × Int × Int × Int × Int × Int)) (l1_1:Int) (l1_2:Int) (l1_3:Int) (l1_4:Int) (l1_5:Int) (l1_6:Int) (l1_7:Int):Option (Int × Int × Int × Int × Int × Int) :=
 cond (QO l1_1 (Qc (List.map KP a0n.Kids)))
  (((Option.bind (Q8 a0n.Kids l1_1) GN.of).bind fun x3 =>
  (cond (Qi x3.N 1)
   (some (Qi x3.N 1))
   (some (Qi x3.N 2))).bind fun j4 =>
  cond j4
   (some (wi (l1_2+1),l1_3,l1_4,l1_5,l1_6,l1_7))
   (cond (Qi x3.N 3)
    (some (l1_2,wi (l1_3+1),l1_4,l1_5,l1_6,l1_7))
    (cond (Qi x3.N 4)
     (some (l1_2,l1_3,wi (l1_4+1),l1_5,l1_6,l1_7))
     (cond (Qi x3.N 5)
      (some (l1_2,l1_3,l1_4,wi (l1_5+1),l1_6,l1_7))
      (cond (Qi x3.N 6)
       (some (l1_2,l1_3,l1_4,l1_5,wi (l1_6+1),l1_7))
       (some (l1_2,l1_3,l1_4,l1_5,l1_6,wi (l1_7+1)))))))).bind fun (j2_1,j2_2,j2_3,j2_4,j2_5,j2_6) =>
  recl1 (wi (l1_1+1),j2_1,j2_2,j2_3,j2_4,j2_5,j2_6))
  (some (l1_2,l1_3,l1_4,l1_5,l1_6,l1_7))
def VT (n:Nat) (a0n:GN):Option (Int × Int × Int × Int × Int × Int) :=
 QZ (fun recl1 (l1_1,l1_2,l1_3,l1_4,l1_5,l1_6,l1_7)=>Vh a0n recl1 l1_1 l1_2 l1_3 l1_4 l1_5 l1_6 l1_7) n (0,0,0,0,0,0,0)
def wS:=fun x0 x1=>([(2, .ptr 2 0),(3, .ptr 3 0),(7, .p (.sl 5 (List.map KP (GN.Kids x0)))),(8,I (Qc (List.map KP (GN.Kids x0)))),(9,I x1)]:List (Nat × AV))
def ru:=fun x0 x1 x2 x3 x4 x5=>(.box 38 [I x0,I x1,I x2,I x3,I x4,I x5]:Blk)
def Lc:=fun x0 x1 x2 x3 x4 x5=>([(2, .box 38 [I 0,I 0,I 0,I 0,I 0,I 0]),(3,(ru x0 x1 x2 x3 x4 x5))]:List (Nat × Blk))
def sO:=fun x0 x1 x2 x3=>([(2, .ptr 2 0),(3, .ptr 3 0),(7, .p (.sl 5 (List.map KP (GN.Kids x0)))),(8,I (Qc (List.map KP (GN.Kids x0)))),(9,I x1),(14,I x2),(19,B x3)]:List (Nat × AV))
theorem Bw (n:Nat) (a0n:GN):∀ r,VT n a0n=some r→Q9 Tryz.prog 11 [ag (GN.cs a0n)] (.ret (.agg [I r.1,I r.2.1,I r.2.2.1,I r.2.2.2.1,I r.2.2.2.2.1,I r.2.2.2.2.2])):=by
 refine Qs (X:=fun r:Int × Int × Int × Int × Int × Int=>QX.ret (.agg [I r.1,I r.2.1,I r.2.2.1,I r.2.2.2.1,I r.2.2.2.2.1,I r.2.2.2.2.2])) Tryz.func11 rfl Tryz.ntmps11 rfl ?_
 unfold VT
 refine Qg Qd ⟨[qq 1,qq 2],[(1,RF a0n),(2, .box 38 [I 0,I 0,I 0,I 0,I 0,I 0])]⟩ Qa (Qg Qd ⟨lZ,[(1,RF a0n),(2, .box 38 [I 0,I 0,I 0,I 0,I 0,I 0]),(3, .box 38 [I 0,I 0,I 0,I 0,I 0,I 0])]⟩ Qa (sS (Qg Qd ⟨wS a0n 0,[(2, .box 38 [I 0,I 0,I 0,I 0,I 0,I 0]),(3, .box 38 [I 0,I 0,I 0,I 0,I 0,I 0])]⟩ Qa (sB (QI (fun (l1_1,l1_2,l1_3,l1_4,l1_5,l1_6,l1_7)=>⟨wS a0n l1_1,Lc l1_2 l1_3 l1_4 l1_5 l1_6 l1_7⟩:(Int × Int × Int × Int × Int × Int × Int)→St) (Xg Qa) ?_)))))
 rintro recl1 ⟨l1_1,l1_2,l1_3,l1_4,l1_5,l1_6,l1_7⟩
 show QV (Vh a0n recl1 l1_1 l1_2 l1_3 l1_4 l1_5 l1_6 l1_7) _ _ _ _ _ _
 unfold Vh
 refine Qg Qd ⟨[qq 2,qq 3,(7, .p (.sl 5 (mI a0n.Kids))),(8,I (Qc (mI a0n.Kids))),(9,I l1_1),(10,B (QO l1_1 (Qc (mI a0n.Kids))))],Lc l1_2 l1_3 l1_4 l1_5 l1_6 l1_7⟩ Qa (sS (sC (QO l1_1 (Qc (mI a0n.Kids))) Qa ?_ ?_))
 rotate_left
 ·refine Qz (ZW (KM (QW (Qp ⟨[qq 2,qq 3],Lc l1_2 l1_3 l1_4 l1_5 l1_6 l1_7⟩ Qa (Qg Qd ⟨[qq 2],[(2,(ru l1_2 l1_3 l1_4 l1_5 l1_6 l1_7))]⟩ Qa (sT ?_))))))
  exact qR (.id) Qa Qa Qa
 refine sK (Qp ⟨wS a0n l1_1,Lc l1_2 l1_3 l1_4 l1_5 l1_6 l1_7⟩ Qa (K6 (fun (j2_1,j2_2,j2_3,j2_4,j2_5,j2_6)=>⟨wS a0n l1_1,Lc j2_1 j2_2 j2_3 j2_4 j2_5 j2_6⟩:(Int × Int × Int × Int × Int × Int)→St) ?_ ?_))
 rotate_left
 ·rintro ⟨j2_1,j2_2,j2_3,j2_4,j2_5,j2_6⟩
  refine sL Qd Qa ?_
  exact KQ (wi (l1_1+1),j2_1,j2_2,j2_3,j2_4,j2_5,j2_6) Qa
 refine sB (sS (sG ?_))
 refine xG Qa Qa (Yc (e:=24) (S:=5) (enc:=GN.cs) (dec:=GN.of) (l:=a0n.Kids) (k:=.i64) (n:=l1_1) (sv:=.p (.sl 5 (mI a0n.Kids))) GN.of_cs rfl Qa Qa Qa Qa Qa) (fun x3=>?_)
 refine xR 3 Qa (xE (Qp ⟨[qq 2,qq 3,qq 5,(7, .p (.sl 5 (mI a0n.Kids))),(8,I (Qc (mI a0n.Kids))),(9,I l1_1)],[(2, .box 38 [I 0,I 0,I 0,I 0,I 0,I 0]),(3,(ru l1_2 l1_3 l1_4 l1_5 l1_6 l1_7)),(5,RF x3)]⟩ Qa (Qg Qd ⟨[qq 2,qq 3,(7, .p (.sl 5 (mI a0n.Kids))),(8,I (Qc (mI a0n.Kids))),(9,I l1_1),(14,I x3.N)],Lc l1_2 l1_3 l1_4 l1_5 l1_6 l1_7⟩ Qa (sB (K6 (fun j4=>⟨sO a0n l1_1 x3.N j4,Lc l1_2 l1_3 l1_4 l1_5 l1_6 l1_7⟩:Bool→St) ?_ ?_)))))
 ·refine Qg Qd ⟨sO a0n l1_1 x3.N (Qi x3.N 1),Lc l1_2 l1_3 l1_4 l1_5 l1_6 l1_7⟩ Qa (sC (Qi x3.N 1) Qa ?_ ?_)
  ·refine sK ?_
   exact QQ (Qi x3.N 1) Qa
  refine sL Qd Qa ?_
  exact QQ (Qi x3.N 2) Qa
 rintro j4
 refine sC j4 Qa ?_ ?_
 ·refine sL Qd Qa (Q6 (Q6 ?_))
  exact QQ (wi (l1_2+1),l1_3,l1_4,l1_5,l1_6,l1_7) Qa
 refine Qg Qd ⟨[qq 2,qq 3,(7, .p (.sl 5 (mI a0n.Kids))),(8,I (Qc (mI a0n.Kids))),(9,I l1_1),(14,I x3.N),(26,B (Qi x3.N 3))],Lc l1_2 l1_3 l1_4 l1_5 l1_6 l1_7⟩ Qa (sC (Qi x3.N 3) Qa ?_ ?_)
 ·refine sL Qd Qa (Q6 (Q6 ?_))
  exact QQ (l1_2,wi (l1_3+1),l1_4,l1_5,l1_6,l1_7) Qa
 refine Qg Qd ⟨[qq 2,qq 3,(7, .p (.sl 5 (mI a0n.Kids))),(8,I (Qc (mI a0n.Kids))),(9,I l1_1),(14,I x3.N),(32,B (Qi x3.N 4))],Lc l1_2 l1_3 l1_4 l1_5 l1_6 l1_7⟩ Qa (sC (Qi x3.N 4) Qa ?_ ?_)
 ·refine sL Qd Qa (Q6 (Q6 ?_))
  exact QQ (l1_2,l1_3,wi (l1_4+1),l1_5,l1_6,l1_7) Qa
 refine Qg Qd ⟨[qq 2,qq 3,(7, .p (.sl 5 (mI a0n.Kids))),(8,I (Qc (mI a0n.Kids))),(9,I l1_1),(14,I x3.N),(38,B (Qi x3.N 5))],Lc l1_2 l1_3 l1_4 l1_5 l1_6 l1_7⟩ Qa (sC (Qi x3.N 5) Qa ?_ ?_)
 ·refine sL Qd Qa (Q6 (Q6 ?_))
  exact QQ (l1_2,l1_3,l1_4,wi (l1_5+1),l1_6,l1_7) Qa
 refine Qg Qd ⟨[qq 2,qq 3,(7, .p (.sl 5 (mI a0n.Kids))),(8,I (Qc (mI a0n.Kids))),(9,I l1_1),(44,B (Qi x3.N 6))],Lc l1_2 l1_3 l1_4 l1_5 l1_6 l1_7⟩ Qa (sC (Qi x3.N 6) Qa ?_ ?_)
 ·refine sL Qd Qa (Q6 (Q6 ?_))
  exact QQ (l1_2,l1_3,l1_4,l1_5,wi (l1_6+1),l1_7) Qa
 refine sL Qd Qa (Q6 (Q6 ?_))
 exact QQ (l1_2,l1_3,l1_4,l1_5,l1_6,wi (l1_7+1)) Qa
def QC (n:Nat) (a0n:Int) (a1low:Int) (a2high:Int):Option Bool :=
 cond (leI a1low a0n)
  (some (leI a0n a2high))
  (some false)
theorem QJ (n:Nat) (a0n:Int) (a1low:Int) (a2high:Int):∀ r,QC n a0n a1low a2high=some r→Q9 Tryz.prog 27 [I a0n,I a1low,I a2high] (.ret (B r)):=by
 refine Qs (X:=fun r:Bool=>QX.ret (B r)) Tryz.func27 rfl Tryz.ntmps27 rfl ?_
 unfold QC
 refine Qg Qd ⟨[(0,I a0n),(1,I a1low),(2,I a2high)],[]⟩ Qa (sS (sG (xR 4 Qa ?_)))
 refine xS (leI a1low a0n) (fun h1=>?_) (fun h1=>?_)
 ·refine xO (Qq Qa h1) Qa (xR 4 Qa (xE (Qp ⟨[(6,B (leI a0n a2high))],[]⟩ Qa (sT ?_))))
  exact qR (.id) Qa Qa Qa
 refine xN (Qr Qa h1) Qa (xR 4 Qa (xE (Qp ⟨[(6,B false)],[]⟩ Qa (sT ?_))))
 exact qR (.id) Qa Qa Qa
def Vv (n:Nat):Option (List (List UInt8)) :=
 some [[102,101,101,100,101,114],[99,97,98,108,101],[111,119,110,101,114],[99,111,110,116,114,97,99,116],[99,104,97,114,103,101,114],[98,97,121],[116,97,114,105,102,102]]
theorem MZ (n:Nat):∀ r,Vv n=some r→Q9 Tryz.prog 87 [] (.ret (.p (.sl 1 (List.map Zg r)))):=by
 refine Qs (X:=fun r:List (List UInt8)=>QX.ret (.p (.sl 1 (List.map Zg r)))) Tryz.func87 rfl Tryz.ntmps87 rfl ?_
 unfold Vv
 refine Qg Qd ⟨[],[]⟩ Qa (Qg Qd ⟨[(0, .tsl 1 (List.map Zg [[102,101,101,100,101,114],[99,97,98,108,101],[111,119,110,101,114],[99,111,110,116,114,97,99,116],[99,104,97,114,103,101,114],[98,97,121],[116,97,114,105,102,102]]) 1)],[(1, .arr 9 1 (List.map Zg [[102,101,101,100,101,114],[99,97,98,108,101],[111,119,110,101,114],[99,111,110,116,114,97,99,116],[99,104,97,114,103,101,114],[98,97,121],[116,97,114,105,102,102]]).length)]⟩ Qa (sT ?_))
 exact qR (.sl 1) Qa Qa Qa
def Wx (a0l:List (List UInt8)) (a1s:List UInt8) (recl1:Int→Option Int) (l1:Int):Option Int :=
 cond (QO l1 (Qc (List.map Zg a0l)))
  ((Q8 a0l l1).bind fun x2 =>
  cond (QP x2 a1s)
   (some l1)
   (recl1 (wi (l1+1))))
  (some (-1))
def Jc (n:Nat) (a0l:List (List UInt8)) (a1s:List UInt8):Option Int :=
 QZ (fun recl1 l1=>Wx a0l a1s recl1 l1) n 0
def QbB:=fun x0 x1=>(⟨[(0, .p (.sl 1 (List.map Zg x0))),(1,S x1)],[]⟩:St)
def NE:=fun x0 x1 x2=>([(0, .p (.sl 1 (List.map Zg x0))),(1,S x1),(5,I x2)]:List (Nat × AV))
def sQ:=fun x0 x1 x2 x3=>([(0, .p (.sl 1 (List.map Zg x0))),(1,S x1),(5,I x2),(9,B x3)]:List (Nat × AV))
def sU:=fun x0 x1 x2 x3=>([(0, .p (.sl 1 (List.map Zg x0))),(1,S x1),(5,I x2),(17,B x3)]:List (Nat × AV))
theorem X6 (n:Nat) (a0l:List (List UInt8)) (a1s:List UInt8):∀ r,Jc n a0l a1s=some r→Q9 Tryz.prog 86 [.p (.sl 1 (List.map Zg a0l)),S a1s] (.ret (I r)):=by
 refine Qs (X:=fun r:Int=>QX.ret (I r)) Tryz.func86 rfl Tryz.ntmps86 rfl ?_
 unfold Jc
 refine Qg Qd (QbB a0l a1s) Qa (sS (Qg Qd ⟨NE a0l a1s 0,[]⟩ Qa (sB (QI (fun l1=>⟨NE a0l a1s l1,[]⟩:Int→St) (Xg Qa) ?_))))
 rintro recl1 l1
 show QV (Wx a0l a1s recl1 l1) _ _ _ _ _ _
 unfold Wx
 refine sS (Qg Qd ⟨sQ a0l a1s l1 (QO l1 (Qc (List.map Zg a0l))),[]⟩ Qa (sC (QO l1 (Qc (List.map Zg a0l))) Qa ?_ ?_))
 rotate_left
 ·refine Qz (ZW (KM (QW (Qp ⟨[],[]⟩ Qa (Qg Qd ⟨[(4,I (-1))],[]⟩ Qa (sT ?_))))))
  exact qR (.id) Qa Qa Qa
 refine sK (Qp ⟨NE a0l a1s l1,[]⟩ Qa (sS (sB (sS (sG (xR 2 Qa ?_))))))
 refine xG Qa Qa (QN (e:=9) (S:=1) (enc:=Zg) (l:=a0l) (k:=.i64) (n:=l1) (sv:=.p (.sl 1 (List.map Zg a0l))) rfl Qa Qa Qa Qa Qa) (fun x2=>?_)
 refine xR 3 Qa (xE (Qp ⟨sU a0l a1s l1 (QP x2 a1s),[]⟩ Qa (sC (QP x2 a1s) Qa ?_ ?_)))
 ·refine Qg Qd ⟨[(4,I l1)],[]⟩ Qa (sT (Zd (Q7 (KH (Zd (Q7 ?_))))))
  exact qR (.id) Qa Qa Qa
 refine sK (Q6 (Qp ⟨NE a0l a1s l1,[]⟩ Qa (sL Qd Qa ?_)))
 exact KQ (wi (l1+1)) Qa
def K8 (n:Nat):Option (List (List UInt8)) :=
 some [[108,105,109,105,116],[110,101,117,116,114,97,108],[102,117,115,101],[116,104,101,114,109,97,108],[102,114,111,109],[97,116],[112,104,97,115,101,115],[97,109,112,115],[102,97,108,108,98,97,99,107],[111,119,110,101,114],[99,97,114,100],[114,97,110,107],[99,104,97,114,103,101,114]]
theorem M3 (n:Nat):∀ r,K8 n=some r→Q9 Tryz.prog 88 [] (.ret (.p (.sl 1 (List.map Zg r)))):=by
 refine Qs (X:=fun r:List (List UInt8)=>QX.ret (.p (.sl 1 (List.map Zg r)))) Tryz.func88 rfl Tryz.ntmps88 rfl ?_
 unfold K8
 refine Qg Qd ⟨[],[]⟩ Qa (Qg Qd ⟨[(0, .tsl 1 (List.map Zg [[108,105,109,105,116],[110,101,117,116,114,97,108],[102,117,115,101],[116,104,101,114,109,97,108],[102,114,111,109],[97,116],[112,104,97,115,101,115],[97,109,112,115],[102,97,108,108,98,97,99,107],[111,119,110,101,114],[99,97,114,100],[114,97,110,107],[99,104,97,114,103,101,114]]) 1)],[(1, .arr 9 1 (List.map Zg [[108,105,109,105,116],[110,101,117,116,114,97,108],[102,117,115,101],[116,104,101,114,109,97,108],[102,114,111,109],[97,116],[112,104,97,115,101,115],[97,109,112,115],[102,97,108,108,98,97,99,107],[111,119,110,101,114],[99,97,114,100],[114,97,110,107],[99,104,97,114,103,101,114]]).length)]⟩ Qa (sT ?_))
 exact qR (.sl 1) Qa Qa Qa
def Z6 (n:Nat):Option (List (List UInt8)) :=
 some [[115,116,97,114,116],[101,110,101,114,103,121],[116,105,109,101],[105,100,108,101],[99,97,112],[116,97,120]]
theorem Tn (n:Nat):∀ r,Z6 n=some r→Q9 Tryz.prog 89 [] (.ret (.p (.sl 1 (List.map Zg r)))):=by
 refine Qs (X:=fun r:List (List UInt8)=>QX.ret (.p (.sl 1 (List.map Zg r)))) Tryz.func89 rfl Tryz.ntmps89 rfl ?_
 unfold Z6
 refine Qg Qd ⟨[],[]⟩ Qa (Qg Qd ⟨[(0, .tsl 1 (List.map Zg [[115,116,97,114,116],[101,110,101,114,103,121],[116,105,109,101],[105,100,108,101],[99,97,112],[116,97,120]]) 1)],[(1, .arr 9 1 (List.map Zg [[115,116,97,114,116],[101,110,101,114,103,121],[116,105,109,101],[105,100,108,101],[99,97,112],[116,97,120]]).length)]⟩ Qa (sT ?_))
 exact qR (.sl 1) Qa Qa Qa
def K9 (n:Nat):Option (List (List UInt8)) :=
 some [[111,110],[119,111,114,107],[115,97,116,117,114,100,97,121],[115,117,110,100,97,121],[98,101,116,119,101,101,110],[112,101,114],[102,114,101,101]]
theorem M4 (n:Nat):∀ r,K9 n=some r→Q9 Tryz.prog 90 [] (.ret (.p (.sl 1 (List.map Zg r)))):=by
 refine Qs (X:=fun r:List (List UInt8)=>QX.ret (.p (.sl 1 (List.map Zg r)))) Tryz.func90 rfl Tryz.ntmps90 rfl ?_
 unfold K9
 refine Qg Qd ⟨[],[]⟩ Qa (Qg Qd ⟨[(0, .tsl 1 (List.map Zg [[111,110],[119,111,114,107],[115,97,116,117,114,100,97,121],[115,117,110,100,97,121],[98,101,116,119,101,101,110],[112,101,114],[102,114,101,101]]) 1)],[(1, .arr 9 1 (List.map Zg [[111,110],[119,111,114,107],[115,97,116,117,114,100,97,121],[115,117,110,100,97,121],[98,101,116,119,101,101,110],[112,101,114],[102,114,101,101]]).length)]⟩ Qa (sT ?_))
 exact qR (.sl 1) Qa Qa Qa
def Yy (n:Nat) (a0s:List UInt8):Option Bool :=
 ((Vv n).bind fun r3 =>
 (Jc n r3 a0s).bind fun r4 =>
 cond (leI 0 r4)
  (some true)
  ((K8 n).bind fun r6 =>
  (Jc n r6 a0s).bind fun r7 =>
  cond (leI 0 r7)
   (some true)
   ((Z6 n).bind fun r9 =>
   (Jc n r9 a0s).bind fun r10 =>
   cond (leI 0 r10)
    (some true)
    ((K9 n).bind fun r12 =>
    (Jc n r12 a0s).bind fun r13 =>
    some (leI 0 r13))))).bind fun j2 =>
 cond (leI 1 (Qc a0s))
  (cond (leI (Qc a0s) 12)
   (some (!j2))
   (some false))
  (some false)
def ZG (n:Nat) (a0s:List UInt8) (recl16:Int→Option Bool) (l16:Int):Option Bool :=
 cond (QO l16 (Qc a0s))
  ((Q8 a0s l16).bind fun x17 =>
  (cond (QO (Y2 x17) 97)
   (cond (Qi l16 0)
    (some true)
    (cond (QO (Y2 x17) 48)
     (some (!Qi (Y2 x17) 95))
     (cond (QO 57 (Y2 x17))
      (some (!Qi (Y2 x17) 95))
      (some false))))
   (cond (QO 122 (Y2 x17))
    (cond (Qi l16 0)
     (some true)
     (cond (QO (Y2 x17) 48)
      (some (!Qi (Y2 x17) 95))
      (cond (QO 57 (Y2 x17))
       (some (!Qi (Y2 x17) 95))
       (some false))))
    (some false))).bind fun j18 =>
  cond j18
   (some false)
   (recl16 (wi (l16+1))))
  (Yy n a0s)
def Xw (n:Nat) (a0s:List UInt8):Option Bool :=
 QZ (fun recl16 l16=>ZG n a0s recl16 l16) n 0
theorem NS (n:Nat) (a0s:List UInt8):∀ r,Xw n a0s=some r→Q9 Tryz.prog 61 [S a0s] (.ret (B r)):=by
 refine Qs (X:=fun r:Bool=>QX.ret (B r)) Tryz.func61 rfl Tryz.ntmps61 rfl ?_
 unfold Xw
 refine Qg Qd ⟨[(0,S a0s)],[]⟩ Qa (ZR (fun _=>⟨[(0,S a0s)],[]⟩:Unit→St) (fun _=>Yy n a0s) ?_ ?_)
 ·rintro _
  show QV (Yy n a0s) _ _ _ _ _ _
  unfold Yy
  refine K6 (fun j2=>⟨[(0,S a0s),(5,B j2)],[]⟩:Bool→St) ?_ ?_
  rotate_left
  ·rintro j2
   refine sS (sG (xR 4 Qa ?_))
   refine xS (leI 1 (Qc a0s)) (fun h14=>?_) (fun h14=>?_)
   ·refine xO (Qq Qa h14) Qa (xR 4 Qa ?_)
    refine xS (leI (Qc a0s) 12) (fun h15=>?_) (fun h15=>?_)
    ·refine xO (Qq Qa h15) Qa (xR 3 Qa (xE (Qp ⟨[(2,B (!j2))],[]⟩ Qa (sT ?_))))
     exact qR (.id) Qa Qa Qa
    refine xN (Qr Qa h15) Qa (xR 3 Qa (xE (Qp ⟨[(2,B false)],[]⟩ Qa (sT ?_))))
    exact qR (.id) Qa Qa Qa
   refine xN (Qr Qa h14) Qa (xR 8 Qa (xE (Qp ⟨[(2,B false)],[]⟩ Qa (sT ?_))))
   exact qR (.id) Qa Qa Qa
  refine sG ?_
  refine xC [] Qa (MZ n) Qa Qa QS (fun r3=>?_)
  refine xR 1 Qa ?_
  refine xC [] Qa (X6 n r3 a0s) Qa Qa QS (fun r4=>?_)
  refine xR 2 Qa ?_
  refine xS (leI 0 r4) (fun h5=>?_) (fun h5=>?_)
  ·refine xN (Qx Qa h5) Qa (xR 17 Qa (xE ?_))
   exact QQ true Qa
  refine xC [] (Qw Qa h5) (M3 n) Qa Qa QS (fun r6=>?_)
  refine xR 1 Qa ?_
  refine xC [] Qa (X6 n r6 a0s) Qa Qa QS (fun r7=>?_)
  refine xR 3 Qa ?_
  refine xS (leI 0 r7) (fun h8=>?_) (fun h8=>?_)
  ·refine xN (Qx Qa h8) Qa (xR 11 Qa (xE ?_))
   exact QQ true Qa
  refine xC [] (Qw Qa h8) (Tn n) Qa Qa QS (fun r9=>?_)
  refine xR 1 Qa ?_
  refine xC [] Qa (X6 n r9 a0s) Qa Qa QS (fun r10=>?_)
  refine xR 3 Qa ?_
  refine xS (leI 0 r10) (fun h11=>?_) (fun h11=>?_)
  ·refine xN (Qx Qa h11) Qa (xR 5 Qa (xE ?_))
   exact QQ true Qa
  refine xC [] (Qw Qa h11) (M4 n) Qa Qa QS (fun r12=>?_)
  refine xR 1 Qa ?_
  refine xC [] Qa (X6 n r12 a0s) Qa Qa QS (fun r13=>?_)
  refine xR 3 Qa (xE ?_)
  exact QQ (leI 0 r13) Qa
 refine Qg Qd ⟨[(0,S a0s),(3,I 0)],[]⟩ Qa (sB (QI (fun l16=>⟨[(0,S a0s),(3,I l16)],[]⟩:Int→St) (Xg Qa) ?_))
 rintro recl16 l16
 show QV (ZG n a0s recl16 l16) _ _ _ _ _ _
 unfold ZG
 refine sS (Qg Qd ⟨[(0,S a0s),(3,I l16),(9,B (QO l16 (Qc a0s)))],[]⟩ Qa (sC (QO l16 (Qc a0s)) Qa ?_ ?_))
 rotate_left
 ·refine Qz (ZW (KM (QW ?_)))
  exact KQ (k:=fun _=>Yy n a0s) () Qa
 refine sK (Qp ⟨[(0,S a0s),(3,I l16)],[]⟩ Qa (sS (sB (sS (sG (xR 2 Qa ?_))))))
 refine xG Qa Qa (WR (l:=a0s) (k:=.i64) (n:=l16) rfl Qa Qa Qa) (fun x17=>?_)
 refine xR 1 Qa (xE (Qp ⟨[(0,S a0s),(3,I l16),(4,B8 (Y2 x17))],[]⟩ Qa (K6 (fun j18=>⟨[(0,S a0s),(3,I l16),(36,B j18)],[]⟩:Bool→St) ?_ ?_)))
 rotate_left
 ·rintro j18
  refine sC j18 Qa ?_ ?_
  ·refine Qg Qd ⟨[(2,B false)],[]⟩ Qa (sT (Zd (Q7 (KH (Zd (KH ?_))))))
   exact qR (.id) Qa Qa Qa
  refine sK (Q6 (Qp ⟨[(0,S a0s),(3,I l16)],[]⟩ Qa (sL Qd Qa ?_)))
  exact KQ (wi (l16+1)) Qa
 refine sG (xR 3 Qa ?_)
 refine xS (QO (Y2 x17) 97) (fun h19=>?_) (fun h19=>?_)
 ·refine xN (Qx Qa h19) Qa (xR 6 Qa ?_)
  refine xS (Qi l16 0) (fun h20=>?_) (fun h20=>?_)
  ·refine xN (Qx Qa h20) Qa (xR 11 Qa (xE ?_))
   exact QQ true Qa
  refine xO (Qw Qa h20) Qa (xR 2 Qa ?_)
  refine xS (QO (Y2 x17) 48) (fun h21=>?_) (fun h21=>?_)
  ·refine xN (Qx Qa h21) Qa (xR 8 Qa (xE ?_))
   exact QQ (!Qi (Y2 x17) 95) Qa
  refine xO (Qw Qa h21) Qa (xR 3 Qa ?_)
  refine xS (QO 57 (Y2 x17)) (fun h22=>?_) (fun h22=>?_)
  ·refine xO (Qq Qa h22) Qa (xR 4 Qa (xE ?_))
   exact QQ (!Qi (Y2 x17) 95) Qa
  refine xN (Qr Qa h22) Qa (xR 4 Qa (xE ?_))
  exact QQ false Qa
 refine xO (Qw Qa h19) Qa (xR 3 Qa ?_)
 refine xS (QO 122 (Y2 x17)) (fun h23=>?_) (fun h23=>?_)
 rotate_left
 ·refine xN (Qr Qa h23) Qa (xR 14 Qa (xE ?_))
  exact QQ false Qa
 refine xO (Qq Qa h23) Qa (xR 2 Qa ?_)
 refine xS (Qi l16 0) (fun h24=>?_) (fun h24=>?_)
 ·refine xN (Qx Qa h24) Qa (xR 11 Qa (xE ?_))
  exact QQ true Qa
 refine xO (Qw Qa h24) Qa (xR 2 Qa ?_)
 refine xS (QO (Y2 x17) 48) (fun h25=>?_) (fun h25=>?_)
 ·refine xN (Qx Qa h25) Qa (xR 8 Qa (xE ?_))
  exact QQ (!Qi (Y2 x17) 95) Qa
 refine xO (Qw Qa h25) Qa (xR 3 Qa ?_)
 refine xS (QO 57 (Y2 x17)) (fun h26=>?_) (fun h26=>?_)
 ·refine xO (Qq Qa h26) Qa (xR 4 Qa (xE ?_))
  exact QQ (!Qi (Y2 x17) 95) Qa
 refine xN (Qr Qa h26) Qa (xR 4 Qa (xE ?_))
 exact QQ false Qa
def Jd (a0l:List (List UInt8)) (a1s:List UInt8) (recl1:Int→Option Bool) (l1:Int):Option Bool :=
 cond (QO l1 (Qc (List.map Zg a0l)))
  ((Q8 a0l l1).bind fun x2 =>
  cond (QP x2 a1s)
   (some true)
   (recl1 (wi (l1+1))))
  (some false)
def Ul (n:Nat) (a0l:List (List UInt8)) (a1s:List UInt8):Option Bool :=
 QZ (fun recl1 l1=>Jd a0l a1s recl1 l1) n 0
theorem Sq (n:Nat) (a0l:List (List UInt8)) (a1s:List UInt8):∀ r,Ul n a0l a1s=some r→Q9 Tryz.prog 62 [.p (.sl 1 (List.map Zg a0l)),S a1s] (.ret (B r)):=by
 refine Qs (X:=fun r:Bool=>QX.ret (B r)) Tryz.func62 rfl Tryz.ntmps62 rfl ?_
 unfold Ul
 refine Qg Qd (QbB a0l a1s) Qa (sS (Qg Qd ⟨NE a0l a1s 0,[]⟩ Qa (sB (QI (fun l1=>⟨NE a0l a1s l1,[]⟩:Int→St) (Xg Qa) ?_))))
 rintro recl1 l1
 show QV (Jd a0l a1s recl1 l1) _ _ _ _ _ _
 unfold Jd
 refine sS (Qg Qd ⟨sQ a0l a1s l1 (QO l1 (Qc (List.map Zg a0l))),[]⟩ Qa (sC (QO l1 (Qc (List.map Zg a0l))) Qa ?_ ?_))
 rotate_left
 ·refine Qz (ZW (KM (QW (Qp ⟨[],[]⟩ Qa (Qg Qd ⟨[(4,B false)],[]⟩ Qa (sT ?_))))))
  exact qR (.id) Qa Qa Qa
 refine sK (Qp ⟨NE a0l a1s l1,[]⟩ Qa (sS (sB (sS (sG (xR 2 Qa ?_))))))
 refine xG Qa Qa (QN (e:=9) (S:=1) (enc:=Zg) (l:=a0l) (k:=.i64) (n:=l1) (sv:=.p (.sl 1 (List.map Zg a0l))) rfl Qa Qa Qa Qa Qa) (fun x2=>?_)
 refine xR 3 Qa (xE (Qp ⟨sU a0l a1s l1 (QP x2 a1s),[]⟩ Qa (sC (QP x2 a1s) Qa ?_ ?_)))
 ·refine Qg Qd ⟨[(4,B true)],[]⟩ Qa (sT (Zd (Q7 (KH (Zd (Q7 ?_))))))
  exact qR (.id) Qa Qa Qa
 refine sK (Q6 (Qp ⟨NE a0l a1s l1,[]⟩ Qa (sL Qd Qa ?_)))
 exact KQ (wi (l1+1)) Qa
def Js (a0s:Qm) (recl2:((List (List UInt8)) × Int)→Option (List (List UInt8))) (l2_1:List (List UInt8)) (l2_2:Int):Option (List (List UInt8)) :=
 cond (QO l2_2 (Qc (List.map ZJ.cs a0s.Conductors)))
  ((Q8 a0s.Conductors l2_2).bind fun x3 =>
  cond (ZB (List.length (l2_1++[x3.Name])) 16) (
   recl2 (l2_1++[x3.Name],wi (l2_2+1))) none)
  (some l2_1)
def Jt (a0s:Qm) (recl5:((List (List UInt8)) × Int)→Option (List (List UInt8))) (l5_1:List (List UInt8)) (l5_2:Int):Option (List (List UInt8)) :=
 cond (QO l5_2 (Qc (List.map Zb.cs a0s.Owners)))
  ((Q8 a0s.Owners l5_2).bind fun x6 =>
  cond (ZB (List.length (l5_1++[x6.Name])) 16) (
   recl5 (l5_1++[x6.Name],wi (l5_2+1))) none)
  (some l5_1)
def Ju (a0s:Qm) (recl8:((List (List UInt8)) × Int)→Option (List (List UInt8))) (l8_1:List (List UInt8)) (l8_2:Int):Option (List (List UInt8)) :=
 cond (QO l8_2 (Qc (List.map ZT.cs a0s.Contracts)))
  ((Q8 a0s.Contracts l8_2).bind fun x9 =>
  cond (ZB (List.length (l8_1++[x9.Name])) 16) (
   recl8 (l8_1++[x9.Name],wi (l8_2+1))) none)
  (some l8_1)
def WJ (a0s:Qm) (recl11:((List (List UInt8)) × Int)→Option (List (List UInt8))) (l11_1:List (List UInt8)) (l11_2:Int):Option (List (List UInt8)) :=
 cond (QO l11_2 (Qc (List.map ZY.cs a0s.Chargers)))
  ((Q8 a0s.Chargers l11_2).bind fun x12 =>
  cond (ZB (List.length (l11_1++[x12.Name])) 16) (
   recl11 (l11_1++[x12.Name],wi (l11_2+1))) none)
  (some l11_1)
def WK (a0s:Qm) (recl14:((List (List UInt8)) × Int)→Option (List (List UInt8))) (l14_1:List (List UInt8)) (l14_2:Int):Option (List (List UInt8)) :=
 cond (QO l14_2 (Qc (List.map Zi.cs a0s.Bays)))
  ((Q8 a0s.Bays l14_2).bind fun x15 =>
  cond (ZB (List.length (l14_1++[x15.Name])) 16) (
   recl14 (l14_1++[x15.Name],wi (l14_2+1))) none)
  (some l14_1)
def Ym (n:Nat) (j13:List (List UInt8)) (recl16:Int→Option Bool) (l16:Int):Option Bool :=
 cond (QO l16 (Qc (List.map Zg j13)))
  (((Q8 j13 l16).bind fun x18 =>
  (Xw n x18).bind fun r19 =>
  cond (!r19)
   (some true)
   (cond (sliceB 0 l16 (List.length j13)) (
    (Q8 j13 l16).bind fun x21 =>
    (Ul n (List.drop (Int.toNat 0) (List.take (Int.toNat l16) j13)) x21).bind fun r22 =>
    some r22) none)).bind fun j17 =>
  cond j17
   (some false)
   (recl16 (wi (l16+1))))
  (some true)
def JL (n:Nat) (a0s:Qm):Option Bool :=
 (QZ (fun recl2 (l2_1,l2_2)=>Js a0s recl2 l2_1 l2_2) n ([],0)).bind fun j1 =>
 (QZ (fun recl5 (l5_1,l5_2)=>Jt a0s recl5 l5_1 l5_2) n (j1,0)).bind fun j4 =>
 (QZ (fun recl8 (l8_1,l8_2)=>Ju a0s recl8 l8_1 l8_2) n (j4,0)).bind fun j7 =>
 (QZ (fun recl11 (l11_1,l11_2)=>WJ a0s recl11 l11_1 l11_2) n (j7,0)).bind fun j10 =>
 (QZ (fun recl14 (l14_1,l14_2)=>WK a0s recl14 l14_1 l14_2) n (j10,0)).bind fun j13 =>
 QZ (fun recl16 l16=>Ym n j13 recl16 l16) n 0
def mY:=fun x0 x1=>([(1, .ptr 1 0),(3, .tsl 1 (List.map Zg x0) 25),(4,I x1)]:List (Nat × AV))
def wU:=fun x0 x1=>([(1, .ptr 1 0),(3, .tsl 1 (List.map Zg x0) 25),(5,I x1)]:List (Nat × AV))
def wV:=fun x0 x1=>([(1, .ptr 1 0),(3, .tsl 1 (List.map Zg x0) 25),(6,I x1)]:List (Nat × AV))
def wW:=fun x0 x1=>([(1, .ptr 1 0),(3, .tsl 1 (List.map Zg x0) 25),(7,I x1)]:List (Nat × AV))
def wX:=fun x0 x1=>([(1, .ptr 1 0),(3, .tsl 1 (List.map Zg x0) 25),(8,I x1)]:List (Nat × AV))
def wY:=fun x0 x1=>([(3, .tsl 1 (List.map Zg x0) 25),(9,I x1)]:List (Nat × AV))
theorem M5 (n:Nat) (a0s:Qm):∀ r,JL n a0s=some r→Q9 Tryz.prog 28 [ag (Qm.cs a0s)] (.ret (B r)):=by
 refine Qs (X:=fun r:Bool=>QX.ret (B r)) Tryz.func28 rfl Tryz.ntmps28 rfl ?_
 unfold JL
 refine Qg Qd ⟨[qq 1],ZF a0s⟩ Qa (Qg Qd ⟨zL,ZF a0s⟩ Qa (K6 (fun j1=>⟨zY j1,Ku a0s j1⟩:(List (List UInt8))→St) ?_ ?_))
 ·refine Qg Qd ⟨[qq 1,(3,zS),(4,I 0)],ZF a0s⟩ Qa (sB (EU ⟨[qq 1,(3,zS),(4,I 0)],ZF a0s⟩ Qa (Zz (KT 9 1 25 [3] [] Qa) (QI (fun (l2_1,l2_2)=>⟨mY l2_1 l2_2,Ku a0s l2_1⟩:((List (List UInt8)) × Int)→St) (Xg Qa) ?_))))
  rintro recl2 ⟨l2_1,l2_2⟩
  show QV (Js a0s recl2 l2_1 l2_2) _ _ _ _ _ _
  unfold Js
  refine sS (Qg Qd ⟨[qq 1,(3, .tsl 1 (List.map Zg l2_1) 25),(4,I l2_2),(14,B (QO l2_2 (Qc (Gg a0s.Conductors))))],Ku a0s l2_1⟩ Qa (sC (QO l2_2 (Qc (Gg a0s.Conductors))) Qa ?_ ?_))
  ·refine sK (Qp ⟨mY l2_1 l2_2,Ku a0s l2_1⟩ Qa (sS (sB (sG (xR 4 Qa ?_)))))
   refine xG Qa Qa (QN (e:=49) (S:=11) (enc:=ZJ.cs) (l:=a0s.Conductors) (k:=.i64) (n:=l2_2) (sv:=.p (.sl 11 (Gg a0s.Conductors))) rfl Qa Qa Qa Qa Qa) (fun x3=>?_)
   refine xR 3 Qa (xF Qa Qa (ZM (e:=9) (S:=1) (by_:=16) (enc:=Zg) (tk:=25) (l:=l2_1) (l2:=[x3.Name]) (xv:=.tsl 1 (List.map Zg [x3.Name]) 24) rfl Qa Qa rfl Qa Qa Qa rfl Qa) (xR 1 Qa (xE (Q6 (Qp ⟨mY (l2_1++[x3.Name]) l2_2,Br a0s (l2_1++[x3.Name])⟩ Qa (sL Qd Qa ?_))))))
   exact KQ (l2_1++[x3.Name],wi (l2_2+1)) Qa
  refine Qz (ZW (KM (QW ?_)))
  exact QQ l2_1 Qa
 rintro j1
 refine K6 (fun j4=>⟨zY j4,Ku a0s j4⟩:(List (List UInt8))→St) ?_ ?_
 ·refine Qg Qd ⟨wU j1 0,Ku a0s j1⟩ Qa (sB (QI (fun (l5_1,l5_2)=>⟨wU l5_1 l5_2,Ku a0s l5_1⟩:((List (List UInt8)) × Int)→St) (Xg Qa) ?_))
  rintro recl5 ⟨l5_1,l5_2⟩
  show QV (Jt a0s recl5 l5_1 l5_2) _ _ _ _ _ _
  unfold Jt
  refine sS (Qg Qd ⟨[qq 1,(3, .tsl 1 (List.map Zg l5_1) 25),(5,I l5_2),(30,B (QO l5_2 (Qc (Kq a0s.Owners))))],Ku a0s l5_1⟩ Qa (sC (QO l5_2 (Qc (Kq a0s.Owners))) Qa ?_ ?_))
  ·refine sK (Qp ⟨wU l5_1 l5_2,Ku a0s l5_1⟩ Qa (sS (sB (sG (xR 4 Qa ?_)))))
   refine xG Qa Qa (QN (e:=52) (S:=1) (enc:=Zb.cs) (l:=a0s.Owners) (k:=.i64) (n:=l5_2) (sv:=.p (.sl 1 (Kq a0s.Owners))) rfl Qa Qa Qa Qa Qa) (fun x6=>?_)
   refine xR 3 Qa (xF Qa Qa (ZM (e:=9) (S:=1) (by_:=16) (enc:=Zg) (tk:=25) (l:=l5_1) (l2:=[x6.Name]) (xv:=.tsl 1 (List.map Zg [x6.Name]) 40) rfl Qa Qa rfl Qa Qa Qa rfl Qa) (xR 1 Qa (xE (Q6 (Qp ⟨wU (l5_1++[x6.Name]) l5_2,Br a0s (l5_1++[x6.Name])⟩ Qa (sL Qd Qa ?_))))))
   exact KQ (l5_1++[x6.Name],wi (l5_2+1)) Qa
  refine Qz (ZW (KM (QW ?_)))
  exact QQ l5_1 Qa
 rintro j4
 refine K6 (fun j7=>⟨zY j7,Ku a0s j7⟩:(List (List UInt8))→St) ?_ ?_
 ·refine Qg Qd ⟨wV j4 0,Ku a0s j4⟩ Qa (sB (QI (fun (l8_1,l8_2)=>⟨wV l8_1 l8_2,Ku a0s l8_1⟩:((List (List UInt8)) × Int)→St) (Xg Qa) ?_))
  rintro recl8 ⟨l8_1,l8_2⟩
  show QV (Ju a0s recl8 l8_1 l8_2) _ _ _ _ _ _
  unfold Ju
  refine sS (Qg Qd ⟨[qq 1,(3, .tsl 1 (List.map Zg l8_1) 25),(6,I l8_2),(46,B (QO l8_2 (Qc (Ht a0s.Contracts))))],Ku a0s l8_1⟩ Qa (sC (QO l8_2 (Qc (Ht a0s.Contracts))) Qa ?_ ?_))
  ·refine sK (Qp ⟨wV l8_1 l8_2,Ku a0s l8_1⟩ Qa (sS (sB (sG (xR 4 Qa ?_)))))
   refine xG Qa Qa (QN (e:=54) (S:=4) (enc:=ZT.cs) (l:=a0s.Contracts) (k:=.i64) (n:=l8_2) (sv:=.p (.sl 4 (Ht a0s.Contracts))) rfl Qa Qa Qa Qa Qa) (fun x9=>?_)
   refine xR 3 Qa (xF Qa Qa (ZM (e:=9) (S:=1) (by_:=16) (enc:=Zg) (tk:=25) (l:=l8_1) (l2:=[x9.Name]) (xv:=.tsl 1 (List.map Zg [x9.Name]) 56) rfl Qa Qa rfl Qa Qa Qa rfl Qa) (xR 1 Qa (xE (Q6 (Qp ⟨wV (l8_1++[x9.Name]) l8_2,Br a0s (l8_1++[x9.Name])⟩ Qa (sL Qd Qa ?_))))))
   exact KQ (l8_1++[x9.Name],wi (l8_2+1)) Qa
  refine Qz (ZW (KM (QW ?_)))
  exact QQ l8_1 Qa
 rintro j7
 refine K6 (fun j10=>⟨zY j10,Ku a0s j10⟩:(List (List UInt8))→St) ?_ ?_
 ·refine Qg Qd ⟨wW j7 0,Ku a0s j7⟩ Qa (sB (QI (fun (l11_1,l11_2)=>⟨wW l11_1 l11_2,Ku a0s l11_1⟩:((List (List UInt8)) × Int)→St) (Xg Qa) ?_))
  rintro recl11 ⟨l11_1,l11_2⟩
  show QV (WJ a0s recl11 l11_1 l11_2) _ _ _ _ _ _
  unfold WJ
  refine sS (Qg Qd ⟨[qq 1,(3, .tsl 1 (List.map Zg l11_1) 25),(7,I l11_2),(62,B (QO l11_2 (Qc (Gq a0s.Chargers))))],Ku a0s l11_1⟩ Qa (sC (QO l11_2 (Qc (Gq a0s.Chargers))) Qa ?_ ?_))
  ·refine sK (Qp ⟨wW l11_1 l11_2,Ku a0s l11_1⟩ Qa (sS (sB (sG (xR 4 Qa ?_)))))
   refine xG Qa Qa (QN (e:=56) (S:=8) (enc:=ZY.cs) (l:=a0s.Chargers) (k:=.i64) (n:=l11_2) (sv:=.p (.sl 8 (Gq a0s.Chargers))) rfl Qa Qa Qa Qa Qa) (fun x12=>?_)
   refine xR 3 Qa (xF Qa Qa (ZM (e:=9) (S:=1) (by_:=16) (enc:=Zg) (tk:=25) (l:=l11_1) (l2:=[x12.Name]) (xv:=.tsl 1 (List.map Zg [x12.Name]) 72) rfl Qa Qa rfl Qa Qa Qa rfl Qa) (xR 1 Qa (xE (Q6 (Qp ⟨wW (l11_1++[x12.Name]) l11_2,Br a0s (l11_1++[x12.Name])⟩ Qa (sL Qd Qa ?_))))))
   exact KQ (l11_1++[x12.Name],wi (l11_2+1)) Qa
  refine Qz (ZW (KM (QW ?_)))
  exact QQ l11_1 Qa
 rintro j10
 refine K6 (fun j13=>(QbA j13):(List (List UInt8))→St) ?_ ?_
 ·refine Qg Qd ⟨wX j10 0,Ku a0s j10⟩ Qa (sB (QI (fun (l14_1,l14_2)=>⟨wX l14_1 l14_2,Ku a0s l14_1⟩:((List (List UInt8)) × Int)→St) (Xg Qa) ?_))
  rintro recl14 ⟨l14_1,l14_2⟩
  show QV (WK a0s recl14 l14_1 l14_2) _ _ _ _ _ _
  unfold WK
  refine sS (Qg Qd ⟨[qq 1,(3, .tsl 1 (List.map Zg l14_1) 25),(8,I l14_2),(78,B (QO l14_2 (Qc (VJ a0s.Bays))))],Ku a0s l14_1⟩ Qa (sC (QO l14_2 (Qc (VJ a0s.Bays))) Qa ?_ ?_))
  ·refine sK (Qp ⟨wX l14_1 l14_2,Ku a0s l14_1⟩ Qa (sS (sB (sG (xR 4 Qa ?_)))))
   refine xG Qa Qa (QN (e:=58) (S:=2) (enc:=Zi.cs) (l:=a0s.Bays) (k:=.i64) (n:=l14_2) (sv:=.p (.sl 2 (VJ a0s.Bays))) rfl Qa Qa Qa Qa Qa) (fun x15=>?_)
   refine xR 3 Qa (xF Qa Qa (ZM (e:=9) (S:=1) (by_:=16) (enc:=Zg) (tk:=25) (l:=l14_1) (l2:=[x15.Name]) (xv:=.tsl 1 (List.map Zg [x15.Name]) 88) rfl Qa Qa rfl Qa Qa Qa rfl Qa) (xR 1 Qa (xE (Q6 (Qp ⟨wX (l14_1++[x15.Name]) l14_2,Br a0s (l14_1++[x15.Name])⟩ Qa (sL Qd Qa ?_))))))
   exact KQ (l14_1++[x15.Name],wi (l14_2+1)) Qa
  refine Qz (ZW (KM (QW ?_)))
  exact QQ l14_1 Qa
 rintro j13
 refine sS (Qg Qd ⟨wY j13 0,F9 j13⟩ Qa (sB (QI (fun l16=>⟨wY j13 l16,F9 j13⟩:Int→St) (Xg Qa) ?_)))
 rintro recl16 l16
 show QV (Ym n j13 recl16 l16) _ _ _ _ _ _
 unfold Ym
 refine sS (Qg Qd ⟨[(3, .tsl 1 (List.map Zg j13) 25),(9,I l16),(93,B (QO l16 (Qc (List.map Zg j13))))],F9 j13⟩ Qa (sC (QO l16 (Qc (List.map Zg j13))) Qa ?_ ?_))
 rotate_left
 ·refine Qz (ZW (KM (QW (Qp ⟨[],[]⟩ Qa (Qg Qd ⟨[(2,B true)],[]⟩ Qa (sT ?_))))))
  exact qR (.id) Qa Qa Qa
 refine sK (Qp ⟨wY j13 l16,F9 j13⟩ Qa (sS (sB (K6 (fun j17=>⟨[(3, .tsl 1 (List.map Zg j13) 25),(9,I l16),(111,B j17)],F9 j13⟩:Bool→St) ?_ ?_))))
 rotate_left
 ·rintro j17
  refine sC j17 Qa ?_ ?_
  ·refine Qg Qd ⟨[(2,B false)],[]⟩ Qa (sT (Zd (Q7 (KH (Zd (Q7 ?_))))))
   exact qR (.id) Qa Qa Qa
  refine sK (Q6 (Qp ⟨wY j13 l16,F9 j13⟩ Qa (sL Qd Qa ?_)))
  exact KQ (wi (l16+1)) Qa
 refine Vq Qd rfl (xR 2 Qa ?_)
 refine xG Qa Qa (QN (e:=9) (S:=1) (enc:=Zg) (l:=j13) (k:=.i64) (n:=l16) (sv:=.tsl 1 (List.map Zg j13) 25) rfl Qa Qa Qa Qa Qa) (fun x18=>?_)
 refine xR 1 Qa ?_
 refine xC [] Qa (NS n x18) Qa Qa QS (fun r19=>?_)
 refine xR 2 Qa ?_
 refine xS (!r19) (fun h20=>?_) (fun h20=>?_)
 ·refine xN (Qx Qa h20) Qa (xR 8 Qa (YB Qa ?_))
  exact QQ true Qa
 refine xO (Qw Qa h20) Qa (xR 1 Qa (xF Qa Qa (Ih (e:=9) (S:=1) (enc:=Zg) (l:=j13) (sv:=.tsl 1 (List.map Zg j13) 25) (a:=0) (b:=l16) rfl Qa Qa Qa Qa Qa Qa) (xR 2 Qa ?_)))
 refine xG Qa Qa (QN (e:=9) (S:=1) (enc:=Zg) (l:=j13) (k:=.i64) (n:=l16) (sv:=.tsl 1 (List.map Zg j13) 25) rfl Qa Qa Qa Qa Qa) (fun x21=>?_)
 refine xR 1 Qa ?_
 refine xC [] Qa (Sq n (List.drop (Int.toNat 0) (List.take (Int.toNat l16) j13)) x21) Qa Qa QS (fun r22=>?_)
 refine xR 1 Qa (YB Qa ?_)
 exact QQ r22 Qa
def Vi (n:Nat) (a0c:ZJ) (a1i:Int):Option Bool :=
 ((QC n a0c.Limit 1 1000).bind fun r2 =>
 cond (!r2)
  (some true)
  ((QC n a0c.Neutral 1 1000).bind fun r4 =>
  cond (!r4)
   (some true)
   (cond (Qi a1i 0)
    (cond (!Qi a0c.Up (-1))
     (some true)
     (cond (QO 0 a1i)
      ((QC n a0c.Up 0 (wi (a1i - 1))).bind fun r9 =>
      some (!r9))
      (some false)))
    (cond (QO 0 a1i)
     ((QC n a0c.Up 0 (wi (a1i - 1))).bind fun r11 =>
     some (!r11))
     (some false))))).bind fun j1 =>
 cond j1
  (some false)
  ((cond (!Xx ((Qi a0c.Fuse.Rated 0)&&((Qi a0c.Fuse.Heat 0)&&true)))
   ((QC n a0c.Fuse.Rated 1 1000).bind fun r14 =>
   cond (!r14)
    (some true)
    ((QC n a0c.Fuse.Heat 0 1000000).bind fun r16 =>
    some (!r16)))
   (some false)).bind fun j12 =>
  cond j12
   (some false)
   ((cond (Xx ((Qi a0c.Cable.Ambient 0)&&((Qi a0c.Cable.Most 0)&&((Qi a0c.Cable.Gain 0)&&((Qi a0c.Cable.Loss 0)&&((Qi a0c.Cable.Den 0)&&true))))))
    (some true)
    ((QC n a0c.Cable.Ambient 0 200000).bind fun r19 =>
    cond r19
     ((QC n a0c.Cable.Most (wi (a0c.Cable.Ambient+1)) 200000).bind fun r21 =>
     cond r21
      ((QC n a0c.Cable.Gain 0 1000).bind fun r23 =>
      cond r23
       ((QC n a0c.Cable.Loss 0 1000).bind fun r25 =>
       cond r25
        ((QC n a0c.Cable.Den 1 1000000).bind fun r27 =>
        some r27)
        (some false))
       (some false))
      (some false))
     (some false))).bind fun j17 =>
   some j17))
theorem RI (n:Nat) (a0c:ZJ) (a1i:Int):∀ r,Vi n a0c a1i=some r→Q9 Tryz.prog 29 [ag (ZJ.cs a0c),I a1i] (.ret (B r)):=by
 refine Qs (X:=fun r:Bool=>QX.ret (B r)) Tryz.func29 rfl Tryz.ntmps29 rfl ?_
 unfold Vi
 refine Qg Qd ⟨[(1,I a1i),qq 2],IB a0c⟩ Qa (sS (K6 (fun j1=>⟨[qq 2,(37,B j1)],IB a0c⟩:Bool→St) ?_ ?_))
 ·refine sG (xR 2 Qa ?_)
  refine xC [] Qa (QJ n a0c.Limit 1 1000) Qa Qa QS (fun r2=>?_)
  refine xR 2 Qa ?_
  refine xS (!r2) (fun h3=>?_) (fun h3=>?_)
  ·refine xN (Qx Qa h3) Qa (xR 25 Qa (xE ?_))
   exact QQ true Qa
  refine xO (Qw Qa h3) Qa (xR 1 Qa ?_)
  refine xC [] Qa (QJ n a0c.Neutral 1 1000) Qa Qa QS (fun r4=>?_)
  refine xR 3 Qa ?_
  refine xS (!r4) (fun h5=>?_) (fun h5=>?_)
  ·refine xN (Qx Qa h5) Qa (xR 19 Qa (xE ?_))
   exact QQ true Qa
  refine xO (Qw Qa h5) Qa (xR 2 Qa ?_)
  refine xS (Qi a1i 0) (fun h6=>?_) (fun h6=>?_)
  rotate_left
  ·refine xN (Qr Qa h6) Qa (xR 8 Qa ?_)
   refine xS (QO 0 a1i) (fun h10=>?_) (fun h10=>?_)
   ·refine xO (Qq Qa h10) Qa (xR 3 Qa ?_)
    refine xC [] Qa (QJ n a0c.Up 0 (wi (a1i - 1))) Qa Qa QS (fun r11=>?_)
    refine xR 3 Qa (xE ?_)
    exact QQ (!r11) Qa
   refine xN (Qr Qa h10) Qa (xR 7 Qa (xE ?_))
   exact QQ false Qa
  refine xO (Qq Qa h6) Qa (xR 5 Qa ?_)
  refine xS (!Qi a0c.Up (-1)) (fun h7=>?_) (fun h7=>?_)
  ·refine xN (Qx Qa h7) Qa (xR 10 Qa (xE ?_))
   exact QQ true Qa
  refine xO (Qw Qa h7) Qa (xR 2 Qa ?_)
  refine xS (QO 0 a1i) (fun h8=>?_) (fun h8=>?_)
  ·refine xO (Qq Qa h8) Qa (xR 3 Qa ?_)
   refine xC [] Qa (QJ n a0c.Up 0 (wi (a1i - 1))) Qa Qa QS (fun r9=>?_)
   refine xR 3 Qa (xE ?_)
   exact QQ (!r9) Qa
  refine xN (Qr Qa h8) Qa (xR 7 Qa (xE ?_))
  exact QQ false Qa
 rintro j1
 refine sC j1 Qa ?_ ?_
 ·refine Qg Qd ⟨[(4,B false)],[]⟩ Qa (sT (Q7 ?_))
  exact qR (.id) Qa Qa Qa
 refine sK (Qp ⟨[qq 2],IB a0c⟩ Qa (Qg Qd ⟨[qq 2,qq 5],[(2,y8 a0c),(5,Sm a0c.Fuse)]⟩ Qa (Qg Qd ⟨[qq 5,qq 6],[(5,Sm a0c.Fuse),(6,UU a0c.Cable)]⟩ Qa (sS (K6 (fun j12=>⟨[qq 6,(56,B j12)],[(6,UU a0c.Cable)]⟩:Bool→St) ?_ ?_)))))
 ·refine sG (xR 2 Qa (ZH Qa Qa (FP (xs:=[I a0c.Fuse.Rated,I a0c.Fuse.Heat]) (ys:=[I 0,I 0]) (vx:=[.int .i64 a0c.Fuse.Rated, .int .i64 a0c.Fuse.Heat]) (vy:=[.int .i64 0, .int .i64 0]) (b:=(Qi a0c.Fuse.Rated 0)&&((Qi a0c.Fuse.Heat 0)&&true)) rfl Qa Qa Qa Qa Qa Qa) (xR 1 Qa ?_)))
  refine xS (!Xx ((Qi a0c.Fuse.Rated 0)&&((Qi a0c.Fuse.Heat 0)&&true))) (fun h13=>?_) (fun h13=>?_)
  ·refine xO (Qq Qa h13) Qa (xR 1 Qa ?_)
   refine xC [] Qa (QJ n a0c.Fuse.Rated 1 1000) Qa Qa QS (fun r14=>?_)
   refine xR 2 Qa ?_
   refine xS (!r14) (fun h15=>?_) (fun h15=>?_)
   ·refine xN (Qx Qa h15) Qa (xR 5 Qa (xE ?_))
    exact QQ true Qa
   refine xO (Qw Qa h15) Qa (xR 1 Qa ?_)
   refine xC [] Qa (QJ n a0c.Fuse.Heat 0 1000000) Qa Qa QS (fun r16=>?_)
   refine xR 3 Qa (xE ?_)
   exact QQ (!r16) Qa
  refine xN (Qr Qa h13) Qa (xR 10 Qa (xE ?_))
  exact QQ false Qa
 rintro j12
 refine sC j12 Qa ?_ ?_
 ·refine Qg Qd ⟨[(4,B false)],[]⟩ Qa (sT (Q7 ?_))
  exact qR (.id) Qa Qa Qa
 refine sK (Qp ⟨[qq 6],[(6,UU a0c.Cable)]⟩ Qa (K6 (fun j17=>⟨[(4,B j17)],[]⟩:Bool→St) ?_ ?_))
 rotate_left
 ·rintro j17
  refine sT ?_
  exact qR (.id) Qa Qa Qa
 refine sG (xR 2 Qa (ZH Qa Qa (FO (xs:=[I a0c.Cable.Ambient,I a0c.Cable.Most,I a0c.Cable.Gain,I a0c.Cable.Loss,I a0c.Cable.Den]) (ys:=[I 0,I 0,I 0,I 0,I 0]) (vx:=[.int .i64 a0c.Cable.Ambient, .int .i64 a0c.Cable.Most, .int .i64 a0c.Cable.Gain, .int .i64 a0c.Cable.Loss, .int .i64 a0c.Cable.Den]) (vy:=[.int .i64 0, .int .i64 0, .int .i64 0, .int .i64 0, .int .i64 0]) (b:=(Qi a0c.Cable.Ambient 0)&&((Qi a0c.Cable.Most 0)&&((Qi a0c.Cable.Gain 0)&&((Qi a0c.Cable.Loss 0)&&((Qi a0c.Cable.Den 0)&&true))))) rfl Qa Qa Qa Qa Qa Qa) (xR 1 Qa ?_)))
 refine xS (Xx ((Qi a0c.Cable.Ambient 0)&&((Qi a0c.Cable.Most 0)&&((Qi a0c.Cable.Gain 0)&&((Qi a0c.Cable.Loss 0)&&((Qi a0c.Cable.Den 0)&&true)))))) (fun h18=>?_) (fun h18=>?_)
 ·refine xN (Qx Qa h18) Qa (xR 27 Qa (xE ?_))
  exact QQ true Qa
 refine xO (Qw Qa h18) Qa (xR 1 Qa ?_)
 refine xC [] Qa (QJ n a0c.Cable.Ambient 0 200000) Qa Qa QS (fun r19=>?_)
 refine xR 1 Qa ?_
 refine xS r19 (fun h20=>?_) (fun h20=>?_)
 rotate_left
 ·refine xN (Qr Qa h20) Qa (xR 23 Qa (xE ?_))
  exact QQ false Qa
 refine xO (Qq Qa h20) Qa (xR 4 Qa ?_)
 refine xC [] Qa (QJ n a0c.Cable.Most (wi (a0c.Cable.Ambient+1)) 200000) Qa Qa QS (fun r21=>?_)
 refine xR 2 Qa ?_
 refine xS r21 (fun h22=>?_) (fun h22=>?_)
 rotate_left
 ·refine xN (Qr Qa h22) Qa (xR 15 Qa (xE ?_))
  exact QQ false Qa
 refine xO (Qq Qa h22) Qa (xR 1 Qa ?_)
 refine xC [] Qa (QJ n a0c.Cable.Gain 0 1000) Qa Qa QS (fun r23=>?_)
 refine xR 2 Qa ?_
 refine xS r23 (fun h24=>?_) (fun h24=>?_)
 ·refine xO (Qq Qa h24) Qa (xR 1 Qa ?_)
  refine xC [] Qa (QJ n a0c.Cable.Loss 0 1000) Qa Qa QS (fun r25=>?_)
  refine xR 2 Qa ?_
  refine xS r25 (fun h26=>?_) (fun h26=>?_)
  ·refine xO (Qq Qa h26) Qa (xR 1 Qa ?_)
   refine xC [] Qa (QJ n a0c.Cable.Den 1 1000000) Qa Qa QS (fun r27=>?_)
   refine xR 3 Qa (xE ?_)
   exact QQ r27 Qa
  refine xN (Qr Qa h26) Qa (xR 5 Qa (xE ?_))
  exact QQ false Qa
 refine xN (Qr Qa h24) Qa (xR 10 Qa (xE ?_))
 exact QQ false Qa
def Wt (n:Nat) (a0c:ZY):Option Bool :=
 ((QC n a0c.Phases 1 7).bind fun r2 =>
 cond r2
  ((QC n a0c.Min 1 80).bind fun r4 =>
  cond r4
   ((QC n a0c.Max a0c.Min 80).bind fun r6 =>
   cond r6
    ((QC n a0c.Step 1 80).bind fun r8 =>
    cond r8
     (cond (Qi a0c.Fallback 0)
      (some true)
      ((QC n a0c.Fallback a0c.Min a0c.Max).bind fun r11 =>
      some r11))
     (some false))
    (some false))
   (some false))
  (some false)).bind fun j1 =>
 some j1
theorem Dv (n:Nat) (a0c:ZY):∀ r,Wt n a0c=some r→Q9 Tryz.prog 30 [ag (ZY.cs a0c)] (.ret (B r)):=by
 refine Qs (X:=fun r:Bool=>QX.ret (B r)) Tryz.func30 rfl Tryz.ntmps30 rfl ?_
 unfold Wt
 refine Qg Qd (Qbk a0c) Qa (K6 (fun j1=>⟨[(2,B j1)],[]⟩:Bool→St) ?_ ?_)
 rotate_left
 ·rintro j1
  refine sT ?_
  exact qR (.id) Qa Qa Qa
 refine sG (xR 2 Qa ?_)
 refine xC [] Qa (QJ n a0c.Phases 1 7) Qa Qa QS (fun r2=>?_)
 refine xR 1 Qa ?_
 refine xS r2 (fun h3=>?_) (fun h3=>?_)
 rotate_left
 ·refine xN (Qr Qa h3) Qa (xR 30 Qa (xE ?_))
  exact QQ false Qa
 refine xO (Qq Qa h3) Qa (xR 1 Qa ?_)
 refine xC [] Qa (QJ n a0c.Min 1 80) Qa Qa QS (fun r4=>?_)
 refine xR 2 Qa ?_
 refine xS r4 (fun h5=>?_) (fun h5=>?_)
 rotate_left
 ·refine xN (Qr Qa h5) Qa (xR 25 Qa (xE ?_))
  exact QQ false Qa
 refine xO (Qq Qa h5) Qa (xR 3 Qa ?_)
 refine xC [] Qa (QJ n a0c.Max a0c.Min 80) Qa Qa QS (fun r6=>?_)
 refine xR 2 Qa ?_
 refine xS r6 (fun h7=>?_) (fun h7=>?_)
 rotate_left
 ·refine xN (Qr Qa h7) Qa (xR 18 Qa (xE ?_))
  exact QQ false Qa
 refine xO (Qq Qa h7) Qa (xR 1 Qa ?_)
 refine xC [] Qa (QJ n a0c.Step 1 80) Qa Qa QS (fun r8=>?_)
 refine xR 2 Qa ?_
 refine xS r8 (fun h9=>?_) (fun h9=>?_)
 ·refine xO (Qq Qa h9) Qa (xR 3 Qa ?_)
  refine xS (Qi a0c.Fallback 0) (fun h10=>?_) (fun h10=>?_)
  ·refine xN (Qx Qa h10) Qa (xR 9 Qa (xE ?_))
   exact QQ true Qa
  refine xO (Qw Qa h10) Qa (xR 5 Qa ?_)
  refine xC [] Qa (QJ n a0c.Fallback a0c.Min a0c.Max) Qa Qa QS (fun r11=>?_)
  refine xR 3 Qa (xE ?_)
  exact QQ r11 Qa
 refine xN (Qr Qa h9) Qa (xR 13 Qa (xE ?_))
 exact QQ false Qa
def Vj (n:Nat) (a0s:Qm) (recl12:Int→Option Bool) (l12:Int):Option Bool :=
 cond (QO l12 (Qc (List.map Zi.cs a0s.Bays)))
  ((Q8 a0s.Bays l12).bind fun x13 =>
  (QC n x13.Charger 0 (wi ((Qc (List.map ZY.cs a0s.Chargers)) - 1))).bind fun r14 =>
  cond (!r14)
   (some false)
   (recl12 (wi (l12+1))))
  (some true)
def Yn (n:Nat) (a0s:Qm):Option Bool :=
 QZ (fun recl12 l12=>Vj n a0s recl12 l12) n 0
def Vk (n:Nat) (a0s:Qm) (recl15:Int→Option Bool) (l15:Int):Option Bool :=
 cond (QO l15 (Qc (List.map ZY.cs a0s.Chargers)))
  ((Q8 a0s.Chargers l15).bind fun x16 =>
  ((Wt n x16).bind fun r18 =>
  cond (!r18)
   (some true)
   ((QC n x16.At 0 (wi ((Qc (List.map ZJ.cs a0s.Conductors)) - 1))).bind fun r20 =>
   cond (!r20)
    (some true)
    ((QC n x16.Owner 0 (wi ((Qc (List.map Zb.cs a0s.Owners)) - 1))).bind fun r22 =>
    some (!r22)))).bind fun j17 =>
  cond j17
   (some false)
   (recl15 (wi (l15+1))))
  (Yn n a0s)
def Yo (n:Nat) (a0s:Qm):Option Bool :=
 QZ (fun recl15 l15=>Vk n a0s recl15 l15) n 0
def Vl (a0s:Qm) (l23:Int) (recl23:Int→Option Bool) (x24:ZT) (recl31:Int→Option Bool) (l31:Int):Option Bool :=
 cond (QO l31 l23)
  ((Q8 a0s.Contracts l31).bind fun x32 =>
  cond (Qi x32.Card x24.Card)
   (some false)
   (recl31 (wi (l31+1))))
  (recl23 (wi (l23+1)))
def Vm (n:Nat) (a0s:Qm) (recl23:Int→Option Bool) (l23:Int):Option Bool :=
 cond (QO l23 (Qc (List.map ZT.cs a0s.Contracts)))
  ((Q8 a0s.Contracts l23).bind fun x24 =>
  ((QC n x24.Owner 0 (wi ((Qc (List.map Zb.cs a0s.Owners)) - 1))).bind fun r26 =>
  cond (!r26)
   (some true)
   ((QC n x24.Rank 1 9).bind fun r28 =>
   cond (!r28)
    (some true)
    ((QC n x24.Card 1 1000000).bind fun r30 =>
    some (!r30)))).bind fun j25 =>
  cond j25
   (some false)
   (QZ (fun recl31 l31=>Vl a0s l23 recl23 x24 recl31 l31) n 0))
  (Yo n a0s)
def YQ (n:Nat) (a0s:Qm):Option Bool :=
 QZ (fun recl23 l23=>Vm n a0s recl23 l23) n 0
def Vn (n:Nat) (a0s:Qm) (recl33:Int→Option Bool) (l33:Int):Option Bool :=
 cond (QO l33 (Qc (List.map ZJ.cs a0s.Conductors)))
  ((Q8 a0s.Conductors l33).bind fun x34 =>
  (Vi n x34 l33).bind fun r35 =>
  cond (!r35)
   (some false)
   (recl33 (wi (l33+1))))
  (YQ n a0s)
def Wy (n:Nat) (a0s:Qm):Option Bool :=
 ((QC n (Qc (List.map ZJ.cs a0s.Conductors)) 1 16).bind fun r2 =>
 cond (!r2)
  (some true)
  (cond (QO 8 (Qc (List.map Zb.cs a0s.Owners)))
   (some true)
   (cond (QO 32 (Qc (List.map ZT.cs a0s.Contracts)))
    (some true)
    (cond (QO 16 (Qc (List.map ZY.cs a0s.Chargers)))
     (some true)
     (cond (QO 24 (Qc (List.map Zi.cs a0s.Bays)))
      (some true)
      ((JL n a0s).bind fun r8 =>
      some (!r8))))))).bind fun j1 =>
 cond j1
  (some false)
  (QZ (fun recl33 l33=>Vn n a0s recl33 l33) n 0)
def aZ:=fun x0 x1=>(⟨[(1, .ptr 1 0),(3,I x0)],ZF x1⟩:St)
def ib:=fun x0 x1=>(⟨[(1, .ptr 1 0),(4,I x0)],ZF x1⟩:St)
def Bz:=fun x0 x1=>([(1, .box 33 (Ya (Qm.cs x0))),(5, .box 54 (Ya (ZT.cs x1)))]:List (Nat × Blk))
def wZ:=fun x0 x1=>([(1, .ptr 1 0),(4,I x0),(5, .ptr 5 0),(6,I x1)]:List (Nat × AV))
def ic:=fun x0 x1=>(⟨[(1, .ptr 1 0),(9,I x0)],ZF x1⟩:St)
def ig:=fun x0 x1=>(⟨[(1, .ptr 1 0),(7,I x0)],ZF x1⟩:St)
theorem M6 (n:Nat) (a0s:Qm):∀ r,Wy n a0s=some r→Q9 Tryz.prog 12 [ag (Qm.cs a0s)] (.ret (B r)):=by
 refine Qs (X:=fun r:Bool=>QX.ret (B r)) Tryz.func12 rfl Tryz.ntmps12 rfl ?_
 unfold Wy
 refine Qg Qd ⟨[qq 1],ZF a0s⟩ Qa (sS (K6 (fun j1=>⟨[qq 1,(43,B j1)],ZF a0s⟩:Bool→St) ?_ ?_))
 ·refine sG (xR 3 Qa ?_)
  refine xC [] Qa (QJ n (Qc (Gg a0s.Conductors)) 1 16) Qa Qa QS (fun r2=>?_)
  refine xR 2 Qa ?_
  refine xS (!r2) (fun h3=>?_) (fun h3=>?_)
  ·refine xN (Qx Qa h3) Qa (xR 27 Qa (xE ?_))
   exact QQ true Qa
  refine xO (Qw Qa h3) Qa (xR 5 Qa ?_)
  refine xS (QO 8 (Qc (Kq a0s.Owners))) (fun h4=>?_) (fun h4=>?_)
  ·refine xN (Qx Qa h4) Qa (xR 21 Qa (xE ?_))
   exact QQ true Qa
  refine xO (Qw Qa h4) Qa (xR 5 Qa ?_)
  refine xS (QO 32 (Qc (Ht a0s.Contracts))) (fun h5=>?_) (fun h5=>?_)
  ·refine xN (Qx Qa h5) Qa (xR 15 Qa (xE ?_))
   exact QQ true Qa
  refine xO (Qw Qa h5) Qa (xR 5 Qa ?_)
  refine xS (QO 16 (Qc (Gq a0s.Chargers))) (fun h6=>?_) (fun h6=>?_)
  ·refine xN (Qx Qa h6) Qa (xR 9 Qa (xE ?_))
   exact QQ true Qa
  refine xO (Qw Qa h6) Qa (xR 5 Qa ?_)
  refine xS (QO 24 (Qc (VJ a0s.Bays))) (fun h7=>?_) (fun h7=>?_)
  ·refine xN (Qx Qa h7) Qa (xR 3 Qa (xE ?_))
   exact QQ true Qa
  refine xO (Qw Qa h7) Qa ?_
  refine xC [] Qa (M5 n a0s) Qa Qa QS (fun r8=>?_)
  refine xR 2 Qa (xE ?_)
  exact QQ (!r8) Qa
 rintro j1
 refine sC j1 Qa ?_ ?_
 ·refine Qg Qd ⟨[(2,B false)],[]⟩ Qa (sT (Q7 ?_))
  exact qR (.id) Qa Qa Qa
 refine sK (Qp ⟨[qq 1],ZF a0s⟩ Qa (ZR (fun _=>⟨[qq 1],ZF a0s⟩:Unit→St) (fun _=>YQ n a0s) ?_ ?_))
 rotate_left
 ·refine Qg Qd ⟨[qq 1,(3,I 0)],ZF a0s⟩ Qa (sB (QI (fun l33=>(aZ l33 a0s):Int→St) (Xg Qa) ?_))
  rintro recl33 l33
  show QV (Vn n a0s recl33 l33) _ _ _ _ _ _
  unfold Vn
  refine sS (Qg Qd ⟨[qq 1,(3,I l33),(48,B (QO l33 (Qc (Gg a0s.Conductors))))],ZF a0s⟩ Qa (sC (QO l33 (Qc (Gg a0s.Conductors))) Qa ?_ ?_))
  rotate_left
  ·refine Qz (ZW (KM (QW ?_)))
   exact KQ (k:=fun _=>YQ n a0s) () Qa
  refine sK (Qp (aZ l33 a0s) Qa (sS (sB (sS (sG (xR 3 Qa ?_))))))
  refine xG Qa Qa (QN (e:=49) (S:=11) (enc:=ZJ.cs) (l:=a0s.Conductors) (k:=.i64) (n:=l33) (sv:=.p (.sl 11 (Gg a0s.Conductors))) rfl Qa Qa Qa Qa Qa) (fun x34=>?_)
  refine xR 2 Qa ?_
  refine xC [] Qa (RI n x34 l33) Qa Qa QS (fun r35=>?_)
  refine xR 1 Qa (xE (Qp ⟨[qq 1,(3,I l33),(58,B (!r35))],ZF a0s⟩ Qa (sC (!r35) Qa ?_ ?_)))
  ·refine Qg Qd ⟨[(2,B false)],[]⟩ Qa (sT (Zd (Q7 (KH (Zd (KH ?_))))))
   exact qR (.id) Qa Qa Qa
  refine sK (Q6 (Qp (aZ l33 a0s) Qa (sL Qd Qa ?_)))
  exact KQ (wi (l33+1)) Qa
 rintro _
 show QV (YQ n a0s) _ _ _ _ _ _
 unfold YQ
 refine ZR (fun _=>⟨[qq 1],ZF a0s⟩:Unit→St) (fun _=>Yo n a0s) ?_ ?_
 rotate_left
 ·refine Qg Qd ⟨[qq 1,(4,I 0)],ZF a0s⟩ Qa (sB (QI (fun l23=>(ib l23 a0s):Int→St) (Xg Qa) ?_))
  rintro recl23 l23
  show QV (Vm n a0s recl23 l23) _ _ _ _ _ _
  unfold Vm
  refine sS (Qg Qd ⟨[qq 1,(4,I l23),(63,B (QO l23 (Qc (Ht a0s.Contracts))))],ZF a0s⟩ Qa (sC (QO l23 (Qc (Ht a0s.Contracts))) Qa ?_ ?_))
  rotate_left
  ·refine Qz (ZW (KM (QW ?_)))
   exact KQ (k:=fun _=>Yo n a0s) () Qa
  refine sK (Qp (ib l23 a0s) Qa (sS (sB (sS (sG (xR 3 Qa ?_))))))
  refine xG Qa Qa (QN (e:=54) (S:=4) (enc:=ZT.cs) (l:=a0s.Contracts) (k:=.i64) (n:=l23) (sv:=.p (.sl 4 (Ht a0s.Contracts))) rfl Qa Qa Qa Qa Qa) (fun x24=>?_)
  refine xR 3 Qa (xE (Qp ⟨[qq 1,(4,I l23),qq 5],Bz a0s x24⟩ Qa (sS (K6 (fun j25=>⟨[qq 1,(4,I l23),qq 5,(90,B j25)],Bz a0s x24⟩:Bool→St) ?_ ?_))))
  ·refine sG (xR 6 Qa ?_)
   refine xC [] Qa (QJ n x24.Owner 0 (wi ((Qc (Kq a0s.Owners)) - 1))) Qa Qa QS (fun r26=>?_)
   refine xR 2 Qa ?_
   refine xS (!r26) (fun h27=>?_) (fun h27=>?_)
   ·refine xN (Qx Qa h27) Qa (xR 10 Qa (xE ?_))
    exact QQ true Qa
   refine xO (Qw Qa h27) Qa (xR 1 Qa ?_)
   refine xC [] Qa (QJ n x24.Rank 1 9) Qa Qa QS (fun r28=>?_)
   refine xR 3 Qa ?_
   refine xS (!r28) (fun h29=>?_) (fun h29=>?_)
   ·refine xN (Qx Qa h29) Qa (xR 4 Qa (xE ?_))
    exact QQ true Qa
   refine xO (Qw Qa h29) Qa (xR 1 Qa ?_)
   refine xC [] Qa (QJ n x24.Card 1 1000000) Qa Qa QS (fun r30=>?_)
   refine xR 2 Qa (xE ?_)
   exact QQ (!r30) Qa
  rintro j25
  refine sC j25 Qa ?_ ?_
  ·refine Qg Qd ⟨[(2,B false)],[]⟩ Qa (sT (Q7 (Zd (Q7 (KH (Zd (KH ?_)))))))
   exact qR (.id) Qa Qa Qa
  refine sK (Qp ⟨[qq 1,(4,I l23),qq 5],Bz a0s x24⟩ Qa (Qg Qd ⟨wZ l23 0,Bz a0s x24⟩ Qa (sB (QI (fun l31=>⟨wZ l23 l31,Bz a0s x24⟩:Int→St) (Xg Qa) ?_))))
  rintro recl31 l31
  show QV (Vl a0s l23 recl23 x24 recl31 l31) _ _ _ _ _ _
  unfold Vl
  refine sS (Qg Qd ⟨[qq 1,(4,I l23),qq 5,(6,I l31),(93,B (QO l31 l23))],Bz a0s x24⟩ Qa (sC (QO l31 l23) Qa ?_ ?_))
  rotate_left
  ·refine Qz (ZW (KM (QW (Q6 (Qp (ib l23 a0s) Qa (sL Qd Qa ?_))))))
   exact KQ (wi (l23+1)) Qa
  refine sK (Qp ⟨wZ l23 l31,Bz a0s x24⟩ Qa (sS (sB (sS (Vq Qd rfl (xR 3 Qa ?_))))))
  refine xG Qa Qa (QN (e:=54) (S:=4) (enc:=ZT.cs) (l:=a0s.Contracts) (k:=.i64) (n:=l31) (sv:=.p (.sl 4 (Ht a0s.Contracts))) rfl Qa Qa Qa Qa Qa) (fun x32=>?_)
  refine xR 5 Qa (YB Qa (Qp ⟨[qq 1,(4,I l23),qq 5,(6,I l31),(104,B (Qi x32.Card x24.Card))],Bz a0s x24⟩ Qa (sC (Qi x32.Card x24.Card) Qa ?_ ?_)))
  ·refine Qg Qd ⟨[(2,B false)],[]⟩ Qa (sT (Zd (Q7 (KH (Zd (Zd (Q7 ?_)))))))
   refine KH (Zd (KH ?_))
   exact qR (.id) Qa Qa Qa
  refine sK (Q6 (Qp ⟨wZ l23 l31,Bz a0s x24⟩ Qa (sL Qd Qa ?_)))
  exact KQ (wi (l31+1)) Qa
 rintro _
 show QV (Yo n a0s) _ _ _ _ _ _
 unfold Yo
 refine ZR (fun _=>⟨[qq 1],ZF a0s⟩:Unit→St) (fun _=>Yn n a0s) ?_ ?_
 ·rintro _
  show QV (Yn n a0s) _ _ _ _ _ _
  unfold Yn
  refine sS (Qg Qd ⟨[qq 1,(9,I 0)],ZF a0s⟩ Qa (sB (QI (fun l12=>(ic l12 a0s):Int→St) (Xg Qa) ?_)))
  rintro recl12 l12
  show QV (Vj n a0s recl12 l12) _ _ _ _ _ _
  unfold Vj
  refine sS (Qg Qd ⟨[qq 1,(9,I l12),(144,B (QO l12 (Qc (VJ a0s.Bays))))],ZF a0s⟩ Qa (sC (QO l12 (Qc (VJ a0s.Bays))) Qa ?_ ?_))
  rotate_left
  ·refine Qz (ZW (KM (QW (Qp ⟨[],[]⟩ Qa (Qg Qd ⟨[(2,B true)],[]⟩ Qa (sT ?_))))))
   exact qR (.id) Qa Qa Qa
  refine sK (Qp (ic l12 a0s) Qa (sS (sB (sS (Vq Qd rfl (xR 3 Qa ?_))))))
  refine xG Qa Qa (QN (e:=58) (S:=2) (enc:=Zi.cs) (l:=a0s.Bays) (k:=.i64) (n:=l12) (sv:=.p (.sl 2 (VJ a0s.Bays))) rfl Qa Qa Qa Qa Qa) (fun x13=>?_)
  refine xR 6 Qa ?_
  refine xC [] Qa (QJ n x13.Charger 0 (wi ((Qc (Gq a0s.Chargers)) - 1))) Qa Qa QS (fun r14=>?_)
  refine xR 1 Qa (YB Qa (Qp ⟨[qq 1,(9,I l12),(158,B (!r14))],ZF a0s⟩ Qa (sC (!r14) Qa ?_ ?_)))
  ·refine Qg Qd ⟨[(2,B false)],[]⟩ Qa (sT (Zd (Q7 (KH (Zd (Q7 ?_))))))
   exact qR (.id) Qa Qa Qa
  refine sK (Q6 (Qp (ic l12 a0s) Qa (sL Qd Qa ?_)))
  exact KQ (wi (l12+1)) Qa
 refine Qg Qd ⟨[qq 1,(7,I 0)],ZF a0s⟩ Qa (sB (QI (fun l15=>(ig l15 a0s):Int→St) (Xg Qa) ?_))
 rintro recl15 l15
 show QV (Vk n a0s recl15 l15) _ _ _ _ _ _
 unfold Vk
 refine sS (Qg Qd ⟨[qq 1,(7,I l15),(109,B (QO l15 (Qc (Gq a0s.Chargers))))],ZF a0s⟩ Qa (sC (QO l15 (Qc (Gq a0s.Chargers))) Qa ?_ ?_))
 rotate_left
 ·refine Qz (ZW (KM (QW ?_)))
  exact KQ (k:=fun _=>Yn n a0s) () Qa
 refine sK (Qp (ig l15 a0s) Qa (sS (sB (sS (sG (xR 3 Qa ?_))))))
 refine xG Qa Qa (QN (e:=56) (S:=8) (enc:=ZY.cs) (l:=a0s.Chargers) (k:=.i64) (n:=l15) (sv:=.p (.sl 8 (Gq a0s.Chargers))) rfl Qa Qa Qa Qa Qa) (fun x16=>?_)
 refine xR 3 Qa (xE (Qp ⟨[qq 1,(7,I l15),qq 8],[(1,Wq a0s),(8,Sl x16)]⟩ Qa (K6 (fun j17=>⟨[qq 1,(7,I l15),(139,B j17)],ZF a0s⟩:Bool→St) ?_ ?_)))
 rotate_left
 ·rintro j17
  refine sC j17 Qa ?_ ?_
  ·refine Qg Qd ⟨[(2,B false)],[]⟩ Qa (sT (Zd (Q7 (KH (Zd (KH ?_))))))
   exact qR (.id) Qa Qa Qa
  refine sK (Q6 (Qp (ig l15 a0s) Qa (sL Qd Qa ?_)))
  exact KQ (wi (l15+1)) Qa
 refine sG (xR 1 Qa ?_)
 refine xC [] Qa (Dv n x16) Qa Qa QS (fun r18=>?_)
 refine xR 2 Qa ?_
 refine xS (!r18) (fun h19=>?_) (fun h19=>?_)
 ·refine xN (Qx Qa h19) Qa (xR 18 Qa (xE ?_))
  exact QQ true Qa
 refine xO (Qw Qa h19) Qa (xR 5 Qa ?_)
 refine xC [] Qa (QJ n x16.At 0 (wi ((Qc (Gg a0s.Conductors)) - 1))) Qa Qa QS (fun r20=>?_)
 refine xR 3 Qa ?_
 refine xS (!r20) (fun h21=>?_) (fun h21=>?_)
 ·refine xN (Qx Qa h21) Qa (xR 8 Qa (xE ?_))
  exact QQ true Qa
 refine xO (Qw Qa h21) Qa (xR 5 Qa ?_)
 refine xC [] Qa (QJ n x16.Owner 0 (wi ((Qc (Kq a0s.Owners)) - 1))) Qa Qa QS (fun r22=>?_)
 refine xR 2 Qa (xE ?_)
 exact QQ (!r22) Qa
def Wz (n:Nat) (a0s:Qm):Option (Int × Int × Int × Int × Int × Int) :=
 some (Qc (List.map ZJ.cs a0s.Conductors),Qc (List.map Zb.cs a0s.Owners),Qc (List.map ZT.cs a0s.Contracts),Qc (List.map ZY.cs a0s.Chargers),Qc (List.map Zi.cs a0s.Bays),0)
theorem M7 (n:Nat) (a0s:Qm):∀ r,Wz n a0s=some r→Q9 Tryz.prog 14 [ag (Qm.cs a0s)] (.ret (.agg [I r.1,I r.2.1,I r.2.2.1,I r.2.2.2.1,I r.2.2.2.2.1,I r.2.2.2.2.2])):=by
 refine Qs (X:=fun r:Int × Int × Int × Int × Int × Int=>QX.ret (.agg [I r.1,I r.2.1,I r.2.2.1,I r.2.2.2.1,I r.2.2.2.2.1,I r.2.2.2.2.2])) Tryz.func14 rfl Tryz.ntmps14 rfl ?_
 unfold Wz
 refine Qg Qd ⟨[qq 1,qq 2],[(1,Wq a0s),(2, .box 38 [I 0,I 0,I 0,I 0,I 0,I 0])]⟩ Qa (Qg Qd ⟨[qq 2],[(2, .box 38 [I (Qc (Gg a0s.Conductors)),I (Qc (Kq a0s.Owners)),I (Qc (Ht a0s.Contracts)),I (Qc (Gq a0s.Chargers)),I (Qc (VJ a0s.Bays)),I 0])]⟩ Qa (sT ?_))
 exact qR (.id) Qa Qa Qa
def K5 (n:Nat) (a0n:GN):Option Bool :=
 (Xv n).bind fun r1 =>
 (Uk n a0n 400).bind fun r2 =>
 cond (!r2)
  (some r1)
  ((YG n a0n).bind fun r3 =>
  cond (QO 0 (Qc (List.map ZX.cs r3.2)))
   ((cond r1
    ((Jr n r3.1 (⟨[],[],[],[],[]⟩:Qm)).bind fun r6 =>
    cond r6
     (some (leI (Qc (List.map ZX.cs r3.2)) 20))
     (some false))
    (some false)).bind fun j4 =>
   some j4)
   ((VT n a0n).bind fun r8 =>
   cond r1
    ((Wy n r3.1).bind fun r10 =>
    cond r10
     ((Vg n r3.1).bind fun r12 =>
     cond r12
      ((Wz n r3.1).bind fun r14 =>
      some (Xx (zI 6 [r14.1,r14.2.1,r14.2.2.1,r14.2.2.2.1,r14.2.2.2.2.1,r14.2.2.2.2.2] [r8.1,r8.2.1,r8.2.2.1,r8.2.2.2.1,r8.2.2.2.2.1,0])))
      (some false))
     (some false))
    (some false)))
def mZ:=fun x0 x1=>([(1, .box 24 (Ya (GN.cs x0))),(4, .box 33 (Ya (Qm.cs x1)))]:List (Nat × Blk))
def QbC:=fun x0 x1 x2 x3 x4 x5 x6 x7=>(⟨[(3,B x0),(4, .ptr 4 0),(6, .ptr 6 0)],[(4, .box 33 (Ya (Qm.cs x1))),(6,(ru x2 x3 x4 x5 x6 x7))]⟩:St)
theorem Lr (n:Nat) (a0n:GN):∀ r,K5 n a0n=some r→Q9 Tryz.prog 3 [ag (GN.cs a0n)] (.ret (B r)):=by
 refine Qs (X:=fun r:Bool=>QX.ret (B r)) Tryz.func3 rfl Tryz.ntmps3 rfl ?_
 unfold K5
 refine Qg Qd ⟨[qq 1],Lp a0n⟩ Qa (sS (sG ?_))
 refine xC [] Qa (NQ n) Qa Qa QS (fun r1=>?_)
 refine xR 1 Qa (xE (Qp ⟨[qq 1,(3,B r1)],Lp a0n⟩ Qa (sS (sS (sG (xR 1 Qa ?_))))))
 refine xC [] Qa (Sn n a0n 400) Qa Qa QS (fun r2=>?_)
 refine xR 1 Qa (xE (Qp ⟨[qq 1,(3,B r1),(10,B (!r2))],Lp a0n⟩ Qa (sC (!r2) Qa ?_ ?_)))
 ·refine Qg Qd ⟨[(2,B r1)],[]⟩ Qa (sT (Q7 ?_))
  exact qR (.id) Qa Qa Qa
 refine sK (Qp ⟨[qq 1,(3,B r1)],Lp a0n⟩ Qa (sS (sG (xR 1 Qa ?_))))
 refine xC [] Qa (Wp n a0n) Qa Qa QS (fun r3=>?_)
 refine xR 6 Qa (xE (Qp ⟨[qq 1,(3,B r1),qq 4,(5, .p (.sl 2 (Wm r3.2)))],mZ a0n r3.1⟩ Qa (sS (Qg Qd ⟨[qq 1,(3,B r1),qq 4,(5, .p (.sl 2 (Wm r3.2))),(19,B (QO 0 (Qc (Wm r3.2))))],mZ a0n r3.1⟩ Qa (sC (QO 0 (Qc (Wm r3.2))) Qa ?_ ?_)))))
 ·refine K6 (fun j4=>⟨[(2,B j4)],[]⟩:Bool→St) ?_ ?_
  rotate_left
  ·rintro j4
   refine sT (Q7 ?_)
   exact qR (.id) Qa Qa Qa
  refine sG (xR 2 Qa ?_)
  refine xS r1 (fun h5=>?_) (fun h5=>?_)
  ·refine xO (Qq Qa h5) Qa (xR 1 Qa ?_)
   refine xC [.id, .agg [.sl 11, .sl 1, .sl 4, .sl 8, .sl 2]] Qa (NR n r3.1 (⟨[],[],[],[],[]⟩:Qm)) Qa Qa QS (fun r6=>?_)
   refine xR 2 Qa ?_
   refine xS r6 (fun h7=>?_) (fun h7=>?_)
   ·refine xO (Qq Qa h7) Qa (xR 4 Qa (xE ?_))
    exact QQ (leI (Qc (Wm r3.2)) 20) Qa
   refine xN (Qr Qa h7) Qa (xR 4 Qa (xE ?_))
   exact QQ false Qa
  refine xN (Qr Qa h5) Qa (xR 9 Qa (xE ?_))
  exact QQ false Qa
 refine sK (Qp ⟨[qq 1,(3,B r1),qq 4],mZ a0n r3.1⟩ Qa (sS (sG (xR 1 Qa ?_))))
 refine xC [] Qa (Bw n a0n) Qa Qa QS (fun r8=>?_)
 refine xR 2 Qa (xE (Qp (QbC r1 r3.1 r8.1 r8.2.1 r8.2.2.1 r8.2.2.2.1 r8.2.2.2.2.1 r8.2.2.2.2.2) Qa (Qg Qd (QbC r1 r3.1 r8.1 r8.2.1 r8.2.2.1 r8.2.2.2.1 r8.2.2.2.2.1 0) Qa (sS (Vq Qd rfl (xR 2 Qa ?_))))))
 refine xS r1 (fun h9=>?_) (fun h9=>?_)
 rotate_left
 ·refine xN (Qr Qa h9) Qa (xR 13 Qa (YB Qa (Qp ⟨[(2,B false)],[]⟩ Qa (sT ?_))))
  exact qR (.id) Qa Qa Qa
 refine xO (Qq Qa h9) Qa ?_
 refine xC [] Qa (M6 n r3.1) Qa Qa QS (fun r10=>?_)
 refine xR 2 Qa ?_
 refine xS r10 (fun h11=>?_) (fun h11=>?_)
 rotate_left
 ·refine xN (Qr Qa h11) Qa (xR 9 Qa (YB Qa (Qp ⟨[(2,B false)],[]⟩ Qa (sT ?_))))
  exact qR (.id) Qa Qa Qa
 refine xO (Qq Qa h11) Qa ?_
 refine xC [] Qa (Uw n r3.1) Qa Qa QS (fun r12=>?_)
 refine xR 2 Qa ?_
 refine xS r12 (fun h13=>?_) (fun h13=>?_)
 ·refine xO (Qq Qa h13) Qa ?_
  refine xC [] Qa (M7 n r3.1) Qa Qa QS (fun r14=>?_)
  refine xR 1 Qa (bQ Qa Qa (lV (e:=3) (n:=6) (xs:=[r14.1,r14.2.1,r14.2.2.1,r14.2.2.2.1,r14.2.2.2.2.1,r14.2.2.2.2.2]) (ys:=[r8.1,r8.2.1,r8.2.2.1,r8.2.2.2.1,r8.2.2.2.2.1,0]) Qa rfl Qa Qa Qa Qa Qa Qa Qa Qa ⟨rfl,rfl⟩ (xR 2 Qa (xE (Qp ⟨[(2,B (Xx (zI 6 [r14.1,r14.2.1,r14.2.2.1,r14.2.2.2.1,r14.2.2.2.2.1,r14.2.2.2.2.2] [r8.1,r8.2.1,r8.2.2.1,r8.2.2.2.1,r8.2.2.2.2.1,0])))],[]⟩ Qa (sT ?_))))))
  exact qR (.id) Qa Qa Qa
 refine xN (Qr Qa h13) Qa (xR 5 Qa (YB Qa (Qp ⟨[(2,B false)],[]⟩ Qa (sT ?_))))
 exact qR (.id) Qa Qa Qa
structure ry where
 Kind:Int
 Days:Int
 From:Int
 To:Int
 Price:Int
 Unit:Int
 Free:Int
deriving DecidableEq
def ry.cs (x:ry):List PV:=[VI x.Kind,VI x.Days,VI x.From,VI x.To,VI x.Price,VI x.Unit,VI x.Free]
structure GTr where
 article:ry
 values:List (List PV)
 good:Bool
def GTr.cs (x:GTr):List PV:=[VI x.article.Kind,VI x.article.Days,VI x.article.From,VI x.article.To,VI x.article.Price,VI x.article.Unit,VI x.article.Free, .sl 5 (List.map KP x.values),VB x.good]
structure GTf where
 Name:List UInt8
 Articles:List ry
deriving DecidableEq
def GTf.cs (x:GTf):List PV:=[VS x.Name, .sl 7 (List.map ry.cs x.Articles)]
structure sV where
 At:Int
 Offset:Int
deriving DecidableEq
def sV.cs (x:sV):List PV:=[VI x.At,VI x.Offset]
structure GCl where
 Offset:Int
 Changes:List sV
 Holidays:List Int
deriving DecidableEq
def GCl.cs (x:GCl):List PV:=[VI x.Offset, .sl 2 (List.map sV.cs x.Changes), .sl 1 (List.map ci x.Holidays)]
structure BA where
 Tariff:GTf
 calendar:GCl
 from_:Int
 to_:Int
deriving DecidableEq
def BA.cs (x:BA):List PV:=[VS x.Tariff.Name, .sl 7 (List.map ry.cs x.Tariff.Articles),VI x.calendar.Offset, .sl 2 (List.map sV.cs x.calendar.Changes), .sl 1 (List.map ci x.calendar.Holidays),VI x.from_,VI x.to_]
structure sW where
 Minute:Int
 Energy:Int
deriving DecidableEq
def sW.cs (x:sW):List PV:=[VI x.Minute,VI x.Energy]
structure GSs where
 From:Int
 To:Int
 End:Int
 Slices:List sW
deriving DecidableEq
def GSs.cs (x:GSs):List PV:=[VI x.From,VI x.To,VI x.End, .sl 2 (List.map sW.cs x.Slices)]
structure Sr where
 Article:Int
 Amount:Int
deriving DecidableEq
def Sr.cs (x:Sr):List PV:=[VI x.Article,VI x.Amount]
structure w9 where
 Lines:List Sr
 Net:Int
 Tax:Int
 Total:Int
deriving DecidableEq
def w9.cs (x:w9):List PV:=[.sl 2 (List.map Sr.cs x.Lines),VI x.Net,VI x.Tax,VI x.Total]
structure GBB where
 article:ry
 calendar:GCl
 session:GSs
deriving DecidableEq
def GBB.cs (x:GBB):List PV:=[VI x.article.Kind,VI x.article.Days,VI x.article.From,VI x.article.To,VI x.article.Price,VI x.article.Unit,VI x.article.Free,VI x.calendar.Offset, .sl 2 (List.map sV.cs x.calendar.Changes), .sl 1 (List.map ci x.calendar.Holidays),VI x.session.From,VI x.session.To,VI x.session.End, .sl 2 (List.map sW.cs x.session.Slices)]
structure JM where
 Serial:Int
 Number:Int
 Minute:Int
 Register:Int
 Link:Int
deriving DecidableEq
def JM.cs (x:JM):List PV:=[VI x.Serial,VI x.Number,VI x.Minute,VI x.Register,VU x.Link]
structure y9 where
 Tariff:GTf
 Calendar:GCl
 Readings:List JM
 Seed:Int
 Session:GSs
 Bill:w9
deriving DecidableEq
def y9.cs (x:y9):List PV:=[VS x.Tariff.Name, .sl 7 (List.map ry.cs x.Tariff.Articles),VI x.Calendar.Offset, .sl 2 (List.map sV.cs x.Calendar.Changes), .sl 1 (List.map ci x.Calendar.Holidays), .sl 5 (List.map JM.cs x.Readings),VU x.Seed,VI x.Session.From,VI x.Session.To,VI x.Session.End, .sl 2 (List.map sW.cs x.Session.Slices), .sl 2 (List.map Sr.cs x.Bill.Lines),VI x.Bill.Net,VI x.Bill.Tax,VI x.Bill.Total]
structure GAE where
 Claim:y9
 follows:GSs
 bill:w9
 rate:Int
deriving DecidableEq
def GAE.cs (x:GAE):List PV:=[VS x.Claim.Tariff.Name, .sl 7 (List.map ry.cs x.Claim.Tariff.Articles),VI x.Claim.Calendar.Offset, .sl 2 (List.map sV.cs x.Claim.Calendar.Changes), .sl 1 (List.map ci x.Claim.Calendar.Holidays), .sl 5 (List.map JM.cs x.Claim.Readings),VU x.Claim.Seed,VI x.Claim.Session.From,VI x.Claim.Session.To,VI x.Claim.Session.End, .sl 2 (List.map sW.cs x.Claim.Session.Slices), .sl 2 (List.map Sr.cs x.Claim.Bill.Lines),VI x.Claim.Bill.Net,VI x.Claim.Bill.Tax,VI x.Claim.Bill.Total,VI x.follows.From,VI x.follows.To,VI x.follows.End, .sl 2 (List.map sW.cs x.follows.Slices), .sl 2 (List.map Sr.cs x.bill.Lines),VI x.bill.Net,VI x.bill.Tax,VI x.bill.Total,VI x.rate]
def IG (n:Nat) (a0w:List UInt8):Option Bool :=
 (cond (QP a0w [102,101,101,100,101,114])
  (some (QP a0w [102,101,101,100,101,114]))
  (cond (QP a0w [99,97,98,108,101])
   (some (QP a0w [99,97,98,108,101]))
   (cond (QP a0w [111,119,110,101,114])
    (some (QP a0w [111,119,110,101,114]))
    (cond (QP a0w [99,111,110,116,114,97,99,116])
     (some (QP a0w [99,111,110,116,114,97,99,116]))
     (cond (QP a0w [99,104,97,114,103,101,114])
      (some (QP a0w [99,104,97,114,103,101,114]))
      (cond (QP a0w [98,97,121])
       (some (QP a0w [98,97,121]))
       (some (QP a0w [116,97,114,105,102,102])))))))).bind fun j1 =>
 cond j1
  (some true)
  ((cond (QP a0w [108,105,109,105,116])
   (some (QP a0w [108,105,109,105,116]))
   (cond (QP a0w [110,101,117,116,114,97,108])
    (some (QP a0w [110,101,117,116,114,97,108]))
    (cond (QP a0w [102,117,115,101])
     (some (QP a0w [102,117,115,101]))
     (cond (QP a0w [116,104,101,114,109,97,108])
      (some (QP a0w [116,104,101,114,109,97,108]))
      (cond (QP a0w [102,114,111,109])
       (some (QP a0w [102,114,111,109]))
       (cond (QP a0w [97,116])
        (some (QP a0w [97,116]))
        (cond (QP a0w [112,104,97,115,101,115])
         (some (QP a0w [112,104,97,115,101,115]))
         (cond (QP a0w [97,109,112,115])
          (some (QP a0w [97,109,112,115]))
          (cond (QP a0w [102,97,108,108,98,97,99,107])
           (some (QP a0w [102,97,108,108,98,97,99,107]))
           (cond (QP a0w [99,97,114,100])
            (some (QP a0w [99,97,114,100]))
            (some (QP a0w [114,97,110,107])))))))))))).bind fun j2 =>
  cond j2
   (some true)
   ((cond (QP a0w [115,116,97,114,116])
    (some (QP a0w [115,116,97,114,116]))
    (cond (QP a0w [101,110,101,114,103,121])
     (some (QP a0w [101,110,101,114,103,121]))
     (cond (QP a0w [116,105,109,101])
      (some (QP a0w [116,105,109,101]))
      (cond (QP a0w [105,100,108,101])
       (some (QP a0w [105,100,108,101]))
       (cond (QP a0w [99,97,112])
        (some (QP a0w [99,97,112]))
        (some (QP a0w [116,97,120]))))))).bind fun j3 =>
   cond j3
    (some true)
    ((cond (QP a0w [111,110])
     (some (QP a0w [111,110]))
     (cond (QP a0w [119,111,114,107])
      (some (QP a0w [119,111,114,107]))
      (cond (QP a0w [115,97,116,117,114,100,97,121])
       (some (QP a0w [115,97,116,117,114,100,97,121]))
       (cond (QP a0w [115,117,110,100,97,121])
        (some (QP a0w [115,117,110,100,97,121]))
        (cond (QP a0w [98,101,116,119,101,101,110])
         (some (QP a0w [98,101,116,119,101,101,110]))
         (cond (QP a0w [112,101,114])
          (some (QP a0w [112,101,114]))
          (some (QP a0w [102,114,101,101])))))))).bind fun j4 =>
    cond j4
     (some true)
     (some false))))
structure GLs where
 from_:Int
 to_:Int
deriving DecidableEq
def GLs.cs (x:GLs):List PV:=[VI x.from_,VI x.to_]
end Go.Proofs
namespace Go.Proofs
open Go Go.Abs Go.ChangeShapes Go.WideShapes Go.ChangeAt Go.RowKit Go.Proofs.YteakahdpnpecoaaGreat
set_option maxRecDepth 100000
def GN.wfd:Nat→GN→Prop
 | 0,_=>False
 | d+1,x=>fZ x.Kind∧Qau x.Name∧fZ x.N∧fZ x.At∧(List.length x.Kids≤maxLen∧∀ k ∈ x.Kids,∃ y:GN,k=GN.cs y∧GN.wfd d y)
theorem GN.wfd_succ:∀ (d:Nat) (x:GN),GN.wfd d x→GN.wfd (d+1) x
 | 0,_,h=>h.elim
 | d+1,x,h=>by
  obtain ⟨h0,h1,h2,h3,h4⟩:=h
  exact ⟨h0,h1,h2,h3,⟨h4.1,fun k hk=>by obtain ⟨y,e,g⟩:=h4.2 k hk; exact ⟨y,e,GN.wfd_succ d y g⟩⟩⟩
theorem sZ:∀ (d:Nat) (cs:List PV),Sh Tryz.prog d 24 cs→∃ r:GN,cs=GN.cs r∧GN.wfd d r
 | 0,_,h=>h.elim
 | 1,cs,h=>by
  have h:=Iq Tryz.underlying24 h
  obtain ⟨_,_,rfl,h0,_,_,rfl,h1,_,_,rfl,h2,_,_,rfl,h3,_,_,rfl,h4,rfl⟩:=h
  exact h0.elim
 | d+2,cs,h=>by
  have h:=Iq Tryz.underlying24 h
  obtain ⟨_,_,rfl,h0,_,_,rfl,h1,_,_,rfl,h2,_,_,rfl,h3,_,_,rfl,h4,rfl⟩:=h
  obtain ⟨x0,rfl,w0⟩:=yM Tryz.underlying3 h0
  obtain ⟨x1,rfl,w1⟩:=lS Tryz.underlying9 h1
  obtain ⟨x2,rfl,w2⟩:=yM Tryz.underlying3 h2
  obtain ⟨x3,rfl,w3⟩:=yM Tryz.underlying3 h3
  simp only [Sh,Tryz.underlying22] at h4
  obtain ⟨x4,rfl,w4,g4⟩:=h4
  refine ⟨⟨x0,x1,x2,x3,x4⟩,?_,w0,w1,w2,w3,w4,fun k hk=>?_⟩
  ·simp only [GN.cs,Ot,show Tryz.prog.cellsOf 24=5 from by kernel_rfl,List.cons_append,List.nil_append,List.append_nil]
  ·obtain ⟨y,e,g⟩:=sZ d k (g4 k hk)
   exact ⟨y,e,GN.wfd_succ d y g⟩
theorem ng {d:Nat} {cs:List PV} (h:Sh Tryz.prog d 24 cs):∃ r:GN,cs=GN.cs r∧∃ d,GN.wfd d r:=by
 obtain ⟨r,e,g⟩:=sZ d cs h
 exact ⟨r,e,d,g⟩
def Ux:Prop:=∀ (a0:GN),(fun x=>∃ d,GN.wfd d x) a0→∃ n,K5 n a0=some true
theorem NT (h:Ux):∀ (D:Nat) xs,Mv Tryz.prog (D+9) Tryz.f3.params.toList xs→Q9 Tryz.prog 3 xs (.ret (.p (.val (.bool true)))):=by
 intro D xs ha
 rw [Tryz.params3] at ha
 obtain ⟨_,_,rfl,h0,rfl⟩:=ha
 obtain ⟨a0,rfl,w0⟩:=ng h0
 obtain ⟨n,hn⟩:=h a0 w0
 simp only [zD Tryz.underlying24]
 exact Lr n a0 true hn
set_option maxRecDepth 100000 in
theorem BB (h:Ux) (os:Os) (started:os.Started) (H:Type) (enc:TypeId × Value→H) :
  ReturnsInHanded {} Tryz.checked os 3 .any (Rows.siteBuildsSpec.pre6 enc Tryz.prog Tryz.f3 Rows.siteBuildsRow.domain false) (Rows.siteBuildsSpec.post enc Tryz.prog Tryz.f3 false true false false):=by
 refine returnsInHanded_of_change (C:=Tryz.checked) Qa started Qa Tryz.func3
  (ChangeSpec.witness6 (enc:=enc) (C:=Tryz.checked) false ⟨#[],#[.agg #[.int .i64 0, .string ⟨#[]⟩, .int .i64 0, .int .i64 0, .slice none 0 0]],[]⟩ 8 Qa Qa Qa Qa) ?_
 intro W base args ds gs before hval hW _ _
 exact Ac (P:=Tryz.prog) (f:=3) (fn:=Tryz.f3) (s:=Rows.siteBuildsSpec) (tb:=4) (TS:=[3,9,22,24]) Qa Qa Qa Qa Qa Tryz.underlying4 rfl
  (fun ds hd=>by
   have hd:ds.length=1:=by rw [hd,show Tryz.f3.params.size=1 from by kernel_rfl]
   match ds,hd with
   | [d0],_=>rfl)
  (NT h) hval hW
theorem NU (h:Ux):Rows.SiteBuildsSaid :=
 OpenClaim.holds_of_wide 3 Tryz.f3 rfl rfl rfl rfl rfl rfl rfl ⟨rfl,rfl,rfl,rfl,rfl⟩ rfl rfl rfl rfl rfl Qa Tryz.func3 Qa
  (of_decide_eq_true Qa) (by unfold Func.isWrapper; first | (rw [if_pos (by decide +kernel)]; kernel_rfl) | (rw [if_neg (by decide +kernel)]; exact ⟨rfl,rfl⟩))
  (fun os started H enc _=>BB h os started H enc)
end Go.Proofs
namespace Go.Proofs
open Go Go.Abs
set_option maxRecDepth 100000
def Does {α:Type} (m:Option α) (Q:α→Prop):Prop:=∃ r,m=some r∧Q r
section
variable {α β V R E:Type}
theorem QG {x:α} {Q:α→Prop} (h:Q x):Does (some x) Q:=⟨x,rfl,h⟩
theorem BC {m:Option α} {x:α} {Q:α→Prop} (h:m=some x) (hq:Q x):Does m Q:=⟨x,h,hq⟩
theorem Yp {m:Option α} {Q Q':α→Prop} (h:Does m Q) (hq:∀ x,Q x→Q' x):Does m Q':=by obtain ⟨x,e,h⟩:=h; exact ⟨x,e,hq x h⟩
theorem XV {m:Option α} {k:α→Option β} {Q:α→Prop} {Q':β→Prop} (h:Does m Q) (hk:∀ x,Q x→Does (k x) Q'):Does (m.bind k) Q':=by
 obtain ⟨x,rfl,h⟩:=h
 exact hk x h
theorem xW {b:Bool} {x y:Option α} {Q:α→Prop} (h1:b=true→Does x Q) (h2:b=false→Does y Q):Does (cond b x y) Q:=by
 cases b
 ·exact h2 rfl
 ·exact h1 rfl
theorem WA {B:(V→Option R)→V→Option R} {Q:V→R→Prop} (μ:V→Nat) (Inv:V→Prop)
  (hB:∀ rec v,Inv v→(∀ v',Inv v'→μ v' < μ v→Does (rec v') (Q v'))→Does (B rec v) (Q v)):∀ {n:Nat} {v:V},Inv v→μ v < n→Does (QZ B n v) (Q v)
 | 0,_,_,h=>absurd h (Nat.not_lt_zero _)
 | n+1,v,hv,h=>hB _ v hv (fun v' h1 h2=>WA μ Inv hB h1 zo)
end
theorem Zp {α:Type} {l:List α} {i:Nat}:Q8 l (i:Int)=l[i]?:=by
 unfold Q8; rw [if_neg zo]; simp
theorem KG {x:Int} (h1:-9223372036854775808≤x) (h2:x≤9223372036854775807):wi x=x:=by
 simp [wi,IntKind.wrap,IntKind.signed,IntKind.bits]; omega
def QcQ (a r:JM):Bool:=if r.Serial=a.Serial then decide (a.Minute≤r.Minute∧a.Register≤r.Register) else decide (r.Minute=a.Minute)
def QcR (s x k:Int):Int:=wu ((pE .u64 s (pu .u64 (tY .u64 (wu x) k) 255)) * 1099511628211)
def QcS (s x:Int):Int:=[56,48,40,32,24,16,8,0].foldl (fun s k=>QcR s x k) s
def QbF (s:Int) (r:JM):Int:=[r.Serial,r.Number,r.Minute,r.Register].foldl QcS s
def ni (seed:Int) (l:List JM) (i:Nat):Int:=if i=0 then seed else ((l[i - 1]?).map (·.Link)).getD 0
def rz (seed:Int) (l:List JM) (i:Nat):Prop:=∀ r ∈ l[i]?,(1≤r.Serial∧r.Serial≤1000000)∧r.Number=i+1∧(0≤r.Minute∧r.Minute≤52560000)∧(0≤r.Register∧r.Register≤1000000000) ∧
 (i ≠ 0→∀ a ∈ l[i - 1]?,QcQ a r=true)∧r.Link=QbF (ni seed l i) r
def chainOk (seed:Int) (l:List JM):Prop:=(1≤l.length∧l.length≤64)∧∀ i,i < l.length→rz seed l i
theorem YK (x y:Int):Qi x y=decide (x=y):=by unfold Qi; by_cases h:x=y <;> simp [h]
theorem Kh {α:Type} {b:Bool} {x y:α}:cond b (some x) (some y)=some (cond b x y):=by cases b <;> rfl
def M8 (w:List UInt8):Bool:=(IG 0 w).getD false
def Ls (x:UInt8):Bool:=decide ((97≤Y2 x∧Y2 x≤122)∨(48≤Y2 x∧Y2 x≤57)∨Y2 x=95)
def Wu (s:List UInt8):Bool:=decide (1≤s.length∧s.length≤12)&&decide (∀ x ∈ s.head?,97≤Y2 x∧Y2 x≤122)&&!M8 s&&s.all Ls
theorem II {α R:Type} {l:List α} {B:(Int→Option R)→Int→Option R} {F:List α→R} (hlen:l.length≤4611686018427387904)
  (hend:∀ rec,B rec (l.length:Int)=some (F []))
  (hstep:∀ (rec:Int→Option R) (i:Nat) (x:α) (r:List α),l.drop i=x :: r→l[i]?=some x→i < l.length→wi ((i:Int)+1)=((i+1:Nat):Int)→(rec ((i+1:Nat):Int)=some (F r))→B rec (i:Int)=some (F (x :: r))) :
  ∀ {n:Nat} (i:Nat),i≤l.length→l.length - i < n→QZ B n (i:Int)=some (F (l.drop i))
 | 0,_,_,h=>absurd h (Nat.not_lt_zero _)
 | n+1,i,hi,h=>by
  unfold QZ
  by_cases he:i=l.length
  ·subst he; rw [hend]; simp
  ·have hlt:i < l.length:=by omega
   have hd:l.drop i=l[i] :: l.drop (i+1):=by rw [List.drop_eq_getElem_cons hlt]
   rw [hd]
   exact hstep _ i _ _ hd (by simp [hlt]) hlt (by rw [KG] <;> omega) (II hlen hend hstep (i+1) zo zo)
theorem rA (c:Int):(bif decide (97≤c) then bif decide (c≤122) then false else bif decide (48≤c) then bif decide (c≤57) then false else !(c == 95) else !(c == 95)
  else bif decide (48≤c) then bif decide (c≤57) then false else !(c == 95) else !(c == 95))=!decide ((97≤c∧c≤122)∨(48≤c∧c≤57)∨c=95):=by
 by_cases h1:97≤c <;> by_cases h2:c≤122 <;> by_cases h3:48≤c <;> by_cases h4:c≤57 <;> by_cases h5:c=95 <;> simp [h1,h2,h3,h4,h5] <;> omega
theorem Su {α R A V:Type} {l:List α} (S:A→Int→V) {B:(V→Option R)→V→Option R} {F:A→List α→R} (Inv:Nat→A→Prop) (hlen:l.length≤4611686018427387904)
  (hend:∀ rec a,Inv l.length a→B rec (S a (l.length:Int))=some (F a []))
  (hstep:∀ (rec:V→Option R) (a:A) (i:Nat) (x:α) (r:List α),Inv i a→l.drop i=x :: r→l[i]?=some x→i < l.length→wi ((i:Int)+1)=((i+1:Nat):Int)→(∀ a,Inv (i+1) a→rec (S a ((i+1:Nat):Int))=some (F a r))→B rec (S a (i:Int))=some (F a (x :: r))) :
  ∀ {n:Nat} (i:Nat) (a:A),Inv i a→i≤l.length→l.length - i < n→QZ B n (S a (i:Int))=some (F a (l.drop i))
 | 0,_,_,_,_,h=>absurd h (Nat.not_lt_zero _)
 | n+1,i,a,ha,hi,h=>by
  unfold QZ
  by_cases he:i=l.length
  ·subst he; rw [hend _ _ ha]; simp
  ·have hlt:i < l.length:=by omega
   have hd:l.drop i=l[i] :: l.drop (i+1):=by rw [List.drop_eq_getElem_cons hlt]
   rw [hd]
   exact hstep _ a i _ _ ha hd (by simp [hlt]) hlt (by rw [KG] <;> omega) (fun a ha=>Su S Inv hlen hend hstep (i+1) a ha zo zo)
theorem IJ {α R A V:Type} {l:List α} (S:A→Int→V) {B:(V→Option R)→V→Option R} {Q:A→List α→R→Prop} (Inv:Nat→A→Prop) (hlen:l.length≤4611686018427387904)
  (hend:∀ rec a,Inv l.length a→Does (B rec (S a (l.length:Int))) (Q a []))
  (hstep:∀ (rec:V→Option R) (a:A) (i:Nat) (x:α) (r:List α),Inv i a→l.drop i=x :: r→l[i]?=some x→i < l.length→wi ((i:Int)+1)=((i+1:Nat):Int)→(∀ a,Inv (i+1) a→Does (rec (S a ((i+1:Nat):Int))) (Q a r))→Does (B rec (S a (i:Int))) (Q a (x :: r))) :
  ∀ {n:Nat} (i:Nat) (a:A),Inv i a→i≤l.length→l.length - i < n→Does (QZ B n (S a (i:Int))) (Q a (l.drop i))
 | 0,_,_,_,_,h=>absurd h (Nat.not_lt_zero _)
 | n+1,i,a,ha,hi,h=>by
  unfold QZ
  by_cases he:i=l.length
  ·subst he; simpa using hend _ _ ha
  ·have hlt:i < l.length:=by omega
   have hd:l.drop i=l[i] :: l.drop (i+1):=by rw [List.drop_eq_getElem_cons hlt]
   rw [hd]
   exact hstep _ a i _ _ ha hd (by simp [hlt]) hlt (by rw [KG] <;> omega) (fun a ha=>IJ S Inv hlen hend hstep (i+1) a ha zo zo)
def ks:List Nat:=[56,48,40,32,24,16,8,0]
theorem QcT (n:Nat) (l:List (List UInt8)) (s:List UInt8) (hn:1000≤n) (hl:l.length≤900):Does (Jc n l s) (fun r=>leI 0 r=l.contains s):=by
 unfold Jc
 have:=IJ (l:=l) (fun (_:Unit) i=>i) (B:=fun recl1 l1=>Wx l s recl1 l1) (Q:=fun _ r x=>leI 0 x=r.contains s) (fun _ _=>True) zo ?_ ?_ (n:=n) 0 () trivial zo zo
 ·exact this
 ·intro rec a _
  simp only [Wx,Qc,List.length_map,QO]
  rw [Vw zo,cond_false]
  exact QG rfl
 ·intro rec a i x r _ hd hx hi hw hr
  simp only [Wx,Qc,List.length_map,QO,Zp,hx,Zr,QP]
  rw [WB zo,cond_true]
  by_cases h:x=s
  ·subst h
   rw [beq_self_eq_true,cond_true]
   refine QG ?_
   simp [leI]
  ·rw [show (x == s)=false from by simpa using h,cond_false,hw]
   refine Yp (hr () trivial) (fun y hy=>?_)
   rw [hy,List.contains_cons,show (s == x)=false from by simpa using fun e=>h e.symm,Bool.false_or]
def keyL:List (List UInt8):=((Vv 0).getD [])++(((K8 0).getD [])++(((Z6 0).getD [])++((K9 0).getD [])))
theorem cse (b c:Bool):(bif b then b else c)=(b||c):=by cases b <;> rfl
theorem iJ (b c:Bool):(bif b then true else c)=(b||c):=by cases b <;> rfl
def keyA:List (List UInt8):=[[102,101,101,100,101,114],[99,97,98,108,101],[111,119,110,101,114],[99,111,110,116,114,97,99,116],[99,104,97,114,103,101,114],[98,97,121],[116,97,114,105,102,102],[108,105,109,105,116],[110,101,117,116,114,97,108],[102,117,115,101],[116,104,101,114,109,97,108],[102,114,111,109],[97,116],[112,104,97,115,101,115],[97,109,112,115],[102,97,108,108,98,97,99,107],[99,97,114,100],[114,97,110,107],[115,116,97,114,116],[101,110,101,114,103,121],[116,105,109,101],[105,100,108,101],[99,97,112],[116,97,120],[111,110],[119,111,114,107],[115,97,116,117,114,100,97,121],[115,117,110,100,97,121],[98,101,116,119,101,101,110],[112,101,114],[102,114,101,101]]
theorem nk (s:List UInt8):M8 s=keyA.contains s:=by
 unfold M8 IG keyA
 simp only [Kh,Zr,Option.getD_some,cse,iJ,QP,List.contains_cons,List.contains_nil,Bool.or_assoc,Bool.or_false]
theorem zZ (s:List UInt8):M8 s=keyL.contains s:=by
 rw [nk,Bool.eq_iff_iff,List.contains_iff_mem,List.contains_iff_mem]
 have h1:∀ x ∈ keyA,x ∈ keyL:=by decide
 have h2:∀ x ∈ keyL,x ∈ keyA:=by decide
 exact ⟨h1 s,h2 s⟩
theorem rC (n:Nat) (s:List UInt8) (hn:1000≤n):Yy n s=some (decide (1≤s.length∧s.length≤12)&&!M8 s):=by
 unfold Yy Vv K8 Z6 K9
 simp only [Zr]
 rw [zZ]
 unfold keyL Vv K8 Z6 K9
 simp only [Option.getD_some]
 have e:=fun (l:List (List UInt8)) (hl:l.length≤900)=>QcT n l s hn hl
 obtain ⟨r1,e1,h1⟩:=e [[102,101,101,100,101,114],[99,97,98,108,101],[111,119,110,101,114],[99,111,110,116,114,97,99,116],[99,104,97,114,103,101,114],[98,97,121],[116,97,114,105,102,102]] (by decide)
 obtain ⟨r2,e2,h2⟩:=e [[108,105,109,105,116],[110,101,117,116,114,97,108],[102,117,115,101],[116,104,101,114,109,97,108],[102,114,111,109],[97,116],[112,104,97,115,101,115],[97,109,112,115],[102,97,108,108,98,97,99,107],[111,119,110,101,114],[99,97,114,100],[114,97,110,107],[99,104,97,114,103,101,114]] (by decide)
 obtain ⟨r3,e3,h3⟩:=e [[115,116,97,114,116],[101,110,101,114,103,121],[116,105,109,101],[105,100,108,101],[99,97,112],[116,97,120]] (by decide)
 obtain ⟨r4,e4,h4⟩:=e [[111,110],[119,111,114,107],[115,97,116,117,114,100,97,121],[115,117,110,100,97,121],[98,101,116,119,101,101,110],[112,101,114],[102,114,101,101]] (by decide)
 rw [e1,Zr,e2,Zr,e3,Zr,e4,Zr,h1,h2,h3,h4]
 have ha:∀ (a b:List (List UInt8)),(a++b).contains s=(a.contains s||b.contains s):=by intro a b; simp
 rw [ha,ha,ha]
 simp only [Kh,Zr,leI,Qc,iJ]
 generalize ((_:Bool)||_)=k
 by_cases c1:1≤s.length
 ·by_cases c2:s.length≤12
  ·rw [WB (show (1:Int)≤s.length by omega),WB (show (s.length:Int)≤12 by omega),WB (show 1≤s.length∧s.length≤12 from ⟨c1,c2⟩)]; rfl
  ·rw [WB (show (1:Int)≤s.length by omega),Vw (show ¬ (s.length:Int)≤12 by omega),Vw (show ¬ (1≤s.length∧s.length≤12) from fun h=>c2 h.2)]; rfl
 ·rw [Vw (show ¬ (1:Int)≤s.length by omega),Vw (show ¬ (1≤s.length∧s.length≤12) from fun h=>c1 h.1)]; rfl
theorem ja (c:Int) (z:Bool):(bif decide (c < 97) then bif z then true else bif decide (c < 48) then !decide (c=95) else bif decide (57 < c) then !decide (c=95) else false
  else bif decide (122 < c) then bif z then true else bif decide (c < 48) then !decide (c=95) else bif decide (57 < c) then !decide (c=95) else false else false)=!(bif z then decide (97≤c∧c≤122) else decide ((97≤c∧c≤122)∨(48≤c∧c≤57)∨c=95)):=by
 cases z <;> by_cases h1:c < 97 <;> by_cases h2:122 < c <;> by_cases h3:c < 48 <;> by_cases h4:57 < c <;> by_cases h5:c=95 <;> simp [h1,h2,h3,h4,h5] <;> omega
theorem ik (n:Nat) (s:List UInt8) (hn:1000≤n) (hl:s.length≤900):Xw n s=some (Wu s):=by
 unfold Xw
 have h1:∀ (rec:Int→Option Bool) (a:Unit),(1≤s.length∨s.length=0)→ZG n s rec (s.length:Int)=some (([]:List UInt8).all Ls&&(decide (1≤s.length∧s.length≤12)&&!M8 s)):=by
  intro rec a ha
  simp only [ZG,Qc,QO]
  rw [Vw zo,cond_false,rC n s hn]
  rfl
 have h2:∀ (rec:Int→Option Bool) (a:Unit) (i:Nat) (x:UInt8) (r:List UInt8),(1≤i∨s.length=0)→s.drop i=x :: r→s[i]?=some x→i < s.length→wi ((i:Int)+1)=((i+1:Nat):Int) →
   (∀ a:Unit,(1≤i+1∨s.length=0)→rec ((i+1:Nat):Int)=some (r.all Ls&&(decide (1≤s.length∧s.length≤12)&&!M8 s)))→ZG n s rec (i:Int)=some ((x :: r).all Ls&&(decide (1≤s.length∧s.length≤12)&&!M8 s)):=by
  intro rec a i x r ha hd hx hi hw hr
  simp only [ZG,Qc,QO,Zp,hx,Zr,hw,Kh,YK,ja]
  rw [WB zo,cond_true,Vw (show ¬ (i:Int)=0 by omega),cond_false,hr () (Or.inl zo),List.all_cons]
  show (bif !Ls x then some false else _)=_
  cases Ls x <;> rfl
 cases s with
 | nil =>
  have:=Su (l:=[]) (fun (_:Unit) i=>i) (F:=fun _ r=>r.all Ls&&(decide (1≤([]:List UInt8).length∧([]:List UInt8).length≤12)&&!M8 [])) (fun i _=>1≤i∨([]:List UInt8).length=0) zq h1 h2 (n:=n) 0 () (Or.inr rfl) zq (by simp; omega)
  rw [show ((0:Nat):Int)=0 from rfl] at this
  rw [this]; rfl
 | cons x r =>
  obtain ⟨m,rfl⟩:∃ m,n=m+1:=⟨n - 1,by omega⟩
  have hs:=Su (l:=x :: r) (fun (_:Unit) i=>i) (F:=fun _ q=>q.all Ls&&(decide (1≤(x :: r).length∧(x :: r).length≤12)&&!M8 (x :: r))) (fun i _=>1≤i∨(x :: r).length=0) zo h1 h2 (n:=m) 1 () (Or.inl (Nat.le_refl _)) zq (by simp at hl ⊢; omega)
  rw [show ((1:Nat):Int)=1 from rfl] at hs
  unfold QZ
  show ZG (m+1) (x :: r) (QZ (ZG (m+1) (x :: r)) m) 0=_
  generalize QZ (ZG (m+1) (x :: r)) m=L at hs ⊢
  unfold ZG
  rw [show Q8 (x :: r) 0=some x from rfl]
  simp only [Qc,QO,Zr,Kh,YK,ja,show wi (0+1)=1 from rfl]
  rw [hs,WB (show (0:Int) < ((x :: r).length:Nat) by simp),cond_true,decide_true,cond_true]
  unfold Wu
  simp only [List.head?_cons,Option.mem_def,Za,forall_eq',List.drop_succ_cons,List.drop_zero,List.all_cons]
  by_cases hx:97≤Y2 x∧Y2 x≤122
  ·rw [WB hx]
   have:Ls x=true:=by unfold Ls; rw [WB]; exact Or.inl hx
   rw [this]
   cases decide (1≤(x :: r).length∧(x :: r).length≤12) <;> cases M8 (x :: r) <;> cases r.all Ls <;> rfl
  ·rw [Vw hx]
   cases decide (1≤(x :: r).length∧(x :: r).length≤12) <;> rfl
theorem vg (n:Nat) (s:List UInt8) (hn:1000≤n):Xt n s=some (decide (1≤s.length∧s.length≤12)&&decide (∀ x ∈ s.head?,97≤Y2 x∧Y2 x≤122)&&s.all Ls):=by
 unfold Xt
 simp only [Qc,QO]
 cases s with
 | nil=>simp
 | cons x r =>
  rw [Vw (show ¬ (((x :: r).length:Nat):Int) < 1 by simp only [SC]; omega),cond_false]
  by_cases hl:(x :: r).length≤12
  rotate_left
  ·rw [WB (show (12:Int) < (((x :: r).length:Nat):Int) by omega),Vw (show ¬ (1≤(x :: r).length∧(x :: r).length≤12) by omega)]; rfl
  rw [Vw (show ¬ (12:Int) < (((x :: r).length:Nat):Int) by omega),cond_false,WB (show 1≤(x :: r).length∧(x :: r).length≤12 by simp only [SC] at hl ⊢; omega)]
  rw [show Q8 (x :: r) 0=some x from rfl]
  have hloop:QZ (fun recl7 l7=>Yt (x :: r) recl7 l7) n 1=some (r.all Ls):=by
   have:=II (l:=x :: r) (B:=fun recl7 l7=>Yt (x :: r) recl7 l7) (F:=fun r=>r.all Ls) zo ?_ ?_ (n:=n) 1 zq zo
   ·simpa using this
   ·intro rec; simp [Yt,QO,Qc]
   ·intro rec i y q hd hx hi hw hr
    unfold Yt
    simp only [Qc,Zp,hx,Zr,hw,hr,QO,leI,Qi,Kh]
    rw [WB zo,cond_true,List.all_cons]
    rw [rA,Ls]
    cases decide ((97≤Y2 y∧Y2 y≤122)∨(48≤Y2 y∧Y2 y≤57)∨Y2 y=95) <;> simp
  rw [hloop]
  simp only [Zr,Kh,List.head?_cons,Option.mem_def,Za,forall_eq',Bool.true_and,List.all_cons]
  by_cases h1:Y2 x < 97
  ·rw [WB h1,Vw (show ¬ (97≤Y2 x∧Y2 x≤122) by omega)]; rfl
  ·rw [Vw h1,cond_false]
   by_cases h2:122 < Y2 x
   ·rw [WB h2,Vw (show ¬ (97≤Y2 x∧Y2 x≤122) by omega)]; rfl
   ·have h3:97≤Y2 x∧Y2 x≤122:=by omega
    have h4:Ls x=true:=by unfold Ls; rw [WB]; exact Or.inl h3
    rw [Vw h2,WB h3,h4]; rfl
theorem il (b:Bool) (k r:Int) (hk:k ≠ 0):(!Qi (bif b then k else r) 0)=(b||!Qi r 0):=by
 cases b
 ·rfl
 ·simp [Qi,hk]
theorem rD (n:Nat) (s:List UInt8):UR n s=some (M8 s):=by
 unfold UR XQ V6 YI WV
 rw [zZ]
 simp only [Kh,Zr,cse,iJ,keyL,Vv,K8,Z6,K9,Option.getD_some,List.cons_append,List.nil_append,List.contains_cons,List.contains_nil,Bool.or_false,QP]
 rw [il _ 1 _ (by decide),il _ 2 _ (by decide),il _ 3 _ (by decide),il _ 4 _ (by decide),il _ 5 _ (by decide),il _ 6 _ (by decide),il _ 7 _ (by decide),show (!Qi 0 0)=false from rfl]
 simp only [Bool.or_assoc,Bool.or_false]
theorem Dw (n:Nat) (s:List UInt8) (hn:1000≤n):Jp n s=some (Wu s):=by
 unfold Jp Wu
 rw [vg n s hn,Zr,rD,Zr,Kh]
 generalize decide (1≤s.length∧s.length≤12)=a
 generalize decide (∀ x ∈ s.head?,97≤Y2 x∧Y2 x≤122)=b
 generalize s.all Ls=c
 generalize M8 s=d
 cases a <;> cases b <;> cases c <;> cases d <;> rfl
theorem nu (k:Int) (s:List UInt8) (m t:Int) (l:List (List PV)):GN.of (GN.cs ⟨k,s,m,t,l⟩)=some ⟨k,s,m,t,l⟩:=by
 unfold GN.cs GN.of
 simp only [Ot,RV,if_true]
theorem ny (n:Nat) (s:List UInt8) (hn:1000≤n):Xe n (⟨1,[],0,0,[GN.cs (⟨2,s,3,0,[]⟩:GN)]⟩:GN)=some (Wu s):=by
 obtain ⟨m,rfl⟩:∃ m,n=m+2:=⟨n - 2,by omega⟩
 have hitem:Vs (m+2) (⟨2,s,3,0,[]⟩:GN) 1498=some (Wu s,1498):=by
  unfold Vs
  rw [Dw (m+2) s hn]
  simp only [show (!Qi 2 2)=false from rfl,show QO 3 1=false from rfl,show QO 7 3=false from rfl,cond_false,Zr]
  cases Wu s
  ·rfl
  ·unfold QZ; rfl
 unfold Xe
 have e1:((bif !Qi 1 1 then some true else bif !QP [] [] then some true else bif !Qi 0 0 then some true else some (QO (wi (1499 - Qc (List.map KP [GN.cs (⟨2,s,3,0,[]⟩:GN)]))) 0)))=some false:=rfl
 have e2:wi (1499 - Qc (List.map KP [GN.cs (⟨2,s,3,0,[]⟩:GN)]))=1498:=rfl
 simp only
 rw [e1,Zr,cond_false,e2]
 unfold QZ
 simp only [We]
 rw [show QO 0 (Qc (List.map KP [GN.cs (⟨2,s,3,0,[]⟩:GN)]))=true from rfl,cond_true,show Q8 [GN.cs (⟨2,s,3,0,[]⟩:GN)] 0=some (GN.cs (⟨2,s,3,0,[]⟩:GN)) from rfl,Zr,nu,Zr,hitem,Zr]
 cases Wu s
 ·rfl
 ·unfold QZ; rfl
theorem rE {V R:Type} (B:(V→Option R)→V→Option R) (n:Nat) (v:V):QZ B (n+1) v=B (QZ B n) v:=rfl
def KE:Nat→GN→Prop
 | 0,_=>False
 | d+1,x=>(-9223372036854775808≤x.Kind∧x.Kind≤9223372036854775807)∧(-9223372036854775808≤x.N∧x.N≤9223372036854775807)∧(-9223372036854775808≤x.At∧x.At≤9223372036854775807)∧x.Name.length≤maxLen∧x.Kids.length≤maxLen∧∀ k ∈ x.Kids,∃ y,GN.of k=some y∧KE d y
def NF (d:Nat) (l:List (List PV)):Prop:=∀ k ∈ l,∃ y,GN.of k=some y∧KE d y
theorem ZP {d:Nat} {x:GN} (h:KE d x):∃ e,d=e+1∧x.Kids.length≤9223372036854775807∧x.Name.length≤9223372036854775807∧NF e x.Kids:=by
 cases d with
 | zero=>exact h.elim
 | succ e=>exact ⟨e,rfl,by have:=h.2.2.2.2.1; simpa [maxLen] using this,by have:=h.2.2.2.1; simpa [maxLen] using this,h.2.2.2.2.2⟩
theorem vk {d:Nat} {l:List (List PV)} (h:NF d l) {i:Nat} (hi:i < l.length):∃ y,Option.bind (Q8 l (i:Int)) GN.of=some y∧KE d y∧(l.drop i=l[i]'hi :: l.drop (i+1)∧GN.of (l[i]'hi)=some y):=by
 obtain ⟨y,e,t⟩:=h (l[i]'hi) (List.getElem_mem hi)
 refine ⟨y,?_,t,List.drop_eq_getElem_cons hi,e⟩
 rw [Zp,List.getElem?_eq_getElem hi]
 exact e
def Tot {α:Type} (m:Option α):Prop:=Does m fun _=>True
theorem RJ {α:Type} (x:α):Tot (some x):=⟨x,rfl,trivial⟩
theorem Sv {α:Type} {b:Bool} {x y:Option α} (h1:b=true→Tot x) (h2:b=false→Tot y):Tot (cond b x y):=xW h1 h2
theorem kg {α β:Type} {m:Option α} {k:α→Option β} (h:Tot m) (hk:∀ x,Tot (k x)):Tot (m.bind k):=XV h fun x _=>hk x
theorem jb {R:Type} {B:(Int→Option R)→Int→Option R} {L:Nat} (hL:L≤9223372036854775807)
  (hB:∀ (rec:Int→Option R) (i:Nat),i≤L→(i < L→wi ((i:Int)+1)=((i+1:Nat):Int)∧Tot (rec ((i+1:Nat):Int)))→Tot (B rec (i:Int))) :
  ∀ {n:Nat} (i:Nat),i≤L→L - i < n→Tot (QZ B n (i:Int))
 | 0,_,_,h=>absurd h (Nat.not_lt_zero _)
 | n+1,i,hi,h=>hB _ i hi fun h1=>⟨by rw [KG zo zo]; omega,jb hL hB (i+1) zo zo⟩
theorem xX:∀ (m n d:Nat) (x:GN) (most:Int),KE d x→0≤most→most≤m→m≤1000000→m+3≤n→Does (Kr n x most) (fun r=>1≤r∧r≤most+1):=by
 intro m
 induction m with
 | zero =>
  intro n d x most ht h0 h1 h2 h3
  obtain ⟨n,rfl⟩:∃ q,n=q+1+1:=⟨n - 2,by omega⟩
  obtain rfl:most=0:=by omega
  refine ⟨1,?_,by omega,by omega⟩
  unfold Kr K4
  rw [rE]
  unfold K3
  simp only [show leI 1 0=false from rfl,Kh,Zr]
  cases QO 0 (Qc (List.map KP x.Kids)) <;> rfl
 | succ m ih =>
  intro n d x most ht h0 h1 h2 h3
  obtain ⟨n,rfl⟩:∃ q,n=q+1:=⟨n - 1,by omega⟩
  obtain ⟨e,rfl,hl,_,hk⟩:=ZP ht
  unfold Kr K4
  refine WA (Q:=fun _ r=>1≤r∧r≤most+1) (fun v=>(most+1 - v.1).toNat) (fun v=>1≤v.1∧v.1≤most+1∧∃ i:Nat,v.2=(i:Int)∧i≤x.Kids.length) ?_ ⟨by omega,by omega,0,rfl,by omega⟩ (by simp only; omega)
  rintro rec ⟨many,Sz⟩ ⟨g1,g2,i,hi,hil⟩ hrec
  simp only at g1 g2 hi hrec ⊢
  subst hi
  unfold K3
  simp only [Qc,List.length_map,QO,leI]
  by_cases c1:i < x.Kids.length
  rotate_left
  ·rw [Vw zo]
   exact QG ⟨g1,g2⟩
  rw [WB zo]
  by_cases c2:many≤most
  rotate_left
  ·rw [Vw c2]
   exact QG ⟨g1,g2⟩
  rw [WB c2]
  obtain ⟨y,hy,hty,_⟩:=vk hk c1
  simp only [cond_true,Zr]
  rw [hy,Zr,KG (x:=most - many) zo zo]
  refine XV (ih n e y (most - many) hty zo zo zo zo) ?_
  rintro r ⟨r1,r2⟩
  rw [KG (x:=many+r) zo zo,KG (x:=(i:Int)+1) zo zo]
  exact hrec (many+r,(i:Int)+1) ⟨by simp only; omega,by simp only; omega,i+1,by simp,c1⟩ (by simp only; omega)
theorem xY:∀ (m n d:Nat) (x:GN) (depth:Int),KE d x→0≤depth→depth≤m→m≤1000→m+9223372036854775810≤n→Tot (Vu n x depth):=by
 intro m
 induction m with
 | zero =>
  intro n d x depth ht h0 h1 h2 h3
  obtain ⟨n,rfl⟩:∃ q,n=q+1:=⟨n - 1,by omega⟩
  obtain rfl:depth=0:=by omega
  exact ⟨false,rfl,trivial⟩
 | succ m ih =>
  intro n d x depth ht h0 h1 h2 h3
  obtain ⟨n,rfl⟩:∃ q,n=q+1:=⟨n - 1,by omega⟩
  by_cases c0:depth=0
  ·subst c0
   exact ⟨false,rfl,trivial⟩
  obtain ⟨e,rfl,hl,_,hk⟩:=ZP ht
  unfold Vu Wl
  refine kg (Sv (fun _=>RJ _) (fun _=>RJ _)) fun j1=>Sv (fun _=>RJ _) fun _=>?_
  refine jb (L:=x.Kids.length) hl (fun rec i hi hr=>?_) 0 zo zo
  unfold Jq
  simp only [Qc,List.length_map,QO]
  by_cases c1:i < x.Kids.length
  rotate_left
  ·rw [Vw zo]; exact RJ _
  rw [WB zo,cond_true]
  obtain ⟨y,hy,hty,_⟩:=vk hk c1
  obtain ⟨w1,w2⟩:=hr c1
  rw [hy,Zr,KG (x:=depth - 1) zo zo,w1]
  exact kg (ih n e y (depth - 1) hty zo zo zo zo) fun r=>Sv (fun _=>RJ _) fun _=>w2
theorem QcU (l:List (List PV)):Qi (Qc (List.map KP l)) 0=decide (l=[]):=by
 rw [YK,Qc,List.length_map]
 cases l
 ·rfl
 ·rw [Vw (by simp only [SC]; omega),Vw (by intro h; cases h)]
theorem VV {R:Type} {B:(Int→Option R)→Int→Option R} {L:Nat} (Q:Nat→R→Prop) (hL:L≤9223372036854775807)
  (hB:∀ (rec:Int→Option R) (i:Nat),i≤L→(i < L→wi ((i:Int)+1)=((i+1:Nat):Int)∧Does (rec ((i+1:Nat):Int)) (Q (i+1)))→Does (B rec (i:Int)) (Q i)) :
  ∀ {n:Nat} (i:Nat),i≤L→L - i < n→Does (QZ B n (i:Int)) (Q i)
 | 0,_,_,h=>absurd h (Nat.not_lt_zero _)
 | n+1,i,hi,h=>hB _ i hi fun h1=>⟨by rw [KG zo zo]; omega,VV Q hL hB (i+1) zo zo⟩
def QA (l:List (List PV)):List GN:=l.filterMap GN.of
theorem Gj {d:Nat} {l:List (List PV)} (h:NF d l) {i:Nat} (hi:i < l.length):∃ y,Option.bind (Q8 l (i:Int)) GN.of=some y∧KE d y∧QA (l.drop i)=y :: QA (l.drop (i+1)):=by
 obtain ⟨y,hy,ht,hd,hof⟩:=vk h hi
 refine ⟨y,hy,ht,?_⟩
 rw [hd]
 unfold QA
 rw [List.filterMap_cons,hof]
theorem Um (l:List (List PV)) {i:Nat} (hi:l.length≤i):QA (l.drop i)=[]:=by
 rw [List.drop_eq_nil_of_le hi]; rfl
def ku (s:List UInt8):Bool:=((K8 0).getD []).contains s
def kw (s:List UInt8):Bool:=((Z6 0).getD []).contains s
def jc (s:List UInt8):Bool:=((K9 0).getD []).contains s
theorem QcV (b c:Bool):(bif b then b else c)=(b||c):=by cases b <;> rfl
theorem xZ (n:Nat) (s:List UInt8):V6 n s=some (ku s):=by
 unfold V6 ku K8
 simp only [Kh,Zr,cse,iJ,Option.getD_some,List.contains_cons,List.contains_nil,Bool.or_false,QP]
theorem rF (n:Nat) (s:List UInt8):YI n s=some (kw s):=by
 unfold YI kw Z6
 simp only [Kh,Zr,cse,iJ,Option.getD_some,List.contains_cons,List.contains_nil,Bool.or_false,QP]
theorem uf (n:Nat) (s:List UInt8):WV n s=some (jc s):=by
 unfold WV jc K9
 simp only [Kh,Zr,cse,iJ,Option.getD_some,List.contains_cons,List.contains_nil,Bool.or_false,QP]
def NG (words:Bool) (x:GN):Bool :=
 decide (x.Kids=[])&&(bif decide (x.Kind=6) then decide (x.Name=[])&&(decide (0≤x.N)&&decide (x.N≤1000000)) else decide (x.Kind=5)&&(decide (x.N=0)&&(Wu x.Name||(words&&jc x.Name))))
theorem QbH (s:List UInt8):QP s []=decide (s=[]):=by
 cases s <;> rfl
theorem rG {n:Nat} {x:GN} {b:Bool} (hn:1000≤n):WY n x b=some (NG b x):=by
 unfold WY NG
 rw [Dw n x.Name hn,uf,QcU,QbH]
 simp only [Zr,Kh,YK,leI]
 by_cases k5:x.Kind=5
 ·rw [k5]
  simp only [decide_true,cond_true,show decide ((5:Int)=6)=false from rfl,cond_false]
  cases decide (x.Kids=[]) <;> cases decide (x.N=0) <;> cases Wu x.Name <;> cases b <;> cases jc x.Name <;> rfl
 ·rw [Vw k5]
  cases decide (x.Kids=[]) <;> cases decide (x.Kind=6) <;> cases decide (x.Name=[]) <;> cases decide (0≤x.N) <;> cases decide (x.N≤1000000) <;> rfl
def Uy (x:GN):Bool:=decide (x.N=0)&&((decide (x.Kind=3)&&ku x.Name||decide (x.Kind=4)&&kw x.Name)&&(QA x.Kids).all (NG (decide (x.Kind=4))))
theorem iq {n d:Nat} {x:GN} {left:Int} (ht:KE d x) (hn:9223372036854776000≤n) (hle:(x.Kids.length:Int)≤left∧left≤1500):Does (JI n x left) (fun r=>r.1=Uy x∧(Uy x=true→r.2=left - x.Kids.length)):=by
 obtain ⟨e,rfl,hl,_,hk⟩:=ZP ht
 have hw:wi (left - Qc (List.map KP x.Kids))=left - x.Kids.length:=by
  simp only [Qc,List.length_map]; exact KG zo zo
 have hloop:QZ (fun recl9 l9=>YL n x left recl9 l9) n 0=some ((QA x.Kids).all (NG (decide (x.Kind=4))),left - x.Kids.length):=by
  have:=VV (B:=fun recl9 l9=>YL n x left recl9 l9) (n:=n) (L:=x.Kids.length) (fun i r=>r=((QA (x.Kids.drop i)).all (NG (decide (x.Kind=4))),left - (x.Kids.length:Int))) hl (fun rec i hi hr=>?_) 0 zo zo
  ·obtain ⟨r,e,h⟩:=this
   rw [show ((0:Nat):Int)=0 from rfl] at e
   rw [e,h]; rfl
  unfold YL
  rw [hw]
  simp only [Qc,List.length_map,QO]
  by_cases c1:i < x.Kids.length
  rotate_left
  ·rw [Vw zo,Um _ zo]; exact QG rfl
  obtain ⟨y,hy,hty,hc⟩:=Gj hk c1
  obtain ⟨w1,w2⟩:=hr c1
  rw [WB zo,cond_true,hy,Zr,w1,rG zo,Zr,hc,List.all_cons,YK]
  cases NG (decide (x.Kind=4)) y
  ·exact QG rfl
  ·simpa using w2
 unfold JI
 rw [hloop,xZ,rF,hw,show QO (left - (x.Kids.length:Int)) 0=false from Y1 zo]
 simp only [Zr,Kh,YK]
 have hp:Uy x=(decide (x.N=0)&&((decide (x.Kind=3)&&ku x.Name||decide (x.Kind=4)&&kw x.Name)&&(QA x.Kids).all (NG (decide (x.Kind=4))))):=rfl
 rw [hp]
 generalize (QA x.Kids).all (NG (decide (x.Kind=4)))=z
 by_cases k3:x.Kind=3
 ·rw [k3]
  cases decide (x.N=0) <;> cases ku x.Name <;> cases z <;> exact QG ⟨rfl,fun h=>by first | rfl | cases h⟩
 ·rw [Vw k3]
  cases decide (x.N=0) <;> cases decide (x.Kind=4) <;> cases kw x.Name <;> cases z <;> exact QG ⟨rfl,fun h=>by first | rfl | cases h⟩
def kz (n7:Bool):Bool→List GN→Bool
 | _,[]=>true
 | p,k :: r=>(Uy k&&!(decide (k.Kind=4)&&!n7)&&!(decide (k.Kind=3)&&p))&&kz n7 (decide (k.Kind=4)) r
def Fe (n7:Bool):Bool→List GN→Bool
 | fl,[]=>!fl||n7
 | fl,k :: r=>bif decide (k.Kind=4) then Uy k&&Fe n7 true r else bif fl then false else Uy k&&Fe n7 fl r
theorem ug {k:GN} (h:Uy k=true) (h4:decide (k.Kind=4)=false):decide (k.Kind=3)=true:=by
 unfold Uy at h
 rw [h4] at h
 cases h3:decide (k.Kind=3)
 ·rw [h3] at h
  simp at h
 ·rfl
theorem M9 (n7:Bool):∀ (l:List GN) (fl:Bool),Fe n7 fl l=((!fl||n7)&&kz n7 fl l)
 | [],fl=>by simp [Fe,kz]
 | k :: r,fl=>by
  unfold Fe kz
  rw [M9 n7 r true,M9 n7 r fl]
  cases hp:Uy k
  ·cases decide (k.Kind=4) <;> cases fl <;> simp
  cases h4:decide (k.Kind=4)
  ·rw [ug hp h4]
   cases fl <;> cases n7 <;> simp
  ·have h3:decide (k.Kind=3)=false:=by
    have:=of_decide_eq_true h4
    rw [this]; rfl
   rw [h3]
   cases fl <;> cases n7 <;> simp
def O1 (l:List GN):Int:=(l.map fun k=>(k.Kids.length:Int)).sum
def TG (x:GN):Bool:=decide (x.Kind=2)&&(decide (1≤x.N)&&(decide (x.N≤7)&&(Wu x.Name&&kz (decide (x.N=7)) false (QA x.Kids))))
theorem rH {n d:Nat} {x:GN} {left:Int} (ht:KE d x) (hn:9223372036854776000≤n) (hle:(x.Kids.length:Int)+O1 (QA x.Kids)≤left∧left≤1500) :
  Does (Vs n x left) (fun r=>r.1=TG x∧(TG x=true→r.2=left - x.Kids.length - O1 (QA x.Kids))):=by
 obtain ⟨e,rfl,hl,hs,hk⟩:=ZP ht
 have hpw:∀ l:List GN,0≤O1 l:=by
  intro l
  induction l with
  | nil=>exact Int.le_refl _
  | cons a l ih=>unfold O1 at ih ⊢; simp only [List.map_cons,List.sum_cons]; omega
 have hp0:=hpw (QA x.Kids)
 have hw:wi (left - Qc (List.map KP x.Kids))=left - x.Kids.length:=by
  simp only [Qc,List.length_map]; exact KG zo zo
 have hloop:Does (QZ (fun recl8 (v:Bool × Int × Int)=>VM n x recl8 v.1 v.2.1 v.2.2) n (false,0,left - x.Kids.length)) (fun r=>r.1=Fe (decide (x.N=7)) false (QA x.Kids)∧(Fe (decide (x.N=7)) false (QA x.Kids)=true→r.2=left - x.Kids.length - O1 (QA x.Kids))):=by
  refine WA (Q:=fun (v:Bool × Int × Int) (r:Bool × Int)=>r.1=Fe (decide (x.N=7)) v.1 (QA (x.Kids.drop v.2.1.toNat))∧(Fe (decide (x.N=7)) v.1 (QA (x.Kids.drop v.2.1.toNat))=true→r.2=v.2.2 - O1 (QA (x.Kids.drop v.2.1.toNat)))) (fun v=>x.Kids.length - v.2.1.toNat)
   (fun (v:Bool × Int × Int)=>(∃ i:Nat,v.2.1=(i:Int)∧i≤x.Kids.length)∧O1 (QA (x.Kids.drop v.2.1.toNat))≤v.2.2∧v.2.2≤1500) ?_ ⟨⟨0,rfl,by omega⟩,by simp only [show (0:Int).toNat=0 from rfl,List.drop_zero]; omega,by simp only; omega⟩ (by simp only; omega)
  rintro rec ⟨fl,Sz,lf⟩ ⟨⟨i,hi,hil⟩,g1,g2⟩ hrec
  simp only at hi hrec g1 g2 ⊢
  subst hi
  simp only [Int.toNat_natCast] at g1 ⊢
  unfold VM
  simp only [Qc,List.length_map,QO]
  by_cases c1:i < x.Kids.length
  rotate_left
  ·rw [Vw zo,cond_false,Um _ zo]
   unfold YM
   rw [YK]
   cases fl
   ·exact QG ⟨rfl,fun _=>by simp [O1]⟩
   ·exact QG ⟨rfl,fun _=>by simp [O1]⟩
  obtain ⟨y,hy,hty,hc⟩:=Gj hk c1
  rw [hc] at g1 ⊢
  have hcons:O1 (y :: QA (List.drop (i+1) x.Kids))=(y.Kids.length:Int)+O1 (QA (List.drop (i+1) x.Kids)):=rfl
  rw [hcons] at g1 ⊢
  have h0:=hpw (QA (List.drop (i+1) x.Kids))
  rw [WB zo,cond_true,hy,Zr]
  have hj10:∀ b:Bool,Does (ZU n (i:Int) lf rec y b) fun r=>r.1=(Uy y&&Fe (decide (x.N=7)) b (QA (List.drop (i+1) x.Kids)))∧((Uy y&&Fe (decide (x.N=7)) b (QA (List.drop (i+1) x.Kids)))=true→r.2=lf - ((y.Kids.length:Int)+O1 (QA (List.drop (i+1) x.Kids)))):=by
   intro b
   unfold ZU
   rw [KG (x:=(i:Int)+1) zo zo]
   refine XV (iq hty hn ⟨by omega,g2⟩) ?_
   rintro ⟨r1,r2⟩ ⟨q1,q2⟩
   simp only at q1 q2 ⊢
   subst q1
   cases hb:Uy y
   ·exact QG ⟨rfl,fun h=>by cases h⟩
   have q2:=q2 hb
   simp only [Bool.not_true,cond_false,Bool.true_and]
   refine Yp (hrec (b,(i:Int)+1,r2) ⟨⟨i+1,by simp,c1⟩,by simp only [show ((i:Int)+1).toNat=i+1 by omega]; omega,by simp only; omega⟩ (by simp only; omega)) ?_
   rintro ⟨s1,s2⟩ ⟨t1,t2⟩
   simp only [show ((i:Int)+1).toNat=i+1 by omega] at t1 t2 ⊢
   exact ⟨t1,fun h=>by rw [t2 h]; omega⟩
  rw [YK]
  unfold Fe
  cases decide (y.Kind=4)
  ·cases fl
   ·exact hj10 false
   ·exact QG ⟨rfl,fun h=>by cases h⟩
  ·exact hj10 true
 unfold Vs
 rw [Dw n x.Name zo,hw,show QO (left - (x.Kids.length:Int)) 0=false from Y1 zo]
 simp only [Zr,Kh,YK,QO]
 have hb:TG x=(decide (x.Kind=2)&&(decide (1≤x.N)&&(decide (x.N≤7)&&(Wu x.Name&&Fe (decide (x.N=7)) false (QA x.Kids))))):=by
  unfold TG; rw [M9]; simp
 rw [hb]
 have hfalse:∀ b:Bool,b=false→Does (some (false,left)) (fun r=>r.1=b∧(b=true→r.2=left - x.Kids.length - O1 (QA x.Kids))):=by
  intro b h
  subst h
  exact QG ⟨rfl,fun h=>by cases h⟩
 by_cases c0:x.Kind=2
 rotate_left
 ·rw [Vw c0]; exact hfalse _ rfl
 rw [WB c0]
 by_cases c1:x.N < 1
 ·rw [WB c1,Vw (show ¬ 1≤x.N by omega)]; exact hfalse _ rfl
 rw [Vw c1,WB (show 1≤x.N by omega)]
 by_cases c2:7 < x.N
 ·rw [WB c2,Vw (show ¬ x.N≤7 by omega)]; exact hfalse _ rfl
 rw [Vw c2,WB (show x.N≤7 by omega)]
 cases Wu x.Name
 ·exact hfalse _ rfl
 ·exact hloop
def sz:Nat→GN→Int
 | 0,_=>1
 | k+1,x=>1+((QA x.Kids).map (sz k)).sum
theorem Dx {f:GN→Int} (hf:∀ y,0≤f y):∀ l:List GN,0≤(l.map f).sum
 | []=>Int.le_refl _
 | a :: l=>by have:=Dx hf l; have:=hf a; simp only [List.map_cons,List.sum_cons]; omega
theorem nz:∀ (m n d:Nat) (x:GN) (most:Int),KE d x→0≤most→most≤m→m≤1000000→m+3≤n→Does (Kr n x most) (fun r=>1≤r∧r≤most+1∧(r≤most→∀ k,sz k x≤r)):=by
 intro m
 induction m with
 | zero =>
  intro n d x most ht h0 h1 h2 h3
  obtain ⟨r,e,g1,g2⟩:=xX 0 n d x most ht h0 h1 h2 h3
  exact ⟨r,e,g1,g2,fun h=>by omega⟩
 | succ m ih =>
  intro n d x most ht h0 h1 h2 h3
  obtain ⟨n,rfl⟩:∃ q,n=q+1:=⟨n - 1,by omega⟩
  obtain ⟨e,rfl,hl,_,hk⟩:=ZP ht
  unfold Kr K4
  have:=WA (n:=n) (v:=((1:Int),(0:Int))) (B:=fun recl1 (v:Int × Int)=>K3 x most (Kr n) recl1 v.1 v.2) (Q:=fun (v:Int × Int) r=>v.1≤r∧r≤most+1∧(r≤most→∀ k,v.1+((QA (x.Kids.drop v.2.toNat)).map (sz k)).sum≤r)) (fun v=>(most+1 - v.1).toNat) (fun v=>1≤v.1∧v.1≤most+1∧∃ i:Nat,v.2=(i:Int)∧i≤x.Kids.length) ?_ ⟨by omega,by omega,0,rfl,by omega⟩ (by simp only; omega)
  ·obtain ⟨r,e1,g1,g2,g3⟩:=this
   refine ⟨r,e1,g1,g2,fun h k=>?_⟩
   cases k with
   | zero=>exact g1
   | succ k=>exact g3 h k
  rintro rec ⟨many,Sz⟩ ⟨g1,g2,i,hi,hil⟩ hrec
  simp only at g1 g2 hi hrec ⊢
  subst hi
  simp only [Int.toNat_natCast]
  unfold K3
  simp only [Qc,List.length_map,QO,leI]
  by_cases c1:i < x.Kids.length
  rotate_left
  ·rw [Vw zo]
   refine QG ⟨Int.le_refl _,g2,fun _ k=>?_⟩
   rw [Um _ zo]
   simp
  rw [WB zo]
  by_cases c2:many≤most
  rotate_left
  ·rw [Vw c2]
   exact QG ⟨Int.le_refl _,g2,fun h=>absurd h c2⟩
  rw [WB c2]
  obtain ⟨y,hy,hty,hc⟩:=Gj hk c1
  simp only [cond_true,Zr]
  rw [hy,Zr,KG (x:=most - many) zo zo]
  refine XV (ih n e y (most - many) hty zo zo zo zo) ?_
  rintro r ⟨r1,r2,r3⟩
  rw [KG (x:=many+r) zo zo,KG (x:=(i:Int)+1) zo zo]
  refine Yp (hrec (many+r,(i:Int)+1) ⟨by simp only; omega,by simp only; omega,i+1,by simp,c1⟩ (by simp only; omega)) ?_
  rintro q ⟨q1,q2,q3⟩
  simp only at q1 q3
  refine ⟨by omega,q2,fun h k=>?_⟩
  have:=q3 h k
  have:=r3 zo k
  rw [hc]
  simp only [show ((i:Int)+1).toNat=i+1 by omega,List.map_cons,List.sum_cons] at *
  omega
theorem Jv {d:Nat}:∀ {l:List (List PV)},NF d l→(QA l).length=l.length
 | [],_=>rfl
 | c :: r,h=>by
  obtain ⟨y,e,_⟩:=h c zq
  have:=Jv (l:=r) (fun k hk=>h k (by simp [hk]))
  unfold QA at this ⊢
  rw [List.filterMap_cons,e]
  simp [this]
theorem Ff {d:Nat} {l:List (List PV)} (h:NF d l):∀ y ∈ QA l,KE d y:=by
 intro y hy
 obtain ⟨c,hc,e⟩:=List.mem_filterMap.1 hy
 obtain ⟨z,e',t⟩:=h c hc
 rw [e'] at e
 cases e
 exact t
theorem sz1 {d:Nat} {x:GN} (h:KE d x):sz 1 x=1+x.Kids.length:=by
 obtain ⟨e,rfl,_,_,hk⟩:=ZP h
 have:∀ l:List GN,(l.map (sz 0)).sum=l.length:=by
  intro l
  induction l with
  | nil=>rfl
  | cons a l ih=>simp only [List.map_cons,List.sum_cons,sz,SC] at ih ⊢; rw [ih]; omega
 show 1+((QA x.Kids).map (sz 0)).sum=_
 rw [this,Jv hk]
theorem sz2 {d:Nat} {x:GN} (h:KE d x):sz 2 x=1+x.Kids.length+O1 (QA x.Kids):=by
 obtain ⟨e,rfl,_,_,hk⟩:=ZP h
 have:∀ l:List GN,(∀ y ∈ l,KE e y)→(l.map (sz 1)).sum=l.length+O1 l:=by
  intro l
  induction l with
  | nil=>intro _; rfl
  | cons a l ih =>
   intro hl
   have:=ih (fun y hy=>hl y (by simp [hy]))
   have h1:=sz1 (hl a zq)
   unfold O1 at this ⊢
   simp only [List.map_cons,List.sum_cons,SC] at this ⊢
   rw [this,h1]; omega
 show 1+((QA x.Kids).map (sz 1)).sum=_
 rw [this _ (Ff hk),Jv hk]
 omega
def nA (l:List GN):Int:=(l.map fun k=>(k.Kids.length:Int)+O1 (QA k.Kids)).sum
theorem sz3 {d:Nat} {x:GN} (h:KE d x):sz 3 x=1+x.Kids.length+nA (QA x.Kids):=by
 obtain ⟨e,rfl,_,_,hk⟩:=ZP h
 have:∀ l:List GN,(∀ y ∈ l,KE e y)→(l.map (sz 2)).sum=l.length+nA l:=by
  intro l
  induction l with
  | nil=>intro _; rfl
  | cons a l ih =>
   intro hl
   have:=ih (fun y hy=>hl y (by simp [hy]))
   have h1:=sz2 (hl a zq)
   unfold nA at this ⊢
   simp only [List.map_cons,List.sum_cons,SC] at this ⊢
   rw [this,h1]; omega
 show 1+((QA x.Kids).map (sz 2)).sum=_
 rw [this _ (Ff hk),Jv hk]
 omega
def RL (x:GN):Bool:=decide (x.Kind=1)&&(decide (x.Name=[])&&(decide (x.N=0)&&(QA x.Kids).all TG))
theorem IK (l:List GN):0≤O1 l:=Dx (fun y=>by omega) l
theorem Na (l:List GN):0≤nA l:=Dx (fun y=>by have:=IK (QA y.Kids); omega) l
theorem rJ {n d:Nat} {x:GN} (ht:KE d x) (hn:9223372036854776000≤n) (hs:1+(x.Kids.length:Int)+nA (QA x.Kids)≤1500):Xe n x=some (RL x):=by
 obtain ⟨e,rfl,hl,_,hk⟩:=ZP ht
 have hw:wi (1499 - Qc (List.map KP x.Kids))=1499 - x.Kids.length:=by
  simp only [Qc,List.length_map]; exact KG zo zo
 have hsw:=Na (QA x.Kids)
 have hloop:Does (QZ (fun recl5 (v:Int × Int)=>We n x recl5 v.1 v.2) n (0,1499 - x.Kids.length)) (fun r=>r=(QA x.Kids).all TG):=by
  refine WA (Q:=fun (v:Int × Int) (r:Bool)=>r=(QA (x.Kids.drop v.1.toNat)).all TG) (fun v=>x.Kids.length - v.1.toNat) (fun v=>(∃ i:Nat,v.1=(i:Int)∧i≤x.Kids.length)∧nA (QA (x.Kids.drop v.1.toNat))≤v.2∧v.2≤1500) ?_ ⟨⟨0,rfl,by omega⟩,by simp only [show (0:Int).toNat=0 from rfl,List.drop_zero]; omega,by simp only; omega⟩ (by simp only; omega)
  rintro rec ⟨Sz,lf⟩ ⟨⟨i,hi,hil⟩,g1,g2⟩ hrec
  simp only at hi hrec g1 g2 ⊢
  subst hi
  simp only [Int.toNat_natCast] at g1 ⊢
  unfold We
  simp only [Qc,List.length_map,QO]
  by_cases c1:i < x.Kids.length
  rotate_left
  ·rw [Vw zo,cond_false,Um _ zo]
   exact QG rfl
  obtain ⟨y,hy,hty,hc⟩:=Gj hk c1
  rw [hc] at g1 ⊢
  have hcons:nA (y :: QA (List.drop (i+1) x.Kids))=((y.Kids.length:Int)+O1 (QA y.Kids))+nA (QA (List.drop (i+1) x.Kids)):=rfl
  rw [hcons] at g1
  have h0:=Na (QA (List.drop (i+1) x.Kids))
  rw [WB zo,cond_true,hy,Zr,List.all_cons,KG (x:=(i:Int)+1) zo zo]
  refine XV (rH hty hn ⟨by omega,g2⟩) ?_
  rintro ⟨r1,r2⟩ ⟨q1,q2⟩
  simp only at q1 q2 ⊢
  subst q1
  cases hb:TG y
  ·exact QG rfl
  have q2:=q2 hb
  have hpw:=IK (QA y.Kids)
  simp only [Bool.not_true,cond_false,Bool.true_and]
  refine Yp (hrec ((i:Int)+1,r2) ⟨⟨i+1,by simp,c1⟩,by simp only [show ((i:Int)+1).toNat=i+1 by omega]; omega,by simp only; omega⟩ (by simp only; omega)) ?_
  intro r hr
  simpa only [show ((i:Int)+1).toNat=i+1 by omega] using hr
 obtain ⟨r,er,rfl⟩:=hloop
 unfold Xe RL
 rw [hw,show QO (1499 - (x.Kids.length:Int)) 0=false from Y1 zo,QbH]
 simp only [Kh,Zr,YK]
 have er':QZ (fun recl5 (x_1:Int × Int)=>match x_1 with | (l5_1,l5_2)=>We n x recl5 l5_1 l5_2) n (0,1499 - (x.Kids.length:Int))=some ((QA x.Kids).all TG):=er
 rw [er']
 cases decide (x.Kind=1) <;> cases decide (x.Name=[]) <;> cases decide (x.N=0) <;> rfl
theorem rM {d:Nat} {l:List (List PV)} (h:NF d l):∀ {i:Nat},i < l.length→∃ y,Option.bind (Q8 l (i:Int)) GN.of=some y∧KE d y∧(QA l)[i]?=some y:=by
 induction l with
 | nil=>intro i hi; cases hi
 | cons c l ih =>
  intro i hi
  obtain ⟨z,e,t⟩:=h c zq
  have hk:QA (c :: l)=z :: QA l:=by unfold QA; rw [List.filterMap_cons,e]
  rw [hk]
  cases i with
  | zero=>exact ⟨z,by rw [Zp]; exact e,t,rfl⟩
  | succ i =>
   obtain ⟨y,h1,h2,h3⟩:=ih (fun k hk=>h k (by simp [hk])) (i:=i) (by simpa using hi)
   refine ⟨y,?_,h2,h3⟩
   rw [Zp] at h1 ⊢
   exact h1
theorem kC {α:Type} {l:List α} {i:Nat} (h:i < l.length):∃ x,Q8 l (i:Int)=some x∧l[i]?=some x:=⟨l[i],by rw [Zp,List.getElem?_eq_getElem h],List.getElem?_eq_getElem h⟩
end Go.Proofs
