/-
  A part of the proof of a statement of the seat YtkhhdppjbakngaaGreat.
-/
import Derived.Test.YtkhhdppjbakngaaGreatBal04
set_option linter.unusedVariables false
namespace Go.Proofs
open Go Go.Abs
set_option maxRecDepth 100000
def qC:=fun x0=>([(0, .ptr 1000 0),(4,S x0),(5, .ptr 5 0),(7, .iv 700)]:List (Nat × AV))
def iD:=fun x0 x1 x2 x3 x4 x5 x6 x7 x8 x9 x10 x11 x12 x13 x14 x15 x16=>(⟨qC x0,[(5,(Qbn x1 x2)),(700, .it 1011 x3 x4)]++CQ x5 x6 x7 x8 x9 x10 x11 x12 x13 x14 x15 x16 x3++CR⟩:St)
def Qdc:=fun x0=>([(0, .ptr 1000 0),(7, .iv 700),(33,B x0)]:List (Nat × AV))
def NU:=fun x0 x1 x2 x3 x4 x5 x6 x7 x8 x9 x10 x11 x12 x13 x14=>(⟨Qdc x0,iC x1 x2++CQ x3 x4 x5 x6 x7 x8 x9 x10 x11 x12 x13 x14 x1++CR⟩:St)
def iE:=fun x0 x1 x2 x3 x4 x5 x6 x7 x8 x9 x10 x11 x12 x13 x14 x15=>(⟨qC x0,[(5,(Qbw x1)),(700, .it 1011 x2 x3)]++CQ x4 x5 x6 x7 x8 x9 x10 x11 x12 x13 x14 x15 x2++CR⟩:St)
theorem Iw (n:Nat) (yI:GN) (yC:ZI) (yK:Kq) (yG:ZL) (yB:Zt) (yS:Qj) (yF:Bool) (yD:List KG) (h7_m:List ((List UInt8) × Bool)) (h8_m:List ((List UInt8) × KP)) (h10_m:List ((List UInt8) × Bool)):∀ r,CP n yI yC yK yG yB yS yF yD h7_m h8_m h10_m=some r→Wz Tryz.prog 98 [Ka, .mv 1011] (Go.Abs.look (qB yI yC yK yG yB yS yF yD h7_m h8_m h10_m)) (Xw (vv (fun r:Unit=>((.ret (.tup []),qB yI yC yK yG yB yS yF yD h7_m h8_m h10_m):Z0 × List (Nat × Blk))) (fun e:(Int × Int)=>((.panic (.ifc 160 (.agg [I e.1,I e.2])),qB yI yC yK yG yB yS yF yD h7_m h8_m h10_m):Z0 × List (Nat × Blk)))) r):=by
 refine Y2 (qB yI yC yK yG yB yS yF yD h7_m h8_m h10_m) Tryz.func98 rfl Tryz.ntmps98 rfl ?_
 unfold CP
 refine ZY (fun _=>⟨[(0,Ka)],Ej yI yC yK yG yB yS yF yD h7_m h8_m h10_m⟩:Unit→St) (fun _=>JR n yI yC yG h10_m) ?_ ?_
 ·rintro _
  show QU (JR n yI yC yG h10_m) _ _ _ _ _ _
  unfold JR
  refine KM (fun j2=>⟨[(0,Ka),(68,B j2)],Ej yI yC yK yG yB yS yF yD h7_m h8_m h10_m⟩:Bool→St) ?_ ?_
  rotate_left
  ·rintro j2
   exact sC j2 Qa (sG (xR 4 Qa (Yr [] [I 3, .agg [I yI.Kind,S yI.Name,I yI.N,I yI.At, .p (.sl 5 (mI yI.Kids))]] [] [] [] Qa Tryz.func88 rfl Tryz.ntmps88 rfl Qa Qa Qa (Qg Qe (Gv 3 yI) Qa (sG (xR 6 Qa (X8 160 (.agg [I 3,I yI.At]) Qa rfl Qa (ZO [] [] Qa (Kv Yl [] Qa Qa Qa))))))))) (sK (QaE (.id) Yl [] Qa Qa Qa Qa))
  refine sG (xR 4 Qa ?_)
  refine Ze Qa Qa (Zx (kt:=9) (e:=4) (ke:=Q6) (ve:=Q7) (eq:=Qd) (b:=1010) (m:=h10_m) (k:=[116,104,101,114,109,97,108]) (z0:=false) rfl Qa Qa Qa Qa Qa QW (fun _ _=>Za rfl _ _) Qa) ?_
  refine xR 1 Qa (xS (QJ Qd [116,104,101,114,109,97,108] false h10_m) (fun h3=>?_) (fun h3=>?_))
  rotate_left
  ·refine xN (Qu Qa h3) Qa (xR 15 Qa (xS (Qs yI.N 5) (fun h8=>?_) (fun h8=>?_)))
   ·refine xO (Qt Qa h8) Qa (xR 3 Qa ?_)
    refine xC [] Qa (Xb n yG) Qa Qa QW (fun r9=>?_)
    exact xR 3 Qa (xE (QV (!r9) Qa))
   exact xN (Qu Qa h8) Qa (xR 7 Qa (xE (QV false Qa)))
  refine xO (Qt Qa h3) Qa (xR 4 Qa ?_)
  refine xC [] Qa (U2 n yC.Cable) Qa Qa QW (fun r4=>?_)
  refine xR 3 Qa (xS (!r4) (fun h5=>xN (QB Qa h5) Qa (xR 14 Qa (xE (QV true Qa)))) (fun h5=>xO (QA Qa h5) Qa (xR 6 Qa (xS (Qs yI.N 5) (fun h6=>?_) (fun h6=>?_)))))
  ·refine xO (Qt Qa h6) Qa (xR 3 Qa ?_)
   refine xC [] Qa (Xb n yG) Qa Qa QW (fun r7=>?_)
   exact xR 3 Qa (xE (QV (!r7) Qa))
  exact xN (Qu Qa h6) Qa (xR 7 Qa (xE (QV false Qa)))
 refine sS (sG (xR 1 Qa (mZ (t:=114) (m:=1011) (b:=700) (es:=(U8 1012 1013 1014 1015 1016 1017 1018 1019 1020 1021)) Qa rfl rfl Qa Qa Qa Qa Qa (fun en10 ck11 hb11=>(xE (Qk ⟨[(0,Ka),(7, .iv 700)],[(700, .it 1011 ck11 (#[]))]++CQ yI yC yK yG yB yS yF yD h7_m h8_m h10_m en10 ck11++CR⟩ Qa (sB (M3 ⟨[(0,Ka),(7, .iv 700)],[(700, .it 1011 ck11 (#[]))]++CQ yI yC yK yG yB yS yF yD h7_m h8_m h10_m en10 ck11++CR⟩ Qa (vN (b:=700) (m:=1011) (es:=(U8 1012 1013 1014 1015 1016 1017 1018 1019 1020 1021)) _ hb11 rfl rfl Qa Qa Qa Qa Qa Qa Qa rfl ?_ ?_ ?_)))))))))
 ·repeat' first | exact nu | exact aj | exact QaK | exact kH | refine ul ?_ ?_ | refine ng ?_ ?_ | refine ni fun _=>?_
 ·intro sn12 _ hN14
  exact xR 1 Qa (xE (Qk ⟨[(0,Ka),(9,B false)],CQ yI yC yK yG yB yS yF yD h7_m h8_m h10_m en10 ck11++CR⟩ Qa (Zq (J2 (en:=en10) (ck:=ck11) 1011 (U8 1012 1013 1014 1015 1016 1017 1018 1019 1020 1021) Qa) (M3 ⟨[(0,Ka),(9,B false)],Ej yI yC yK yG yB yS yF yD h7_m h8_m h10_m⟩ Qa (sS (QZ Qa (Qm (Zu (QcG hN14 (QG (Ky (k:=fun _=>JR n yI yC yG h10_m) () Qa)))))))))))
 refine VG ?_ (VG ?_ (VG ?_ (VG ?_ (VG ?_ (VG ?_ (VG ?_ (VG ?_ (VG ?_ (VG ?_ (VG ?_ (VG ?_ (VG ?_ (dB)))))))))))))
 ·intro sn15 q16 _ hN17
  refine xR 1 Qa (xE (Qk (NS ck11 (sn15.push (Zb en10 0)) yI yC yK yG yB yS yF yD h7_m h8_m h10_m en10) Qa (sS (Q3 Qa (sK (Qk (NT ck11 (sn15.push (Zb en10 0)) yI yC yK yG yB yS yF yD h7_m h8_m h10_m en10) Qa (sB (sS (sG (VF (b:=700) (m:=1011) (es:=(U8 1012 1013 1014 1015 1016 1017 1018 1019 1020 1021)) (sn:=sn15) 0 hb11 Qa rfl Qa Qa Qa Qa rfl rfl (xR 5 Qa (xE (Qk (iD [108,105,109,105,116] false (.func 130) ck11 (sn15.push (Zb en10 0)) yI yC yK yG yB yS yF yD h7_m h8_m h10_m en10) Qa (BZ 5 2 Qa (fun hw18=>KM (fun j19=>(NU j19 ck11 (sn15.push (Zb en10 0)) yI yC yK yG yB yS yF yD h7_m h8_m h10_m en10):Bool→St) ?_ ?_)))))))))))))))
  ·refine YK Qe rfl (xR 6 Qa ?_)
   refine xC [.agg [.sl 1, .id, .id], .id] Qa (QF n [1,2] false yI.N hw18) Qa Qa QW (fun r20=>?_)
   refine xR 1 Qa (xS r20 (fun h21=>?_) (fun h21=>?_))
   ·refine xO (Qt Qa h21) Qa (xR 9 Qa ?_)
    refine Ze Qa Qa (Zx (kt:=9) (e:=4) (ke:=Q6) (ve:=Q7) (eq:=Qd) (b:=1010) (m:=h10_m) (k:=[108,105,109,105,116]) (z0:=false) rfl Qa Qa Qa Qa Qa QW (fun _ _=>Za rfl _ _) Qa) ?_
    exact xR 2 Qa (Yh Qa (QV (!(QJ Qd [108,105,109,105,116] false h10_m)) Qa))
   exact xN (Qu Qa h21) Qa (xR 12 Qa (Yh Qa (QV false Qa)))
  rintro j19
  exact sC j19 Qa (Zq (J2 (en:=en10) (ck:=ck11) 1011 (U8 1012 1013 1014 1015 1016 1017 1018 1019 1020 1021) Qa) (sG (xR 4 Qa (Yr [] [I 4, .agg [I yI.Kind,S yI.Name,I yI.N,I yI.At, .p (.sl 5 (mI yI.Kids))]] [] [] [] Qa Tryz.func88 rfl Tryz.ntmps88 rfl Qa Qa Qa (Qg Qe (Gv 4 yI) Qa (sG (xR 6 Qa (X8 160 (.agg [I 4,I yI.At]) Qa rfl Qa (ZO [] [] Qa (Zj (Af hN17 (Zj (Zp (Kv Yl [] Qa Qa Qa)))))))))))))) (sK (QT (NF hN17 ⟨[0,7],[700]++Yl,[],[]⟩ Qa)))
 ·intro sn22 q23 _ hN24
  refine xR 1 Qa (xE (Qk (NS ck11 (sn22.push (Zb en10 1)) yI yC yK yG yB yS yF yD h7_m h8_m h10_m en10) Qa (sS (Q3 Qa (sK (Qk (NT ck11 (sn22.push (Zb en10 1)) yI yC yK yG yB yS yF yD h7_m h8_m h10_m en10) Qa (sB (sS (sG (VF (b:=700) (m:=1011) (es:=(U8 1012 1013 1014 1015 1016 1017 1018 1019 1020 1021)) (sn:=sn22) 1 hb11 Qa rfl Qa Qa Qa Qa rfl rfl (xR 5 Qa (xE (Qk (iD [110,101,117,116,114,97,108] false (.func 131) ck11 (sn22.push (Zb en10 1)) yI yC yK yG yB yS yF yD h7_m h8_m h10_m en10) Qa (BZ 5 2 Qa (fun hw25=>KM (fun j26=>(NU j26 ck11 (sn22.push (Zb en10 1)) yI yC yK yG yB yS yF yD h7_m h8_m h10_m en10):Bool→St) ?_ ?_)))))))))))))))
  ·refine YK Qe rfl (xR 6 Qa ?_)
   refine xC [.agg [.sl 1, .id, .id], .id] Qa (QF n [1,2] false yI.N hw25) Qa Qa QW (fun r27=>?_)
   refine xR 1 Qa (xS r27 (fun h28=>?_) (fun h28=>?_))
   ·refine xO (Qt Qa h28) Qa (xR 9 Qa ?_)
    refine Ze Qa Qa (Zx (kt:=9) (e:=4) (ke:=Q6) (ve:=Q7) (eq:=Qd) (b:=1010) (m:=h10_m) (k:=[110,101,117,116,114,97,108]) (z0:=false) rfl Qa Qa Qa Qa Qa QW (fun _ _=>Za rfl _ _) Qa) ?_
    exact xR 2 Qa (Yh Qa (QV (!(QJ Qd [110,101,117,116,114,97,108] false h10_m)) Qa))
   exact xN (Qu Qa h28) Qa (xR 12 Qa (Yh Qa (QV false Qa)))
  rintro j26
  exact sC j26 Qa (Zq (J2 (en:=en10) (ck:=ck11) 1011 (U8 1012 1013 1014 1015 1016 1017 1018 1019 1020 1021) Qa) (sG (xR 4 Qa (Yr [] [I 4, .agg [I yI.Kind,S yI.Name,I yI.N,I yI.At, .p (.sl 5 (mI yI.Kids))]] [] [] [] Qa Tryz.func88 rfl Tryz.ntmps88 rfl Qa Qa Qa (Qg Qe (Gv 4 yI) Qa (sG (xR 6 Qa (X8 160 (.agg [I 4,I yI.At]) Qa rfl Qa (ZO [] [] Qa (Zj (Af hN24 (Zj (Zp (Kv Yl [] Qa Qa Qa)))))))))))))) (sK (QT (NF hN24 ⟨[0,7],[700]++Yl,[],[]⟩ Qa)))
 ·intro sn29 q30 _ hN31
  refine xR 1 Qa (xE (Qk (NS ck11 (sn29.push (Zb en10 2)) yI yC yK yG yB yS yF yD h7_m h8_m h10_m en10) Qa (sS (Q3 Qa (sK (Qk (NT ck11 (sn29.push (Zb en10 2)) yI yC yK yG yB yS yF yD h7_m h8_m h10_m en10) Qa (sB (sS (sG (VF (b:=700) (m:=1011) (es:=(U8 1012 1013 1014 1015 1016 1017 1018 1019 1020 1021)) (sn:=sn29) 2 hb11 Qa rfl Qa Qa Qa Qa rfl rfl (xR 5 Qa (xE (Qk (iD [102,117,115,101] true (.func 132) ck11 (sn29.push (Zb en10 2)) yI yC yK yG yB yS yF yD h7_m h8_m h10_m en10) Qa (BZ 5 2 Qa (fun hw32=>KM (fun _=>(NU false ck11 (sn29.push (Zb en10 2)) yI yC yK yG yB yS yF yD h7_m h8_m h10_m en10):Unit→St) ?_ ?_)))))))))))))))
  ·refine YK Qe rfl (xR 6 Qa ?_)
   refine xC [.agg [.sl 1, .id, .id], .id] Qa (QF n [1,2] true yI.N hw32) Qa Qa QW (fun r34=>?_)
   exact xR 1 Qa (xS r34 (fun h35=>xO (Qt Qa h35) Qa (xR 12 Qa (Yh Qa (QV () Qa)))) (fun h35=>xN (Qu Qa h35) Qa (xR 12 Qa (Yh Qa (QV () Qa)))))
  rintro _
  exact QZ Qa (sK (QT (NF hN31 ⟨[0,7],[700]++Yl,[],[]⟩ Qa)))
 ·intro sn36 q37 _ hN38
  refine xR 1 Qa (xE (Qk (NS ck11 (sn36.push (Zb en10 3)) yI yC yK yG yB yS yF yD h7_m h8_m h10_m en10) Qa (sS (Q3 Qa (sK (Qk (NT ck11 (sn36.push (Zb en10 3)) yI yC yK yG yB yS yF yD h7_m h8_m h10_m en10) Qa (sB (sS (sG (VF (b:=700) (m:=1011) (es:=(U8 1012 1013 1014 1015 1016 1017 1018 1019 1020 1021)) (sn:=sn36) 3 hb11 Qa rfl Qa Qa Qa Qa rfl rfl (xR 5 Qa (xE (Qk ⟨qC [116,104,101,114,109,97,108],[(5,Qbp),(700, .it 1011 ck11 (sn36.push (Zb en10 3)))]++CQ yI yC yK yG yB yS yF yD h7_m h8_m h10_m en10 ck11++CR⟩ Qa (KM (fun _=>(NU false ck11 (sn36.push (Zb en10 3)) yI yC yK yG yB yS yF yD h7_m h8_m h10_m en10):Unit→St) ?_ ?_))))))))))))))
  ·refine YK Qe rfl (xR 6 Qa ?_)
   refine xC [.agg [.sl 1, .id, .id], .id] Qa (QF n [1,2] true yI.N (.func 133,#[],#[])) Qa Qa QW (fun r40=>?_)
   exact xR 1 Qa (xS r40 (fun h41=>xO (Qt Qa h41) Qa (xR 12 Qa (Yh Qa (QV () Qa)))) (fun h41=>xN (Qu Qa h41) Qa (xR 12 Qa (Yh Qa (QV () Qa)))))
  rintro _
  exact QZ Qa (sK (QT (NF hN38 ⟨[0,7],[700]++Yl,[],[]⟩ Qa)))
 ·intro sn42 q43 _ hN44
  refine xR 1 Qa (xE (Qk (NS ck11 (sn42.push (Zb en10 4)) yI yC yK yG yB yS yF yD h7_m h8_m h10_m en10) Qa (sS (Q3 Qa (sK (Qk (NT ck11 (sn42.push (Zb en10 4)) yI yC yK yG yB yS yF yD h7_m h8_m h10_m en10) Qa (sB (sS (sG (VF (b:=700) (m:=1011) (es:=(U8 1012 1013 1014 1015 1016 1017 1018 1019 1020 1021)) (sn:=sn42) 4 hb11 Qa rfl Qa Qa Qa Qa rfl rfl (xR 5 Qa (xE (Qk ⟨qC [102,114,111,109],[(5,Qbq),(700, .it 1011 ck11 (sn42.push (Zb en10 4)))]++CQ yI yC yK yG yB yS yF yD h7_m h8_m h10_m en10 ck11++CR⟩ Qa (BZ 5 2 Qa (fun hw45=>KM (fun j46=>(NU j46 ck11 (sn42.push (Zb en10 4)) yI yC yK yG yB yS yF yD h7_m h8_m h10_m en10):Bool→St) ?_ ?_)))))))))))))))
  ·refine YK Qe rfl (xR 6 Qa ?_)
   refine xC [.agg [.sl 1, .id, .id], .id] Qa (QF n [2] false yI.N hw45) Qa Qa QW (fun r47=>?_)
   refine xR 1 Qa (xS r47 (fun h48=>?_) (fun h48=>?_))
   ·refine xO (Qt Qa h48) Qa (xR 9 Qa ?_)
    refine Ze Qa Qa (Zx (kt:=9) (e:=4) (ke:=Q6) (ve:=Q7) (eq:=Qd) (b:=1010) (m:=h10_m) (k:=[102,114,111,109]) (z0:=false) rfl Qa Qa Qa Qa Qa QW (fun _ _=>Za rfl _ _) Qa) ?_
    exact xR 2 Qa (Yh Qa (QV (!(QJ Qd [102,114,111,109] false h10_m)) Qa))
   exact xN (Qu Qa h48) Qa (xR 12 Qa (Yh Qa (QV false Qa)))
  rintro j46
  exact sC j46 Qa (Zq (J2 (en:=en10) (ck:=ck11) 1011 (U8 1012 1013 1014 1015 1016 1017 1018 1019 1020 1021) Qa) (sG (xR 4 Qa (Yr [] [I 4, .agg [I yI.Kind,S yI.Name,I yI.N,I yI.At, .p (.sl 5 (mI yI.Kids))]] [] [] [] Qa Tryz.func88 rfl Tryz.ntmps88 rfl Qa Qa Qa (Qg Qe (Gv 4 yI) Qa (sG (xR 6 Qa (X8 160 (.agg [I 4,I yI.At]) Qa rfl Qa (ZO [] [] Qa (Zj (Af hN44 (Zj (Zp (Kv Yl [] Qa Qa Qa)))))))))))))) (sK (QT (NF hN44 ⟨[0,7],[700]++Yl,[],[]⟩ Qa)))
 ·intro sn49 q50 _ hN51
  refine xR 1 Qa (xE (Qk (NS ck11 (sn49.push (Zb en10 5)) yI yC yK yG yB yS yF yD h7_m h8_m h10_m en10) Qa (sS (Q3 Qa (sK (Qk (NT ck11 (sn49.push (Zb en10 5)) yI yC yK yG yB yS yF yD h7_m h8_m h10_m en10) Qa (sB (sS (sG (VF (b:=700) (m:=1011) (es:=(U8 1012 1013 1014 1015 1016 1017 1018 1019 1020 1021)) (sn:=sn49) 5 hb11 Qa rfl Qa Qa Qa Qa rfl rfl (xR 5 Qa (xE (Qk ⟨qC [111,119,110,101,114],[(5,Qbt),(700, .it 1011 ck11 (sn49.push (Zb en10 5)))]++CQ yI yC yK yG yB yS yF yD h7_m h8_m h10_m en10 ck11++CR⟩ Qa (KM (fun j52=>(NU j52 ck11 (sn49.push (Zb en10 5)) yI yC yK yG yB yS yF yD h7_m h8_m h10_m en10):Bool→St) ?_ ?_))))))))))))))
  ·refine YK Qe rfl (xR 6 Qa ?_)
   refine xC [.agg [.sl 1, .id, .id], .id] Qa (QF n [4,5] false yI.N (.func 83,#[],#[])) Qa Qa QW (fun r53=>?_)
   refine xR 1 Qa (xS r53 (fun h54=>?_) (fun h54=>?_))
   ·refine xO (Qt Qa h54) Qa (xR 9 Qa ?_)
    refine Ze Qa Qa (Zx (kt:=9) (e:=4) (ke:=Q6) (ve:=Q7) (eq:=Qd) (b:=1010) (m:=h10_m) (k:=[111,119,110,101,114]) (z0:=false) rfl Qa Qa Qa Qa Qa QW (fun _ _=>Za rfl _ _) Qa) ?_
    exact xR 2 Qa (Yh Qa (QV (!(QJ Qd [111,119,110,101,114] false h10_m)) Qa))
   exact xN (Qu Qa h54) Qa (xR 12 Qa (Yh Qa (QV false Qa)))
  rintro j52
  exact sC j52 Qa (Zq (J2 (en:=en10) (ck:=ck11) 1011 (U8 1012 1013 1014 1015 1016 1017 1018 1019 1020 1021) Qa) (sG (xR 4 Qa (Yr [] [I 4, .agg [I yI.Kind,S yI.Name,I yI.N,I yI.At, .p (.sl 5 (mI yI.Kids))]] [] [] [] Qa Tryz.func88 rfl Tryz.ntmps88 rfl Qa Qa Qa (Qg Qe (Gv 4 yI) Qa (sG (xR 6 Qa (X8 160 (.agg [I 4,I yI.At]) Qa rfl Qa (ZO [] [] Qa (Zj (Af hN51 (Zj (Zp (Kv Yl [] Qa Qa Qa)))))))))))))) (sK (QT (NF hN51 ⟨[0,7],[700]++Yl,[],[]⟩ Qa)))
 ·intro sn55 q56 _ hN57
  refine xR 1 Qa (xE (Qk (NS ck11 (sn55.push (Zb en10 6)) yI yC yK yG yB yS yF yD h7_m h8_m h10_m en10) Qa (sS (Q3 Qa (sK (Qk (NT ck11 (sn55.push (Zb en10 6)) yI yC yK yG yB yS yF yD h7_m h8_m h10_m en10) Qa (sB (sS (sG (VF (b:=700) (m:=1011) (es:=(U8 1012 1013 1014 1015 1016 1017 1018 1019 1020 1021)) (sn:=sn55) 6 hb11 Qa rfl Qa Qa Qa Qa rfl rfl (xR 5 Qa (xE (Qk ⟨qC [114,97,110,107],[(5,Qbu),(700, .it 1011 ck11 (sn55.push (Zb en10 6)))]++CQ yI yC yK yG yB yS yF yD h7_m h8_m h10_m en10 ck11++CR⟩ Qa (KM (fun j58=>(NU j58 ck11 (sn55.push (Zb en10 6)) yI yC yK yG yB yS yF yD h7_m h8_m h10_m en10):Bool→St) ?_ ?_))))))))))))))
  ·refine YK Qe rfl (xR 6 Qa ?_)
   refine xC [.agg [.sl 1, .id, .id], .id] Qa (QF n [4] false yI.N (.func 85,#[],#[])) Qa Qa QW (fun r59=>?_)
   refine xR 1 Qa (xS r59 (fun h60=>?_) (fun h60=>?_))
   ·refine xO (Qt Qa h60) Qa (xR 9 Qa ?_)
    refine Ze Qa Qa (Zx (kt:=9) (e:=4) (ke:=Q6) (ve:=Q7) (eq:=Qd) (b:=1010) (m:=h10_m) (k:=[114,97,110,107]) (z0:=false) rfl Qa Qa Qa Qa Qa QW (fun _ _=>Za rfl _ _) Qa) ?_
    exact xR 2 Qa (Yh Qa (QV (!(QJ Qd [114,97,110,107] false h10_m)) Qa))
   exact xN (Qu Qa h60) Qa (xR 12 Qa (Yh Qa (QV false Qa)))
  rintro j58
  exact sC j58 Qa (Zq (J2 (en:=en10) (ck:=ck11) 1011 (U8 1012 1013 1014 1015 1016 1017 1018 1019 1020 1021) Qa) (sG (xR 4 Qa (Yr [] [I 4, .agg [I yI.Kind,S yI.Name,I yI.N,I yI.At, .p (.sl 5 (mI yI.Kids))]] [] [] [] Qa Tryz.func88 rfl Tryz.ntmps88 rfl Qa Qa Qa (Qg Qe (Gv 4 yI) Qa (sG (xR 6 Qa (X8 160 (.agg [I 4,I yI.At]) Qa rfl Qa (ZO [] [] Qa (Zj (Af hN57 (Zj (Zp (Kv Yl [] Qa Qa Qa)))))))))))))) (sK (QT (NF hN57 ⟨[0,7],[700]++Yl,[],[]⟩ Qa)))
 ·intro sn61 q62 _ hN63
  refine xR 1 Qa (xE (Qk (NS ck11 (sn61.push (Zb en10 7)) yI yC yK yG yB yS yF yD h7_m h8_m h10_m en10) Qa (sS (Q3 Qa (sK (Qk (NT ck11 (sn61.push (Zb en10 7)) yI yC yK yG yB yS yF yD h7_m h8_m h10_m en10) Qa (sB (sS (sG (VF (b:=700) (m:=1011) (es:=(U8 1012 1013 1014 1015 1016 1017 1018 1019 1020 1021)) (sn:=sn61) 7 hb11 Qa rfl Qa Qa Qa Qa rfl rfl (xR 5 Qa (xE (Qk ⟨qC [99,97,114,100],[(5,Qbv),(700, .it 1011 ck11 (sn61.push (Zb en10 7)))]++CQ yI yC yK yG yB yS yF yD h7_m h8_m h10_m en10 ck11++CR⟩ Qa (KM (fun j64=>(NU j64 ck11 (sn61.push (Zb en10 7)) yI yC yK yG yB yS yF yD h7_m h8_m h10_m en10):Bool→St) ?_ ?_))))))))))))))
  ·refine YK Qe rfl (xR 6 Qa ?_)
   refine xC [.agg [.sl 1, .id, .id], .id] Qa (QF n [4] false yI.N (.func 87,#[],#[])) Qa Qa QW (fun r65=>?_)
   refine xR 1 Qa (xS r65 (fun h66=>?_) (fun h66=>?_))
   ·refine xO (Qt Qa h66) Qa (xR 9 Qa ?_)
    refine Ze Qa Qa (Zx (kt:=9) (e:=4) (ke:=Q6) (ve:=Q7) (eq:=Qd) (b:=1010) (m:=h10_m) (k:=[99,97,114,100]) (z0:=false) rfl Qa Qa Qa Qa Qa QW (fun _ _=>Za rfl _ _) Qa) ?_
    exact xR 2 Qa (Yh Qa (QV (!(QJ Qd [99,97,114,100] false h10_m)) Qa))
   exact xN (Qu Qa h66) Qa (xR 12 Qa (Yh Qa (QV false Qa)))
  rintro j64
  exact sC j64 Qa (Zq (J2 (en:=en10) (ck:=ck11) 1011 (U8 1012 1013 1014 1015 1016 1017 1018 1019 1020 1021) Qa) (sG (xR 4 Qa (Yr [] [I 4, .agg [I yI.Kind,S yI.Name,I yI.N,I yI.At, .p (.sl 5 (mI yI.Kids))]] [] [] [] Qa Tryz.func88 rfl Tryz.ntmps88 rfl Qa Qa Qa (Qg Qe (Gv 4 yI) Qa (sG (xR 6 Qa (X8 160 (.agg [I 4,I yI.At]) Qa rfl Qa (ZO [] [] Qa (Zj (Af hN63 (Zj (Zp (Kv Yl [] Qa Qa Qa)))))))))))))) (sK (QT (NF hN63 ⟨[0,7],[700]++Yl,[],[]⟩ Qa)))
 ·intro sn67 q68 _ hN69
  refine xR 1 Qa (xE (Qk (NS ck11 (sn67.push (Zb en10 8)) yI yC yK yG yB yS yF yD h7_m h8_m h10_m en10) Qa (sS (Q3 Qa (sK (Qk (NT ck11 (sn67.push (Zb en10 8)) yI yC yK yG yB yS yF yD h7_m h8_m h10_m en10) Qa (sB (sS (sG (VF (b:=700) (m:=1011) (es:=(U8 1012 1013 1014 1015 1016 1017 1018 1019 1020 1021)) (sn:=sn67) 8 hb11 Qa rfl Qa Qa Qa Qa rfl rfl (xR 5 Qa (xE (Qk (iE [97,116] (.func (.func 89) #[] #[]) ck11 (sn67.push (Zb en10 8)) yI yC yK yG yB yS yF yD h7_m h8_m h10_m en10) Qa (KM (fun j70=>(NU j70 ck11 (sn67.push (Zb en10 8)) yI yC yK yG yB yS yF yD h7_m h8_m h10_m en10):Bool→St) ?_ ?_))))))))))))))
  ·refine YK Qe rfl (xR 6 Qa ?_)
   refine xC [.agg [.sl 1, .id, .id], .id] Qa (QF n [5] false yI.N (.func 89,#[],#[])) Qa Qa QW (fun r71=>?_)
   refine xR 1 Qa (xS r71 (fun h72=>?_) (fun h72=>?_))
   ·refine xO (Qt Qa h72) Qa (xR 9 Qa ?_)
    refine Ze Qa Qa (Zx (kt:=9) (e:=4) (ke:=Q6) (ve:=Q7) (eq:=Qd) (b:=1010) (m:=h10_m) (k:=[97,116]) (z0:=false) rfl Qa Qa Qa Qa Qa QW (fun _ _=>Za rfl _ _) Qa) ?_
    exact xR 2 Qa (Yh Qa (QV (!(QJ Qd [97,116] false h10_m)) Qa))
   exact xN (Qu Qa h72) Qa (xR 12 Qa (Yh Qa (QV false Qa)))
  rintro j70
  exact sC j70 Qa (Zq (J2 (en:=en10) (ck:=ck11) 1011 (U8 1012 1013 1014 1015 1016 1017 1018 1019 1020 1021) Qa) (sG (xR 4 Qa (Yr [] [I 4, .agg [I yI.Kind,S yI.Name,I yI.N,I yI.At, .p (.sl 5 (mI yI.Kids))]] [] [] [] Qa Tryz.func88 rfl Tryz.ntmps88 rfl Qa Qa Qa (Qg Qe (Gv 4 yI) Qa (sG (xR 6 Qa (X8 160 (.agg [I 4,I yI.At]) Qa rfl Qa (ZO [] [] Qa (Zj (Af hN69 (Zj (Zp (Kv Yl [] Qa Qa Qa)))))))))))))) (sK (QT (NF hN69 ⟨[0,7],[700]++Yl,[],[]⟩ Qa)))
 ·intro sn73 q74 _ hN75
  refine xR 1 Qa (xE (Qk (NS ck11 (sn73.push (Zb en10 9)) yI yC yK yG yB yS yF yD h7_m h8_m h10_m en10) Qa (sS (Q3 Qa (sK (Qk (NT ck11 (sn73.push (Zb en10 9)) yI yC yK yG yB yS yF yD h7_m h8_m h10_m en10) Qa (sB (sS (sG (VF (b:=700) (m:=1011) (es:=(U8 1012 1013 1014 1015 1016 1017 1018 1019 1020 1021)) (sn:=sn73) 9 hb11 Qa rfl Qa Qa Qa Qa rfl rfl (xR 5 Qa (xE (Qk (iE [112,104,97,115,101,115] (.func (.func 90) #[] #[]) ck11 (sn73.push (Zb en10 9)) yI yC yK yG yB yS yF yD h7_m h8_m h10_m en10) Qa (KM (fun j76=>(NU j76 ck11 (sn73.push (Zb en10 9)) yI yC yK yG yB yS yF yD h7_m h8_m h10_m en10):Bool→St) ?_ ?_))))))))))))))
  ·refine YK Qe rfl (xR 6 Qa ?_)
   refine xC [.agg [.sl 1, .id, .id], .id] Qa (QF n [5] false yI.N (.func 90,#[],#[])) Qa Qa QW (fun r77=>?_)
   refine xR 1 Qa (xS r77 (fun h78=>?_) (fun h78=>?_))
   ·refine xO (Qt Qa h78) Qa (xR 9 Qa ?_)
    refine Ze Qa Qa (Zx (kt:=9) (e:=4) (ke:=Q6) (ve:=Q7) (eq:=Qd) (b:=1010) (m:=h10_m) (k:=[112,104,97,115,101,115]) (z0:=false) rfl Qa Qa Qa Qa Qa QW (fun _ _=>Za rfl _ _) Qa) ?_
    exact xR 2 Qa (Yh Qa (QV (!(QJ Qd [112,104,97,115,101,115] false h10_m)) Qa))
   exact xN (Qu Qa h78) Qa (xR 12 Qa (Yh Qa (QV false Qa)))
  rintro j76
  exact sC j76 Qa (Zq (J2 (en:=en10) (ck:=ck11) 1011 (U8 1012 1013 1014 1015 1016 1017 1018 1019 1020 1021) Qa) (sG (xR 4 Qa (Yr [] [I 4, .agg [I yI.Kind,S yI.Name,I yI.N,I yI.At, .p (.sl 5 (mI yI.Kids))]] [] [] [] Qa Tryz.func88 rfl Tryz.ntmps88 rfl Qa Qa Qa (Qg Qe (Gv 4 yI) Qa (sG (xR 6 Qa (X8 160 (.agg [I 4,I yI.At]) Qa rfl Qa (ZO [] [] Qa (Zj (Af hN75 (Zj (Zp (Kv Yl [] Qa Qa Qa)))))))))))))) (sK (QT (NF hN75 ⟨[0,7],[700]++Yl,[],[]⟩ Qa)))
 ·intro sn79 q80 _ hN81
  refine xR 1 Qa (xE (Qk (NS ck11 (sn79.push (Zb en10 10)) yI yC yK yG yB yS yF yD h7_m h8_m h10_m en10) Qa (sS (Q3 Qa (sK (Qk (NT ck11 (sn79.push (Zb en10 10)) yI yC yK yG yB yS yF yD h7_m h8_m h10_m en10) Qa (sB (sS (sG (VF (b:=700) (m:=1011) (es:=(U8 1012 1013 1014 1015 1016 1017 1018 1019 1020 1021)) (sn:=sn79) 10 hb11 Qa rfl Qa Qa Qa Qa rfl rfl (xR 5 Qa (xE (Qk ⟨qC [97,109,112,115],[(5,Qbx),(700, .it 1011 ck11 (sn79.push (Zb en10 10)))]++CQ yI yC yK yG yB yS yF yD h7_m h8_m h10_m en10 ck11++CR⟩ Qa (BZ 5 2 Qa (fun hw82=>KM (fun j83=>(NU j83 ck11 (sn79.push (Zb en10 10)) yI yC yK yG yB yS yF yD h7_m h8_m h10_m en10):Bool→St) ?_ ?_)))))))))))))))
  ·refine YK Qe rfl (xR 6 Qa ?_)
   refine xC [.agg [.sl 1, .id, .id], .id] Qa (QF n [5] false yI.N hw82) Qa Qa QW (fun r84=>?_)
   refine xR 1 Qa (xS r84 (fun h85=>?_) (fun h85=>?_))
   ·refine xO (Qt Qa h85) Qa (xR 9 Qa ?_)
    refine Ze Qa Qa (Zx (kt:=9) (e:=4) (ke:=Q6) (ve:=Q7) (eq:=Qd) (b:=1010) (m:=h10_m) (k:=[97,109,112,115]) (z0:=false) rfl Qa Qa Qa Qa Qa QW (fun _ _=>Za rfl _ _) Qa) ?_
    exact xR 2 Qa (Yh Qa (QV (!(QJ Qd [97,109,112,115] false h10_m)) Qa))
   exact xN (Qu Qa h85) Qa (xR 12 Qa (Yh Qa (QV false Qa)))
  rintro j83
  exact sC j83 Qa (Zq (J2 (en:=en10) (ck:=ck11) 1011 (U8 1012 1013 1014 1015 1016 1017 1018 1019 1020 1021) Qa) (sG (xR 4 Qa (Yr [] [I 4, .agg [I yI.Kind,S yI.Name,I yI.N,I yI.At, .p (.sl 5 (mI yI.Kids))]] [] [] [] Qa Tryz.func88 rfl Tryz.ntmps88 rfl Qa Qa Qa (Qg Qe (Gv 4 yI) Qa (sG (xR 6 Qa (X8 160 (.agg [I 4,I yI.At]) Qa rfl Qa (ZO [] [] Qa (Zj (Af hN81 (Zj (Zp (Kv Yl [] Qa Qa Qa)))))))))))))) (sK (QT (NF hN81 ⟨[0,7],[700]++Yl,[],[]⟩ Qa)))
 ·intro sn86 q87 _ hN88
  refine xR 1 Qa (xE (Qk (NS ck11 (sn86.push (Zb en10 11)) yI yC yK yG yB yS yF yD h7_m h8_m h10_m en10) Qa (sS (Q3 Qa (sK (Qk (NT ck11 (sn86.push (Zb en10 11)) yI yC yK yG yB yS yF yD h7_m h8_m h10_m en10) Qa (sB (sS (sG (VF (b:=700) (m:=1011) (es:=(U8 1012 1013 1014 1015 1016 1017 1018 1019 1020 1021)) (sn:=sn86) 11 hb11 Qa rfl Qa Qa Qa Qa rfl rfl (xR 5 Qa (xE (Qk (iE [102,97,108,108,98,97,99,107] (.func (.func 93) #[] #[]) ck11 (sn86.push (Zb en10 11)) yI yC yK yG yB yS yF yD h7_m h8_m h10_m en10) Qa (KM (fun j89=>(NU j89 ck11 (sn86.push (Zb en10 11)) yI yC yK yG yB yS yF yD h7_m h8_m h10_m en10):Bool→St) ?_ ?_))))))))))))))
  ·refine YK Qe rfl (xR 6 Qa ?_)
   refine xC [.agg [.sl 1, .id, .id], .id] Qa (QF n [5] false yI.N (.func 93,#[],#[])) Qa Qa QW (fun r90=>?_)
   refine xR 1 Qa (xS r90 (fun h91=>?_) (fun h91=>?_))
   ·refine xO (Qt Qa h91) Qa (xR 9 Qa ?_)
    refine Ze Qa Qa (Zx (kt:=9) (e:=4) (ke:=Q6) (ve:=Q7) (eq:=Qd) (b:=1010) (m:=h10_m) (k:=[102,97,108,108,98,97,99,107]) (z0:=false) rfl Qa Qa Qa Qa Qa QW (fun _ _=>Za rfl _ _) Qa) ?_
    exact xR 2 Qa (Yh Qa (QV (!(QJ Qd [102,97,108,108,98,97,99,107] false h10_m)) Qa))
   exact xN (Qu Qa h91) Qa (xR 12 Qa (Yh Qa (QV false Qa)))
  rintro j89
  exact sC j89 Qa (Zq (J2 (en:=en10) (ck:=ck11) 1011 (U8 1012 1013 1014 1015 1016 1017 1018 1019 1020 1021) Qa) (sG (xR 4 Qa (Yr [] [I 4, .agg [I yI.Kind,S yI.Name,I yI.N,I yI.At, .p (.sl 5 (mI yI.Kids))]] [] [] [] Qa Tryz.func88 rfl Tryz.ntmps88 rfl Qa Qa Qa (Qg Qe (Gv 4 yI) Qa (sG (xR 6 Qa (X8 160 (.agg [I 4,I yI.At]) Qa rfl Qa (ZO [] [] Qa (Zj (Af hN88 (Zj (Zp (Kv Yl [] Qa Qa Qa)))))))))))))) (sK (QT (NF hN88 ⟨[0,7],[700]++Yl,[],[]⟩ Qa)))
 intro sn92 q93 _ hN94
 refine xR 1 Qa (xE (Qk (NS ck11 (sn92.push (Zb en10 12)) yI yC yK yG yB yS yF yD h7_m h8_m h10_m en10) Qa (sS (Q3 Qa (sK (Qk (NT ck11 (sn92.push (Zb en10 12)) yI yC yK yG yB yS yF yD h7_m h8_m h10_m en10) Qa (sB (sS (sG (VF (b:=700) (m:=1011) (es:=(U8 1012 1013 1014 1015 1016 1017 1018 1019 1020 1021)) (sn:=sn92) 12 hb11 Qa rfl Qa Qa Qa Qa rfl rfl (xR 5 Qa (xE (Qk ⟨qC [99,104,97,114,103,101,114],[(5,Qbz),(700, .it 1011 ck11 (sn92.push (Zb en10 12)))]++CQ yI yC yK yG yB yS yF yD h7_m h8_m h10_m en10 ck11++CR⟩ Qa (KM (fun j95=>(NU j95 ck11 (sn92.push (Zb en10 12)) yI yC yK yG yB yS yF yD h7_m h8_m h10_m en10):Bool→St) ?_ ?_))))))))))))))
 ·refine YK Qe rfl (xR 6 Qa ?_)
  refine xC [.agg [.sl 1, .id, .id], .id] Qa (QF n [6] false yI.N (.func 94,#[],#[])) Qa Qa QW (fun r96=>?_)
  refine xR 1 Qa (xS r96 (fun h97=>?_) (fun h97=>?_))
  ·refine xO (Qt Qa h97) Qa (xR 9 Qa ?_)
   refine Ze Qa Qa (Zx (kt:=9) (e:=4) (ke:=Q6) (ve:=Q7) (eq:=Qd) (b:=1010) (m:=h10_m) (k:=[99,104,97,114,103,101,114]) (z0:=false) rfl Qa Qa Qa Qa Qa QW (fun _ _=>Za rfl _ _) Qa) ?_
   exact xR 2 Qa (Yh Qa (QV (!(QJ Qd [99,104,97,114,103,101,114] false h10_m)) Qa))
  exact xN (Qu Qa h97) Qa (xR 12 Qa (Yh Qa (QV false Qa)))
 rintro j95
 exact sC j95 Qa (Zq (J2 (en:=en10) (ck:=ck11) 1011 (U8 1012 1013 1014 1015 1016 1017 1018 1019 1020 1021) Qa) (sG (xR 4 Qa (Yr [] [I 4, .agg [I yI.Kind,S yI.Name,I yI.N,I yI.At, .p (.sl 5 (mI yI.Kids))]] [] [] [] Qa Tryz.func88 rfl Tryz.ntmps88 rfl Qa Qa Qa (Qg Qe (Gv 4 yI) Qa (sG (xR 6 Qa (X8 160 (.agg [I 4,I yI.At]) Qa rfl Qa (ZO [] [] Qa (Zj (Af hN94 (Zj (Zp (Kv Yl [] Qa Qa Qa)))))))))))))) (sK (QT (NF hN94 ⟨[0,7],[700]++Yl,[],[]⟩ Qa)))
abbrev ty7:=(Int × (List ZI) × (List Zf) × (List Kq) × (List ZL) × (List Zt) × Bool × (List KG) × (List ((List UInt8) × Bool)) × (List ((List UInt8) × KP)))
abbrev ty4:=((List ZI) × (List Zf) × (List Kq) × (List ZL) × (List Zt) × Bool × (List KG) × (List ((List UInt8) × Bool)) × (List ((List UInt8) × KP)))
def UT (n:Nat) (a0n:GN) (recl3:ty7→Option ty4) (l3_1:Int) (l3_2:List ZI) (l3_3:List Zf) (l3_4:List Kq) (l3_5:List ZL) (l3_6:List Zt) (l3_7:Bool) (l3_8:List KG) (l3_9:List ((List UInt8) × Bool)) (l3_10:List ((List UInt8) × KP)):Option ty4 :=
 cond (QL l3_1 (Qc (List.map YC a0n.Kids)))
  ((Option.bind (Zc a0n.Kids l3_1) GN.of).bind fun x4 =>
  ((cond (QJ Qd x4.Name false l3_9)
   (some true)
   (cond (Qs x4.N 1)
    (some l3_7)
    (some false))).bind fun j6 =>
  (cond l3_7
   (some true)
   (some (Qs x4.N 1))).bind fun j9 =>
  cond j6
   (cond (ZB (List.length (l3_8++[(⟨5,x4.At⟩:KG)])) 16) (
    some (l3_2,l3_3,l3_4,l3_5,l3_6,j9,l3_8++[(⟨5,x4.At⟩:KG)],l3_10)) none)
   (cond (Qs x4.N 7)
    (some (l3_2,l3_3,l3_4,l3_5,l3_6,j9,l3_8,l3_10))
    (((cond (Qs x4.N 1)
     (some (Qs x4.N 1))
     (some (Qs x4.N 2))).bind fun j12 =>
    cond j12
     (some (Qc (List.map ZI.cs l3_2),16))
     (cond (Qs x4.N 3)
      (some (Qc (List.map Zf.cs l3_3),8))
      (cond (Qs x4.N 4)
       (some (Qc (List.map Kq.cs l3_4),32))
       (cond (Qs x4.N 5)
        (some (Qc (List.map ZL.cs l3_5),16))
        (some (Qc (List.map Zt.cs l3_6),24)))))).bind fun (j11_1,j11_2) =>
    cond (leI j11_2 j11_1)
     (cond (ZB (List.length (l3_8++[(⟨2,x4.At⟩:KG)])) 16) (
      some (l3_2,l3_3,l3_4,l3_5,l3_6,j9,l3_8++[(⟨2,x4.At⟩:KG)],l3_10)) none)
     ((CO n x4 (⟨[],0,0,0,(⟨0,0⟩:UE),(⟨0,0,0,0,0⟩:KN)⟩:ZI) (⟨[],0,0,0⟩:Kq) (⟨[],0,0,0,0,0,0,0⟩:ZL) (⟨[],0⟩:Zt) (⟨l3_2,l3_3,l3_4,l3_5,l3_6⟩:Qj) j9 l3_8 (Qq Qd x4.Name true l3_9) l3_10 []).bind (MZ (fun r13 =>
      (CP n x4 r13.1 r13.2.1 r13.2.2.1 r13.2.2.2.1 (⟨l3_2,l3_3,l3_4,l3_5,l3_6⟩:Qj) j9 l3_8 (Qq Qd x4.Name true l3_9) l3_10 r13.2.2.2.2).bind (MZ (fun r15 =>
       ((cond (Qs x4.N 1)
        (some (Qs x4.N 1))
        (some (Qs x4.N 2))).bind fun j18 =>
       cond j18
        (some (Qc (List.map ZI.cs l3_2)))
        (cond (Qs x4.N 3)
         (some (Qc (List.map Zf.cs l3_3)))
         (cond (Qs x4.N 4)
          (some (Qc (List.map Kq.cs l3_4)))
          (cond (Qs x4.N 5)
           (some (Qc (List.map ZL.cs l3_5)))
           (some (Qc (List.map Zt.cs l3_6))))))).bind fun j17 =>
       cond (Qs x4.N 1)
        (cond (ZB (List.length (l3_2++[(⟨x4.Name,(-1),r13.1.Limit,r13.1.Neutral,r13.1.Fuse,r13.1.Cable⟩:ZI)])) 96) (
         some (l3_2++[(⟨x4.Name,(-1),r13.1.Limit,r13.1.Neutral,r13.1.Fuse,r13.1.Cable⟩:ZI)],l3_3,l3_4,l3_5,l3_6,j9,l3_8,Qq QE x4.Name (⟨x4.N,j17⟩:KP) l3_10)) none)
        (cond (Qs x4.N 2)
         (cond (ZB (List.length (l3_2++[(⟨x4.Name,r13.1.Up,r13.1.Limit,r13.1.Neutral,r13.1.Fuse,r13.1.Cable⟩:ZI)])) 96) (
          some (l3_2++[(⟨x4.Name,r13.1.Up,r13.1.Limit,r13.1.Neutral,r13.1.Fuse,r13.1.Cable⟩:ZI)],l3_3,l3_4,l3_5,l3_6,j9,l3_8,Qq QE x4.Name (⟨x4.N,j17⟩:KP) l3_10)) none)
         (cond (Qs x4.N 3)
          (cond (ZB (List.length (l3_3++[(⟨x4.Name⟩:Zf)])) 16) (
           some (l3_2,l3_3++[(⟨x4.Name⟩:Zf)],l3_4,l3_5,l3_6,j9,l3_8,Qq QE x4.Name (⟨x4.N,j17⟩:KP) l3_10)) none)
          (cond (Qs x4.N 4)
           (cond (ZB (List.length (l3_4++[(⟨x4.Name,r13.2.1.Owner,r13.2.1.Rank,r13.2.1.Card⟩:Kq)])) 40) (
            some (l3_2,l3_3,l3_4++[(⟨x4.Name,r13.2.1.Owner,r13.2.1.Rank,r13.2.1.Card⟩:Kq)],l3_5,l3_6,j9,l3_8,Qq QE x4.Name (⟨x4.N,j17⟩:KP) l3_10)) none)
           (cond (Qs x4.N 5)
            (cond (ZB (List.length (l3_5++[(⟨x4.Name,r13.2.2.1.At,r13.2.2.1.Phases,r13.2.2.1.Min,r13.2.2.1.Max,r13.2.2.1.Step,r13.2.2.1.Fallback,r13.2.2.1.Owner⟩:ZL)])) 72) (
             some (l3_2,l3_3,l3_4,l3_5++[(⟨x4.Name,r13.2.2.1.At,r13.2.2.1.Phases,r13.2.2.1.Min,r13.2.2.1.Max,r13.2.2.1.Step,r13.2.2.1.Fallback,r13.2.2.1.Owner⟩:ZL)],l3_6,j9,l3_8,Qq QE x4.Name (⟨x4.N,j17⟩:KP) l3_10)) none)
            (cond (Qs x4.N 6)
             (cond (ZB (List.length (l3_6++[(⟨x4.Name,r13.2.2.2.1.Charger⟩:Zt)])) 24) (
              some (l3_2,l3_3,l3_4,l3_5,l3_6++[(⟨x4.Name,r13.2.2.2.1.Charger⟩:Zt)],j9,l3_8,Qq QE x4.Name (⟨x4.N,j17⟩:KP) l3_10)) none)
             (some (l3_2,l3_3,l3_4,l3_5,l3_6,j9,l3_8,Qq QE x4.Name (⟨x4.N,j17⟩:KP) l3_10)))))))) fun e16=>cond (ZB (List.length (l3_8++[(⟨e16.1,e16.2⟩:KG)])) 16) (
       some (l3_2,l3_3,l3_4,l3_5,l3_6,j9,l3_8++[(⟨e16.1,e16.2⟩:KG)],l3_10)) none)) fun e14=>cond (ZB (List.length (l3_8++[(⟨e14.1.1,e14.1.2⟩:KG)])) 16) (
      some (l3_2,l3_3,l3_4,l3_5,l3_6,j9,l3_8++[(⟨e14.1.1,e14.1.2⟩:KG)],l3_10)) none))))).bind fun (j5_1,j5_2,j5_3,j5_4,j5_5,j5_6,j5_7,j5_8) =>
  cond (Qs (Qc (List.map KG.cs j5_7)) 20)
   (some (j5_1,j5_2,j5_3,j5_4,j5_5,j5_6,j5_7,Qq Qd x4.Name true l3_9,j5_8))
   (recl3 (wi (l3_1+1),j5_1,j5_2,j5_3,j5_4,j5_5,j5_6,j5_7,Qq Qd x4.Name true l3_9,j5_8)))
  (some (l3_2,l3_3,l3_4,l3_5,l3_6,l3_7,l3_8,l3_9,l3_10))
def Ri (n:Nat) (a0n:GN):Option (Qj × (List KG)) :=
 (Hu n a0n).bind fun r1 =>
 cond (!r1)
  (some ((⟨[],[],[],[],[]⟩:Qj),[(⟨1,0⟩:KG)]))
  ((Q4 (fun recl3 (l3_1,l3_2,l3_3,l3_4,l3_5,l3_6,l3_7,l3_8,l3_9,l3_10)=>UT n a0n recl3 l3_1 l3_2 l3_3 l3_4 l3_5 l3_6 l3_7 l3_8 l3_9 l3_10) n (0,[],[],[],[],[],false,[],[],[])).bind fun (j2_1,j2_2,j2_3,j2_4,j2_5,j2_6,j2_7,j2_8,j2_9) =>
  cond (QL 0 (Qc (List.map KG.cs j2_7)))
   (some ((⟨[],[],[],[],[]⟩:Qj),j2_7))
   (cond (!j2_6)
    (some ((⟨[],[],[],[],[]⟩:Qj),[(⟨4,0⟩:KG)]))
    (some ((⟨j2_1,j2_2,j2_3,j2_4,j2_5⟩:Qj),[]))))
def kS:Blk:=.box 28 [.p (.val (.slice none 0 0)), .p (.val (.slice none 0 0)), .p (.val (.slice none 0 0)), .p (.val (.slice none 0 0)), .p (.val (.slice none 0 0))]
def iF:=fun x0=>([(1, .box 61 (Kw (GN.cs x0))),(2,kS)]:List (Nat × Blk))
def QbB:Blk:=.box 113 [.p (.val (.slice none 0 0)), .p (.val (.slice none 0 0)), .p (.val (.slice none 0 0)), .p (.val (.slice none 0 0)), .p (.val (.slice none 0 0)), .mv 14,B false, .mv 15, .p (.val (.slice none 0 0))]
def QbC:=fun x0=>([(1, .box 61 (Kw (GN.cs x0))),(2,kS),(14, .mp (JH Q6 Q7 [])),(15, .mp (JH VH VJ [])),(17,QbB)]:List (Nat × Blk))
def Aw:Blk:=.box 29 [.tsl 1 (List.map ci [1,2]) 403]
def QbD:List (Nat × Blk):=[(401,Aw),(402, .box 148 [I 1,I 1000]),(403, .arr 3 1 (List.map ci [1,2]).length),(405, .mf [(true,[108,105,109,105,116], .agg [.tsl 1 (List.map ci [1,2]) 403,B false, .fn (.func 130) [] [.ptr 402 0]]),(true,[110,101,117,116,114,97,108], .agg [.tsl 1 (List.map ci [1,2]) 403,B false, .fn (.func 131) [] [.ptr 402 0]]),(true,[102,117,115,101], .agg [.tsl 1 (List.map ci [1,2]) 403,B true, .fn (.func 132) [] [.ptr 402 0]]),(true,[116,104,101,114,109,97,108], .agg [.tsl 1 (List.map ci [1,2]) 403,B true, .p (.val (.func (.func 133) #[] #[]))]),(true,[102,114,111,109], .agg [.tsl 1 (List.map ci [2]) 417,B false, .fn (.func 134) [] [.ptr 401 0]])]),(417, .arr 3 1 (List.map ci [2]).length)]
def QbE:List (Nat × Blk):=[(401,Aw),(402, .box 148 [I 1,I 1000]),(403, .arr 3 1 (List.map ci [1,2]).length),(405, .mf [(true,[108,105,109,105,116], .agg [.tsl 1 (List.map ci [1,2]) 403,B false, .fn (.func 130) [] [.ptr 402 0]]),(true,[110,101,117,116,114,97,108], .agg [.tsl 1 (List.map ci [1,2]) 403,B false, .fn (.func 131) [] [.ptr 402 0]]),(true,[102,117,115,101], .agg [.tsl 1 (List.map ci [1,2]) 403,B true, .fn (.func 132) [] [.ptr 402 0]]),(true,[116,104,101,114,109,97,108], .agg [.tsl 1 (List.map ci [1,2]) 403,B true, .p (.val (.func (.func 133) #[] #[]))]),(true,[102,114,111,109], .agg [.tsl 1 (List.map ci [2]) 417,B false, .fn (.func 134) [] [.ptr 401 0]]),(true,[111,119,110,101,114], .agg [.tsl 1 (List.map ci [4,5]) 7,B false, .p (.val (.func (.func 83) #[] #[]))]),(true,[114,97,110,107], .agg [.tsl 1 (List.map ci [4]) 10,B false, .p (.val (.func (.func 85) #[] #[]))]),(true,[99,97,114,100], .agg [.tsl 1 (List.map ci [4]) 13,B false, .p (.val (.func (.func 87) #[] #[]))])]),(417, .arr 3 1 (List.map ci [2]).length)]
def iG:List (Nat × AV):=[(1, .mv 405),(2, .ptr 2 0),(3, .tsl 1 (List.map ci [5]) 15)]
def nJ:List (Nat × Blk):=[(2, .box 148 [I 1,I 80]),(7, .arr 3 1 (List.map ci [4,5]).length),(10, .arr 3 1 (List.map ci [4]).length),(13, .arr 3 1 (List.map ci [4]).length),(15, .arr 3 1 (List.map ci [5]).length)]
def QbF:List (Nat × Blk):=[(2, .box 148 [I 1,I 80]),(7, .arr 3 1 (List.map ci [4,5]).length),(10, .arr 3 1 (List.map ci [4]).length),(13, .arr 3 1 (List.map ci [4]).length),(15, .arr 3 1 (List.map ci [5]).length),(30, .arr 3 1 (List.map ci [6]).length)]
def QbG:List (Nat × Blk):=[(401,Aw),(402, .box 148 [I 1,I 1000]),(403, .arr 3 1 (List.map ci [1,2]).length),(405, .mf (U8 403 402 417 401 7 10 13 15 2 30)),(417, .arr 3 1 (List.map ci [2]).length)]
def iH:List (Nat × Blk):=[(401,Aw),(402, .box 148 [I 1,I 80]),(403, .arr 3 1 (List.map ci [1,2]).length),(405, .mf (U8 403 439 417 401 407 410 413 415 402 430)),(407, .arr 3 1 (List.map ci [4,5]).length),(410, .arr 3 1 (List.map ci [4]).length),(413, .arr 3 1 (List.map ci [4]).length),(415, .arr 3 1 (List.map ci [5]).length),(417, .arr 3 1 (List.map ci [2]).length),(430, .arr 3 1 (List.map ci [6]).length),(439, .box 148 [I 1,I 1000])]
def QbH:=fun x0 x1 x2 x3 x4 x5 x6=>(.box 113 [.tsl 11 (List.map ZI.cs x0) 700, .tsl 1 (List.map Zf.cs x1) 701, .tsl 4 (List.map Kq.cs x2) 702, .tsl 8 (List.map ZL.cs x3) 703, .tsl 2 (List.map Zt.cs x4) 704, .mv 14,B x5, .mv 15, .tsl 2 (List.map KG.cs x6) 423]:Blk)
def uI:=fun x0 x1 x2 x3 x4 x5 x6 x7 x8=>([(2,kS),(14, .mp (JH Q6 Q7 x0)),(15, .mp (JH VH VJ x1)),(17,(QbH x2 x3 x4 x5 x6 x7 x8))]:List (Nat × Blk))
def kT:=fun x0=>(.arr 54 11 (List.map ZI.cs x0).length:Blk)
def kU:=fun x0=>(.arr 166 1 (List.map Zf.cs x0).length:Blk)
def kV:=fun x0=>(.arr 120 4 (List.map Kq.cs x0).length:Blk)
def kW:=fun x0=>(.arr 32 8 (List.map ZL.cs x0).length:Blk)
def kX:=fun x0=>(.arr 123 2 (List.map Zt.cs x0).length:Blk)
def vX:=fun x0 x1 x2 x3 x4=>([(700,(kT x0)),(701,(kU x1)),(702,(kV x2)),(703,(kW x3)),(704,(kX x4))]:List (Nat × Blk))
def iI:=fun x0 x1 x2 x3 x4 x5 x6 x7 x8=>(⟨[(2, .ptr 2 0),(4, .ptr 17 0)],uI x0 x1 x2 x3 x4 x5 x6 x7 x8++[(423,(Wy x8))]++vX x2 x3 x4 x5 x6⟩:St)
def iJ:=fun x0 x1=>([(2, .ptr 2 0),(4, .ptr 17 0),(5, .mv 405),(20, .p (.sl 5 (List.map YC (GN.Kids x0)))),(21,I (Qc (List.map YC (GN.Kids x0)))),(22,I x1)]:List (Nat × AV))
def QbI:List (Nat × Blk):=[(2,kS),(14, .mp (JH Q6 Q7 [])),(15, .mp (JH VH VJ [])),(17,QbB)]
def rM:=fun x0=>([(401,Aw),(402, .box 148 [I 1,I 80]),(403, .arr 3 1 (List.map ci [1,2]).length),(405, .mf (U8 403 439 417 401 407 410 413 415 402 430)),(407, .arr 3 1 (List.map ci [4,5]).length),(410, .arr 3 1 (List.map ci [4]).length),(413, .arr 3 1 (List.map ci [4]).length),(415, .arr 3 1 (List.map ci [5]).length),(417, .arr 3 1 (List.map ci [2]).length),(423,(Wy x0)),(430, .arr 3 1 (List.map ci [6]).length),(439, .box 148 [I 1,I 1000])]:List (Nat × Blk))
def rO:=fun x0 x1 x2 x3 x4 x5 x6 x7 x8 x9 x10=>(⟨iJ x0 x1,uI x2 x3 x4 x5 x6 x7 x8 x9 x10++rM x10++vX x4 x5 x6 x7 x8⟩:St)
def iK:=fun x0 x1 x2 x3 x4 x5 x6=>(.box 113 [.tsl 11 (List.map ZI.cs x0) 1004, .tsl 1 (List.map Zf.cs x1) 1005, .tsl 4 (List.map Kq.cs x2) 1006, .tsl 8 (List.map ZL.cs x3) 1007, .tsl 2 (List.map Zt.cs x4) 1008, .mv 1000,B x5, .mv 1001, .tsl 2 (List.map KG.cs x6) 1003]:Blk)
def Rq:=fun x0 x1 x2 x3 x4 x5 x6 x7 x8=>([(1000, .mp (JH Q6 Q7 x0)),(1001, .mp (JH VH VJ x1)),(1002,(iK x2 x3 x4 x5 x6 x7 x8)),(1003,(Wy x8)),(1004,(kT x2)),(1005,(kU x3)),(1006,(kV x4)),(1007,(kW x5)),(1008,(kX x6)),(1009,Qbr)]:List (Nat × Blk))
def Qde:List (Nat × AV):=[(2, .mv 1012),(3, .ptr 1900 0),(4, .ptr 4 0)]
def TI:List (Nat × Blk):=[(1010, .box 148 [I 1,I 80]),(1011, .arr 3 1 (List.map ci [1,2]).length),(1012, .mf (U8 1011 1019 1017 1009 1013 1014 1015 1016 1010 1018)),(1013, .arr 3 1 (List.map ci [4,5]).length),(1014, .arr 3 1 (List.map ci [4]).length),(1015, .arr 3 1 (List.map ci [4]).length),(1016, .arr 3 1 (List.map ci [5]).length),(1017, .arr 3 1 (List.map ci [2]).length),(1018, .arr 3 1 (List.map ci [6]).length),(1019, .box 148 [I 1,I 1000]),(1900, .box 109 [.ptr 1002 0])]
def rP:=fun x0 x1 x2 x3 x4 x5 x6 x7 x8 x9=>(⟨Qde,GI x0++Rq x1 x2 x3 x4 x5 x6 x7 x8 x9++TI⟩:St)
def iL:=fun x0=>([(2, .mv 1012),(3, .ptr 1900 0),(4, .ptr 4 0),(6,B x0)]:List (Nat × AV))
def uN:List (Nat × Nat):=[(1000,1000),(1001,1001),(1002,1002),(1003,1003),(1004,1004),(1005,1005),(1006,1006),(1007,1007),(1008,1008),(1009,1900)]
def YF:=fun x0 x1 x2 x3 x4 x5 x6 x7 x8=>([(1000, .mp (JH Q6 Q7 x0)),(1001, .mp (JH VH VJ x1)),(1002,(iK x2 x3 x4 x5 x6 x7 x8)),(1003,(Wy x8)),(1004,(kT x2)),(1005,(kU x3)),(1006,(kV x4)),(1007,(kW x5)),(1008,(kX x6)),(1009, .box 109 [.ptr 1002 0])]:List (Nat × Blk))
def rQ:=fun x0 x1=>([(0, .ptr 1009 0),(1, .ifc 160 (.agg [I x0,I x1])),(6,B true)]:List (Nat × AV))
def rR:=fun x0 x1=>([(0, .ptr 1009 0),(1, .ifc 160 (.agg [I x0,I x1])),(2, .ptr 2 0),(3,B true)]:List (Nat × AV))
def MO:=fun x0 x1=>([(2, .box 160 [I x0,I x1])]:List (Nat × Blk))
def rT:=fun x0 x1=>([(0, .ptr 1009 0),(1, .ifc 160 (.agg [I x0,I x1])),(2, .ptr 2 0),(13,B false)]:List (Nat × AV))
def rU:=fun x0 x1 x2 x3 x4 x5 x6 x7 x8 x9 x10=>(⟨[(0, .ptr 1009 0),(2, .ptr 2 0)],MO x0 x1++YF x2 x3 x4 x5 x6 x7 x8 x9 x10⟩:St)
def kY:List (Nat × AV):=[(0, .ptr 1009 0),(1, .p (.val (.nilIface))),(6,B false)]
def Vr:=fun x0 x1 x2 x3 x4 x5 x6 x7 x8=>([(1000, .mp (JH Q6 Q7 x0)),(1001, .mp (JH VH VJ x1)),(1002,(iK x2 x3 x4 x5 x6 x7 x8)),(1003,(Wy x8)),(1004,(kT x2)),(1005,(kU x3)),(1006,(kV x4)),(1007,(kW x5)),(1008,(kX x6))]:List (Nat × Blk))
def rV:=fun x0 x1=>([(0, .ptr 1002 0),(6,I x0),(7,B x1)]:List (Nat × AV))
def QbJ:=fun x0=>([(4,I (Qc (List.map ZI.cs x0))),(5,I 16)]:List (Nat × AV))
def QbK:=fun x0=>([(4,I (Qc (List.map Kq.cs x0))),(5,I 32)]:List (Nat × AV))
def QbL:List (Nat × Nat):=[(1000,69),(1001,1002),(1002,1004),(1003,1005),(1004,1006),(1005,1007),(1006,1008),(1007,1000),(1008,1001),(1009,1003),(1010,67),(1011,1012),(1012,1011),(1013,1019),(1014,1017),(1015,1009),(1016,1013),(1017,1014),(1018,1015),(1019,1016),(1020,1010),(1021,1018)]
def QbM:=fun x0 x1 x2 x3 x4 x5=>(.box 152 ([.ptr 1002 0]++Kw (GN.cs x0)++[.mv 67]++Kw (ZI.cs x1)++Kw (Kq.cs x2)++Kw (ZL.cs x3)++[S x4,I x5]):Blk)
def Qdf:=fun x0 x1 x2 x3 x4 x5=>(.box 152 ([.ptr 1004 0]++Kw (GN.cs x0)++[.mv 1000]++Kw (ZI.cs x1)++Kw (Kq.cs x2)++Kw (ZL.cs x3)++[S x4,I x5]):Blk)
def iM:=fun x0 x1 x2 x3 x4 x5 x6=>(.box 113 [.tsl 11 (List.map ZI.cs x0) 1006, .tsl 1 (List.map Zf.cs x1) 1007, .tsl 4 (List.map Kq.cs x2) 1008, .tsl 8 (List.map ZL.cs x3) 1009, .tsl 2 (List.map Zt.cs x4) 1010, .mv 1002,B x5, .mv 1003, .tsl 2 (List.map KG.cs x6) 1005]:Blk)
def Fe:=fun x0 x1 x2 x3 x4 x5 x6 x7 x8 x9 x10 x11 x12 x13 x14 x15=>([(1000, .mp (JH Q6 Q7 x0)),(1001,(Qdf x1 x2 x3 x4 x5 x6)),(1002, .mp (JH Q6 Q7 x7)),(1003, .mp (JH VH VJ x8)),(1004,(iM x9 x10 x11 x12 x13 x14 x15)),(1005,(Wy x15)),(1006,(kT x9)),(1007,(kU x10)),(1008,(kV x11)),(1009,(kW x12)),(1010,(kX x13))]:List (Nat × Blk))
def QbN:=fun x0=>([(0, .ptr 1001 0),(2,S x0),(3, .ptr 1004 0)]:List (Nat × AV))
theorem PY (n:Nat) (a0n:GN):∀ r,Ri n a0n=some r→Q0 Tryz.prog 16 [ag (GN.cs a0n)] (.ret (.tup [ag (Qj.cs r.1), .p (.sl 2 (Fa r.2))])):=by
 refine Qp Tryz.func16 rfl Tryz.ntmps16 rfl ?_
 unfold Ri
 refine Qg Qe ⟨[qq 1,qq 2],iF a0n⟩ Qa (sS (sS (sG (xR 1 Qa ?_))))
 refine xC [] Qa (MJ n a0n) Qa Qa QW (fun r1=>?_)
 refine xR 1 Qa (xE (Qk ⟨[qq 1,qq 2,(10,B (!r1))],iF a0n⟩ Qa (sC (!r1) Qa (Qg Qe ⟨[qq 2,(3, .tsl 2 (Fa [(⟨1,0⟩:KG)]) 13)],[(2,kS),(13,(dW (⟨1,0⟩:KG)))]⟩ Qa (sT (QY (qR (.agg [.agg [.sl 11, .sl 1, .sl 4, .sl 8, .sl 2], .sl 2]) Qa Qa Qa)))) (sK (Qk ⟨[qq 1,qq 2],iF a0n⟩ Qa (sS (sG (Ze Qa Qa (SN (d:=14) (rsv:=none) rfl rfl Qa) (Ze Qa Qa (SN (d:=15) (rsv:=none) rfl rfl Qa) (xR 3 Qa (xE (Qk ⟨[qq 1,qq 2,(4, .ptr 17 0)],QbC a0n⟩ Qa (sS (sG (Yr [] [] [(2,402),(7,407),(10,410),(13,413),(15,415),(30,430),(401,401),(402,439),(403,403),(405,405),(417,417)] [] [] Qa Tryz.func47 rfl Tryz.ntmps47 rfl Qa Qa Qa (Qg Qe ⟨[],[]⟩ Qa (sS (sG (Yr [] [] [(1,401),(2,402),(3,403),(5,405),(17,417)] [] [] Qa Tryz.func82 rfl Tryz.ntmps82 rfl Qa Qa Qa (Qg Qe ⟨[],[]⟩ Qa (Qg Qe ⟨[qq 1],[(1, .box 29 [.tsl 1 (List.map ci [1,2]) 3]),(3, .arr 3 1 (List.map ci [1,2]).length)]⟩ Qa (Qg Qe ⟨[qq 1,qq 2],[(1, .box 29 [.tsl 1 (List.map ci [1,2]) 3]),(2, .box 148 [I 1,I 1000]),(3, .arr 3 1 (List.map ci [1,2]).length)]⟩ Qa (sS (sG (xR 4 Qa (Ah Qa rfl Qa Qa (xR 3 Qa (Ah Qa rfl Qa Qa (xR 3 Qa (Ah Qa rfl Qa Qa (xR 2 Qa (Ah Qa rfl Qa Qa (xR 3 Qa (Ah Qa rfl Qa Qa (xR 2 Qa (xE (Qk ⟨[(0, .mv 5)],[(1, .box 29 [.tsl 1 (List.map ci [1,2]) 3]),(2, .box 148 [I 1,I 1000]),(3, .arr 3 1 (List.map ci [1,2]).length),(5, .mf [(true,[108,105,109,105,116], .agg [.tsl 1 (List.map ci [1,2]) 3,B false, .fn (.func 130) [] [.ptr 2 0]]),(true,[110,101,117,116,114,97,108], .agg [.tsl 1 (List.map ci [1,2]) 3,B false, .fn (.func 131) [] [.ptr 2 0]]),(true,[102,117,115,101], .agg [.tsl 1 (List.map ci [1,2]) 3,B true, .fn (.func 132) [] [.ptr 2 0]]),(true,[116,104,101,114,109,97,108], .agg [.tsl 1 (List.map ci [1,2]) 3,B true, .p (.val (.func (.func 133) #[] #[]))]),(true,[102,114,111,109], .agg [.tsl 1 (List.map ci [2]) 17,B false, .fn (.func 134) [] [.ptr 1 0]])]),(17, .arr 3 1 (List.map ci [2]).length)]⟩ Qa (sT (QN (.id) [1,2,3,5,17] [] (.mv 5) Qa Qa (Yq (xR 1 Qa (xE (Qk ⟨[(1, .mv 405)],QbD⟩ Qa ?_)))))))))))))))))))))))))))))))))))))))))))
 refine Qg Qe ⟨[(1, .mv 405),qq 2],[(2, .box 148 [I 1,I 80])]++QbD⟩ Qa (Qg Qe ⟨[(1, .mv 405),qq 2],[(2, .box 148 [I 1,I 80]),(7, .arr 3 1 (List.map ci [4,5]).length),(401,Aw),(402, .box 148 [I 1,I 1000]),(403, .arr 3 1 (List.map ci [1,2]).length),(405, .mf [(true,[108,105,109,105,116], .agg [.tsl 1 (List.map ci [1,2]) 403,B false, .fn (.func 130) [] [.ptr 402 0]]),(true,[110,101,117,116,114,97,108], .agg [.tsl 1 (List.map ci [1,2]) 403,B false, .fn (.func 131) [] [.ptr 402 0]]),(true,[102,117,115,101], .agg [.tsl 1 (List.map ci [1,2]) 403,B true, .fn (.func 132) [] [.ptr 402 0]]),(true,[116,104,101,114,109,97,108], .agg [.tsl 1 (List.map ci [1,2]) 403,B true, .p (.val (.func (.func 133) #[] #[]))]),(true,[102,114,111,109], .agg [.tsl 1 (List.map ci [2]) 417,B false, .fn (.func 134) [] [.ptr 401 0]]),(true,[111,119,110,101,114], .agg [.tsl 1 (List.map ci [4,5]) 7,B false, .p (.val (.func (.func 83) #[] #[]))])]),(417, .arr 3 1 (List.map ci [2]).length)]⟩ Qa (Qg Qe ⟨[(1, .mv 405),qq 2],[(2, .box 148 [I 1,I 80]),(7, .arr 3 1 (List.map ci [4,5]).length),(10, .arr 3 1 (List.map ci [4]).length),(401,Aw),(402, .box 148 [I 1,I 1000]),(403, .arr 3 1 (List.map ci [1,2]).length),(405, .mf [(true,[108,105,109,105,116], .agg [.tsl 1 (List.map ci [1,2]) 403,B false, .fn (.func 130) [] [.ptr 402 0]]),(true,[110,101,117,116,114,97,108], .agg [.tsl 1 (List.map ci [1,2]) 403,B false, .fn (.func 131) [] [.ptr 402 0]]),(true,[102,117,115,101], .agg [.tsl 1 (List.map ci [1,2]) 403,B true, .fn (.func 132) [] [.ptr 402 0]]),(true,[116,104,101,114,109,97,108], .agg [.tsl 1 (List.map ci [1,2]) 403,B true, .p (.val (.func (.func 133) #[] #[]))]),(true,[102,114,111,109], .agg [.tsl 1 (List.map ci [2]) 417,B false, .fn (.func 134) [] [.ptr 401 0]]),(true,[111,119,110,101,114], .agg [.tsl 1 (List.map ci [4,5]) 7,B false, .p (.val (.func (.func 83) #[] #[]))]),(true,[114,97,110,107], .agg [.tsl 1 (List.map ci [4]) 10,B false, .p (.val (.func (.func 85) #[] #[]))])]),(417, .arr 3 1 (List.map ci [2]).length)]⟩ Qa (Qg Qe ⟨[(1, .mv 405),qq 2],[(2, .box 148 [I 1,I 80]),(7, .arr 3 1 (List.map ci [4,5]).length),(10, .arr 3 1 (List.map ci [4]).length),(13, .arr 3 1 (List.map ci [4]).length)]++QbE⟩ Qa (Qg Qe ⟨iG,nJ++QbE⟩ Qa (Qg Qe ⟨iG,nJ++[(401,Aw),(402, .box 148 [I 1,I 1000]),(403, .arr 3 1 (List.map ci [1,2]).length),(405, .mf [(true,[108,105,109,105,116], .agg [.tsl 1 (List.map ci [1,2]) 403,B false, .fn (.func 130) [] [.ptr 402 0]]),(true,[110,101,117,116,114,97,108], .agg [.tsl 1 (List.map ci [1,2]) 403,B false, .fn (.func 131) [] [.ptr 402 0]]),(true,[102,117,115,101], .agg [.tsl 1 (List.map ci [1,2]) 403,B true, .fn (.func 132) [] [.ptr 402 0]]),(true,[116,104,101,114,109,97,108], .agg [.tsl 1 (List.map ci [1,2]) 403,B true, .p (.val (.func (.func 133) #[] #[]))]),(true,[102,114,111,109], .agg [.tsl 1 (List.map ci [2]) 417,B false, .fn (.func 134) [] [.ptr 401 0]]),(true,[111,119,110,101,114], .agg [.tsl 1 (List.map ci [4,5]) 7,B false, .p (.val (.func (.func 83) #[] #[]))]),(true,[114,97,110,107], .agg [.tsl 1 (List.map ci [4]) 10,B false, .p (.val (.func (.func 85) #[] #[]))]),(true,[99,97,114,100], .agg [.tsl 1 (List.map ci [4]) 13,B false, .p (.val (.func (.func 87) #[] #[]))]),(true,[97,116], .agg [.tsl 1 (List.map ci [5]) 15,B false, .p (.val (.func (.func 89) #[] #[]))])]),(417, .arr 3 1 (List.map ci [2]).length)]⟩ Qa (Qg Qe ⟨iG,nJ++[(401,Aw),(402, .box 148 [I 1,I 1000]),(403, .arr 3 1 (List.map ci [1,2]).length),(405, .mf (QcL 403 402 417 401 7 10 13 15)),(417, .arr 3 1 (List.map ci [2]).length)]⟩ Qa (Qg Qe ⟨[(1, .mv 405),(3, .tsl 1 (List.map ci [5]) 15)],nJ++[(401,Aw),(402, .box 148 [I 1,I 1000]),(403, .arr 3 1 (List.map ci [1,2]).length),(405, .mf (QcK 403 402 417 401 7 10 13 15 2)),(417, .arr 3 1 (List.map ci [2]).length)]⟩ Qa ?_)))))))
 refine Qg Qe ⟨[(1, .mv 405)],nJ++[(401,Aw),(402, .box 148 [I 1,I 1000]),(403, .arr 3 1 (List.map ci [1,2]).length),(405, .mf (QcJ 403 402 417 401 7 10 13 15 2)),(417, .arr 3 1 (List.map ci [2]).length)]⟩ Qa (Qg Qe ⟨[(1, .mv 405)],QbF++QbG⟩ Qa (Qg Qe ⟨[(0, .mv 405)],QbF++QbG⟩ Qa (sT (QN (.id) [2,7,10,13,15,30,401,402,403,405,417] [] (.mv 405) Qa Qa (Yq (xR 1 Qa (xE (Qk ⟨[qq 1,qq 2,(4, .ptr 17 0),(5, .mv 405)],QbC a0n++iH⟩ Qa (KM (fun (j2_1,j2_2,j2_3,j2_4,j2_5,j2_6,j2_7,j2_8,j2_9)=>(iI j2_8 j2_9 j2_1 j2_2 j2_3 j2_4 j2_5 j2_6 j2_7):ty4→St) ?_ ?_)))))))))
 rotate_left
 ·rintro ⟨j2_1,j2_2,j2_3,j2_4,j2_5,j2_6,j2_7,j2_8,j2_9⟩
  exact sS (Qg Qe ⟨[qq 2,(4, .ptr 17 0),(42,B (QL 0 (Qc (Fa j2_7))))],uI j2_8 j2_9 j2_1 j2_2 j2_3 j2_4 j2_5 j2_6 j2_7++[(423,(Wy j2_7))]++vX j2_1 j2_2 j2_3 j2_4 j2_5⟩ Qa (sC (QL 0 (Qc (Fa j2_7))) Qa (Qg Qe ⟨[qq 2,(3, .tsl 2 (Fa j2_7) 423)],[(2,kS),(423,(Wy j2_7))]⟩ Qa (sT (QY (qR (.agg [.agg [.sl 11, .sl 1, .sl 4, .sl 8, .sl 2], .sl 2]) Qa Qa Qa)))) (sK (Qk (iI j2_8 j2_9 j2_1 j2_2 j2_3 j2_4 j2_5 j2_6 j2_7) Qa (sS (Qg Qe ⟨[qq 2,(4, .ptr 17 0),(52,B (!j2_6))],uI j2_8 j2_9 j2_1 j2_2 j2_3 j2_4 j2_5 j2_6 j2_7++[(423,(Wy j2_7))]++vX j2_1 j2_2 j2_3 j2_4 j2_5⟩ Qa (sC (!j2_6) Qa (Qg Qe ⟨[qq 2,(3, .tsl 2 (Fa [(⟨4,0⟩:KG)]) 55)],[(2,kS),(55,(dW (⟨4,0⟩:KG)))]⟩ Qa (sT (QY (qR (.agg [.agg [.sl 11, .sl 1, .sl 4, .sl 8, .sl 2], .sl 2]) Qa Qa Qa)))) (sK (Qk (iI j2_8 j2_9 j2_1 j2_2 j2_3 j2_4 j2_5 j2_6 j2_7) Qa (Qg Qe ⟨[qq 2,(3,zS)],[(2, .box 28 [.tsl 11 (XM j2_1) 700, .tsl 1 (K3 j2_2) 701, .tsl 4 (Fw j2_3) 702, .tsl 8 (Z5 j2_4) 703, .tsl 2 (Wx j2_5) 704]),(700,(kT j2_1)),(701,(kU j2_2)),(702,(kV j2_3)),(703,(kW j2_4)),(704,(kX j2_5))]⟩ Qa (sT (qR (.agg [.agg [.sl 11, .sl 1, .sl 4, .sl 8, .sl 2], .sl 2]) Qa Qa Qa))))))))))))
 refine Qg Qe ⟨iJ a0n 0,QbI++iH⟩ Qa (sB (M3 ⟨iJ a0n 0,QbI++iH⟩ Qa (Zq (Weak.trans (KZ 99 2 423 [] [(17,8)] Qa) (Weak.trans (KZ 54 11 700 [] [(17,0)] Qa) (Weak.trans (KZ 166 1 701 [] [(17,1)] Qa) (Weak.trans (KZ 120 4 702 [] [(17,2)] Qa) (Weak.trans (KZ 32 8 703 [] [(17,3)] Qa) (KZ 123 2 704 [] [(17,4)] Qa)))))) (Qw (fun (l3_1,l3_2,l3_3,l3_4,l3_5,l3_6,l3_7,l3_8,l3_9,l3_10)=>(rO a0n l3_1 l3_9 l3_10 l3_2 l3_3 l3_4 l3_5 l3_6 l3_7 l3_8):ty7→St) (Wq Qa) ?_))))
 rintro recl3 ⟨l3_1,l3_2,l3_3,l3_4,l3_5,l3_6,l3_7,l3_8,l3_9,l3_10⟩
 show QU (UT n a0n recl3 l3_1 l3_2 l3_3 l3_4 l3_5 l3_6 l3_7 l3_8 l3_9 l3_10) _ _ _ _ _ _
 unfold UT
 refine Qg Qe ⟨[qq 2,(4, .ptr 17 0),(5, .mv 405),(20, .p (.sl 5 (mI a0n.Kids))),(21,I (Qc (mI a0n.Kids))),(22,I l3_1),(23,B (QL l3_1 (Qc (mI a0n.Kids))))],uI l3_9 l3_10 l3_2 l3_3 l3_4 l3_5 l3_6 l3_7 l3_8++rM l3_8++vX l3_2 l3_3 l3_4 l3_5 l3_6⟩ Qa (sS (sC (QL l3_1 (Qc (mI a0n.Kids))) Qa (sK (Qk (rO a0n l3_1 l3_9 l3_10 l3_2 l3_3 l3_4 l3_5 l3_6 l3_7 l3_8) Qa (sS (sB (sS (sG (xG Qa Qa (Vh (e:=61) (S:=5) (enc:=GN.cs) (dec:=GN.of) (l:=a0n.Kids) (k:=.i64) (n:=l3_1) (sv:=.p (.sl 5 (mI a0n.Kids))) GN.of_cs rfl Qa Qa Qa Qa Qa) (fun x4=>xR 3 Qa (xE (Qk ⟨[qq 2,(4, .ptr 17 0),(5, .mv 405),qq 7,(20, .p (.sl 5 (mI a0n.Kids))),(21,I (Qc (mI a0n.Kids))),(22,I l3_1)],[(2,kS),(7,Xl x4),(14, .mp (JH Q6 Q7 l3_9)),(15, .mp (JH VH VJ l3_10)),(17,(QbH l3_2 l3_3 l3_4 l3_5 l3_6 l3_7 l3_8))]++rM l3_8++vX l3_2 l3_3 l3_4 l3_5 l3_6⟩ Qa (KM (fun (j5_1,j5_2,j5_3,j5_4,j5_5,j5_6,j5_7,j5_8)=>(rO a0n l3_1 (Qq Qd x4.Name true l3_9) j5_8 j5_1 j5_2 j5_3 j5_4 j5_5 j5_6 j5_7):((List ZI) × (List Zf) × (List Kq) × (List ZL) × (List Zt) × Bool × (List KG) × (List ((List UInt8) × KP)))→St) ?_ ?_))))))))))) (Qm (Zu (ZP (QG (QV (l3_2,l3_3,l3_4,l3_5,l3_6,l3_7,l3_8,l3_9,l3_10) Qa)))))))
 rotate_left
 ·rintro ⟨j5_1,j5_2,j5_3,j5_4,j5_5,j5_6,j5_7,j5_8⟩
  exact Qg Qe ⟨[qq 2,(4, .ptr 17 0),(5, .mv 405),(20, .p (.sl 5 (mI a0n.Kids))),(21,I (Qc (mI a0n.Kids))),(22,I l3_1),(35,B (Qs (Qc (Fa j5_7)) 20))],uI (Qq Qd x4.Name true l3_9) j5_8 j5_1 j5_2 j5_3 j5_4 j5_5 j5_6 j5_7++rM j5_7++vX j5_1 j5_2 j5_3 j5_4 j5_5⟩ Qa (sC (Qs (Qc (Fa j5_7)) 20) Qa (Qm (Ee rfl (Zu (ZP (QG (QV (j5_1,j5_2,j5_3,j5_4,j5_5,j5_6,j5_7,Qq Qd x4.Name true l3_9,j5_8) Qa)))))) (sK (QT (Qk (rO a0n l3_1 (Qq Qd x4.Name true l3_9) j5_8 j5_1 j5_2 j5_3 j5_4 j5_5 j5_6 j5_7) Qa (sL Qe Qa (Ky (wi (l3_1+1),j5_1,j5_2,j5_3,j5_4,j5_5,j5_6,j5_7,Qq Qd x4.Name true l3_9,j5_8) Qa))))))
 refine sG (xR 3 Qa (Yj (f:=48) (args:=[.ptr 17 0, .agg [I x4.Kind,S x4.Name,I x4.N,I x4.At, .p (.sl 5 (mI x4.Kids))], .mv 405]) Qa Qa Qa ?_))
 refine Cc (hc:=(Rq l3_9 l3_10 l3_2 l3_3 l3_4 l3_5 l3_6 l3_7 l3_8++[(1010, .box 148 [I 1,I 80]),(1011, .arr 3 1 (List.map ci [1,2]).length),(1012, .mf (U8 1011 1019 1017 1009 1013 1014 1015 1016 1010 1018)),(1013, .arr 3 1 (List.map ci [4,5]).length),(1014, .arr 3 1 (List.map ci [4]).length),(1015, .arr 3 1 (List.map ci [4]).length),(1016, .arr 3 1 (List.map ci [5]).length),(1017, .arr 3 1 (List.map ci [2]).length),(1018, .arr 3 1 (List.map ci [6]).length),(1019, .box 148 [I 1,I 1000])])) (args':=[Jo, .agg [I x4.Kind,S x4.Name,I x4.N,I x4.At, .p (.sl 5 (mI x4.Kids))], .mv 1012]) [(1000,14),(1001,15),(1002,17),(1009,401),(1010,402),(1011,403),(1012,405),(1013,407),(1014,410),(1015,413),(1016,415),(1017,417),(1003,423),(1018,430),(1019,439),(1004,700),(1005,701),(1006,702),(1007,703),(1008,704)] [] [] (⟨_,_,_,_,_,_,[3],10,_,rfl,rfl,rfl,rfl,rfl,rfl,rfl,rfl,by decide⟩:F3 Tryz.f48 95) [(3,1900)] Tryz.func48 Tryz.ntmps48 Qa Qa Qa Qa Qa Qe rfl Qa Qa ?_
 refine M3 (rP x4 l3_9 l3_10 l3_2 l3_3 l3_4 l3_5 l3_6 l3_7 l3_8) Qa (KM (fun j6=>⟨iL j6,GI x4++Rq l3_9 l3_10 l3_2 l3_3 l3_4 l3_5 l3_6 l3_7 l3_8++TI⟩:Bool→St) ?_ ?_)
 ·refine YK Qe rfl (xR 6 Qa ?_)
  refine Ze Qa Qa (Zx (kt:=9) (e:=4) (ke:=Q6) (ve:=Q7) (eq:=Qd) (b:=1000) (m:=l3_9) (k:=x4.Name) (z0:=false) rfl Qa Qa Qa Qa Qa QW (fun _ _=>Za rfl _ _) Qa) ?_
  exact xR 1 Qa (xS (QJ Qd x4.Name false l3_9) (fun h7=>xN (QB Qa h7) Qa (xR 10 Qa (Yh Qa (QV true Qa)))) (fun h7=>xO (QA Qa h7) Qa (xR 3 Qa (xS (Qs x4.N 1) (fun h8=>xO (Qt Qa h8) Qa (xR 6 Qa (Yh Qa (QV l3_7 Qa)))) (fun h8=>xN (Qu Qa h8) Qa (xR 6 Qa (Yh Qa (QV false Qa))))))))
 rintro j6
 refine sS (YK Qe rfl (xR 6 Qa ?_))
 refine Ze Qa Qa (Yk (kt:=9) (e:=4) (ke:=Q6) (ve:=Q7) (eq:=Qd) (b:=1000) (m:=l3_9) (k:=x4.Name) (v:=true) rfl Qa Qa Qa Qa Qa Qa QW (fun _ _=>Za rfl _ _)) ?_
 refine Yh Qa (Qk ⟨iL j6,GI x4++Rq (Qq Qd x4.Name true l3_9) l3_10 l3_2 l3_3 l3_4 l3_5 l3_6 l3_7 l3_8++TI⟩ Qa (KM (fun j9=>⟨iL j6,GI x4++Rq (Qq Qd x4.Name true l3_9) l3_10 l3_2 l3_3 l3_4 l3_5 l3_6 j9 l3_8++TI⟩:Bool→St) (YK Qe rfl (xR 6 Qa (xS l3_7 (fun h10=>xN (QB Qa h10) Qa (xR 6 Qa (Yh Qa (QV true Qa)))) (fun h10=>xO (QA Qa h10) Qa (xR 6 Qa (Yh Qa (QV (Qs x4.N 1) Qa))))))) ?_))
 rintro j9
 refine sS (Qg Qe ⟨[(2, .mv 1012),(3, .ptr 1900 0),qq 4,(47,B j6)],GI x4++Rq (Qq Qd x4.Name true l3_9) l3_10 l3_2 l3_3 l3_4 l3_5 l3_6 j9 l3_8++TI⟩ Qa (sC j6 Qa ?_ ?_))
 ·refine sG (xR 1 Qa (Yr [] [I 5, .agg [I x4.Kind,S x4.Name,I x4.N,I x4.At, .p (.sl 5 (mI x4.Kids))]] [] [] [] Qa Tryz.func88 rfl Tryz.ntmps88 rfl Qa Qa Qa (Qg Qe ⟨[(0,I 5),qq 3],WK x4⟩ Qa (sG (xR 6 Qa (X8 160 (.agg [I 5,I x4.At]) Qa rfl Qa (ZO [] [] Qa (Kk ?_))))))))
  refine Jw (⟨Tryz.f95,_,_,_,4,1,_,_,Tryz.func95,rfl,rfl,rfl,rfl,rfl,rfl,rfl,by decide,by decide⟩:Ko Tryz.prog 95) uN (YF (Qq Qd x4.Name true l3_9) l3_10 l3_2 l3_3 l3_4 l3_5 l3_6 j9 l3_8) (.ifc 160 (.agg [I 5,I x4.At])) [.ptr 1009 0] [] rfl Qa Qa Qa Qa ?_
  exact Qg Qe ⟨rQ 5 x4.At,YF (Qq Qd x4.Name true l3_9) l3_10 l3_2 l3_3 l3_4 l3_5 l3_6 j9 l3_8⟩ Qa (Q3 Qa (Qg Qe ⟨rR 5 x4.At,MO 5 x4.At++YF (Qq Qd x4.Name true l3_9) l3_10 l3_2 l3_3 l3_4 l3_5 l3_6 j9 l3_8⟩ Qa (sS (Qg Qe ⟨rT 5 x4.At,MO 5 x4.At++YF (Qq Qd x4.Name true l3_9) l3_10 l3_2 l3_3 l3_4 l3_5 l3_6 j9 l3_8⟩ Qa (QZ Qa (sK (Qk (rU 5 x4.At (Qq Qd x4.Name true l3_9) l3_10 l3_2 l3_3 l3_4 l3_5 l3_6 j9 l3_8) Qa (YK Qe rfl (xR 8 Qa (xF Qa Qa (ZM (e:=99) (S:=2) (by_:=16) (enc:=KG.cs) (tk:=1003) (l:=l3_8) (l2:=[(⟨5,x4.At⟩:KG)]) (xv:=.tsl 2 (Fa [(⟨5,x4.At⟩:KG)]) 22) rfl Qa Qa rfl Qa Qa Qa rfl Qa) (xR 3 Qa (Yh Qa (BM [1000,1001,1002,1003,1004,1005,1006,1007,1008,1009] [] Qa Qa (QN (.id) [1000,1001,1002,1003,1004,1005,1006,1007,1008,1009,1010,1011,1012,1013,1014,1015,1016,1017,1018,1019] [] (.tup []) Qa Qa (Yq (xE (QV (l3_2,l3_3,l3_4,l3_5,l3_6,j9,l3_8++[(⟨5,x4.At⟩:KG)],l3_10) Qa)))))))))))))))))
 refine sK (Qk (rP x4 (Qq Qd x4.Name true l3_9) l3_10 l3_2 l3_3 l3_4 l3_5 l3_6 j9 l3_8) Qa (sS (Qg Qe ⟨[(2, .mv 1012),(3, .ptr 1900 0),qq 4,(52,B (Qs x4.N 7))],GI x4++Rq (Qq Qd x4.Name true l3_9) l3_10 l3_2 l3_3 l3_4 l3_5 l3_6 j9 l3_8++TI⟩ Qa (sC (Qs x4.N 7) Qa ?_ ?_))))
 ·refine sT (QY ?_)
  refine Jw (⟨Tryz.f95,_,_,_,4,1,_,_,Tryz.func95,rfl,rfl,rfl,rfl,rfl,rfl,rfl,by decide,by decide⟩:Ko Tryz.prog 95) uN (YF (Qq Qd x4.Name true l3_9) l3_10 l3_2 l3_3 l3_4 l3_5 l3_6 j9 l3_8) (.p (.val (.nilIface))) [.ptr 1009 0] [] rfl Qa Qa Qa Qa ?_
  exact Qg Qe ⟨kY,YF (Qq Qd x4.Name true l3_9) l3_10 l3_2 l3_3 l3_4 l3_5 l3_6 j9 l3_8⟩ Qa (QZ Qa (sK (BM [1000,1001,1002,1003,1004,1005,1006,1007,1008,1009] [] Qa Qa (QN (.id) [1000,1001,1002,1003,1004,1005,1006,1007,1008,1009,1010,1011,1012,1013,1014,1015,1016,1017,1018,1019] [] (.tup []) Qa Qa (Yq (xE (QV (l3_2,l3_3,l3_4,l3_5,l3_6,j9,l3_8,l3_10) Qa)))))))
 refine sK (Qk (rP x4 (Qq Qd x4.Name true l3_9) l3_10 l3_2 l3_3 l3_4 l3_5 l3_6 j9 l3_8) Qa (sS (KM (fun (j11_1,j11_2)=>⟨[(2, .mv 1012),(3, .ptr 1900 0),qq 4,(7,I j11_1),(8,I j11_2)],GI x4++Rq (Qq Qd x4.Name true l3_9) l3_10 l3_2 l3_3 l3_4 l3_5 l3_6 j9 l3_8++TI⟩:(Int × Int)→St) ?_ ?_)))
 ·refine sG (xR 3 Qa (Yr (Vr (Qq Qd x4.Name true l3_9) l3_10 l3_2 l3_3 l3_4 l3_5 l3_6 j9 l3_8) [Jo,I x4.N] [(1000,1000),(1001,1001),(1002,1002),(1003,1003),(1004,1004),(1005,1005),(1006,1006),(1007,1007),(1008,1008)] [] [] Qa Tryz.func96 rfl Tryz.ntmps96 rfl Qa Qa Qa (Qg Qe ⟨[(0,Jo),(1,I x4.N)],Vr (Qq Qd x4.Name true l3_9) l3_10 l3_2 l3_3 l3_4 l3_5 l3_6 j9 l3_8⟩ Qa (sS (Qg Qe ⟨[(0,Jo),(6,I x4.N)],Vr (Qq Qd x4.Name true l3_9) l3_10 l3_2 l3_3 l3_4 l3_5 l3_6 j9 l3_8⟩ Qa (sB (KM (fun j12=>⟨rV x4.N j12,Vr (Qq Qd x4.Name true l3_9) l3_10 l3_2 l3_3 l3_4 l3_5 l3_6 j9 l3_8⟩:Bool→St) (Qg Qe ⟨rV x4.N (Qs x4.N 1),Vr (Qq Qd x4.Name true l3_9) l3_10 l3_2 l3_3 l3_4 l3_5 l3_6 j9 l3_8⟩ Qa (sC (Qs x4.N 1) Qa (sK (QV (Qs x4.N 1) Qa)) (sL Qe Qa (QV (Qs x4.N 2) Qa)))) ?_)))))))
  rintro j12
  exact sC j12 Qa (Qg Qe ⟨QbJ l3_2,Vr (Qq Qd x4.Name true l3_9) l3_10 l3_2 l3_3 l3_4 l3_5 l3_6 j9 l3_8⟩ Qa (sT (Q9 (QY (QN (.id) [1000,1001,1002,1003,1004,1005,1006,1007,1008] [] (.tup [I (Qc (XM l3_2)),I 16]) Qa Qa (Yq (xR 5 Qa (xE (QV (Qc (XM l3_2),16) Qa))))))))) (Qg Qe ⟨[(0,Jo),(6,I x4.N),(16,B (Qs x4.N 3))],Vr (Qq Qd x4.Name true l3_9) l3_10 l3_2 l3_3 l3_4 l3_5 l3_6 j9 l3_8⟩ Qa (sC (Qs x4.N 3) Qa (Qg Qe ⟨[(4,I (Qc (K3 l3_3))),(5,I 8)],Vr (Qq Qd x4.Name true l3_9) l3_10 l3_2 l3_3 l3_4 l3_5 l3_6 j9 l3_8⟩ Qa (sT (Q9 (QY (QN (.id) [1000,1001,1002,1003,1004,1005,1006,1007,1008] [] (.tup [I (Qc (K3 l3_3)),I 8]) Qa Qa (Yq (xR 5 Qa (xE (QV (Qc (K3 l3_3),8) Qa))))))))) (Qg Qe ⟨[(0,Jo),(6,I x4.N),(24,B (Qs x4.N 4))],Vr (Qq Qd x4.Name true l3_9) l3_10 l3_2 l3_3 l3_4 l3_5 l3_6 j9 l3_8⟩ Qa (sC (Qs x4.N 4) Qa (Qg Qe ⟨QbK l3_4,Vr (Qq Qd x4.Name true l3_9) l3_10 l3_2 l3_3 l3_4 l3_5 l3_6 j9 l3_8⟩ Qa (sT (Q9 (QY (QN (.id) [1000,1001,1002,1003,1004,1005,1006,1007,1008] [] (.tup [I (Qc (Fw l3_4)),I 32]) Qa Qa (Yq (xR 5 Qa (xE (QV (Qc (Fw l3_4),32) Qa))))))))) (Qg Qe ⟨[(0,Jo),(32,B (Qs x4.N 5))],Vr (Qq Qd x4.Name true l3_9) l3_10 l3_2 l3_3 l3_4 l3_5 l3_6 j9 l3_8⟩ Qa (sC (Qs x4.N 5) Qa (Qg Qe ⟨[(4,I (Qc (Z5 l3_5))),(5,I 16)],Vr (Qq Qd x4.Name true l3_9) l3_10 l3_2 l3_3 l3_4 l3_5 l3_6 j9 l3_8⟩ Qa (sT (Q9 (QY (QN (.id) [1000,1001,1002,1003,1004,1005,1006,1007,1008] [] (.tup [I (Qc (Z5 l3_5)),I 16]) Qa Qa (Yq (xR 5 Qa (xE (QV (Qc (Z5 l3_5),16) Qa))))))))) (sK (QT (Qk ⟨[(0,Jo)],Vr (Qq Qd x4.Name true l3_9) l3_10 l3_2 l3_3 l3_4 l3_5 l3_6 j9 l3_8⟩ Qa (Qg Qe ⟨[(4,I (Qc (Wx l3_6))),(5,I 24)],Vr (Qq Qd x4.Name true l3_9) l3_10 l3_2 l3_3 l3_4 l3_5 l3_6 j9 l3_8⟩ Qa (sT (QN (.id) [1000,1001,1002,1003,1004,1005,1006,1007,1008] [] (.tup [I (Qc (Wx l3_6)),I 24]) Qa Qa (Yq (xR 5 Qa (xE (QV (Qc (Wx l3_6),24) Qa))))))))))))))))
 rintro ⟨j11_1,j11_2⟩
 refine Qg Qe ⟨[(2, .mv 1012),(3, .ptr 1900 0),qq 4,(62,B (leI j11_2 j11_1))],GI x4++Rq (Qq Qd x4.Name true l3_9) l3_10 l3_2 l3_3 l3_4 l3_5 l3_6 j9 l3_8++TI⟩ Qa (sC (leI j11_2 j11_1) Qa ?_ ?_)
 ·refine sG (xR 1 Qa (Yr [] [I 2, .agg [I x4.Kind,S x4.Name,I x4.N,I x4.At, .p (.sl 5 (mI x4.Kids))]] [] [] [] Qa Tryz.func88 rfl Tryz.ntmps88 rfl Qa Qa Qa (Qg Qe ⟨[(0,I 2),qq 3],WK x4⟩ Qa (sG (xR 6 Qa (X8 160 (.agg [I 2,I x4.At]) Qa rfl Qa (ZO [] [] Qa (Kk ?_))))))))
  refine Jw (⟨Tryz.f95,_,_,_,4,1,_,_,Tryz.func95,rfl,rfl,rfl,rfl,rfl,rfl,rfl,by decide,by decide⟩:Ko Tryz.prog 95) uN (YF (Qq Qd x4.Name true l3_9) l3_10 l3_2 l3_3 l3_4 l3_5 l3_6 j9 l3_8) (.ifc 160 (.agg [I 2,I x4.At])) [.ptr 1009 0] [] rfl Qa Qa Qa Qa ?_
  exact Qg Qe ⟨rQ 2 x4.At,YF (Qq Qd x4.Name true l3_9) l3_10 l3_2 l3_3 l3_4 l3_5 l3_6 j9 l3_8⟩ Qa (Q3 Qa (Qg Qe ⟨rR 2 x4.At,MO 2 x4.At++YF (Qq Qd x4.Name true l3_9) l3_10 l3_2 l3_3 l3_4 l3_5 l3_6 j9 l3_8⟩ Qa (sS (Qg Qe ⟨rT 2 x4.At,MO 2 x4.At++YF (Qq Qd x4.Name true l3_9) l3_10 l3_2 l3_3 l3_4 l3_5 l3_6 j9 l3_8⟩ Qa (QZ Qa (sK (Qk (rU 2 x4.At (Qq Qd x4.Name true l3_9) l3_10 l3_2 l3_3 l3_4 l3_5 l3_6 j9 l3_8) Qa (YK Qe rfl (xR 8 Qa (xF Qa Qa (ZM (e:=99) (S:=2) (by_:=16) (enc:=KG.cs) (tk:=1003) (l:=l3_8) (l2:=[(⟨2,x4.At⟩:KG)]) (xv:=.tsl 2 (Fa [(⟨2,x4.At⟩:KG)]) 22) rfl Qa Qa rfl Qa Qa Qa rfl Qa) (xR 3 Qa (Yh Qa (BM [1000,1001,1002,1003,1004,1005,1006,1007,1008,1009] [] Qa Qa (QN (.id) [1000,1001,1002,1003,1004,1005,1006,1007,1008,1009,1010,1011,1012,1013,1014,1015,1016,1017,1018,1019] [] (.tup []) Qa Qa (Yq (xE (QV (l3_2,l3_3,l3_4,l3_5,l3_6,j9,l3_8++[(⟨2,x4.At⟩:KG)],l3_10) Qa)))))))))))))))))
 refine sK (Qk (rP x4 (Qq Qd x4.Name true l3_9) l3_10 l3_2 l3_3 l3_4 l3_5 l3_6 j9 l3_8) Qa (sS (sG (xR 2 Qa (Ze Qa Qa (SN (d:=67) (rsv:=none) rfl rfl Qa) (xR 3 Qa (xE (Qk ⟨[(2, .mv 1012),(9, .ptr 69 0)],[(67, .mp (JH Q6 Q7 [])),(69, .box 152 ([Jo]++Kw (GN.cs x4)++[.mv 67,S [],I 0,I 0,I 0,I 0,I 0,I 0,I 0,I 0,I 0,I 0,S [],I 0,I 0,I 0,S [],I 0,I 0,I 0,I 0,I 0,I 0,I 0,S [],I 0]))]++Rq (Qq Qd x4.Name true l3_9) l3_10 l3_2 l3_3 l3_4 l3_5 l3_6 j9 l3_8++TI⟩ Qa (sS (sG (xR 2 Qa ?_)))))))))))
 refine Gg QbL [] [] Qa (Iu n x4 (⟨[],0,0,0,(⟨0,0⟩:UE),(⟨0,0,0,0,0⟩:KN)⟩:ZI) (⟨[],0,0,0⟩:Kq) (⟨[],0,0,0,0,0,0,0⟩:ZL) (⟨[],0⟩:Zt) (⟨l3_2,l3_3,l3_4,l3_5,l3_6⟩:Qj) j9 l3_8 (Qq Qd x4.Name true l3_9) l3_10 []) Qa Qa Qa QW QW QW QW (fun r13=>?_) (fun e14=>?_)
 rotate_left
 ·refine Kk ?_
  refine Jw (⟨Tryz.f95,_,_,_,4,1,_,_,Tryz.func95,rfl,rfl,rfl,rfl,rfl,rfl,rfl,by decide,by decide⟩:Ko Tryz.prog 95) uN (YF (Qq Qd x4.Name true l3_9) l3_10 l3_2 l3_3 l3_4 l3_5 l3_6 j9 l3_8) (.ifc 160 (.agg [I e14.1.1,I e14.1.2])) [.ptr 1009 0] [] rfl Qa Qa Qa Qa ?_
  exact Qg Qe ⟨rQ e14.1.1 e14.1.2,YF (Qq Qd x4.Name true l3_9) l3_10 l3_2 l3_3 l3_4 l3_5 l3_6 j9 l3_8⟩ Qa (Q3 Qa (Qg Qe ⟨rR e14.1.1 e14.1.2,MO e14.1.1 e14.1.2++YF (Qq Qd x4.Name true l3_9) l3_10 l3_2 l3_3 l3_4 l3_5 l3_6 j9 l3_8⟩ Qa (sS (Qg Qe ⟨rT e14.1.1 e14.1.2,MO e14.1.1 e14.1.2++YF (Qq Qd x4.Name true l3_9) l3_10 l3_2 l3_3 l3_4 l3_5 l3_6 j9 l3_8⟩ Qa (QZ Qa (sK (Qk (rU e14.1.1 e14.1.2 (Qq Qd x4.Name true l3_9) l3_10 l3_2 l3_3 l3_4 l3_5 l3_6 j9 l3_8) Qa (YK Qe rfl (xR 8 Qa (xF Qa Qa (ZM (e:=99) (S:=2) (by_:=16) (enc:=KG.cs) (tk:=1003) (l:=l3_8) (l2:=[(⟨e14.1.1,e14.1.2⟩:KG)]) (xv:=.tsl 2 (Fa [(⟨e14.1.1,e14.1.2⟩:KG)]) 22) rfl Qa Qa rfl Qa Qa Qa rfl Qa) (xR 3 Qa (Yh Qa (BM [1000,1001,1002,1003,1004,1005,1006,1007,1008,1009] [] Qa Qa (QN (.id) [1000,1001,1002,1003,1004,1005,1006,1007,1008,1009,1010,1011,1012,1013,1014,1015,1016,1017,1018,1019] [] (.tup []) Qa Qa (Yq (xE (QV (l3_2,l3_3,l3_4,l3_5,l3_6,j9,l3_8++[(⟨e14.1.1,e14.1.2⟩:KG)],l3_10) Qa)))))))))))))))))
 refine xE (Qk ⟨[(2, .mv 1012),(9, .ptr 69 0)],[(67, .mp (JH Q6 Q7 r13.2.2.2.2)),(69,(QbM x4 r13.1 r13.2.1 r13.2.2.1 r13.2.2.2.1.Name r13.2.2.2.1.Charger))]++Rq (Qq Qd x4.Name true l3_9) l3_10 l3_2 l3_3 l3_4 l3_5 l3_6 j9 l3_8++TI⟩ Qa (sS (sG (xR 2 Qa ?_))))
 refine Gg QbL [] [] Qa (Iw n x4 r13.1 r13.2.1 r13.2.2.1 r13.2.2.2.1 (⟨l3_2,l3_3,l3_4,l3_5,l3_6⟩:Qj) j9 l3_8 (Qq Qd x4.Name true l3_9) l3_10 r13.2.2.2.2) Qa Qa Qa QW QW QW QW (fun r15=>?_) (fun e16=>?_)
 rotate_left
 ·refine Kk ?_
  refine Jw (⟨Tryz.f95,_,_,_,4,1,_,_,Tryz.func95,rfl,rfl,rfl,rfl,rfl,rfl,rfl,by decide,by decide⟩:Ko Tryz.prog 95) uN (YF (Qq Qd x4.Name true l3_9) l3_10 l3_2 l3_3 l3_4 l3_5 l3_6 j9 l3_8) (.ifc 160 (.agg [I e16.1,I e16.2])) [.ptr 1009 0] [] rfl Qa Qa Qa Qa ?_
  exact Qg Qe ⟨rQ e16.1 e16.2,YF (Qq Qd x4.Name true l3_9) l3_10 l3_2 l3_3 l3_4 l3_5 l3_6 j9 l3_8⟩ Qa (Q3 Qa (Qg Qe ⟨rR e16.1 e16.2,MO e16.1 e16.2++YF (Qq Qd x4.Name true l3_9) l3_10 l3_2 l3_3 l3_4 l3_5 l3_6 j9 l3_8⟩ Qa (sS (Qg Qe ⟨rT e16.1 e16.2,MO e16.1 e16.2++YF (Qq Qd x4.Name true l3_9) l3_10 l3_2 l3_3 l3_4 l3_5 l3_6 j9 l3_8⟩ Qa (QZ Qa (sK (Qk (rU e16.1 e16.2 (Qq Qd x4.Name true l3_9) l3_10 l3_2 l3_3 l3_4 l3_5 l3_6 j9 l3_8) Qa (YK Qe rfl (xR 8 Qa (xF Qa Qa (ZM (e:=99) (S:=2) (by_:=16) (enc:=KG.cs) (tk:=1003) (l:=l3_8) (l2:=[(⟨e16.1,e16.2⟩:KG)]) (xv:=.tsl 2 (Fa [(⟨e16.1,e16.2⟩:KG)]) 22) rfl Qa Qa rfl Qa Qa Qa rfl Qa) (xR 3 Qa (Yh Qa (BM [1000,1001,1002,1003,1004,1005,1006,1007,1008,1009] [] Qa Qa (QN (.id) [1000,1001,1002,1003,1004,1005,1006,1007,1008,1009,1010,1011,1012,1013,1014,1015,1016,1017,1018,1019] [] (.tup []) Qa Qa (Yq (xE (QV (l3_2,l3_3,l3_4,l3_5,l3_6,j9,l3_8++[(⟨e16.1,e16.2⟩:KG)],l3_10) Qa)))))))))))))))))
 refine xE (Qk ⟨[(9, .ptr 69 0)],[(67, .mp (JH Q6 Q7 r13.2.2.2.2)),(69,(QbM x4 r13.1 r13.2.1 r13.2.2.1 r13.2.2.2.1.Name r13.2.2.2.1.Charger))]++Rq (Qq Qd x4.Name true l3_9) l3_10 l3_2 l3_3 l3_4 l3_5 l3_6 j9 l3_8++TI⟩ Qa (sG (xR 1 Qa (Yr (Fe r13.2.2.2.2 x4 r13.1 r13.2.1 r13.2.2.1 r13.2.2.2.1.Name r13.2.2.2.1.Charger (Qq Qd x4.Name true l3_9) l3_10 l3_2 l3_3 l3_4 l3_5 l3_6 j9 l3_8) [Gl] [(1000,67),(1001,69),(1002,1000),(1003,1001),(1004,1002),(1005,1003),(1006,1004),(1007,1005),(1008,1006),(1009,1007),(1010,1008)] [] [] Qa Tryz.func99 rfl Tryz.ntmps99 rfl Qa Qa Qa (Qg Qe ⟨QbN x4.Name,Fe r13.2.2.2.2 x4 r13.1 r13.2.1 r13.2.2.1 r13.2.2.2.1.Name r13.2.2.2.1.Charger (Qq Qd x4.Name true l3_9) l3_10 l3_2 l3_3 l3_4 l3_5 l3_6 j9 l3_8⟩ Qa (KM (fun j17=>⟨[(0,Gl),(2,S x4.Name),(3, .ptr 1004 0),(4,I j17)],Fe r13.2.2.2.2 x4 r13.1 r13.2.1 r13.2.2.1 r13.2.2.2.1.Name r13.2.2.2.1.Charger (Qq Qd x4.Name true l3_9) l3_10 l3_2 l3_3 l3_4 l3_5 l3_6 j9 l3_8⟩:Int→St) ?_ ?_))))))
 ·refine Vu [0,1,2,3,4,5,6,7,8] [12] [(9,[10,11,12]),(13,[]),(14,[])] Qe rfl Qa Qa (KY (f:=96) (args:=[.ptr 1004 0,I x4.N]) (dst:=some 27) Qa Qa (Zn (hc:=(Vr (Qq Qd x4.Name true l3_9) l3_10 l3_2 l3_3 l3_4 l3_5 l3_6 j9 l3_8)) (args':=[Jo,I x4.N]) [(1000,1002),(1001,1003),(1002,1004),(1003,1005),(1004,1006),(1005,1007),(1006,1008),(1007,1009),(1008,1010)] [] [] Tryz.func96 rfl Tryz.ntmps96 rfl Qa Qa Qa (Qg Qe ⟨[(0,Jo),(1,I x4.N)],Vr (Qq Qd x4.Name true l3_9) l3_10 l3_2 l3_3 l3_4 l3_5 l3_6 j9 l3_8⟩ Qa (sS (Qg Qe ⟨[(0,Jo),(6,I x4.N)],Vr (Qq Qd x4.Name true l3_9) l3_10 l3_2 l3_3 l3_4 l3_5 l3_6 j9 l3_8⟩ Qa (sB (KM (fun j18=>⟨rV x4.N j18,Vr (Qq Qd x4.Name true l3_9) l3_10 l3_2 l3_3 l3_4 l3_5 l3_6 j9 l3_8⟩:Bool→St) (Qg Qe ⟨rV x4.N (Qs x4.N 1),Vr (Qq Qd x4.Name true l3_9) l3_10 l3_2 l3_3 l3_4 l3_5 l3_6 j9 l3_8⟩ Qa (sC (Qs x4.N 1) Qa (sK (QV (Qs x4.N 1) Qa)) (sL Qe Qa (QV (Qs x4.N 2) Qa)))) ?_)))))))
  rintro j18
  refine sC j18 Qa (Qg Qe ⟨QbJ l3_2,Vr (Qq Qd x4.Name true l3_9) l3_10 l3_2 l3_3 l3_4 l3_5 l3_6 j9 l3_8⟩ Qa (sT (Q9 (QY (QN (.id) [1000,1001,1002,1003,1004,1005,1006,1007,1008] [] (.tup [I (Qc (XM l3_2)),I 16]) Qa Qa (kh [] Qa (Ql) Qa (WJ [12] Qa Qa (Qo (Qz (I 16) Qa rfl) (Ql)) (WJ [] Qa Qa (Ql) (WV (QV (Qc (XM l3_2)) Qa)))))))))) (Qg Qe ⟨[(0,Jo),(6,I x4.N),(16,B (Qs x4.N 3))],Vr (Qq Qd x4.Name true l3_9) l3_10 l3_2 l3_3 l3_4 l3_5 l3_6 j9 l3_8⟩ Qa (sC (Qs x4.N 3) Qa (Qg Qe ⟨[(4,I (Qc (K3 l3_3))),(5,I 8)],Vr (Qq Qd x4.Name true l3_9) l3_10 l3_2 l3_3 l3_4 l3_5 l3_6 j9 l3_8⟩ Qa (sT (Q9 (QY (QN (.id) [1000,1001,1002,1003,1004,1005,1006,1007,1008] [] (.tup [I (Qc (K3 l3_3)),I 8]) Qa Qa (kh [] Qa (Ql) Qa (WJ [12] Qa Qa (Qo (Qz (I 8) Qa rfl) (Ql)) (WJ [] Qa Qa (Ql) (WV (QV (Qc (K3 l3_3)) Qa)))))))))) (Qg Qe ⟨[(0,Jo),(6,I x4.N),(24,B (Qs x4.N 4))],Vr (Qq Qd x4.Name true l3_9) l3_10 l3_2 l3_3 l3_4 l3_5 l3_6 j9 l3_8⟩ Qa (sC (Qs x4.N 4) Qa (Qg Qe ⟨QbK l3_4,Vr (Qq Qd x4.Name true l3_9) l3_10 l3_2 l3_3 l3_4 l3_5 l3_6 j9 l3_8⟩ Qa (sT (Q9 (QY (QN (.id) [1000,1001,1002,1003,1004,1005,1006,1007,1008] [] (.tup [I (Qc (Fw l3_4)),I 32]) Qa Qa (kh [] Qa (Ql) Qa (WJ [12] Qa Qa (Qo (Qz (I 32) Qa rfl) (Ql)) (WJ [] Qa Qa (Ql) (WV (QV (Qc (Fw l3_4)) Qa)))))))))) (Qg Qe ⟨[(0,Jo),(32,B (Qs x4.N 5))],Vr (Qq Qd x4.Name true l3_9) l3_10 l3_2 l3_3 l3_4 l3_5 l3_6 j9 l3_8⟩ Qa (sC (Qs x4.N 5) Qa (Qg Qe ⟨[(4,I (Qc (Z5 l3_5))),(5,I 16)],Vr (Qq Qd x4.Name true l3_9) l3_10 l3_2 l3_3 l3_4 l3_5 l3_6 j9 l3_8⟩ Qa (sT (Q9 (QY (QN (.id) [1000,1001,1002,1003,1004,1005,1006,1007,1008] [] (.tup [I (Qc (Z5 l3_5)),I 16]) Qa Qa (kh [] Qa (Ql) Qa (WJ [12] Qa Qa (Qo (Qz (I 16) Qa rfl) (Ql)) (WJ [] Qa Qa (Ql) (WV (QV (Qc (Z5 l3_5)) Qa)))))))))) ?_))))))
  exact sK (QT (Qk ⟨[(0,Jo)],Vr (Qq Qd x4.Name true l3_9) l3_10 l3_2 l3_3 l3_4 l3_5 l3_6 j9 l3_8⟩ Qa (Qg Qe ⟨[(4,I (Qc (Wx l3_6))),(5,I 24)],Vr (Qq Qd x4.Name true l3_9) l3_10 l3_2 l3_3 l3_4 l3_5 l3_6 j9 l3_8⟩ Qa (sT (QN (.id) [1000,1001,1002,1003,1004,1005,1006,1007,1008] [] (.tup [I (Qc (Wx l3_6)),I 24]) Qa Qa (kh [] Qa (Ql) Qa (WJ [12] Qa Qa (Qo (Qz (I 24) Qa rfl) (Ql)) (WJ [] Qa Qa (Ql) (WV (QV (Qc (Wx l3_6)) Qa))))))))))
 rintro j17
 refine sS (YK Qe rfl (xR 15 Qa ?_))
 refine Ze Qa Qa (Yk (kt:=9) (e:=185) (ke:=VH) (ve:=VJ) (eq:=QE) (b:=1003) (m:=l3_10) (k:=x4.Name) (v:=(⟨x4.N,j17⟩:KP)) rfl Qa Qa Qa Qa Qa Qa QW (fun _ _=>Za rfl _ _)) ?_
 refine Yh Qa (Qk ⟨QbN x4.Name,Fe r13.2.2.2.2 x4 r13.1 r13.2.1 r13.2.2.1 r13.2.2.2.1.Name r13.2.2.2.1.Charger (Qq Qd x4.Name true l3_9) (Qq QE x4.Name (⟨x4.N,j17⟩:KP) l3_10) l3_2 l3_3 l3_4 l3_5 l3_6 j9 l3_8⟩ Qa (Qg Qe ⟨[(0,Gl),(2,S x4.Name),(3, .ptr 1004 0),(49,I x4.N)],Fe r13.2.2.2.2 x4 r13.1 r13.2.1 r13.2.2.1 r13.2.2.2.1.Name r13.2.2.2.1.Charger (Qq Qd x4.Name true l3_9) (Qq QE x4.Name (⟨x4.N,j17⟩:KP) l3_10) l3_2 l3_3 l3_4 l3_5 l3_6 j9 l3_8⟩ Qa (sB (Qg Qe ⟨[(0,Gl),(2,S x4.Name),(3, .ptr 1004 0),(49,I x4.N),(50,B (Qs x4.N 1))],Fe r13.2.2.2.2 x4 r13.1 r13.2.1 r13.2.2.1 r13.2.2.2.1.Name r13.2.2.2.1.Charger (Qq Qd x4.Name true l3_9) (Qq QE x4.Name (⟨x4.N,j17⟩:KP) l3_10) l3_2 l3_3 l3_4 l3_5 l3_6 j9 l3_8⟩ Qa (sC (Qs x4.N 1) Qa ?_ ?_)))))
 ·refine Qg Qe ⟨[(0,Gl),(3, .ptr 1004 0)],Fe r13.2.2.2.2 x4 ⟨x4.Name,(-1),r13.1.Limit,r13.1.Neutral,r13.1.Fuse,r13.1.Cable⟩ r13.2.1 r13.2.2.1 r13.2.2.2.1.Name r13.2.2.2.1.Charger (Qq Qd x4.Name true l3_9) (Qq QE x4.Name (⟨x4.N,j17⟩:KP) l3_10) l3_2 l3_3 l3_4 l3_5 l3_6 j9 l3_8⟩ Qa (YK Qe rfl (xR 10 Qa (xF Qa Qa (ZM (e:=54) (S:=11) (by_:=96) (enc:=ZI.cs) (tk:=1006) (l:=l3_2) (l2:=[(⟨x4.Name,(-1),r13.1.Limit,r13.1.Neutral,r13.1.Fuse,r13.1.Cable⟩:ZI)]) (xv:=.tsl 11 (XM [(⟨x4.Name,(-1),r13.1.Limit,r13.1.Neutral,r13.1.Fuse,r13.1.Cable⟩:ZI)]) 70) rfl Qa Qa rfl Qa Qa Qa rfl Qa) (xR 3 Qa (Yh Qa (QT (Ww (.id) [1000,1001,1002,1003,1004,1005,1006,1007,1008,1009,1010] [] (.tup []) Qa Qa (Yq (xE ?_)))))))))
  refine Jw (⟨Tryz.f95,_,_,_,4,1,_,_,Tryz.func95,rfl,rfl,rfl,rfl,rfl,rfl,rfl,by decide,by decide⟩:Ko Tryz.prog 95) uN (YF (Qq Qd x4.Name true l3_9) (Qq QE x4.Name (⟨x4.N,j17⟩:KP) l3_10) (l3_2++[(⟨x4.Name,(-1),r13.1.Limit,r13.1.Neutral,r13.1.Fuse,r13.1.Cable⟩:ZI)]) l3_3 l3_4 l3_5 l3_6 j9 l3_8) (.p (.val (.nilIface))) [.ptr 1009 0] [] rfl Qa Qa Qa Qa ?_
  exact Qg Qe ⟨kY,YF (Qq Qd x4.Name true l3_9) (Qq QE x4.Name (⟨x4.N,j17⟩:KP) l3_10) (l3_2++[(⟨x4.Name,(-1),r13.1.Limit,r13.1.Neutral,r13.1.Fuse,r13.1.Cable⟩:ZI)]) l3_3 l3_4 l3_5 l3_6 j9 l3_8⟩ Qa (QZ Qa (sK (BM [1000,1001,1002,1003,1004,1005,1006,1007,1008,1009] [] Qa Qa (QN (.id) [1000,1001,1002,1003,1004,1005,1006,1007,1008,1009,1010,1011,1012,1013,1014,1015,1016,1017,1018,1019] [] (.tup []) Qa Qa (Yq (xE (QV (l3_2++[(⟨x4.Name,(-1),r13.1.Limit,r13.1.Neutral,r13.1.Fuse,r13.1.Cable⟩:ZI)],l3_3,l3_4,l3_5,l3_6,j9,l3_8,Qq QE x4.Name (⟨x4.N,j17⟩:KP) l3_10) Qa)))))))
 refine Qg Qe ⟨[(0,Gl),(2,S x4.Name),(3, .ptr 1004 0),(49,I x4.N),(74,B (Qs x4.N 2))],Fe r13.2.2.2.2 x4 r13.1 r13.2.1 r13.2.2.1 r13.2.2.2.1.Name r13.2.2.2.1.Charger (Qq Qd x4.Name true l3_9) (Qq QE x4.Name (⟨x4.N,j17⟩:KP) l3_10) l3_2 l3_3 l3_4 l3_5 l3_6 j9 l3_8⟩ Qa (sC (Qs x4.N 2) Qa ?_ ?_)
 ·refine Qg Qe ⟨[(0,Gl),(3, .ptr 1004 0)],Fe r13.2.2.2.2 x4 ⟨x4.Name,r13.1.Up,r13.1.Limit,r13.1.Neutral,r13.1.Fuse,r13.1.Cable⟩ r13.2.1 r13.2.2.1 r13.2.2.2.1.Name r13.2.2.2.1.Charger (Qq Qd x4.Name true l3_9) (Qq QE x4.Name (⟨x4.N,j17⟩:KP) l3_10) l3_2 l3_3 l3_4 l3_5 l3_6 j9 l3_8⟩ Qa (YK Qe rfl (xR 10 Qa (xF Qa Qa (ZM (e:=54) (S:=11) (by_:=96) (enc:=ZI.cs) (tk:=1006) (l:=l3_2) (l2:=[(⟨x4.Name,r13.1.Up,r13.1.Limit,r13.1.Neutral,r13.1.Fuse,r13.1.Cable⟩:ZI)]) (xv:=.tsl 11 (XM [(⟨x4.Name,r13.1.Up,r13.1.Limit,r13.1.Neutral,r13.1.Fuse,r13.1.Cable⟩:ZI)]) 90) rfl Qa Qa rfl Qa Qa Qa rfl Qa) (xR 3 Qa (Yh Qa (QT (Ww (.id) [1000,1001,1002,1003,1004,1005,1006,1007,1008,1009,1010] [] (.tup []) Qa Qa (Yq (xE ?_)))))))))
  refine Jw (⟨Tryz.f95,_,_,_,4,1,_,_,Tryz.func95,rfl,rfl,rfl,rfl,rfl,rfl,rfl,by decide,by decide⟩:Ko Tryz.prog 95) uN (YF (Qq Qd x4.Name true l3_9) (Qq QE x4.Name (⟨x4.N,j17⟩:KP) l3_10) (l3_2++[(⟨x4.Name,r13.1.Up,r13.1.Limit,r13.1.Neutral,r13.1.Fuse,r13.1.Cable⟩:ZI)]) l3_3 l3_4 l3_5 l3_6 j9 l3_8) (.p (.val (.nilIface))) [.ptr 1009 0] [] rfl Qa Qa Qa Qa ?_
  exact Qg Qe ⟨kY,YF (Qq Qd x4.Name true l3_9) (Qq QE x4.Name (⟨x4.N,j17⟩:KP) l3_10) (l3_2++[(⟨x4.Name,r13.1.Up,r13.1.Limit,r13.1.Neutral,r13.1.Fuse,r13.1.Cable⟩:ZI)]) l3_3 l3_4 l3_5 l3_6 j9 l3_8⟩ Qa (QZ Qa (sK (BM [1000,1001,1002,1003,1004,1005,1006,1007,1008,1009] [] Qa Qa (QN (.id) [1000,1001,1002,1003,1004,1005,1006,1007,1008,1009,1010,1011,1012,1013,1014,1015,1016,1017,1018,1019] [] (.tup []) Qa Qa (Yq (xE (QV (l3_2++[(⟨x4.Name,r13.1.Up,r13.1.Limit,r13.1.Neutral,r13.1.Fuse,r13.1.Cable⟩:ZI)],l3_3,l3_4,l3_5,l3_6,j9,l3_8,Qq QE x4.Name (⟨x4.N,j17⟩:KP) l3_10) Qa)))))))
 refine Qg Qe ⟨[(0,Gl),(2,S x4.Name),(3, .ptr 1004 0),(49,I x4.N),(94,B (Qs x4.N 3))],Fe r13.2.2.2.2 x4 r13.1 r13.2.1 r13.2.2.1 r13.2.2.2.1.Name r13.2.2.2.1.Charger (Qq Qd x4.Name true l3_9) (Qq QE x4.Name (⟨x4.N,j17⟩:KP) l3_10) l3_2 l3_3 l3_4 l3_5 l3_6 j9 l3_8⟩ Qa (sC (Qs x4.N 3) Qa ?_ ?_)
 ·refine sG (xR 8 Qa (xF Qa Qa (ZM (e:=166) (S:=1) (by_:=16) (enc:=Zf.cs) (tk:=1007) (l:=l3_3) (l2:=[(⟨x4.Name⟩:Zf)]) (xv:=.tsl 1 (K3 [(⟨x4.Name⟩:Zf)]) 103) rfl Qa Qa rfl Qa Qa Qa rfl Qa) (xR 3 Qa (xE (QT (Ww (.id) [1000,1001,1002,1003,1004,1005,1006,1007,1008,1009,1010] [] (.tup []) Qa Qa (Yq (xE ?_))))))))
  refine Jw (⟨Tryz.f95,_,_,_,4,1,_,_,Tryz.func95,rfl,rfl,rfl,rfl,rfl,rfl,rfl,by decide,by decide⟩:Ko Tryz.prog 95) uN (YF (Qq Qd x4.Name true l3_9) (Qq QE x4.Name (⟨x4.N,j17⟩:KP) l3_10) l3_2 (l3_3++[(⟨x4.Name⟩:Zf)]) l3_4 l3_5 l3_6 j9 l3_8) (.p (.val (.nilIface))) [.ptr 1009 0] [] rfl Qa Qa Qa Qa ?_
  exact Qg Qe ⟨kY,YF (Qq Qd x4.Name true l3_9) (Qq QE x4.Name (⟨x4.N,j17⟩:KP) l3_10) l3_2 (l3_3++[(⟨x4.Name⟩:Zf)]) l3_4 l3_5 l3_6 j9 l3_8⟩ Qa (QZ Qa (sK (BM [1000,1001,1002,1003,1004,1005,1006,1007,1008,1009] [] Qa Qa (QN (.id) [1000,1001,1002,1003,1004,1005,1006,1007,1008,1009,1010,1011,1012,1013,1014,1015,1016,1017,1018,1019] [] (.tup []) Qa Qa (Yq (xE (QV (l3_2,l3_3++[(⟨x4.Name⟩:Zf)],l3_4,l3_5,l3_6,j9,l3_8,Qq QE x4.Name (⟨x4.N,j17⟩:KP) l3_10) Qa)))))))
 refine Qg Qe ⟨[(0,Gl),(2,S x4.Name),(3, .ptr 1004 0),(49,I x4.N),(107,B (Qs x4.N 4))],Fe r13.2.2.2.2 x4 r13.1 r13.2.1 r13.2.2.1 r13.2.2.2.1.Name r13.2.2.2.1.Charger (Qq Qd x4.Name true l3_9) (Qq QE x4.Name (⟨x4.N,j17⟩:KP) l3_10) l3_2 l3_3 l3_4 l3_5 l3_6 j9 l3_8⟩ Qa (sC (Qs x4.N 4) Qa ?_ ?_)
 ·refine Qg Qe ⟨[(0,Gl),(3, .ptr 1004 0)],[(1000, .mp (JH Q6 Q7 r13.2.2.2.2)),(1001, .box 152 ([.ptr 1004 0]++Kw (GN.cs x4)++[.mv 1000]++Kw (ZI.cs r13.1)++[S x4.Name,I r13.2.1.Owner,I r13.2.1.Rank,I r13.2.1.Card]++Kw (ZL.cs r13.2.2.1)++[S r13.2.2.2.1.Name,I r13.2.2.2.1.Charger])),(1002, .mp (JH Q6 Q7 (Qq Qd x4.Name true l3_9))),(1003, .mp (JH VH VJ (Qq QE x4.Name (⟨x4.N,j17⟩:KP) l3_10))),(1004,(iM l3_2 l3_3 l3_4 l3_5 l3_6 j9 l3_8)),(1005,(Wy l3_8)),(1006,(kT l3_2)),(1007,(kU l3_3)),(1008,(kV l3_4)),(1009,(kW l3_5)),(1010,(kX l3_6))]⟩ Qa (YK Qe rfl (xR 10 Qa (xF Qa Qa (ZM (e:=120) (S:=4) (by_:=40) (enc:=Kq.cs) (tk:=1008) (l:=l3_4) (l2:=[(⟨x4.Name,r13.2.1.Owner,r13.2.1.Rank,r13.2.1.Card⟩:Kq)]) (xv:=.tsl 4 (Fw [(⟨x4.Name,r13.2.1.Owner,r13.2.1.Rank,r13.2.1.Card⟩:Kq)]) 123) rfl Qa Qa rfl Qa Qa Qa rfl Qa) (xR 3 Qa (Yh Qa (QT (Ww (.id) [1000,1001,1002,1003,1004,1005,1006,1007,1008,1009,1010] [] (.tup []) Qa Qa (Yq (xE ?_)))))))))
  refine Jw (⟨Tryz.f95,_,_,_,4,1,_,_,Tryz.func95,rfl,rfl,rfl,rfl,rfl,rfl,rfl,by decide,by decide⟩:Ko Tryz.prog 95) uN (YF (Qq Qd x4.Name true l3_9) (Qq QE x4.Name (⟨x4.N,j17⟩:KP) l3_10) l3_2 l3_3 (l3_4++[(⟨x4.Name,r13.2.1.Owner,r13.2.1.Rank,r13.2.1.Card⟩:Kq)]) l3_5 l3_6 j9 l3_8) (.p (.val (.nilIface))) [.ptr 1009 0] [] rfl Qa Qa Qa Qa ?_
  exact Qg Qe ⟨kY,YF (Qq Qd x4.Name true l3_9) (Qq QE x4.Name (⟨x4.N,j17⟩:KP) l3_10) l3_2 l3_3 (l3_4++[(⟨x4.Name,r13.2.1.Owner,r13.2.1.Rank,r13.2.1.Card⟩:Kq)]) l3_5 l3_6 j9 l3_8⟩ Qa (QZ Qa (sK (BM [1000,1001,1002,1003,1004,1005,1006,1007,1008,1009] [] Qa Qa (QN (.id) [1000,1001,1002,1003,1004,1005,1006,1007,1008,1009,1010,1011,1012,1013,1014,1015,1016,1017,1018,1019] [] (.tup []) Qa Qa (Yq (xE (QV (l3_2,l3_3,l3_4++[(⟨x4.Name,r13.2.1.Owner,r13.2.1.Rank,r13.2.1.Card⟩:Kq)],l3_5,l3_6,j9,l3_8,Qq QE x4.Name (⟨x4.N,j17⟩:KP) l3_10) Qa)))))))
 refine Qg Qe ⟨[(0,Gl),(2,S x4.Name),(3, .ptr 1004 0),(49,I x4.N),(127,B (Qs x4.N 5))],Fe r13.2.2.2.2 x4 r13.1 r13.2.1 r13.2.2.1 r13.2.2.2.1.Name r13.2.2.2.1.Charger (Qq Qd x4.Name true l3_9) (Qq QE x4.Name (⟨x4.N,j17⟩:KP) l3_10) l3_2 l3_3 l3_4 l3_5 l3_6 j9 l3_8⟩ Qa (sC (Qs x4.N 5) Qa ?_ ?_)
 ·refine Qg Qe ⟨[(0,Gl),(3, .ptr 1004 0)],[(1000, .mp (JH Q6 Q7 r13.2.2.2.2)),(1001, .box 152 ([.ptr 1004 0]++Kw (GN.cs x4)++[.mv 1000]++Kw (ZI.cs r13.1)++Kw (Kq.cs r13.2.1)++[S x4.Name,I r13.2.2.1.At,I r13.2.2.1.Phases,I r13.2.2.1.Min,I r13.2.2.1.Max,I r13.2.2.1.Step,I r13.2.2.1.Fallback,I r13.2.2.1.Owner,S r13.2.2.2.1.Name,I r13.2.2.2.1.Charger])),(1002, .mp (JH Q6 Q7 (Qq Qd x4.Name true l3_9))),(1003, .mp (JH VH VJ (Qq QE x4.Name (⟨x4.N,j17⟩:KP) l3_10))),(1004,(iM l3_2 l3_3 l3_4 l3_5 l3_6 j9 l3_8)),(1005,(Wy l3_8)),(1006,(kT l3_2)),(1007,(kU l3_3)),(1008,(kV l3_4)),(1009,(kW l3_5)),(1010,(kX l3_6))]⟩ Qa (YK Qe rfl (xR 10 Qa (xF Qa Qa (ZM (e:=32) (S:=8) (by_:=72) (enc:=ZL.cs) (tk:=1009) (l:=l3_5) (l2:=[(⟨x4.Name,r13.2.2.1.At,r13.2.2.1.Phases,r13.2.2.1.Min,r13.2.2.1.Max,r13.2.2.1.Step,r13.2.2.1.Fallback,r13.2.2.1.Owner⟩:ZL)]) (xv:=.tsl 8 (Z5 [(⟨x4.Name,r13.2.2.1.At,r13.2.2.1.Phases,r13.2.2.1.Min,r13.2.2.1.Max,r13.2.2.1.Step,r13.2.2.1.Fallback,r13.2.2.1.Owner⟩:ZL)]) 143) rfl Qa Qa rfl Qa Qa Qa rfl Qa) (xR 3 Qa (Yh Qa (QT (Ww (.id) [1000,1001,1002,1003,1004,1005,1006,1007,1008,1009,1010] [] (.tup []) Qa Qa (Yq (xE ?_)))))))))
  refine Jw (⟨Tryz.f95,_,_,_,4,1,_,_,Tryz.func95,rfl,rfl,rfl,rfl,rfl,rfl,rfl,by decide,by decide⟩:Ko Tryz.prog 95) uN (YF (Qq Qd x4.Name true l3_9) (Qq QE x4.Name (⟨x4.N,j17⟩:KP) l3_10) l3_2 l3_3 l3_4 (l3_5++[(⟨x4.Name,r13.2.2.1.At,r13.2.2.1.Phases,r13.2.2.1.Min,r13.2.2.1.Max,r13.2.2.1.Step,r13.2.2.1.Fallback,r13.2.2.1.Owner⟩:ZL)]) l3_6 j9 l3_8) (.p (.val (.nilIface))) [.ptr 1009 0] [] rfl Qa Qa Qa Qa ?_
  exact Qg Qe ⟨kY,YF (Qq Qd x4.Name true l3_9) (Qq QE x4.Name (⟨x4.N,j17⟩:KP) l3_10) l3_2 l3_3 l3_4 (l3_5++[(⟨x4.Name,r13.2.2.1.At,r13.2.2.1.Phases,r13.2.2.1.Min,r13.2.2.1.Max,r13.2.2.1.Step,r13.2.2.1.Fallback,r13.2.2.1.Owner⟩:ZL)]) l3_6 j9 l3_8⟩ Qa (QZ Qa (sK (BM [1000,1001,1002,1003,1004,1005,1006,1007,1008,1009] [] Qa Qa (QN (.id) [1000,1001,1002,1003,1004,1005,1006,1007,1008,1009,1010,1011,1012,1013,1014,1015,1016,1017,1018,1019] [] (.tup []) Qa Qa (Yq (xE (QV (l3_2,l3_3,l3_4,l3_5++[(⟨x4.Name,r13.2.2.1.At,r13.2.2.1.Phases,r13.2.2.1.Min,r13.2.2.1.Max,r13.2.2.1.Step,r13.2.2.1.Fallback,r13.2.2.1.Owner⟩:ZL)],l3_6,j9,l3_8,Qq QE x4.Name (⟨x4.N,j17⟩:KP) l3_10) Qa)))))))
 refine Qg Qe ⟨[(0,Gl),(2,S x4.Name),(3, .ptr 1004 0),(147,B (Qs x4.N 6))],Fe r13.2.2.2.2 x4 r13.1 r13.2.1 r13.2.2.1 r13.2.2.2.1.Name r13.2.2.2.1.Charger (Qq Qd x4.Name true l3_9) (Qq QE x4.Name (⟨x4.N,j17⟩:KP) l3_10) l3_2 l3_3 l3_4 l3_5 l3_6 j9 l3_8⟩ Qa (sC (Qs x4.N 6) Qa ?_ ?_)
 rotate_left
 ·refine sK (QT (Ww (.id) [1000,1001,1002,1003,1004,1005,1006,1007,1008,1009,1010] [] (.tup []) Qa Qa (Yq (xE ?_))))
  refine Jw (⟨Tryz.f95,_,_,_,4,1,_,_,Tryz.func95,rfl,rfl,rfl,rfl,rfl,rfl,rfl,by decide,by decide⟩:Ko Tryz.prog 95) uN (YF (Qq Qd x4.Name true l3_9) (Qq QE x4.Name (⟨x4.N,j17⟩:KP) l3_10) l3_2 l3_3 l3_4 l3_5 l3_6 j9 l3_8) (.p (.val (.nilIface))) [.ptr 1009 0] [] rfl Qa Qa Qa Qa ?_
  exact Qg Qe ⟨kY,YF (Qq Qd x4.Name true l3_9) (Qq QE x4.Name (⟨x4.N,j17⟩:KP) l3_10) l3_2 l3_3 l3_4 l3_5 l3_6 j9 l3_8⟩ Qa (QZ Qa (sK (BM [1000,1001,1002,1003,1004,1005,1006,1007,1008,1009] [] Qa Qa (QN (.id) [1000,1001,1002,1003,1004,1005,1006,1007,1008,1009,1010,1011,1012,1013,1014,1015,1016,1017,1018,1019] [] (.tup []) Qa Qa (Yq (xE (QV (l3_2,l3_3,l3_4,l3_5,l3_6,j9,l3_8,Qq QE x4.Name (⟨x4.N,j17⟩:KP) l3_10) Qa)))))))
 refine Qg Qe ⟨[(0,Gl),(3, .ptr 1004 0)],Fe r13.2.2.2.2 x4 r13.1 r13.2.1 r13.2.2.1 x4.Name r13.2.2.2.1.Charger (Qq Qd x4.Name true l3_9) (Qq QE x4.Name (⟨x4.N,j17⟩:KP) l3_10) l3_2 l3_3 l3_4 l3_5 l3_6 j9 l3_8⟩ Qa (YK Qe rfl (xR 10 Qa (xF Qa Qa (ZM (e:=123) (S:=2) (by_:=24) (enc:=Zt.cs) (tk:=1010) (l:=l3_6) (l2:=[(⟨x4.Name,r13.2.2.2.1.Charger⟩:Zt)]) (xv:=.tsl 2 (Wx [(⟨x4.Name,r13.2.2.2.1.Charger⟩:Zt)]) 163) rfl Qa Qa rfl Qa Qa Qa rfl Qa) (xR 3 Qa (Yh Qa (QT (Ww (.id) [1000,1001,1002,1003,1004,1005,1006,1007,1008,1009,1010] [] (.tup []) Qa Qa (Yq (xE ?_)))))))))
 refine Jw (⟨Tryz.f95,_,_,_,4,1,_,_,Tryz.func95,rfl,rfl,rfl,rfl,rfl,rfl,rfl,by decide,by decide⟩:Ko Tryz.prog 95) uN (YF (Qq Qd x4.Name true l3_9) (Qq QE x4.Name (⟨x4.N,j17⟩:KP) l3_10) l3_2 l3_3 l3_4 l3_5 (l3_6++[(⟨x4.Name,r13.2.2.2.1.Charger⟩:Zt)]) j9 l3_8) (.p (.val (.nilIface))) [.ptr 1009 0] [] rfl Qa Qa Qa Qa ?_
 exact Qg Qe ⟨kY,YF (Qq Qd x4.Name true l3_9) (Qq QE x4.Name (⟨x4.N,j17⟩:KP) l3_10) l3_2 l3_3 l3_4 l3_5 (l3_6++[(⟨x4.Name,r13.2.2.2.1.Charger⟩:Zt)]) j9 l3_8⟩ Qa (QZ Qa (sK (BM [1000,1001,1002,1003,1004,1005,1006,1007,1008,1009] [] Qa Qa (QN (.id) [1000,1001,1002,1003,1004,1005,1006,1007,1008,1009,1010,1011,1012,1013,1014,1015,1016,1017,1018,1019] [] (.tup []) Qa Qa (Yq (xE (QV (l3_2,l3_3,l3_4,l3_5,l3_6++[(⟨x4.Name,r13.2.2.2.1.Charger⟩:Zt)],j9,l3_8,Qq QE x4.Name (⟨x4.N,j17⟩:KP) l3_10) Qa)))))))
def WA (a0s:Qj) (recl2:((List (List UInt8)) × Int)→Option (List (List UInt8))) (l2_1:List (List UInt8)) (l2_2:Int):Option (List (List UInt8)) :=
 cond (QL l2_2 (Qc (List.map ZI.cs a0s.Conductors)))
  ((Zc a0s.Conductors l2_2).bind fun x3 =>
  cond (ZB (List.length (l2_1++[x3.Name])) 16) (
   recl2 (l2_1++[x3.Name],wi (l2_2+1))) none)
  (some l2_1)
def WB (a0s:Qj) (recl5:((List (List UInt8)) × Int)→Option (List (List UInt8))) (l5_1:List (List UInt8)) (l5_2:Int):Option (List (List UInt8)) :=
 cond (QL l5_2 (Qc (List.map Zf.cs a0s.Owners)))
  ((Zc a0s.Owners l5_2).bind fun x6 =>
  cond (ZB (List.length (l5_1++[x6.Name])) 16) (
   recl5 (l5_1++[x6.Name],wi (l5_2+1))) none)
  (some l5_1)
def WC (a0s:Qj) (recl8:((List (List UInt8)) × Int)→Option (List (List UInt8))) (l8_1:List (List UInt8)) (l8_2:Int):Option (List (List UInt8)) :=
 cond (QL l8_2 (Qc (List.map Kq.cs a0s.Contracts)))
  ((Zc a0s.Contracts l8_2).bind fun x9 =>
  cond (ZB (List.length (l8_1++[x9.Name])) 16) (
   recl8 (l8_1++[x9.Name],wi (l8_2+1))) none)
  (some l8_1)
def V5 (a0s:Qj) (recl11:((List (List UInt8)) × Int)→Option (List (List UInt8))) (l11_1:List (List UInt8)) (l11_2:Int):Option (List (List UInt8)) :=
 cond (QL l11_2 (Qc (List.map ZL.cs a0s.Chargers)))
  ((Zc a0s.Chargers l11_2).bind fun x12 =>
  cond (ZB (List.length (l11_1++[x12.Name])) 16) (
   recl11 (l11_1++[x12.Name],wi (l11_2+1))) none)
  (some l11_1)
def V6 (a0s:Qj) (recl13:((List (List UInt8)) × Int)→Option (List (List UInt8))) (l13_1:List (List UInt8)) (l13_2:Int):Option (List (List UInt8)) :=
 cond (QL l13_2 (Qc (List.map Zt.cs a0s.Bays)))
  ((Zc a0s.Bays l13_2).bind fun x14 =>
  cond (ZB (List.length (l13_1++[x14.Name])) 16) (
   recl13 (l13_1++[x14.Name],wi (l13_2+1))) none)
  (some l13_1)
def WY (n:Nat) (a0s:Qj):Option (List (List UInt8)) :=
 (Q4 (fun recl2 (l2_1,l2_2)=>WA a0s recl2 l2_1 l2_2) n ([],0)).bind fun j1 =>
 (Q4 (fun recl5 (l5_1,l5_2)=>WB a0s recl5 l5_1 l5_2) n (j1,0)).bind fun j4 =>
 (Q4 (fun recl8 (l8_1,l8_2)=>WC a0s recl8 l8_1 l8_2) n (j4,0)).bind fun j7 =>
 (Q4 (fun recl11 (l11_1,l11_2)=>V5 a0s recl11 l11_1 l11_2) n (j7,0)).bind fun j10 =>
 Q4 (fun recl13 (l13_1,l13_2)=>V6 a0s recl13 l13_1 l13_2) n (j10,0)
def ZC:=fun x0=>([(1, .box 28 (Kw (Qj.cs x0)))]:List (Nat × Blk))
def kZ:=fun x0=>([(1, .ptr 1 0),(3, .tsl 1 (List.map Zo x0) 25)]:List (Nat × AV))
def Kz:=fun x0 x1=>([(1, .box 28 (Kw (Qj.cs x0))),(25, .arr 9 1 (List.map Zo x1).length)]:List (Nat × Blk))
def QbO:=fun x0=>([(1, .ptr 1 0),(3, .p (.val (.slice none 0 0))),(15, .p (.sl 11 (List.map ZI.cs (Qj.Conductors x0)))),(16,I (Qc (List.map ZI.cs (Qj.Conductors x0)))),(17,I 0)]:List (Nat × AV))
def iN:=fun x0 x1 x2=>([(1, .ptr 1 0),(3, .tsl 1 (List.map Zo x0) 25),(15, .p (.sl 11 (List.map ZI.cs (Qj.Conductors x1)))),(16,I (Qc (List.map ZI.cs (Qj.Conductors x1)))),(17,I x2)]:List (Nat × AV))
def QbP:=fun x0=>(.arr 9 1 (List.map Zo x0).length:Blk)
def MP:=fun x0 x1=>([(1, .box 28 (Kw (Qj.cs x0))),(25,(QbP x1))]:List (Nat × Blk))
def rW:=fun x0 x1 x2=>([(1, .ptr 1 0),(3, .tsl 1 (List.map Zo x0) 25),(28, .p (.sl 1 (List.map Zf.cs (Qj.Owners x1)))),(29,I (Qc (List.map Zf.cs (Qj.Owners x1)))),(30,I x2)]:List (Nat × AV))
def rX:=fun x0 x1 x2=>([(1, .ptr 1 0),(3, .tsl 1 (List.map Zo x0) 25),(41, .p (.sl 4 (List.map Kq.cs (Qj.Contracts x1)))),(42,I (Qc (List.map Kq.cs (Qj.Contracts x1)))),(43,I x2)]:List (Nat × AV))
def rY:=fun x0 x1 x2=>([(1, .ptr 1 0),(3, .tsl 1 (List.map Zo x0) 25),(54, .p (.sl 8 (List.map ZL.cs (Qj.Chargers x1)))),(55,I (Qc (List.map ZL.cs (Qj.Chargers x1)))),(56,I x2)]:List (Nat × AV))
def jm:=fun x0 x1 x2=>([(3, .tsl 1 (List.map Zo x0) 25),(67, .p (.sl 2 (List.map Zt.cs (Qj.Bays x1)))),(68,I (Qc (List.map Zt.cs (Qj.Bays x1)))),(69,I x2)]:List (Nat × AV))
def Rt:=fun x0=>([(25, .arr 9 1 (List.map Zo x0).length)]:List (Nat × Blk))
def QbQ:=fun x0=>(⟨[(3, .tsl 1 (List.map Zo x0) 25)],Rt x0⟩:St)
abbrev QM (x:Qj):Go.Abs.Blk:=.box 28 (Kw (Qj.cs x))
abbrev vY (x:ZI):Go.Abs.Blk:=.box 54 (Kw (ZI.cs x))
abbrev Ym (x:ZL):Go.Abs.Blk:=.box 32 (Kw (ZL.cs x))
abbrev yc (x:Zt):Go.Abs.Blk:=.box 123 (Kw (Zt.cs x))
theorem MQ (n:Nat) (a0s:Qj):∀ r,WY n a0s=some r→Q0 Tryz.prog 53 [ag (Qj.cs a0s)] (.ret (.p (.sl 1 (List.map Zo r)))):=by
 refine Qp Tryz.func53 rfl Tryz.ntmps53 rfl ?_
 unfold WY
 refine Qg Qe ⟨[qq 1],ZC a0s⟩ Qa (Qg Qe ⟨kL,ZC a0s⟩ Qa (KM (fun j1=>⟨kZ j1,Kz a0s j1⟩:(List (List UInt8))→St) ?_ ?_))
 ·refine Qg Qe ⟨QbO a0s,ZC a0s⟩ Qa (sB (M3 ⟨QbO a0s,ZC a0s⟩ Qa (Zq (KZ 9 1 25 [3] [] Qa) (Qw (fun (l2_1,l2_2)=>⟨iN l2_1 a0s l2_2,Kz a0s l2_1⟩:((List (List UInt8)) × Int)→St) (Wq Qa) ?_))))
  rintro recl2 ⟨l2_1,l2_2⟩
  show QU (WA a0s recl2 l2_1 l2_2) _ _ _ _ _ _
  unfold WA
  exact Qg Qe ⟨[qq 1,(3, .tsl 1 (List.map Zo l2_1) 25),(15, .p (.sl 11 (XM a0s.Conductors))),(16,I (Qc (XM a0s.Conductors))),(17,I l2_2),(18,B (QL l2_2 (Qc (XM a0s.Conductors))))],Kz a0s l2_1⟩ Qa (sS (sC (QL l2_2 (Qc (XM a0s.Conductors))) Qa (sK (Qk ⟨iN l2_1 a0s l2_2,Kz a0s l2_1⟩ Qa (sS (sB (sS (sG (xG Qa Qa (QC (e:=54) (S:=11) (enc:=ZI.cs) (l:=a0s.Conductors) (k:=.i64) (n:=l2_2) (sv:=.p (.sl 11 (XM a0s.Conductors))) rfl Qa Qa Qa Qa Qa) (fun x3=>xR 3 Qa (xE (Qk ⟨[qq 1,(3, .tsl 1 (List.map Zo l2_1) 25),qq 5,(15, .p (.sl 11 (XM a0s.Conductors))),(16,I (Qc (XM a0s.Conductors))),(17,I l2_2)],[(1,QM a0s),(5,vY x3),(25, .arr 9 1 (List.map Zo l2_1).length)]⟩ Qa (sG (xR 4 Qa (xF Qa Qa (ZM (e:=9) (S:=1) (by_:=16) (enc:=Zo) (tk:=25) (l:=l2_1) (l2:=[x3.Name]) (xv:=.tsl 1 (List.map Zo [x3.Name]) 24) rfl Qa Qa rfl Qa Qa Qa rfl Qa) (xR 1 Qa (xE (QT (Qk ⟨iN (l2_1++[x3.Name]) a0s l2_2,MP a0s (l2_1++[x3.Name])⟩ Qa (sL Qe Qa (Ky (l2_1++[x3.Name],wi (l2_2+1)) Qa))))))))))))))))))) (Qm (Zu (ZP (QG (QV l2_1 Qa)))))))
 rintro j1
 refine KM (fun j4=>⟨kZ j4,Kz a0s j4⟩:(List (List UInt8))→St) ?_ ?_
 ·refine Qg Qe ⟨rW j1 a0s 0,Kz a0s j1⟩ Qa (sB (Qw (fun (l5_1,l5_2)=>⟨rW l5_1 a0s l5_2,Kz a0s l5_1⟩:((List (List UInt8)) × Int)→St) (Wq Qa) ?_))
  rintro recl5 ⟨l5_1,l5_2⟩
  show QU (WB a0s recl5 l5_1 l5_2) _ _ _ _ _ _
  unfold WB
  exact Qg Qe ⟨[qq 1,(3, .tsl 1 (List.map Zo l5_1) 25),(28, .p (.sl 1 (K3 a0s.Owners))),(29,I (Qc (K3 a0s.Owners))),(30,I l5_2),(31,B (QL l5_2 (Qc (K3 a0s.Owners))))],Kz a0s l5_1⟩ Qa (sS (sC (QL l5_2 (Qc (K3 a0s.Owners))) Qa (sK (Qk ⟨rW l5_1 a0s l5_2,Kz a0s l5_1⟩ Qa (sS (sB (sS (sG (xG Qa Qa (QC (e:=166) (S:=1) (enc:=Zf.cs) (l:=a0s.Owners) (k:=.i64) (n:=l5_2) (sv:=.p (.sl 1 (K3 a0s.Owners))) rfl Qa Qa Qa Qa Qa) (fun x6=>xR 3 Qa (xE (Qk ⟨[qq 1,(3, .tsl 1 (List.map Zo l5_1) 25),qq 7,(28, .p (.sl 1 (K3 a0s.Owners))),(29,I (Qc (K3 a0s.Owners))),(30,I l5_2)],[(1,QM a0s),(7, .box 166 [S x6.Name]),(25, .arr 9 1 (List.map Zo l5_1).length)]⟩ Qa (sG (xR 4 Qa (xF Qa Qa (ZM (e:=9) (S:=1) (by_:=16) (enc:=Zo) (tk:=25) (l:=l5_1) (l2:=[x6.Name]) (xv:=.tsl 1 (List.map Zo [x6.Name]) 37) rfl Qa Qa rfl Qa Qa Qa rfl Qa) (xR 1 Qa (xE (QT (Qk ⟨rW (l5_1++[x6.Name]) a0s l5_2,MP a0s (l5_1++[x6.Name])⟩ Qa (sL Qe Qa (Ky (l5_1++[x6.Name],wi (l5_2+1)) Qa))))))))))))))))))) (Qm (Zu (ZP (QG (QV l5_1 Qa)))))))
 rintro j4
 refine KM (fun j7=>⟨kZ j7,Kz a0s j7⟩:(List (List UInt8))→St) ?_ ?_
 ·refine Qg Qe ⟨rX j4 a0s 0,Kz a0s j4⟩ Qa (sB (Qw (fun (l8_1,l8_2)=>⟨rX l8_1 a0s l8_2,Kz a0s l8_1⟩:((List (List UInt8)) × Int)→St) (Wq Qa) ?_))
  rintro recl8 ⟨l8_1,l8_2⟩
  show QU (WC a0s recl8 l8_1 l8_2) _ _ _ _ _ _
  unfold WC
  exact Qg Qe ⟨[qq 1,(3, .tsl 1 (List.map Zo l8_1) 25),(41, .p (.sl 4 (Fw a0s.Contracts))),(42,I (Qc (Fw a0s.Contracts))),(43,I l8_2),(44,B (QL l8_2 (Qc (Fw a0s.Contracts))))],Kz a0s l8_1⟩ Qa (sS (sC (QL l8_2 (Qc (Fw a0s.Contracts))) Qa (sK (Qk ⟨rX l8_1 a0s l8_2,Kz a0s l8_1⟩ Qa (sS (sB (sS (sG (xG Qa Qa (QC (e:=120) (S:=4) (enc:=Kq.cs) (l:=a0s.Contracts) (k:=.i64) (n:=l8_2) (sv:=.p (.sl 4 (Fw a0s.Contracts))) rfl Qa Qa Qa Qa Qa) (fun x9=>xR 3 Qa (xE (Qk ⟨[qq 1,(3, .tsl 1 (List.map Zo l8_1) 25),qq 9,(41, .p (.sl 4 (Fw a0s.Contracts))),(42,I (Qc (Fw a0s.Contracts))),(43,I l8_2)],[(1,QM a0s),(9,jl x9),(25, .arr 9 1 (List.map Zo l8_1).length)]⟩ Qa (sG (xR 4 Qa (xF Qa Qa (ZM (e:=9) (S:=1) (by_:=16) (enc:=Zo) (tk:=25) (l:=l8_1) (l2:=[x9.Name]) (xv:=.tsl 1 (List.map Zo [x9.Name]) 50) rfl Qa Qa rfl Qa Qa Qa rfl Qa) (xR 1 Qa (xE (QT (Qk ⟨rX (l8_1++[x9.Name]) a0s l8_2,MP a0s (l8_1++[x9.Name])⟩ Qa (sL Qe Qa (Ky (l8_1++[x9.Name],wi (l8_2+1)) Qa))))))))))))))))))) (Qm (Zu (ZP (QG (QV l8_1 Qa)))))))
 rintro j7
 refine KM (fun j10=>⟨kZ j10,Kz a0s j10⟩:(List (List UInt8))→St) ?_ ?_
 ·refine Qg Qe ⟨rY j7 a0s 0,Kz a0s j7⟩ Qa (sB (Qw (fun (l11_1,l11_2)=>⟨rY l11_1 a0s l11_2,Kz a0s l11_1⟩:((List (List UInt8)) × Int)→St) (Wq Qa) ?_))
  rintro recl11 ⟨l11_1,l11_2⟩
  show QU (V5 a0s recl11 l11_1 l11_2) _ _ _ _ _ _
  unfold V5
  exact Qg Qe ⟨[qq 1,(3, .tsl 1 (List.map Zo l11_1) 25),(54, .p (.sl 8 (Z5 a0s.Chargers))),(55,I (Qc (Z5 a0s.Chargers))),(56,I l11_2),(57,B (QL l11_2 (Qc (Z5 a0s.Chargers))))],Kz a0s l11_1⟩ Qa (sS (sC (QL l11_2 (Qc (Z5 a0s.Chargers))) Qa (sK (Qk ⟨rY l11_1 a0s l11_2,Kz a0s l11_1⟩ Qa (sS (sB (sS (sG (xG Qa Qa (QC (e:=32) (S:=8) (enc:=ZL.cs) (l:=a0s.Chargers) (k:=.i64) (n:=l11_2) (sv:=.p (.sl 8 (Z5 a0s.Chargers))) rfl Qa Qa Qa Qa Qa) (fun x12=>xR 3 Qa (xE (Qk ⟨[qq 1,(3, .tsl 1 (List.map Zo l11_1) 25),qq 11,(54, .p (.sl 8 (Z5 a0s.Chargers))),(55,I (Qc (Z5 a0s.Chargers))),(56,I l11_2)],[(1,QM a0s),(11,Ym x12),(25, .arr 9 1 (List.map Zo l11_1).length)]⟩ Qa (sG (xR 4 Qa (xF Qa Qa (ZM (e:=9) (S:=1) (by_:=16) (enc:=Zo) (tk:=25) (l:=l11_1) (l2:=[x12.Name]) (xv:=.tsl 1 (List.map Zo [x12.Name]) 63) rfl Qa Qa rfl Qa Qa Qa rfl Qa) (xR 1 Qa (xE (QT (Qk ⟨rY (l11_1++[x12.Name]) a0s l11_2,MP a0s (l11_1++[x12.Name])⟩ Qa (sL Qe Qa (Ky (l11_1++[x12.Name],wi (l11_2+1)) Qa))))))))))))))))))) (Qm (Zu (ZP (QG (QV l11_1 Qa)))))))
 rintro j10
 refine sS (Qg Qe ⟨jm j10 a0s 0,Rt j10⟩ Qa (sB (Qw (fun (l13_1,l13_2)=>⟨jm l13_1 a0s l13_2,Rt l13_1⟩:((List (List UInt8)) × Int)→St) (Wq Qa) ?_)))
 rintro recl13 ⟨l13_1,l13_2⟩
 show QU (V6 a0s recl13 l13_1 l13_2) _ _ _ _ _ _
 unfold V6
 exact Qg Qe ⟨[(3, .tsl 1 (List.map Zo l13_1) 25),(67, .p (.sl 2 (Wx a0s.Bays))),(68,I (Qc (Wx a0s.Bays))),(69,I l13_2),(70,B (QL l13_2 (Qc (Wx a0s.Bays))))],Rt l13_1⟩ Qa (sS (sC (QL l13_2 (Qc (Wx a0s.Bays))) Qa (sK (Qk ⟨jm l13_1 a0s l13_2,Rt l13_1⟩ Qa (sS (sB (sS (sG (xG Qa Qa (QC (e:=123) (S:=2) (enc:=Zt.cs) (l:=a0s.Bays) (k:=.i64) (n:=l13_2) (sv:=.p (.sl 2 (Wx a0s.Bays))) rfl Qa Qa Qa Qa Qa) (fun x14=>xR 3 Qa (xE (Qk ⟨[(3, .tsl 1 (List.map Zo l13_1) 25),qq 13,(67, .p (.sl 2 (Wx a0s.Bays))),(68,I (Qc (Wx a0s.Bays))),(69,I l13_2)],[(13,yc x14),(25, .arr 9 1 (List.map Zo l13_1).length)]⟩ Qa (sG (xR 4 Qa (xF Qa Qa (ZM (e:=9) (S:=1) (by_:=16) (enc:=Zo) (tk:=25) (l:=l13_1) (l2:=[x14.Name]) (xv:=.tsl 1 (List.map Zo [x14.Name]) 76) rfl Qa Qa rfl Qa Qa Qa rfl Qa) (xR 1 Qa (xE (QT (Qk ⟨jm (l13_1++[x14.Name]) a0s l13_2,[(25,(QbP (l13_1++[x14.Name])))]⟩ Qa (sL Qe Qa (Ky (l13_1++[x14.Name],wi (l13_2+1)) Qa))))))))))))))))))) (Qm (Zu (ZP (QG (Qk (QbQ l13_1) Qa (Qg Qe ⟨[(2, .tsl 1 (List.map Zo l13_1) 25)],Rt l13_1⟩ Qa (sT (qR (.sl 1) Qa Qa Qa))))))))))
def Wi (n:Nat) (a0text:List UInt8):Option Bool :=
 (Hu n (⟨1,[],0,0,[GN.cs (⟨2,a0text,3,0,[]⟩:GN)]⟩:GN)).bind fun r1 =>
 some r1
theorem CS (n:Nat) (a0text:List UInt8):∀ r,Wi n a0text=some r→Q0 Tryz.prog 54 [S a0text] (.ret (B r)):=by
 refine Qp Tryz.func54 rfl Tryz.ntmps54 rfl ?_
 unfold Wi
 refine Qg Qe ⟨[(0,S a0text)],[]⟩ Qa (sR Qe ⟨[3],[3],[],[(3,[.id, .id, .id, .id, .sl 5])]⟩ ⟨[qq 3],[(3,(jk ⟨2,a0text,3,0,[]⟩))]⟩ Qa (sS (sG (xR 3 Qa ?_))))
 refine xC [.agg [.id, .id, .id, .id, .sl 5]] Qa (MJ n (⟨1,[],0,0,[GN.cs (⟨2,a0text,3,0,[]⟩:GN)]⟩:GN)) Qa Qa QW (fun r1=>?_)
 exact xR 1 Qa (xE (Qk ⟨[(2,B r1)],[]⟩ Qa (sT (qR (.id) Qa Qa Qa))))
def Yb (n:Nat) (a0c:ZI) (a1index:Int):Option Bool :=
 (cond (Qs a1index 0)
  (cond (!Qs a0c.Up (-1))
   (some true)
   (cond (QL 0 a1index)
    (cond (QL a0c.Up 0)
     (some true)
     (some (leI a1index a0c.Up)))
    (some false)))
  (cond (QL 0 a1index)
   (cond (QL a0c.Up 0)
    (some true)
    (some (leI a1index a0c.Up)))
   (some false))).bind fun j1 =>
 cond j1
  (some false)
  (((QD n (⟨1,1000⟩:Kc) a0c.Limit).bind fun r9 =>
  cond (!r9)
   (some true)
   ((QD n (⟨1,1000⟩:Kc) a0c.Neutral).bind fun r11 =>
   some (!r11))).bind fun j8 =>
  cond j8
   (some false)
   ((cond (!Dw ((Qs a0c.Fuse.Rated 0)&&((Qs a0c.Fuse.Heat 0)&&true)))
    ((QD n (⟨1,1000⟩:Kc) a0c.Fuse.Rated).bind fun r14 =>
    cond r14
     ((QD n (⟨0,1000000⟩:Kc) a0c.Fuse.Heat).bind fun r16 =>
     some (!r16))
     (some true))
    (some false)).bind fun j12 =>
   cond j12
    (some false)
    (cond (Dw ((Qs a0c.Cable.Ambient 0)&&((Qs a0c.Cable.Most 0)&&((Qs a0c.Cable.Gain 0)&&((Qs a0c.Cable.Loss 0)&&((Qs a0c.Cable.Den 0)&&true))))))
     (some true)
     (((QD n (⟨0,200000⟩:Kc) a0c.Cable.Ambient).bind fun r18 =>
     cond r18
      ((QD n (⟨0,200000⟩:Kc) a0c.Cable.Most).bind fun r20 =>
      cond r20
       ((QD n (⟨0,1000⟩:Kc) a0c.Cable.Gain).bind fun r22 =>
       cond r22
        ((QD n (⟨0,1000⟩:Kc) a0c.Cable.Loss).bind fun r24 =>
        cond r24
         ((QD n (⟨1,1000000⟩:Kc) a0c.Cable.Den).bind fun r26 =>
         cond r26
          ((VL n a0c.Cable).bind fun r28 =>
          some r28)
          (some false))
         (some false))
        (some false))
       (some false))
      (some false)).bind fun j17 =>
     some j17))))
def Od:=fun x0=>([(2, .box 54 (Kw (ZI.cs x0)))]:List (Nat × Blk))
def nK:=fun x0=>([(2, .box 54 (Kw (ZI.cs x0))),(5, .box 148 [I 1,I 1000])]:List (Nat × Blk))
def jo:=fun x0=>([(7, .box 52 (Kw (KN.cs (ZI.Cable x0))))]:List (Nat × Blk))
abbrev Az (x:UE):Go.Abs.Blk:=.box 50 (Kw (UE.cs x))
abbrev Ll (x:KN):Go.Abs.Blk:=.box 52 (Kw (KN.cs x))
theorem FN (n:Nat) (a0c:ZI) (a1index:Int):∀ r,Yb n a0c a1index=some r→Q0 Tryz.prog 102 [ag (ZI.cs a0c),I a1index] (.ret (B r)):=by
 refine Qp Tryz.func102 rfl Tryz.ntmps102 rfl ?_
 unfold Yb
 refine Qg Qe ⟨[(1,I a1index),qq 2],Od a0c⟩ Qa (sS (KM (fun j1=>⟨[qq 2,(31,B j1)],Od a0c⟩:Bool→St) (sG (xR 3 Qa (xS (Qs a1index 0) (fun h2=>xO (Qt Qa h2) Qa (xR 4 Qa (xS (!Qs a0c.Up (-1)) (fun h3=>xN (QB Qa h3) Qa (xR 13 Qa (xE (QV true Qa)))) (fun h3=>xO (QA Qa h3) Qa (xR 2 Qa (xS (QL 0 a1index) (fun h4=>xO (Qt Qa h4) Qa (xR 3 Qa (xS (QL a0c.Up 0) (fun h5=>xN (QB Qa h5) Qa (xR 6 Qa (xE (QV true Qa)))) (fun h5=>xO (QA Qa h5) Qa (xR 6 Qa (xE (QV (leI a1index a0c.Up) Qa))))))) (fun h4=>xN (Qu Qa h4) Qa (xR 10 Qa (xE (QV false Qa)))))))))) (fun h2=>xN (Qu Qa h2) Qa (xR 7 Qa (xS (QL 0 a1index) (fun h6=>xO (Qt Qa h6) Qa (xR 3 Qa (xS (QL a0c.Up 0) (fun h7=>xN (QB Qa h7) Qa (xR 6 Qa (xE (QV true Qa)))) (fun h7=>xO (QA Qa h7) Qa (xR 6 Qa (xE (QV (leI a1index a0c.Up) Qa))))))) (fun h6=>xN (Qu Qa h6) Qa (xR 10 Qa (xE (QV false Qa)))))))))) ?_))
 rintro j1
 refine sC j1 Qa (Qg Qe ⟨[(4,B false)],[]⟩ Qa (sT (QY (qR (.id) Qa Qa Qa)))) (sK (Qk ⟨[qq 2],Od a0c⟩ Qa (Qg Qe ⟨[qq 2,qq 5],nK a0c⟩ Qa (sS (KM (fun j8=>⟨[qq 2,qq 5,(44,B j8)],nK a0c⟩:Bool→St) ?_ ?_)))))
 ·refine sG (xR 3 Qa ?_)
  refine xC [] Qa (QI n (⟨1,1000⟩:Kc) a0c.Limit) Qa Qa QW (fun r9=>?_)
  refine xR 2 Qa (xS (!r9) (fun h10=>xN (QB Qa h10) Qa (xR 5 Qa (xE (QV true Qa)))) (fun h10=>xO (QA Qa h10) Qa (xR 2 Qa ?_)))
  refine xC [] Qa (QI n (⟨1,1000⟩:Kc) a0c.Neutral) Qa Qa QW (fun r11=>?_)
  exact xR 2 Qa (xE (QV (!r11) Qa))
 rintro j8
 refine sC j8 Qa (Qg Qe ⟨[(4,B false)],[]⟩ Qa (sT (QY (qR (.id) Qa Qa Qa)))) (sK (Qk ⟨[qq 2,qq 5],nK a0c⟩ Qa (Qg Qe ⟨[qq 5,qq 6,qq 7],[(5, .box 148 [I 1,I 1000]),(6,Az a0c.Fuse),(7,Ll a0c.Cable)]⟩ Qa (sS (KM (fun j12=>⟨[qq 7,(64,B j12)],jo a0c⟩:Bool→St) ?_ ?_)))))
 ·refine sG (xR 2 Qa (Ze Qa Qa (ja (xs:=[I a0c.Fuse.Rated,I a0c.Fuse.Heat]) (ys:=[I 0,I 0]) (vx:=[.int .i64 a0c.Fuse.Rated, .int .i64 a0c.Fuse.Heat]) (vy:=[.int .i64 0, .int .i64 0]) (b:=(Qs a0c.Fuse.Rated 0)&&((Qs a0c.Fuse.Heat 0)&&true)) rfl Qa Qa Qa Qa Qa Qa) (xR 1 Qa (xS (!Dw ((Qs a0c.Fuse.Rated 0)&&((Qs a0c.Fuse.Heat 0)&&true))) (fun h13=>?_) (fun h13=>?_)))))
  ·refine xO (Qt Qa h13) Qa (xR 2 Qa ?_)
   refine xC [] Qa (QI n (⟨1,1000⟩:Kc) a0c.Fuse.Rated) Qa Qa QW (fun r14=>?_)
   refine xR 1 Qa (xS r14 (fun h15=>?_) (fun h15=>?_))
   ·refine xO (Qt Qa h15) Qa (xR 2 Qa ?_)
    refine xC [] Qa (QI n (⟨0,1000000⟩:Kc) a0c.Fuse.Heat) Qa Qa QW (fun r16=>?_)
    exact xR 3 Qa (xE (QV (!r16) Qa))
   exact xN (Qu Qa h15) Qa (xR 6 Qa (xE (QV true Qa)))
  exact xN (Qu Qa h13) Qa (xR 11 Qa (xE (QV false Qa)))
 rintro j12
 refine sC j12 Qa (Qg Qe ⟨[(4,B false)],[]⟩ Qa (sT (QY (qR (.id) Qa Qa Qa)))) (sK (Qk ⟨[qq 7],jo a0c⟩ Qa (sS (sS (sG (xR 2 Qa (Ze Qa Qa (Eg (xs:=[I a0c.Cable.Ambient,I a0c.Cable.Most,I a0c.Cable.Gain,I a0c.Cable.Loss,I a0c.Cable.Den]) (ys:=[I 0,I 0,I 0,I 0,I 0]) (vx:=[.int .i64 a0c.Cable.Ambient, .int .i64 a0c.Cable.Most, .int .i64 a0c.Cable.Gain, .int .i64 a0c.Cable.Loss, .int .i64 a0c.Cable.Den]) (vy:=[.int .i64 0, .int .i64 0, .int .i64 0, .int .i64 0, .int .i64 0]) (b:=(Qs a0c.Cable.Ambient 0)&&((Qs a0c.Cable.Most 0)&&((Qs a0c.Cable.Gain 0)&&((Qs a0c.Cable.Loss 0)&&((Qs a0c.Cable.Den 0)&&true))))) rfl Qa Qa Qa Qa Qa Qa) (xE (Qk ⟨[qq 7,(67,B (Dw ((Qs a0c.Cable.Ambient 0)&&((Qs a0c.Cable.Most 0)&&((Qs a0c.Cable.Gain 0)&&((Qs a0c.Cable.Loss 0)&&((Qs a0c.Cable.Den 0)&&true)))))))],jo a0c⟩ Qa (sC (Dw ((Qs a0c.Cable.Ambient 0)&&((Qs a0c.Cable.Most 0)&&((Qs a0c.Cable.Gain 0)&&((Qs a0c.Cable.Loss 0)&&((Qs a0c.Cable.Den 0)&&true)))))) Qa (Qg Qe ⟨[(4,B true)],[]⟩ Qa (sT (QY (qR (.id) Qa Qa Qa)))) (sK (Qk ⟨[qq 7],jo a0c⟩ Qa (Qg Qe ⟨[qq 7,qq 8,qq 9],[(7,Ll a0c.Cable),(8, .box 148 [I 0,I 200000]),(9, .box 148 [I 0,I 1000])]⟩ Qa (KM (fun j17=>⟨[(4,B j17)],[]⟩:Bool→St) ?_ ?_))))))))))))))
 rotate_left
 ·rintro j17
  exact sT (qR (.id) Qa Qa Qa)
 refine sG (xR 3 Qa ?_)
 refine xC [] Qa (QI n (⟨0,200000⟩:Kc) a0c.Cable.Ambient) Qa Qa QW (fun r18=>?_)
 refine xR 1 Qa (xS r18 (fun h19=>xO (Qt Qa h19) Qa (xR 2 Qa ?_)) (fun h19=>xN (Qu Qa h19) Qa (xR 27 Qa (xE (QV false Qa)))))
 refine xC [] Qa (QI n (⟨0,200000⟩:Kc) a0c.Cable.Most) Qa Qa QW (fun r20=>?_)
 refine xR 2 Qa (xS r20 (fun h21=>xO (Qt Qa h21) Qa (xR 2 Qa ?_)) (fun h21=>xN (Qu Qa h21) Qa (xR 21 Qa (xE (QV false Qa)))))
 refine xC [] Qa (QI n (⟨0,1000⟩:Kc) a0c.Cable.Gain) Qa Qa QW (fun r22=>?_)
 refine xR 2 Qa (xS r22 (fun h23=>xO (Qt Qa h23) Qa (xR 2 Qa ?_)) (fun h23=>xN (Qu Qa h23) Qa (xR 15 Qa (xE (QV false Qa)))))
 refine xC [] Qa (QI n (⟨0,1000⟩:Kc) a0c.Cable.Loss) Qa Qa QW (fun r24=>?_)
 refine xR 2 Qa (xS r24 (fun h25=>?_) (fun h25=>?_))
 ·refine xO (Qt Qa h25) Qa (xR 2 Qa ?_)
  refine xC [] Qa (QI n (⟨1,1000000⟩:Kc) a0c.Cable.Den) Qa Qa QW (fun r26=>?_)
  refine xR 2 Qa (xS r26 (fun h27=>?_) (fun h27=>?_))
  ·refine xO (Qt Qa h27) Qa ?_
   refine xC [] Qa (U2 n a0c.Cable) Qa Qa QW (fun r28=>?_)
   exact xR 2 Qa (xE (QV r28 Qa))
  exact xN (Qu Qa h27) Qa (xR 3 Qa (xE (QV false Qa)))
 exact xN (Qu Qa h25) Qa (xR 9 Qa (xE (QV false Qa)))
def YG (n:Nat) (a0s:Qj) (a1c:ZL):Option Bool :=
 ((QD n (⟨0,wi ((Qc (List.map ZI.cs a0s.Conductors)) - 1)⟩:Kc) a1c.At).bind fun r2 =>
 cond r2
  ((QD n (⟨0,wi ((Qc (List.map Zf.cs a0s.Owners)) - 1)⟩:Kc) a1c.Owner).bind fun r4 =>
  cond r4
   ((QD n (⟨1,7⟩:Kc) a1c.Phases).bind fun r6 =>
   cond r6
    ((QD n (⟨1,80⟩:Kc) a1c.Min).bind fun r8 =>
    cond r8
     ((QD n (⟨1,80⟩:Kc) a1c.Max).bind fun r10 =>
     cond r10
      ((QD n (⟨1,80⟩:Kc) a1c.Step).bind fun r12 =>
      cond r12
       ((QD n (⟨0,80⟩:Kc) a1c.Fallback).bind fun r14 =>
       cond r14
        ((Y5 n a1c).bind fun r16 =>
        some r16)
        (some false))
       (some false))
      (some false))
     (some false))
    (some false))
   (some false))
  (some false)).bind fun j1 =>
 some j1
theorem Rj (n:Nat) (a0s:Qj) (a1c:ZL):∀ r,YG n a0s a1c=some r→Q0 Tryz.prog 104 [ag (Qj.cs a0s),ag (ZL.cs a1c)] (.ret (B r)):=by
 refine Qp Tryz.func104 rfl Tryz.ntmps104 rfl ?_
 unfold YG
 refine Qg Qe ⟨[qq 2,qq 3],[(2,QM a0s),(3,Ym a1c)]⟩ Qa (Qg Qe ⟨[qq 2,qq 3,qq 5],[(2,QM a0s),(3,Ym a1c),(5, .box 148 [I 1,I 80])]⟩ Qa (KM (fun j1=>⟨[(4,B j1)],[]⟩:Bool→St) ?_ ?_))
 rotate_left
 ·rintro j1
  exact sT (qR (.id) Qa Qa Qa)
 refine sG (xR 7 Qa ?_)
 refine xC [] Qa (QI n (⟨0,wi ((Qc (XM a0s.Conductors)) - 1)⟩:Kc) a1c.At) Qa Qa QW (fun r2=>?_)
 refine xR 1 Qa (xS r2 (fun h3=>xO (Qt Qa h3) Qa (xR 6 Qa ?_)) (fun h3=>xN (Qu Qa h3) Qa (xR 43 Qa (xE (QV false Qa)))))
 refine xC [] Qa (QI n (⟨0,wi ((Qc (K3 a0s.Owners)) - 1)⟩:Kc) a1c.Owner) Qa Qa QW (fun r4=>?_)
 refine xR 2 Qa (xS r4 (fun h5=>xO (Qt Qa h5) Qa (xR 2 Qa ?_)) (fun h5=>xN (Qu Qa h5) Qa (xR 33 Qa (xE (QV false Qa)))))
 refine xC [] Qa (QI n (⟨1,7⟩:Kc) a1c.Phases) Qa Qa QW (fun r6=>?_)
 refine xR 2 Qa (xS r6 (fun h7=>xO (Qt Qa h7) Qa (xR 2 Qa ?_)) (fun h7=>xN (Qu Qa h7) Qa (xR 27 Qa (xE (QV false Qa)))))
 refine xC [] Qa (QI n (⟨1,80⟩:Kc) a1c.Min) Qa Qa QW (fun r8=>?_)
 refine xR 2 Qa (xS r8 (fun h9=>xO (Qt Qa h9) Qa (xR 2 Qa ?_)) (fun h9=>xN (Qu Qa h9) Qa (xR 21 Qa (xE (QV false Qa)))))
 refine xC [] Qa (QI n (⟨1,80⟩:Kc) a1c.Max) Qa Qa QW (fun r10=>?_)
 refine xR 2 Qa (xS r10 (fun h11=>xO (Qt Qa h11) Qa (xR 2 Qa ?_)) (fun h11=>xN (Qu Qa h11) Qa (xR 15 Qa (xE (QV false Qa)))))
 refine xC [] Qa (QI n (⟨1,80⟩:Kc) a1c.Step) Qa Qa QW (fun r12=>?_)
 refine xR 2 Qa (xS r12 (fun h13=>?_) (fun h13=>?_))
 ·refine xO (Qt Qa h13) Qa (xR 2 Qa ?_)
  refine xC [] Qa (QI n (⟨0,80⟩:Kc) a1c.Fallback) Qa Qa QW (fun r14=>?_)
  refine xR 2 Qa (xS r14 (fun h15=>?_) (fun h15=>?_))
  ·refine xO (Qt Qa h15) Qa ?_
   refine xC [] Qa (Xb n a1c) Qa Qa QW (fun r16=>?_)
   exact xR 2 Qa (xE (QV r16 Qa))
  exact xN (Qu Qa h15) Qa (xR 3 Qa (xE (QV false Qa)))
 exact xN (Qu Qa h13) Qa (xR 9 Qa (xE (QV false Qa)))
def Yn (n:Nat) (a0s:Qj) (recl4:Int→Option Bool) (l4:Int):Option Bool :=
 cond (QL l4 (Qc (List.map Zt.cs a0s.Bays)))
  ((Zc a0s.Bays l4).bind fun x5 =>
  (QD n (⟨0,wi ((Qc (List.map ZL.cs a0s.Chargers)) - 1)⟩:Kc) x5.Charger).bind fun r6 =>
  cond (!r6)
   (some false)
   (recl4 (wi (l4+1))))
  (some true)
def KH (n:Nat) (a0s:Qj):Option Bool :=
 Q4 (fun recl4 l4=>Yn n a0s recl4 l4) n 0
def Yo (n:Nat) (a0s:Qj) (recl7:Int→Option Bool) (l7:Int):Option Bool :=
 cond (QL l7 (Qc (List.map ZL.cs a0s.Chargers)))
  ((Zc a0s.Chargers l7).bind fun x8 =>
  (YG n a0s x8).bind fun r9 =>
  cond (!r9)
   (some false)
   (recl7 (wi (l7+1))))
  (KH n a0s)
def KI (n:Nat) (a0s:Qj):Option Bool :=
 Q4 (fun recl7 l7=>Yo n a0s recl7 l7) n 0
def Kr (n:Nat) (a0s:Qj) (recl10:(Int × (List (Int × Bool)))→Option Bool) (l10_1:Int) (l10_2:List (Int × Bool)):Option Bool :=
 cond (QL l10_1 (Qc (List.map Kq.cs a0s.Contracts)))
  ((Zc a0s.Contracts l10_1).bind fun x11 =>
  ((QD n (⟨0,wi ((Qc (List.map Zf.cs a0s.Owners)) - 1)⟩:Kc) x11.Owner).bind fun r13 =>
  cond (!r13)
   (some true)
   ((QD n (⟨1,9⟩:Kc) x11.Rank).bind fun r15 =>
   cond (!r15)
    (some true)
    ((QD n (⟨1,1000000⟩:Kc) x11.Card).bind fun r17 =>
    cond (!r17)
     (some true)
     (some (QJ Zk x11.Card false l10_2))))).bind fun j12 =>
  cond j12
   (some false)
   (recl10 (wi (l10_1+1),Qq Zk x11.Card true l10_2)))
  (KI n a0s)
def KJ (n:Nat) (a0s:Qj):Option Bool :=
 Q4 (fun recl10 (l10_1,l10_2)=>Kr n a0s recl10 l10_1 l10_2) n (0,[])
def Yc (n:Nat) (a0s:Qj) (recl19:Int→Option Bool) (l19:Int):Option Bool :=
 cond (QL l19 (Qc (List.map ZI.cs a0s.Conductors)))
  ((Zc a0s.Conductors l19).bind fun x20 =>
  (Yb n x20 l19).bind fun r21 =>
  cond (!r21)
   (some false)
   (recl19 (wi (l19+1))))
  (KJ n a0s)
def Vj (n:Nat) (a0s:Qj):Option Bool :=
 Q4 (fun recl19 l19=>Yc n a0s recl19 l19) n 0
def jq:=fun x0 x1=>([(1, .ptr 1 0),(13, .p (.sl 11 (List.map ZI.cs (Qj.Conductors x0)))),(14,I (Qc (List.map ZI.cs (Qj.Conductors x0)))),(15,I x1)]:List (Nat × AV))
def Oe:=fun x0 x1=>([(1, .box 28 (Kw (Qj.cs x0))),(25, .mp (JH J3 J4 x1))]:List (Nat × Blk))
def jr:=fun x0 x1=>([(1, .ptr 1 0),(5, .mv 25),(27, .p (.sl 4 (List.map Kq.cs (Qj.Contracts x0)))),(28,I (Qc (List.map Kq.cs (Qj.Contracts x0)))),(29,I x1)]:List (Nat × AV))
def tL:=fun x0 x1=>([(1, .ptr 1 0),(5, .mv 25),(7, .ptr 7 0),(27, .p (.sl 4 (List.map Kq.cs (Qj.Contracts x0)))),(28,I (Qc (List.map Kq.cs (Qj.Contracts x0)))),(29,I x1)]:List (Nat × AV))
def nL:=fun x0 x1 x2=>([(1, .box 28 (Kw (Qj.cs x0))),(7, .box 120 (Kw (Kq.cs x1))),(25, .mp (JH J3 J4 x2))]:List (Nat × Blk))
def jv:=fun x0 x1=>([(1, .ptr 1 0),(67, .p (.sl 8 (List.map ZL.cs (Qj.Chargers x0)))),(68,I (Qc (List.map ZL.cs (Qj.Chargers x0)))),(69,I x1)]:List (Nat × AV))
def jw:=fun x0 x1=>([(1, .ptr 1 0),(79, .p (.sl 2 (List.map Zt.cs (Qj.Bays x0)))),(80,I (Qc (List.map Zt.cs (Qj.Bays x0)))),(81,I x1)]:List (Nat × AV))
theorem TJ (n:Nat) (a0s:Qj):∀ r,Vj n a0s=some r→Q0 Tryz.prog 55 [ag (Qj.cs a0s)] (.ret (B r)):=by
 refine Qp Tryz.func55 rfl Tryz.ntmps55 rfl ?_
 unfold Vj
 refine Qg Qe ⟨[qq 1],ZC a0s⟩ Qa (ZY (fun _=>⟨[qq 1],ZC a0s⟩:Unit→St) (fun _=>KJ n a0s) ?_ ?_)
 rotate_left
 ·refine Qg Qe ⟨jq a0s 0,ZC a0s⟩ Qa (sB (Qw (fun l19=>⟨jq a0s l19,ZC a0s⟩:Int→St) (Wq Qa) ?_))
  rintro recl19 l19
  show QU (Yc n a0s recl19 l19) _ _ _ _ _ _
  unfold Yc
  refine Qg Qe ⟨[qq 1,(13, .p (.sl 11 (XM a0s.Conductors))),(14,I (Qc (XM a0s.Conductors))),(15,I l19),(16,B (QL l19 (Qc (XM a0s.Conductors))))],ZC a0s⟩ Qa (sS (sC (QL l19 (Qc (XM a0s.Conductors))) Qa (sK (Qk ⟨jq a0s l19,ZC a0s⟩ Qa (sS (sB (sS (sG (xR 1 Qa (xG Qa Qa (QC (e:=54) (S:=11) (enc:=ZI.cs) (l:=a0s.Conductors) (k:=.i64) (n:=l19) (sv:=.p (.sl 11 (XM a0s.Conductors))) rfl Qa Qa Qa Qa Qa) (fun x20=>xR 4 Qa (xE (Qk ⟨[qq 1,(3,I l19),qq 4,(13, .p (.sl 11 (XM a0s.Conductors))),(14,I (Qc (XM a0s.Conductors))),(15,I l19)],[(1,QM a0s),(4,vY x20)]⟩ Qa (sS (sG (xR 2 Qa ?_)))))))))))))) (Qm (Zu (ZP (QG (Ky (k:=fun _=>KJ n a0s) () Qa)))))))
  refine xC [] Qa (FN n x20 l19) Qa Qa QW (fun r21=>?_)
  exact xR 1 Qa (xE (Qk ⟨[qq 1,(13, .p (.sl 11 (XM a0s.Conductors))),(14,I (Qc (XM a0s.Conductors))),(15,I l19),(23,B (!r21))],ZC a0s⟩ Qa (sC (!r21) Qa (Qg Qe ⟨[(2,B false)],[]⟩ Qa (sT (Q9 (QY (KC (Q9 (KC (qR (.id) Qa Qa Qa)))))))) (sK (QT (Qk ⟨jq a0s l19,ZC a0s⟩ Qa (sL Qe Qa (Ky (wi (l19+1)) Qa))))))))
 rintro _
 show QU (KJ n a0s) _ _ _ _ _ _
 unfold KJ
 refine sS (sG (Ze Qa Qa (SN (d:=25) (rsv:=none) rfl rfl Qa) (xR 1 Qa (xE (Qk ⟨[qq 1,(5, .mv 25)],Oe a0s []⟩ Qa (ZY (fun _=>⟨[qq 1],ZC a0s⟩:Unit→St) (fun _=>KI n a0s) ?_ ?_))))))
 rotate_left
 ·refine Qg Qe ⟨jr a0s 0,Oe a0s []⟩ Qa (sB (Qw (fun (l10_1,l10_2)=>⟨jr a0s l10_1,Oe a0s l10_2⟩:(Int × (List (Int × Bool)))→St) (Wq Qa) ?_))
  rintro recl10 ⟨l10_1,l10_2⟩
  show QU (Kr n a0s recl10 l10_1 l10_2) _ _ _ _ _ _
  unfold Kr
  refine Qg Qe ⟨[qq 1,(5, .mv 25),(27, .p (.sl 4 (Fw a0s.Contracts))),(28,I (Qc (Fw a0s.Contracts))),(29,I l10_1),(30,B (QL l10_1 (Qc (Fw a0s.Contracts))))],Oe a0s l10_2⟩ Qa (sS (sC (QL l10_1 (Qc (Fw a0s.Contracts))) Qa (sK (Qk ⟨jr a0s l10_1,Oe a0s l10_2⟩ Qa (sS (sB (sS (sG (xG Qa Qa (QC (e:=120) (S:=4) (enc:=Kq.cs) (l:=a0s.Contracts) (k:=.i64) (n:=l10_1) (sv:=.p (.sl 4 (Fw a0s.Contracts))) rfl Qa Qa Qa Qa Qa) (fun x11=>xR 3 Qa (xE (Qk ⟨tL a0s l10_1,nL a0s x11 l10_2⟩ Qa (sS (KM (fun j12=>⟨[qq 1,(5, .mv 25),qq 7,(27, .p (.sl 4 (Fw a0s.Contracts))),(28,I (Qc (Fw a0s.Contracts))),(29,I l10_1),(61,B j12)],nL a0s x11 l10_2⟩:Bool→St) ?_ ?_)))))))))))) (Qm (Zu (ZP (QG (Ky (k:=fun _=>KI n a0s) () Qa)))))))
  rotate_left
  ·rintro j12
   refine sC j12 Qa (Qg Qe ⟨[(2,B false)],[]⟩ Qa (sT (QY (Q9 (QY (KC (Q9 (KC (qR (.id) Qa Qa Qa))))))))) (sK (Qk ⟨tL a0s l10_1,nL a0s x11 l10_2⟩ Qa (sG (xR 3 Qa ?_))))
   refine Ze Qa Qa (Yk (kt:=3) (e:=4) (ke:=J3) (ve:=J4) (eq:=Zk) (b:=25) (m:=l10_2) (k:=x11.Card) (v:=true) rfl Qa Qa Qa Qa Qa Qa QW (fun _ _=>(BH _ _ _ _ _).symm.trans Qa)) ?_
   exact xE (QT (Qk ⟨jr a0s l10_1,Oe a0s (Qq Zk x11.Card true l10_2)⟩ Qa (sL Qe Qa (Ky (wi (l10_1+1),Qq Zk x11.Card true l10_2) Qa))))
  refine sG (xR 7 Qa ?_)
  refine xC [] Qa (QI n (⟨0,wi ((Qc (K3 a0s.Owners)) - 1)⟩:Kc) x11.Owner) Qa Qa QW (fun r13=>?_)
  refine xR 2 Qa (xS (!r13) (fun h14=>xN (QB Qa h14) Qa (xR 18 Qa (xE (QV true Qa)))) (fun h14=>xO (QA Qa h14) Qa (xR 2 Qa ?_)))
  refine xC [] Qa (QI n (⟨1,9⟩:Kc) x11.Rank) Qa Qa QW (fun r15=>?_)
  refine xR 3 Qa (xS (!r15) (fun h16=>xN (QB Qa h16) Qa (xR 11 Qa (xE (QV true Qa)))) (fun h16=>xO (QA Qa h16) Qa (xR 2 Qa ?_)))
  refine xC [] Qa (QI n (⟨1,1000000⟩:Kc) x11.Card) Qa Qa QW (fun r17=>?_)
  refine xR 3 Qa (xS (!r17) (fun h18=>xN (QB Qa h18) Qa (xR 4 Qa (xE (QV true Qa)))) (fun h18=>xO (QA Qa h18) Qa (xR 2 Qa ?_)))
  refine Ze Qa Qa (Zx (kt:=3) (e:=4) (ke:=J3) (ve:=J4) (eq:=Zk) (b:=25) (m:=l10_2) (k:=x11.Card) (z0:=false) rfl Qa Qa Qa Qa Qa QW (fun _ _=>(BH _ _ _ _ _).symm.trans Qa) Qa) ?_
  exact xR 1 Qa (xE (QV (QJ Zk x11.Card false l10_2) Qa))
 rintro _
 show QU (KI n a0s) _ _ _ _ _ _
 unfold KI
 refine ZY (fun _=>⟨[qq 1],ZC a0s⟩:Unit→St) (fun _=>KH n a0s) ?_ ?_
 rotate_left
 ·refine Qg Qe ⟨jv a0s 0,ZC a0s⟩ Qa (sB (Qw (fun l7=>⟨jv a0s l7,ZC a0s⟩:Int→St) (Wq Qa) ?_))
  rintro recl7 l7
  show QU (Yo n a0s recl7 l7) _ _ _ _ _ _
  unfold Yo
  refine Qg Qe ⟨[qq 1,(67, .p (.sl 8 (Z5 a0s.Chargers))),(68,I (Qc (Z5 a0s.Chargers))),(69,I l7),(70,B (QL l7 (Qc (Z5 a0s.Chargers))))],ZC a0s⟩ Qa (sS (sC (QL l7 (Qc (Z5 a0s.Chargers))) Qa (sK (Qk ⟨jv a0s l7,ZC a0s⟩ Qa (sS (sB (sS (sG (xG Qa Qa (QC (e:=32) (S:=8) (enc:=ZL.cs) (l:=a0s.Chargers) (k:=.i64) (n:=l7) (sv:=.p (.sl 8 (Z5 a0s.Chargers))) rfl Qa Qa Qa Qa Qa) (fun x8=>xR 3 Qa (xE (Qk ⟨[qq 1,qq 9,(67, .p (.sl 8 (Z5 a0s.Chargers))),(68,I (Qc (Z5 a0s.Chargers))),(69,I l7)],[(1,QM a0s),(9,Ym x8)]⟩ Qa (sS (sG (xR 2 Qa ?_))))))))))))) (Qm (Zu (ZP (QG (Ky (k:=fun _=>KH n a0s) () Qa)))))))
  refine xC [] Qa (Rj n a0s x8) Qa Qa QW (fun r9=>?_)
  exact xR 1 Qa (xE (Qk ⟨[qq 1,(67, .p (.sl 8 (Z5 a0s.Chargers))),(68,I (Qc (Z5 a0s.Chargers))),(69,I l7),(76,B (!r9))],ZC a0s⟩ Qa (sC (!r9) Qa (Qg Qe ⟨[(2,B false)],[]⟩ Qa (sT (Q9 (QY (KC (Q9 (KC (qR (.id) Qa Qa Qa)))))))) (sK (QT (Qk ⟨jv a0s l7,ZC a0s⟩ Qa (sL Qe Qa (Ky (wi (l7+1)) Qa))))))))
 rintro _
 show QU (KH n a0s) _ _ _ _ _ _
 unfold KH
 refine sS (Qg Qe ⟨jw a0s 0,ZC a0s⟩ Qa (sB (Qw (fun l4=>⟨jw a0s l4,ZC a0s⟩:Int→St) (Wq Qa) ?_)))
 rintro recl4 l4
 show QU (Yn n a0s recl4 l4) _ _ _ _ _ _
 unfold Yn
 refine Qg Qe ⟨[qq 1,(79, .p (.sl 2 (Wx a0s.Bays))),(80,I (Qc (Wx a0s.Bays))),(81,I l4),(82,B (QL l4 (Qc (Wx a0s.Bays))))],ZC a0s⟩ Qa (sS (sC (QL l4 (Qc (Wx a0s.Bays))) Qa (sK (Qk ⟨jw a0s l4,ZC a0s⟩ Qa (sS (sB (sS (sG (xG Qa Qa (QC (e:=123) (S:=2) (enc:=Zt.cs) (l:=a0s.Bays) (k:=.i64) (n:=l4) (sv:=.p (.sl 2 (Wx a0s.Bays))) rfl Qa Qa Qa Qa Qa) (fun x5=>xR 3 Qa (xE (Qk ⟨[qq 1,qq 11,(79, .p (.sl 2 (Wx a0s.Bays))),(80,I (Qc (Wx a0s.Bays))),(81,I l4)],[(1,QM a0s),(11,yc x5)]⟩ Qa (sS (sG (xR 7 Qa ?_))))))))))))) (Qm (Zu (ZP (QG (Qk ⟨[],[]⟩ Qa (Qg Qe ⟨[(2,B true)],[]⟩ Qa (sT (qR (.id) Qa Qa Qa))))))))))
 refine xC [] Qa (QI n (⟨0,wi ((Qc (Z5 a0s.Chargers)) - 1)⟩:Kc) x5.Charger) Qa Qa QW (fun r6=>?_)
 exact xR 1 Qa (xE (Qk ⟨[qq 1,(79, .p (.sl 2 (Wx a0s.Bays))),(80,I (Qc (Wx a0s.Bays))),(81,I l4),(93,B (!r6))],ZC a0s⟩ Qa (sC (!r6) Qa (Qg Qe ⟨[(2,B false)],[]⟩ Qa (sT (Q9 (QY (KC (Q9 (QY (qR (.id) Qa Qa Qa)))))))) (sK (QT (Qk ⟨jw a0s l4,ZC a0s⟩ Qa (sL Qe Qa (Ky (wi (l4+1)) Qa))))))))
def Y6 (n:Nat) (a0s:Qj):Option Bool :=
 (Vj n a0s).bind fun r8 =>
 some r8
def YL (n:Nat) (a0s:Qj) (r9:List (List UInt8)) (recl10:(Int × (List ((List UInt8) × Bool)))→Option Bool) (l10_1:Int) (l10_2:List ((List UInt8) × Bool)):Option Bool :=
 cond (QL l10_1 (Qc (List.map Zo r9)))
  ((Zc r9 l10_1).bind fun x11 =>
  ((Wi n x11).bind fun r13 =>
  cond (!r13)
   (some true)
   (some (QJ Qd x11 false l10_2))).bind fun j12 =>
  cond j12
   (some false)
   (recl10 (wi (l10_1+1),Qq Qd x11 true l10_2)))
  (Y6 n a0s)
def V7 (n:Nat) (a0s:Qj):Option Bool :=
 (cond (QL (Qc (List.map ZI.cs a0s.Conductors)) 1)
  (some true)
  (cond (QL 16 (Qc (List.map ZI.cs a0s.Conductors)))
   (some true)
   (cond (QL 8 (Qc (List.map Zf.cs a0s.Owners)))
    (some true)
    (cond (QL 32 (Qc (List.map Kq.cs a0s.Contracts)))
     (some true)
     (cond (QL 16 (Qc (List.map ZL.cs a0s.Chargers)))
      (some true)
      (some (QL 24 (Qc (List.map Zt.cs a0s.Bays))))))))).bind fun j1 =>
 cond j1
  (some false)
  ((WY n a0s).bind fun r9 =>
  Q4 (fun recl10 (l10_1,l10_2)=>YL n a0s r9 recl10 l10_1 l10_2) n (0,[]))
def MR:=fun x0 x1=>([(1, .box 28 (Kw (Qj.cs x0))),(40, .mp (JH Q6 Q7 x1))]:List (Nat × Blk))
def jy:=fun x0 x1=>([(1, .ptr 1 0),(3, .mv 40),(42, .p (.sl 1 (List.map Zo x0))),(43,I (Qc (List.map Zo x0))),(44,I x1)]:List (Nat × AV))
def tN:=fun x0 x1 x2=>([(1, .ptr 1 0),(3, .mv 40),(5,S x0),(42, .p (.sl 1 (List.map Zo x1))),(43,I (Qc (List.map Zo x1))),(44,I x2)]:List (Nat × AV))
theorem UU (n:Nat) (a0s:Qj):∀ r,V7 n a0s=some r→Q0 Tryz.prog 21 [ag (Qj.cs a0s)] (.ret (B r)):=by
 refine Qp Tryz.func21 rfl Tryz.ntmps21 rfl ?_
 unfold V7
 refine Qg Qe ⟨[qq 1],ZC a0s⟩ Qa (sS (KM (fun j1=>⟨[qq 1,(39,B j1)],ZC a0s⟩:Bool→St) (sG (xR 5 Qa (xS (QL (Qc (XM a0s.Conductors)) 1) (fun h2=>xN (QB Qa h2) Qa (xR 28 Qa (xE (QV true Qa)))) (fun h2=>xO (QA Qa h2) Qa (xR 5 Qa (xS (QL 16 (Qc (XM a0s.Conductors))) (fun h3=>xN (QB Qa h3) Qa (xR 22 Qa (xE (QV true Qa)))) (fun h3=>xO (QA Qa h3) Qa (xR 5 Qa (xS (QL 8 (Qc (K3 a0s.Owners))) (fun h4=>xN (QB Qa h4) Qa (xR 16 Qa (xE (QV true Qa)))) (fun h4=>xO (QA Qa h4) Qa (xR 5 Qa (xS (QL 32 (Qc (Fw a0s.Contracts))) (fun h5=>xN (QB Qa h5) Qa (xR 10 Qa (xE (QV true Qa)))) (fun h5=>xO (QA Qa h5) Qa (xR 5 Qa (xS (QL 16 (Qc (Z5 a0s.Chargers))) (fun h6=>xN (QB Qa h6) Qa (xR 4 Qa (xE (QV true Qa)))) (fun h6=>xO (QA Qa h6) Qa (xR 4 Qa (xE (QV (QL 24 (Qc (Wx a0s.Bays))) Qa))))))))))))))))))) ?_))
 rintro j1
 refine sC j1 Qa (Qg Qe ⟨[(2,B false)],[]⟩ Qa (sT (QY (qR (.id) Qa Qa Qa)))) (sK (Qk ⟨[qq 1],ZC a0s⟩ Qa (sS (sG (Ze Qa Qa (SN (d:=40) (rsv:=none) rfl rfl Qa) (xR 1 Qa (xE (Qk ⟨[qq 1,(3, .mv 40)],MR a0s []⟩ Qa (ZY (fun _=>⟨[qq 1],ZC a0s⟩:Unit→St) (fun _=>Y6 n a0s) ?_ ?_)))))))))
 ·rintro _
  show QU (Y6 n a0s) _ _ _ _ _ _
  unfold Y6
  refine sS (sG (xR 1 Qa ?_))
  refine xC [] Qa (TJ n a0s) Qa Qa QW (fun r8=>?_)
  exact xR 1 Qa (xE (Qk ⟨[(2,B r8)],[]⟩ Qa (sT (qR (.id) Qa Qa Qa))))
 refine sS (sG (xR 1 Qa ?_))
 refine xC [] Qa (MQ n a0s) Qa Qa QW (fun r9=>?_)
 refine xR 2 Qa (xE (Qk ⟨jy r9 0,MR a0s []⟩ Qa (sB (Qw (fun (l10_1,l10_2)=>⟨jy r9 l10_1,MR a0s l10_2⟩:(Int × (List ((List UInt8) × Bool)))→St) (Wq Qa) ?_))))
 rintro recl10 ⟨l10_1,l10_2⟩
 show QU (YL n a0s r9 recl10 l10_1 l10_2) _ _ _ _ _ _
 unfold YL
 refine Qg Qe ⟨[qq 1,(3, .mv 40),(42, .p (.sl 1 (List.map Zo r9))),(43,I (Qc (List.map Zo r9))),(44,I l10_1),(45,B (QL l10_1 (Qc (List.map Zo r9))))],MR a0s l10_2⟩ Qa (sS (sC (QL l10_1 (Qc (List.map Zo r9))) Qa (sK (Qk ⟨jy r9 l10_1,MR a0s l10_2⟩ Qa (sS (sB (sS (sG (xG Qa Qa (QC (e:=9) (S:=1) (enc:=Zo) (l:=r9) (k:=.i64) (n:=l10_1) (sv:=.p (.sl 1 (List.map Zo r9))) rfl Qa Qa Qa Qa Qa) (fun x11=>xR 2 Qa (xE (Qk ⟨tN x11 r9 l10_1,MR a0s l10_2⟩ Qa (sS (KM (fun j12=>⟨[qq 1,(3, .mv 40),(5,S x11),(42, .p (.sl 1 (List.map Zo r9))),(43,I (Qc (List.map Zo r9))),(44,I l10_1),(55,B j12)],MR a0s l10_2⟩:Bool→St) ?_ ?_)))))))))))) (Qm (Zu (ZP (QG (Ky (k:=fun _=>Y6 n a0s) () Qa)))))))
 ·refine sG (xR 1 Qa ?_)
  refine xC [] Qa (CS n x11) Qa Qa QW (fun r13=>?_)
  refine xR 2 Qa (xS (!r13) (fun h14=>xN (QB Qa h14) Qa (xR 3 Qa (xE (QV true Qa)))) (fun h14=>xO (QA Qa h14) Qa (xR 1 Qa ?_)))
  refine Ze Qa Qa (Zx (kt:=9) (e:=4) (ke:=Q6) (ve:=Q7) (eq:=Qd) (b:=40) (m:=l10_2) (k:=x11) (z0:=false) rfl Qa Qa Qa Qa Qa QW (fun _ _=>Za rfl _ _) Qa) ?_
  exact xR 1 Qa (xE (QV (QJ Qd x11 false l10_2) Qa))
 rintro j12
 refine sC j12 Qa (Qg Qe ⟨[(2,B false)],[]⟩ Qa (sT (QY (Q9 (QY (KC (Q9 (KC (qR (.id) Qa Qa Qa))))))))) (sK (Qk ⟨tN x11 r9 l10_1,MR a0s l10_2⟩ Qa (sG (xR 2 Qa ?_))))
 refine Ze Qa Qa (Yk (kt:=9) (e:=4) (ke:=Q6) (ve:=Q7) (eq:=Qd) (b:=40) (m:=l10_2) (k:=x11) (v:=true) rfl Qa Qa Qa Qa Qa Qa QW (fun _ _=>Za rfl _ _)) ?_
 exact xE (QT (Qk ⟨jy r9 l10_1,MR a0s (Qq Qd x11 true l10_2)⟩ Qa (sL Qe Qa (Ky (wi (l10_1+1),Qq Qd x11 true l10_2) Qa))))
def Wj (a0s:Qj) (a1amps:List Int) (l5_1:Int) (recl5:(Int × (List (Int × Int × Int)))→Option ((List (Int × Int × Int)) × Int)) (x6:ZL) (recl8:(Int × (List (Int × Int × Int)))→Option ((List (Int × Int × Int)) × Int)) (l8_1:Int) (l8_2:List (Int × Int × Int)):Option ((List (Int × Int × Int)) × Int) :=
 cond (leI 0 l8_1)
  (((Zc l8_2 l8_1).bind fun x10 =>
  (Zc a1amps l5_1).bind fun x11 =>
  cond (!Qs (Js .i64 x6.Phases (Wu .i64 1 0)) 0)
   (cond (!Qs (Js .i64 x6.Phases (Wu .i64 1 1)) 0)
    (cond (!Qs (Js .i64 x6.Phases (Wu .i64 1 2)) 0)
     (some (List.set (List.set (List.set l8_2 (Int.toNat l8_1) (wi (x10.1+x11),x10.2.1,x10.2.2)) (Int.toNat l8_1) (wi (x10.1+x11),wi (x10.2.1+x11),x10.2.2)) (Int.toNat l8_1) (wi (x10.1+x11),wi (x10.2.1+x11),wi (x10.2.2+x11))))
     (some (List.set (List.set l8_2 (Int.toNat l8_1) (wi (x10.1+x11),x10.2.1,x10.2.2)) (Int.toNat l8_1) (wi (x10.1+x11),wi (x10.2.1+x11),x10.2.2))))
    (cond (!Qs (Js .i64 x6.Phases (Wu .i64 1 2)) 0)
     (some (List.set (List.set l8_2 (Int.toNat l8_1) (wi (x10.1+x11),x10.2.1,x10.2.2)) (Int.toNat l8_1) (wi (x10.1+x11),x10.2.1,wi (x10.2.2+x11))))
     (some (List.set l8_2 (Int.toNat l8_1) (wi (x10.1+x11),x10.2.1,x10.2.2)))))
   (cond (!Qs (Js .i64 x6.Phases (Wu .i64 1 1)) 0)
    (cond (!Qs (Js .i64 x6.Phases (Wu .i64 1 2)) 0)
     (some (List.set (List.set l8_2 (Int.toNat l8_1) (x10.1,wi (x10.2.1+x11),x10.2.2)) (Int.toNat l8_1) (x10.1,wi (x10.2.1+x11),wi (x10.2.2+x11))))
     (some (List.set l8_2 (Int.toNat l8_1) (x10.1,wi (x10.2.1+x11),x10.2.2))))
    (cond (!Qs (Js .i64 x6.Phases (Wu .i64 1 2)) 0)
     (some (List.set l8_2 (Int.toNat l8_1) (x10.1,x10.2.1,wi (x10.2.2+x11))))
     (some l8_2)))).bind fun j9 =>
  (Zc a0s.Conductors l8_1).bind fun x12 =>
  recl8 (x12.Up,j9))
  (recl5 (wi (l5_1+1),l8_2))
def Wl (n:Nat) (a0s:Qj) (a1amps:List Int) (recl5:(Int × (List (Int × Int × Int)))→Option ((List (Int × Int × Int)) × Int)) (l5_1:Int) (l5_2:List (Int × Int × Int)):Option ((List (Int × Int × Int)) × Int) :=
 cond (QL l5_1 (Qc (List.map ZL.cs a0s.Chargers)))
  ((Zc a0s.Chargers l5_1).bind fun x6 =>
  Q4 (fun recl8 (l8_1,l8_2)=>Wj a0s a1amps l5_1 recl5 x6 recl8 l8_1 l8_2) n (x6.At,l5_2))
  (some (l5_2,0))
def YA (n:Nat) (a0s:Qj) (a1amps:List Int):Option ((List (Int × Int × Int)) × Int) :=
 cond (Sz (Qc (List.map ZI.cs a0s.Conductors)) (Qc (List.map ZI.cs a0s.Conductors)) 24) (
  Q4 (fun recl5 (l5_1,l5_2)=>Wl n a0s a1amps recl5 l5_1 l5_2) n (0,List.replicate (Int.toNat (Qc (List.map ZI.cs a0s.Conductors))) (0,0,0))) none
def VM (n:Nat) (a0s:Qj) (a1amps:List Int) (recl13:Int→Option ((List (Int × Int × Int)) × Int)) (l13:Int):Option ((List (Int × Int × Int)) × Int) :=
 cond (QL l13 (Qc (List.map ci a1amps)))
  ((Zc a1amps l13).bind fun x14 =>
  (cond (QL x14 0)
   (some true)
   (some (QL 80 x14))).bind fun j15 =>
  cond j15
   (some ([],1))
   (recl13 (wi (l13+1))))
  (YA n a0s a1amps)
def V8 (n:Nat) (a0s:Qj) (a1amps:List Int):Option ((List (Int × Int × Int)) × Int) :=
 ((V7 n a0s).bind fun r2 =>
 cond (!r2)
  (some true)
  (some (!Qs (Qc (List.map ci a1amps)) (Qc (List.map ZL.cs a0s.Chargers))))).bind fun j1 =>
 cond j1
  (some ([],1))
  (Q4 (fun recl13 l13=>VM n a0s a1amps recl13 l13) n 0)
def Vk:=fun x0=>(.box 29 [.p (.sl 1 (List.map ci x0))]:Blk)
def MS:=fun x0 x1=>([(2, .box 28 (Kw (Qj.cs x0))),(3,(Vk x1))]:List (Nat × Blk))
def iO:=fun x0 x1=>(⟨[(2, .ptr 2 0),(3, .ptr 3 0)],MS x0 x1⟩:St)
def iP:St:=⟨[(4, .p (.val (.slice none 0 0))),(5,I 1)],[]⟩
def jA:=fun x0 x1=>([(2, .ptr 2 0),(3, .ptr 3 0),(23, .p (.sl 1 (List.map ci x0))),(24,I (Qc (List.map ci x0))),(25,I x1)]:List (Nat × AV))
theorem UV (n:Nat) (a0s:Qj) (a1amps:List Int):∀ r,V8 n a0s a1amps=some r→Q0 Tryz.prog 7 [ag (Qj.cs a0s), .p (.sl 1 (List.map ci a1amps))] (.ret (.tup [.p (.sl 3 (List.map Qb r.1)),I r.2])):=by
 refine Qp Tryz.func7 rfl Tryz.ntmps7 rfl ?_
 unfold V8
 refine Qg Qe (iO a0s a1amps) Qa (sS (KM (fun j1=>⟨[qq 2,qq 3,(22,B j1)],MS a0s a1amps⟩:Bool→St) ?_ ?_))
 ·refine sG (xR 1 Qa ?_)
  refine xC [] Qa (UU n a0s) Qa Qa QW (fun r2=>?_)
  exact xR 2 Qa (xS (!r2) (fun h3=>xN (QB Qa h3) Qa (xR 6 Qa (xE (QV true Qa)))) (fun h3=>xO (QA Qa h3) Qa (xR 6 Qa (xE (QV (!Qs (Qc (List.map ci a1amps)) (Qc (Z5 a0s.Chargers))) Qa)))))
 rintro j1
 refine sC j1 Qa (Qg Qe iP Qa (sT (QY (qR (.agg [.sl 3, .id]) Qa Qa Qa)))) (sK (Qk (iO a0s a1amps) Qa (ZY (fun _=>(iO a0s a1amps):Unit→St) (fun _=>YA n a0s a1amps) ?_ ?_)))
 rotate_left
 ·refine Qg Qe ⟨jA a1amps 0,MS a0s a1amps⟩ Qa (sB (Qw (fun l13=>⟨jA a1amps l13,MS a0s a1amps⟩:Int→St) (Wq Qa) ?_))
  rintro recl13 l13
  show QU (VM n a0s a1amps recl13 l13) _ _ _ _ _ _
  unfold VM
  refine Qg Qe ⟨[qq 2,qq 3,(23, .p (.sl 1 (List.map ci a1amps))),(24,I (Qc (List.map ci a1amps))),(25,I l13),(26,B (QL l13 (Qc (List.map ci a1amps))))],MS a0s a1amps⟩ Qa (sS (sC (QL l13 (Qc (List.map ci a1amps))) Qa (sK (Qk ⟨jA a1amps l13,MS a0s a1amps⟩ Qa (sS (sB (sS (sG (xG Qa Qa (QC (e:=3) (S:=1) (enc:=ci) (l:=a1amps) (k:=.i64) (n:=l13) (sv:=.p (.sl 1 (List.map ci a1amps))) rfl Qa Qa Qa Qa Qa) (fun x14=>xR 2 Qa (xE (Qk ⟨[qq 2,qq 3,(7,I x14),(23, .p (.sl 1 (List.map ci a1amps))),(24,I (Qc (List.map ci a1amps))),(25,I l13)],MS a0s a1amps⟩ Qa (KM (fun j15=>⟨[qq 2,qq 3,(23, .p (.sl 1 (List.map ci a1amps))),(24,I (Qc (List.map ci a1amps))),(25,I l13),(34,B j15)],MS a0s a1amps⟩:Bool→St) (sG (xR 3 Qa (xS (QL x14 0) (fun h16=>xN (QB Qa h16) Qa (xR 2 Qa (xE (QV true Qa)))) (fun h16=>xO (QA Qa h16) Qa (xR 2 Qa (xE (QV (QL 80 x14) Qa))))))) ?_))))))))))) (Qm (Zu (ZP (QG (Ky (k:=fun _=>YA n a0s a1amps) () Qa)))))))
  rintro j15
  exact sC j15 Qa (Qg Qe iP Qa (sT (Q9 (QY (KC (Q9 (KC (qR (.agg [.sl 3, .id]) Qa Qa Qa)))))))) (sK (QT (Qk ⟨jA a1amps l13,MS a0s a1amps⟩ Qa (sL Qe Qa (Ky (wi (l13+1)) Qa)))))
 rintro _
 show QU (YA n a0s a1amps) _ _ _ _ _ _
 unfold YA
 refine sS (sG (xR 3 Qa (xF Qa Qa (SA (e:=38) (S:=3) (by_:=24) (d:=39) (enc:=Qb) (z0:=(0,0,0)) (k:=.i64) (k':=.i64) (l:=Qc (XM a0s.Conductors)) (c:=Qc (XM a0s.Conductors)) rfl rfl Qa Qa rfl Qa Qa Qa Qa) (xR 2 Qa (xE (Qk ⟨[qq 2,qq 3,qq 8],[(2,QM a0s),(3,(Vk a1amps)),(8, .box 34 [.vsl 3 39 (List.map Qb (List.replicate (Int.toNat (Qc (XM a0s.Conductors))) (0,0,0))).length]),(39, .vec 38 3 (List.map Qb (List.replicate (Int.toNat (Qc (XM a0s.Conductors))) (0,0,0))))]⟩ Qa (sS (Qg Qe ⟨[qq 2,qq 3,qq 8,(41, .p (.sl 8 (Z5 a0s.Chargers))),(42,I (Qc (Z5 a0s.Chargers))),(43,I 0)],[(2,QM a0s),(3,(Vk a1amps)),(8, .box 34 [.vsl 3 39 (List.map Qb (List.replicate (Int.toNat (Qc (XM a0s.Conductors))) (0,0,0))).length]),(39, .vec 38 3 (List.map Qb (List.replicate (Int.toNat (Qc (XM a0s.Conductors))) (0,0,0))))]⟩ Qa (sB (Qw (fun (l5_1,l5_2)=>⟨[qq 2,qq 3,qq 8,(41, .p (.sl 8 (Z5 a0s.Chargers))),(42,I (Qc (Z5 a0s.Chargers))),(43,I l5_1)],[(2,QM a0s),(3,(Vk a1amps)),(8, .box 34 [.vsl 3 39 (List.map Qb l5_2).length]),(39, .vec 38 3 (List.map Qb l5_2))]⟩:(Int × (List (Int × Int × Int)))→St) (Wq Qa) ?_))))))))))
 rintro recl5 ⟨l5_1,l5_2⟩
 show QU (Wl n a0s a1amps recl5 l5_1 l5_2) _ _ _ _ _ _
 unfold Wl
 refine Qg Qe ⟨[qq 2,qq 3,qq 8,(41, .p (.sl 8 (Z5 a0s.Chargers))),(42,I (Qc (Z5 a0s.Chargers))),(43,I l5_1),(44,B (QL l5_1 (Qc (Z5 a0s.Chargers))))],[(2,QM a0s),(3,(Vk a1amps)),(8, .box 34 [.vsl 3 39 (List.map Qb l5_2).length]),(39, .vec 38 3 (List.map Qb l5_2))]⟩ Qa (sS (sC (QL l5_1 (Qc (Z5 a0s.Chargers))) Qa (sK (Qk ⟨[qq 2,qq 3,qq 8,(41, .p (.sl 8 (Z5 a0s.Chargers))),(42,I (Qc (Z5 a0s.Chargers))),(43,I l5_1)],[(2,QM a0s),(3,(Vk a1amps)),(8, .box 34 [.vsl 3 39 (List.map Qb l5_2).length]),(39, .vec 38 3 (List.map Qb l5_2))]⟩ Qa (sS (sB (sS (sG (xR 1 Qa (xG Qa Qa (QC (e:=32) (S:=8) (enc:=ZL.cs) (l:=a0s.Chargers) (k:=.i64) (n:=l5_1) (sv:=.p (.sl 8 (Z5 a0s.Chargers))) rfl Qa Qa Qa Qa Qa) (fun x6=>xR 5 Qa (xE (Qk ⟨[qq 2,qq 3,qq 8,qq 9,qq 10,(41, .p (.sl 8 (Z5 a0s.Chargers))),(42,I (Qc (Z5 a0s.Chargers))),(43,I l5_1)],[(2,QM a0s),(3,(Vk a1amps)),(8, .box 34 [.vsl 3 39 (List.map Qb l5_2).length]),(9, .box 3 [I l5_1]),(10,Ym x6),(39, .vec 38 3 (List.map Qb l5_2))]⟩ Qa (sS (sG (xR 3 Qa (Yr [] [.agg [.p (.sl 11 (XM a0s.Conductors)), .p (.sl 1 (K3 a0s.Owners)), .p (.sl 4 (Fw a0s.Contracts)), .p (.sl 8 (Z5 a0s.Chargers)), .p (.sl 2 (Wx a0s.Bays))],I x6.At] [(2,402),(3,403)] [] [] Qa Tryz.func22 rfl Tryz.ntmps22 rfl Qa Qa Qa (Qg Qe ⟨[qq 2,qq 3],[(2,QM a0s),(3, .box 3 [I x6.At])]⟩ Qa ?_)))))))))))))))) (Qm (Zu (ZP (QG (Qk ⟨[qq 8],[(8, .box 34 [.vsl 3 39 (List.map Qb l5_2).length]),(39, .vec 38 3 (List.map Qb l5_2))]⟩ Qa (Zq (FY 39 38 3 (List.map Qb l5_2) [(List.map Qb l5_2).length] Qa Qa zq Qa Qa) (Qg Qe ⟨[(4, .p (.sl 3 (List.map Qb l5_2))),(5,I 0)],[]⟩ Qa (sT (qR (.id) Qa Qa Qa)))))))))))
 refine Qg Qe ⟨[(4, .fn (.func 56) [] [.ptr 3 0, .ptr 2 0])],[(2,QM a0s),(3, .box 3 [I x6.At])]⟩ Qa (sT (QN (.id) [2,3] [] (.fn (.func 56) [] [.ptr 3 0, .ptr 2 0]) Qa Qa (Yq (xE (Qk ⟨[qq 2,qq 3,qq 8,qq 9,qq 10,(41, .p (.sl 8 (Z5 a0s.Chargers))),(42,I (Qc (Z5 a0s.Chargers))),(43,I l5_1),(51, .fn (.func 56) [] [.ptr 403 0, .ptr 402 0])],[(2,QM a0s),(3,(Vk a1amps)),(8, .box 34 [.vsl 3 39 (List.map Qb l5_2).length]),(9, .box 3 [I l5_1]),(10,Ym x6),(39, .vec 38 3 (List.map Qb l5_2)),(402,QM a0s),(403, .box 3 [I x6.At])]⟩ Qa (sB (M3 ⟨[qq 2,qq 3,qq 8,qq 9,qq 10,(41, .p (.sl 8 (Z5 a0s.Chargers))),(42,I (Qc (Z5 a0s.Chargers))),(43,I l5_1),(51, .fn (.func 56) [] [.ptr 403 0, .ptr 402 0])],[(2,QM a0s),(3,(Vk a1amps)),(8, .box 34 [.vsl 3 39 (List.map Qb l5_2).length]),(9, .box 3 [I l5_1]),(10,Ym x6),(39, .vec 38 3 (List.map Qb l5_2)),(402,QM a0s),(403, .box 3 [I x6.At])]⟩ Qa (NB 56 3000 [] [.ptr 403 0, .ptr 402 0] Qa Qa (fun nf7 _ hnf7=>?_)))))))))
 refine Zn (hc:=[(1002,QM a0s),(1003,(Vk a1amps)),(1008, .box 34 [.vsl 3 1039 (List.map Qb l5_2).length]),(1009, .box 3 [I l5_1]),(1010,Ym x6),(1039, .vec 38 3 (List.map Qb l5_2)),(1402,QM a0s),(1403, .box 3 [I x6.At]),(4000, .lp [(2,Jo),(3,NG),(8, .ptr 1008 0),(9, .ptr 1009 0),(10, .ptr 1010 0),(41, .p (.sl 8 (Z5 a0s.Chargers))),(42,I (Qc (Z5 a0s.Chargers))),(43,I l5_1),(51, .fn (.func 56) [] [.ptr 1403 0, .ptr 1402 0])] nf7 .ready none)]) (args':=[.yv 4000, .ptr 1403 0, .ptr 1402 0]) [(1002,2),(1003,3),(1008,8),(1009,9),(1010,10),(1039,39),(1402,402),(1403,403),(4000,3000)] [] [] Tryz.func56 rfl Tryz.ntmps56 rfl Qa Qa Qa (Qg Qe ⟨[(0, .yv 4000),(2, .ptr 1402 0),(4,I x6.At)],[(1002,QM a0s),(1003,(Vk a1amps)),(1008, .box 34 [.vsl 3 1039 (List.map Qb l5_2).length]),(1009, .box 3 [I l5_1]),(1010,Ym x6),(1039, .vec 38 3 (List.map Qb l5_2)),(1402,QM a0s),(1403, .box 3 [I x6.At]),(4000, .lp [(2,Jo),(3,NG),(8, .ptr 1008 0),(9, .ptr 1009 0),(10, .ptr 1010 0),(41, .p (.sl 8 (Z5 a0s.Chargers))),(42,I (Qc (Z5 a0s.Chargers))),(43,I l5_1),(51, .fn (.func 56) [] [.ptr 1403 0, .ptr 1402 0])] nf7 .ready none)]⟩ Qa (sB (Qw (fun (l8_1,l8_2)=>⟨[(0, .yv 4000),(2, .ptr 1402 0),(4,I l8_1)],[(1002,QM a0s),(1003,(Vk a1amps)),(1008, .box 34 [.vsl 3 1039 (List.map Qb l8_2).length]),(1009, .box 3 [I l5_1]),(1010,Ym x6),(1039, .vec 38 3 (List.map Qb l8_2)),(1402,QM a0s),(1403, .box 3 [I x6.At]),(4000, .lp [(2,Jo),(3,NG),(8, .ptr 1008 0),(9, .ptr 1009 0),(10, .ptr 1010 0),(41, .p (.sl 8 (Z5 a0s.Chargers))),(42,I (Qc (Z5 a0s.Chargers))),(43,I l5_1),(51, .fn (.func 56) [] [.ptr 1403 0, .ptr 1402 0])] nf7 .ready none)]⟩:(Int × (List (Int × Int × Int)))→St) (Wq Qa) ?_)))
 rintro recl8 ⟨l8_1,l8_2⟩
 show QU (Wj a0s a1amps l5_1 recl5 x6 recl8 l8_1 l8_2) _ _ _ _ _ _
 unfold Wj
 refine sS (Qg Qe ⟨[(0, .yv 4000),(2, .ptr 1402 0),(4,I l8_1),(7,B (leI 0 l8_1))],[(1002,QM a0s),(1003,(Vk a1amps)),(1008, .box 34 [.vsl 3 1039 (List.map Qb l8_2).length]),(1009, .box 3 [I l5_1]),(1010,Ym x6),(1039, .vec 38 3 (List.map Qb l8_2)),(1402,QM a0s),(1403, .box 3 [I x6.At]),(4000, .lp [(2,Jo),(3,NG),(8, .ptr 1008 0),(9, .ptr 1009 0),(10, .ptr 1010 0),(41, .p (.sl 8 (Z5 a0s.Chargers))),(42,I (Qc (Z5 a0s.Chargers))),(43,I l5_1),(51, .fn (.func 56) [] [.ptr 1403 0, .ptr 1402 0])] nf7 .ready none)]⟩ Qa (sC (leI 0 l8_1) Qa ?_ ?_))
 rotate_left
 ·refine Qm (Zu (ZP (QG (Ww .id [1002,1003,1008,1009,1010,1039,1402,1403,4000] [] (.tup []) Qa Qa ?_))))
  refine eY .ready ⟨[2,3,8,41,42,43],[2,3,8,39],[],[]⟩ ⟨[qq 2,qq 3,qq 8,(41, .p (.sl 8 (Z5 a0s.Chargers))),(42,I (Qc (Z5 a0s.Chargers))),(43,I l5_1)],[(2,QM a0s),(3,(Vk a1amps)),(8, .box 34 [.vsl 3 39 (List.map Qb l8_2).length]),(39, .vec 38 3 (List.map Qb l8_2))]⟩ Qa (by intro h; cases h) Qa ?_
  exact QT (QT (Qk ⟨[qq 2,qq 3,qq 8,(41, .p (.sl 8 (Z5 a0s.Chargers))),(42,I (Qc (Z5 a0s.Chargers))),(43,I l5_1)],[(2,QM a0s),(3,(Vk a1amps)),(8, .box 34 [.vsl 3 39 (List.map Qb l8_2).length]),(39, .vec 38 3 (List.map Qb l8_2))]⟩ Qa (sL Qe Qa (bP  (wi (l5_1+1),l8_2) ⟨[2,3,8,41,42,43],[2,3,8,39],[],[]⟩ ⟨[qq 2,qq 3,qq 8,(41, .p (.sl 8 (Z5 a0s.Chargers))),(42,I (Qc (Z5 a0s.Chargers))),(43,I (wi (l5_1+1)))],[(2,QM a0s),(3,(Vk a1amps)),(8, .box 34 [.vsl 3 39 (List.map Qb l8_2).length]),(39, .vec 38 3 (List.map Qb l8_2))]⟩ Qa zq))))
 refine sK (Qk ⟨[(0, .yv 4000),(2, .ptr 1402 0),(4,I l8_1)],[(1002,QM a0s),(1003,(Vk a1amps)),(1008, .box 34 [.vsl 3 1039 (List.map Qb l8_2).length]),(1009, .box 3 [I l5_1]),(1010,Ym x6),(1039, .vec 38 3 (List.map Qb l8_2)),(1402,QM a0s),(1403, .box 3 [I x6.At]),(4000, .lp [(2,Jo),(3,NG),(8, .ptr 1008 0),(9, .ptr 1009 0),(10, .ptr 1010 0),(41, .p (.sl 8 (Z5 a0s.Chargers))),(42,I (Qc (Z5 a0s.Chargers))),(43,I l5_1),(51, .fn (.func 56) [] [.ptr 1403 0, .ptr 1402 0])] nf7 .ready none)]⟩ Qa (sS (sB (KM (fun j9=>⟨[(0, .yv 4000),(2, .ptr 1402 0),(4,I l8_1),(17,B false)],[(1002,QM a0s),(1003,(Vk a1amps)),(1008, .box 34 [.vsl 3 1039 (List.map Qb j9).length]),(1009, .box 3 [I l5_1]),(1010,Ym x6),(1039, .vec 38 3 (List.map Qb j9)),(1402,QM a0s),(1403, .box 3 [I x6.At]),(4000, .lp [(2,Jo),(3,NG),(8, .ptr 1008 0),(9, .ptr 1009 0),(10, .ptr 1010 0),(41, .p (.sl 8 (Z5 a0s.Chargers))),(42,I (Qc (Z5 a0s.Chargers))),(43,I l5_1),(51, .fn (.func 56) [] [.ptr 1403 0, .ptr 1402 0])] nf7 .ready none)]⟩:(List (Int × Int × Int))→St) ?_ ?_))))
 rotate_left
 ·rintro j9
  exact QZ Qa (sK (QT (Qk ⟨[(0, .yv 4000),(2, .ptr 1402 0),(4,I l8_1)],[(1002,QM a0s),(1003,(Vk a1amps)),(1008, .box 34 [.vsl 3 1039 (List.map Qb j9).length]),(1009, .box 3 [I l5_1]),(1010,Ym x6),(1039, .vec 38 3 (List.map Qb j9)),(1402,QM a0s),(1403, .box 3 [I x6.At]),(4000, .lp [(2,Jo),(3,NG),(8, .ptr 1008 0),(9, .ptr 1009 0),(10, .ptr 1010 0),(41, .p (.sl 8 (Z5 a0s.Chargers))),(42,I (Qc (Z5 a0s.Chargers))),(43,I l5_1),(51, .fn (.func 56) [] [.ptr 1403 0, .ptr 1402 0])] nf7 .ready none)]⟩ Qa (sG (xR 3 Qa (xG Qa Qa (QC (e:=54) (S:=11) (enc:=ZI.cs) (l:=a0s.Conductors) (k:=.i64) (n:=l8_1) (sv:=.p (.sl 11 (XM a0s.Conductors))) rfl Qa Qa Qa Qa Qa) (fun x12=>xR 3 Qa (xE (Ky (x12.Up,j9) Qa)))))))))
 refine sG (xR 2 Qa (Tq [] [(1002,QM a0s),(1003,(Vk a1amps)),(1008, .box 34 [.vsl 3 1039 (List.map Qb l8_2).length]),(1009, .box 3 [I l5_1]),(1010,Ym x6),(1039, .vec 38 3 (List.map Qb l8_2)),(1402,QM a0s),(1403, .box 3 [I x6.At]),(4000, .lp [(2,Jo),(3,NG),(8, .ptr 1008 0),(9, .ptr 1009 0),(10, .ptr 1010 0),(41, .p (.sl 8 (Z5 a0s.Chargers))),(42,I (Qc (Z5 a0s.Chargers))),(43,I l5_1),(51, .fn (.func 56) [] [.ptr 1403 0, .ptr 1402 0])] nf7 .ready none)] 4000 [(2,Jo),(3,NG),(8, .ptr 1008 0),(9, .ptr 1009 0),(10, .ptr 1010 0),(41, .p (.sl 8 (Z5 a0s.Chargers))),(42,I (Qc (Z5 a0s.Chargers))),(43,I l5_1),(51, .fn (.func 56) [] [.ptr 1403 0, .ptr 1402 0])] [] [] [I l8_1] Qa hnf7 Qa Qa Qa Qa Qa (fun _=>sL Qe Qa (mo ⟨[3,8,9,10,11],[1002,1003,1008,1009,1010,1039,1402,1403,4000],[],[]⟩ ⟨[(3,NG),(8, .ptr 1008 0),(9, .ptr 1009 0),(10, .ptr 1010 0),(11,I l8_1)],[(1002,QM a0s),(1003,(Vk a1amps)),(1008, .box 34 [.vsl 3 1039 (List.map Qb l8_2).length]),(1009, .box 3 [I l5_1]),(1010,Ym x6),(1039, .vec 38 3 (List.map Qb l8_2)),(1402,QM a0s),(1403, .box 3 [I x6.At]),(4000, .lp [(2,Jo),(3,NG),(8, .ptr 1008 0),(9, .ptr 1009 0),(10, .ptr 1010 0),(41, .p (.sl 8 (Z5 a0s.Chargers))),(42,I (Qc (Z5 a0s.Chargers))),(43,I l5_1),(51, .fn (.func 56) [] [.ptr 1403 0, .ptr 1402 0])] nf7 .busy none)]⟩ none Qa Qa (sB (YK Qe rfl (xR 2 Qa (BJ Qa Qa (Tp (e:=38) (S:=3) (tk:=1039) (ty:=38) (enc:=Qb) (l:=l8_2) (k:=.i64) (n:=l8_1) (nn:=(List.map Qb l8_2).length) rfl Qa Qa Qa Qa Qa zq) (fun x10 hx10=>(xR 4 Qa (xG Qa Qa (QC (e:=3) (S:=1) (enc:=ci) (l:=a1amps) (k:=.i64) (n:=l5_1) (sv:=.p (.sl 1 (List.map ci a1amps))) rfl Qa Qa Qa Qa Qa) (fun x11=>?_))))))))))))
 refine xR 1 Qa (vo [(1000, .vec 38 3 (List.map Qb l8_2))] [.vptr 1000 (List.map Qb l8_2).length (Int.toNat l8_1) 0,I x6.Phases,I x11] [(1000,1039)] [] [] Qa Tryz.func23 rfl Tryz.ntmps23 rfl Qa Qa Qa (Qg Qe ⟨[(0, .vptr 1000 (List.map Qb l8_2).length (Int.toNat l8_1) 0),(1,I x6.Phases),(2,I x11),(7,I 0)],[(1000, .vec 38 3 (List.map Qb l8_2))]⟩ Qa (sB (Yx 3 (Qg Qe ⟨[(0, .vptr 1000 (List.map Qb l8_2).length (Int.toNat l8_1) 0),(1,I x6.Phases),(2,I x11),(7,I 0),(8,B true)],[(1000, .vec 38 3 (List.map Qb l8_2))]⟩ Qa (sS (Q3 Qa (sK (Qk ⟨[(0, .vptr 1000 (List.map Qb l8_2).length (Int.toNat l8_1) 0),(1,I x6.Phases),(2,I x11),(7,I 0)],[(1000, .vec 38 3 (List.map Qb l8_2))]⟩ Qa (sS (sB (Qg Qe ⟨[(0, .vptr 1000 (List.map Qb l8_2).length (Int.toNat l8_1) 0),(1,I x6.Phases),(2,I x11),(6,I 0),(7,I 0)],[(1000, .vec 38 3 (List.map Qb l8_2))]⟩ Qa (Qg Qe ⟨[(0, .vptr 1000 (List.map Qb l8_2).length (Int.toNat l8_1) 0),(1,I x6.Phases),(2,I x11),(6,I 0),(7,I 0),(14,B (!Qs (Js .i64 x6.Phases (Wu .i64 1 0)) 0))],[(1000, .vec 38 3 (List.map Qb l8_2))]⟩ Qa (sC (!Qs (Js .i64 x6.Phases (Wu .i64 1 0)) 0) Qa ?_ ?_))))))))))))))
 rotate_left
 ·refine sK (QT (Qk ⟨[(0, .vptr 1000 (List.map Qb l8_2).length (Int.toNat l8_1) 0),(1,I x6.Phases),(2,I x11),(7,I 0)],[(1000, .vec 38 3 (List.map Qb l8_2))]⟩ Qa (sL Qe Qa (UB ⟨[0,1,2,7],[1000],[],[]⟩ ⟨[(0, .vptr 1000 (List.map Qb l8_2).length (Int.toNat l8_1) 0),(1,I x6.Phases),(2,I x11),(7,I 1)],[(1000, .vec 38 3 (List.map Qb l8_2))]⟩ Qa (Qg Qe ⟨[(0, .vptr 1000 (List.map Qb l8_2).length (Int.toNat l8_1) 0),(1,I x6.Phases),(2,I x11),(7,I 1),(8,B true)],[(1000, .vec 38 3 (List.map Qb l8_2))]⟩ Qa (sS (Q3 Qa (sK (Qk ⟨[(0, .vptr 1000 (List.map Qb l8_2).length (Int.toNat l8_1) 0),(1,I x6.Phases),(2,I x11),(7,I 1)],[(1000, .vec 38 3 (List.map Qb l8_2))]⟩ Qa (sS (sB (Qg Qe ⟨[(0, .vptr 1000 (List.map Qb l8_2).length (Int.toNat l8_1) 0),(1,I x6.Phases),(2,I x11),(6,I 1),(7,I 1)],[(1000, .vec 38 3 (List.map Qb l8_2))]⟩ Qa (Qg Qe ⟨[(0, .vptr 1000 (List.map Qb l8_2).length (Int.toNat l8_1) 0),(1,I x6.Phases),(2,I x11),(6,I 1),(7,I 1),(14,B (!Qs (Js .i64 x6.Phases (Wu .i64 1 1)) 0))],[(1000, .vec 38 3 (List.map Qb l8_2))]⟩ Qa (sC (!Qs (Js .i64 x6.Phases (Wu .i64 1 1)) 0) Qa ?_ ?_))))))))))))))
  rotate_left
  ·refine sK (QT (Qk ⟨[(0, .vptr 1000 (List.map Qb l8_2).length (Int.toNat l8_1) 0),(1,I x6.Phases),(2,I x11),(7,I 1)],[(1000, .vec 38 3 (List.map Qb l8_2))]⟩ Qa (sL Qe Qa (UB ⟨[0,1,2,7],[1000],[],[]⟩ ⟨[(0, .vptr 1000 (List.map Qb l8_2).length (Int.toNat l8_1) 0),(1,I x6.Phases),(2,I x11),(7,I 2)],[(1000, .vec 38 3 (List.map Qb l8_2))]⟩ Qa (Qg Qe ⟨[(0, .vptr 1000 (List.map Qb l8_2).length (Int.toNat l8_1) 0),(1,I x6.Phases),(2,I x11),(7,I 2),(8,B true)],[(1000, .vec 38 3 (List.map Qb l8_2))]⟩ Qa (sS (Q3 Qa (sK (Qk ⟨[(0, .vptr 1000 (List.map Qb l8_2).length (Int.toNat l8_1) 0),(1,I x6.Phases),(2,I x11),(7,I 2)],[(1000, .vec 38 3 (List.map Qb l8_2))]⟩ Qa (sS (sB (Qg Qe ⟨[(0, .vptr 1000 (List.map Qb l8_2).length (Int.toNat l8_1) 0),(1,I x6.Phases),(2,I x11),(6,I 2),(7,I 2)],[(1000, .vec 38 3 (List.map Qb l8_2))]⟩ Qa (Qg Qe ⟨[(0, .vptr 1000 (List.map Qb l8_2).length (Int.toNat l8_1) 0),(1,I x6.Phases),(2,I x11),(6,I 2),(7,I 2),(14,B (!Qs (Js .i64 x6.Phases (Wu .i64 1 2)) 0))],[(1000, .vec 38 3 (List.map Qb l8_2))]⟩ Qa (sC (!Qs (Js .i64 x6.Phases (Wu .i64 1 2)) 0) Qa ?_ (sK (QT (Qk ⟨[(0, .vptr 1000 (List.map Qb l8_2).length (Int.toNat l8_1) 0),(1,I x6.Phases),(2,I x11),(7,I 2)],[(1000, .vec 38 3 (List.map Qb l8_2))]⟩ Qa (sL Qe Qa (UB ⟨[0,1,2,7],[1000],[],[]⟩ ⟨[(0, .vptr 1000 (List.map Qb l8_2).length (Int.toNat l8_1) 0),(1,I x6.Phases),(2,I x11),(7,I 3)],[(1000, .vec 38 3 (List.map Qb l8_2))]⟩ Qa (Qg Qe ⟨[(0, .vptr 1000 (List.map Qb l8_2).length (Int.toNat l8_1) 0),(1,I x6.Phases),(2,I x11),(7,I 3),(8,B false)],[(1000, .vec 38 3 (List.map Qb l8_2))]⟩ Qa (sS (QZ Qa (Qm (Zu (LV (QG (Ww (.id) [1000] [] (.tup []) Qa Qa (sW (QT (PS [1002,1003,1008,1009,1010,1039,1402,1403,4000] [] .busy none Qa Qa (Yq (xR 1 Qa (xE (QV l8_2 Qa))))))))))))))))))))))))))))))))))
   refine YK Qe rfl (xR 2 Qa (Ze Qa Qa (LQ (S:=3) (ty:=38) (tk:=1000) (k:=Int.toNat l8_1) (f:=0) (es:=List.map Qb l8_2) rfl Qa Qa) (Ze Qa Qa (Yt (S:=3) (ty:=38) (tk:=1000) (len:=3) (sz:=1) (e:=3) (kk:=Int.toNat l8_1) (g:=0) (k:=.i64) (n:=2) (es:=List.map Qb l8_2) rfl Qa Qa Qa Qa Qa Qa) (Ze Qa Qa (G6 (S:=3) (tb:=38) (tk:=1000) (n:=Int.toNat l8_1) (f:=2) (enc:=Qb) (l:=l8_2) (v:=x10) (c:=I x10.2.2) rfl Qa Qa (YX hx10) Qa) (xR 2 Qa (Ze Qa Qa (LQ (S:=3) (ty:=38) (tk:=1000) (k:=Int.toNat l8_1) (f:=0) (es:=List.map Qb l8_2) rfl Qa Qa) (Ze Qa Qa (Yt (S:=3) (ty:=38) (tk:=1000) (len:=3) (sz:=1) (e:=3) (kk:=Int.toNat l8_1) (g:=0) (k:=.i64) (n:=2) (es:=List.map Qb l8_2) rfl Qa Qa Qa Qa Qa Qa) (Ze Qa Qa (Um (S:=3) (tb:=38) (tk:=1000) (n:=Int.toNat l8_1) (f:=2) (enc:=Qb) (l:=l8_2) (v:=x10) (v':=(x10.1,x10.2.1,wi (x10.2.2+x11))) (xv:=I (wi (x10.2.2+x11))) rfl Qa Qa Qa (YX hx10) Qa) (Yh Qa (QT (Qk ⟨[(0, .vptr 1000 (List.map Qb l8_2).length (Int.toNat l8_1) 0),(1,I x6.Phases),(2,I x11),(7,I 2)],[(1000, .vec 38 3 (List.map Qb (List.set l8_2 (Int.toNat l8_1) (x10.1,x10.2.1,wi (x10.2.2+x11)))))]⟩ Qa (sL Qe Qa (UB ⟨[0,1,2,7],[1000],[],[]⟩ ⟨[(0, .vptr 1000 (List.map Qb l8_2).length (Int.toNat l8_1) 0),(1,I x6.Phases),(2,I x11),(7,I 3)],[(1000, .vec 38 3 (List.map Qb (List.set l8_2 (Int.toNat l8_1) (x10.1,x10.2.1,wi (x10.2.2+x11)))))]⟩ Qa (Qg Qe ⟨[(0, .vptr 1000 (List.map Qb l8_2).length (Int.toNat l8_1) 0),(1,I x6.Phases),(2,I x11),(7,I 3),(8,B false)],[(1000, .vec 38 3 (List.map Qb (List.set l8_2 (Int.toNat l8_1) (x10.1,x10.2.1,wi (x10.2.2+x11)))))]⟩ Qa (sS (QZ Qa (Qm (Zu (LV (QG (Ww (.id) [1000] [] (.tup []) Qa Qa (sW (QT (PS [1002,1003,1008,1009,1010,1039,1402,1403,4000] [] .busy none Qa Qa (Yq (xR 1 Qa (xE ?_)))))))))))))))))))))))))))
   exact vw (List.set l8_2 (Int.toNat l8_1) (x10.1,x10.2.1,wi (x10.2.2+x11))) ⟨[0,2,4,17],[1002,1003,1008,1009,1010,1039,1402,1403,4000],[],[]⟩ ⟨[(0, .yv 4000),(2, .ptr 1402 0),(4,I l8_1),(17,B false)],[(1002,QM a0s),(1003,(Vk a1amps)),(1008, .box 34 [.vsl 3 1039 (List.map Qb l8_2).length]),(1009, .box 3 [I l5_1]),(1010,Ym x6),(1039, .vec 38 3 (List.map Qb (List.set l8_2 (Int.toNat l8_1) (x10.1,x10.2.1,wi (x10.2.2+x11))))),(1402,QM a0s),(1403, .box 3 [I x6.At]),(4000, .lp [(2,Jo),(3,NG),(8, .ptr 1008 0),(9, .ptr 1009 0),(10, .ptr 1010 0),(41, .p (.sl 8 (Z5 a0s.Chargers))),(42,I (Qc (Z5 a0s.Chargers))),(43,I l5_1),(51, .fn (.func 56) [] [.ptr 1403 0, .ptr 1402 0])] nf7 .ready none)]⟩ Qa zq
  refine YK Qe rfl (xR 2 Qa (Ze Qa Qa (LQ (S:=3) (ty:=38) (tk:=1000) (k:=Int.toNat l8_1) (f:=0) (es:=List.map Qb l8_2) rfl Qa Qa) (Ze Qa Qa (Yt (S:=3) (ty:=38) (tk:=1000) (len:=3) (sz:=1) (e:=3) (kk:=Int.toNat l8_1) (g:=0) (k:=.i64) (n:=1) (es:=List.map Qb l8_2) rfl Qa Qa Qa Qa Qa Qa) (Ze Qa Qa (G6 (S:=3) (tb:=38) (tk:=1000) (n:=Int.toNat l8_1) (f:=1) (enc:=Qb) (l:=l8_2) (v:=x10) (c:=I x10.2.1) rfl Qa Qa (YX hx10) Qa) (xR 2 Qa (Ze Qa Qa (LQ (S:=3) (ty:=38) (tk:=1000) (k:=Int.toNat l8_1) (f:=0) (es:=List.map Qb l8_2) rfl Qa Qa) (Ze Qa Qa (Yt (S:=3) (ty:=38) (tk:=1000) (len:=3) (sz:=1) (e:=3) (kk:=Int.toNat l8_1) (g:=0) (k:=.i64) (n:=1) (es:=List.map Qb l8_2) rfl Qa Qa Qa Qa Qa Qa) (Ze Qa Qa (Um (S:=3) (tb:=38) (tk:=1000) (n:=Int.toNat l8_1) (f:=1) (enc:=Qb) (l:=l8_2) (v:=x10) (v':=(x10.1,wi (x10.2.1+x11),x10.2.2)) (xv:=I (wi (x10.2.1+x11))) rfl Qa Qa Qa (YX hx10) Qa) (Yh Qa (QT (Qk ⟨[(0, .vptr 1000 (List.map Qb l8_2).length (Int.toNat l8_1) 0),(1,I x6.Phases),(2,I x11),(7,I 1)],[(1000, .vec 38 3 (List.map Qb (List.set l8_2 (Int.toNat l8_1) (x10.1,wi (x10.2.1+x11),x10.2.2))))]⟩ Qa (sL Qe Qa (UB ⟨[0,1,2,7],[1000],[],[]⟩ ⟨[(0, .vptr 1000 (List.map Qb l8_2).length (Int.toNat l8_1) 0),(1,I x6.Phases),(2,I x11),(7,I 2)],[(1000, .vec 38 3 (List.map Qb (List.set l8_2 (Int.toNat l8_1) (x10.1,wi (x10.2.1+x11),x10.2.2))))]⟩ Qa (Qg Qe ⟨[(0, .vptr 1000 (List.map Qb l8_2).length (Int.toNat l8_1) 0),(1,I x6.Phases),(2,I x11),(7,I 2),(8,B true)],[(1000, .vec 38 3 (List.map Qb (List.set l8_2 (Int.toNat l8_1) (x10.1,wi (x10.2.1+x11),x10.2.2))))]⟩ Qa (sS ?_)))))))))))))))
  refine Q3 Qa (sK (Qk ⟨[(0, .vptr 1000 (List.map Qb l8_2).length (Int.toNat l8_1) 0),(1,I x6.Phases),(2,I x11),(7,I 2)],[(1000, .vec 38 3 (List.map Qb (List.set l8_2 (Int.toNat l8_1) (x10.1,wi (x10.2.1+x11),x10.2.2))))]⟩ Qa (sS (sB (Qg Qe ⟨[(0, .vptr 1000 (List.map Qb l8_2).length (Int.toNat l8_1) 0),(1,I x6.Phases),(2,I x11),(6,I 2),(7,I 2)],[(1000, .vec 38 3 (List.map Qb (List.set l8_2 (Int.toNat l8_1) (x10.1,wi (x10.2.1+x11),x10.2.2))))]⟩ Qa (Qg Qe ⟨[(0, .vptr 1000 (List.map Qb l8_2).length (Int.toNat l8_1) 0),(1,I x6.Phases),(2,I x11),(6,I 2),(7,I 2),(14,B (!Qs (Js .i64 x6.Phases (Wu .i64 1 2)) 0))],[(1000, .vec 38 3 (List.map Qb (List.set l8_2 (Int.toNat l8_1) (x10.1,wi (x10.2.1+x11),x10.2.2))))]⟩ Qa (sC (!Qs (Js .i64 x6.Phases (Wu .i64 1 2)) 0) Qa ?_ ?_)))))))
  rotate_left
  ·exact sK (QT (Qk ⟨[(0, .vptr 1000 (List.map Qb l8_2).length (Int.toNat l8_1) 0),(1,I x6.Phases),(2,I x11),(7,I 2)],[(1000, .vec 38 3 (List.map Qb (List.set l8_2 (Int.toNat l8_1) (x10.1,wi (x10.2.1+x11),x10.2.2))))]⟩ Qa (sL Qe Qa (UB ⟨[0,1,2,7],[1000],[],[]⟩ ⟨[(0, .vptr 1000 (List.map Qb l8_2).length (Int.toNat l8_1) 0),(1,I x6.Phases),(2,I x11),(7,I 3)],[(1000, .vec 38 3 (List.map Qb (List.set l8_2 (Int.toNat l8_1) (x10.1,wi (x10.2.1+x11),x10.2.2))))]⟩ Qa (Qg Qe ⟨[(0, .vptr 1000 (List.map Qb l8_2).length (Int.toNat l8_1) 0),(1,I x6.Phases),(2,I x11),(7,I 3),(8,B false)],[(1000, .vec 38 3 (List.map Qb (List.set l8_2 (Int.toNat l8_1) (x10.1,wi (x10.2.1+x11),x10.2.2))))]⟩ Qa (sS (QZ Qa (Qm (Zu (LV (QG (Ww (.id) [1000] [] (.tup []) Qa Qa (sW (QT (PS [1002,1003,1008,1009,1010,1039,1402,1403,4000] [] .busy none Qa Qa (Yq (xR 1 Qa (xE (vw (List.set l8_2 (Int.toNat l8_1) (x10.1,wi (x10.2.1+x11),x10.2.2)) ⟨[0,2,4,17],[1002,1003,1008,1009,1010,1039,1402,1403,4000],[],[]⟩ ⟨[(0, .yv 4000),(2, .ptr 1402 0),(4,I l8_1),(17,B false)],[(1002,QM a0s),(1003,(Vk a1amps)),(1008, .box 34 [.vsl 3 1039 (List.map Qb l8_2).length]),(1009, .box 3 [I l5_1]),(1010,Ym x6),(1039, .vec 38 3 (List.map Qb (List.set l8_2 (Int.toNat l8_1) (x10.1,wi (x10.2.1+x11),x10.2.2)))),(1402,QM a0s),(1403, .box 3 [I x6.At]),(4000, .lp [(2,Jo),(3,NG),(8, .ptr 1008 0),(9, .ptr 1009 0),(10, .ptr 1010 0),(41, .p (.sl 8 (Z5 a0s.Chargers))),(42,I (Qc (Z5 a0s.Chargers))),(43,I l5_1),(51, .fn (.func 56) [] [.ptr 1403 0, .ptr 1402 0])] nf7 .ready none)]⟩ Qa zq)))))))))))))))))))
  refine YK Qe rfl (xR 2 Qa (Ze Qa Qa (UD (S:=3) (ty:=38) (tk:=1000) (k:=Int.toNat l8_1) (f:=0) (nn:=(List.map Qb l8_2).length) (es:=List.map Qb (List.set l8_2 (Int.toNat l8_1) (x10.1,wi (x10.2.1+x11),x10.2.2))) zq rfl Qa Qa) (Ze Qa Qa (Yt (S:=3) (ty:=38) (tk:=1000) (len:=3) (sz:=1) (e:=3) (kk:=Int.toNat l8_1) (g:=0) (k:=.i64) (n:=2) (es:=List.map Qb (List.set l8_2 (Int.toNat l8_1) (x10.1,wi (x10.2.1+x11),x10.2.2))) rfl Qa Qa Qa Qa Qa Qa) (Ze Qa Qa (G6 (S:=3) (tb:=38) (tk:=1000) (n:=Int.toNat l8_1) (f:=2) (enc:=Qb) (l:=List.set l8_2 (Int.toNat l8_1) (x10.1,wi (x10.2.1+x11),x10.2.2)) (v:=(x10.1,wi (x10.2.1+x11),x10.2.2)) (c:=I x10.2.2) rfl Qa Qa (YX (JP hx10)) Qa) (xR 2 Qa (Ze Qa Qa (UD (S:=3) (ty:=38) (tk:=1000) (k:=Int.toNat l8_1) (f:=0) (nn:=(List.map Qb l8_2).length) (es:=List.map Qb (List.set l8_2 (Int.toNat l8_1) (x10.1,wi (x10.2.1+x11),x10.2.2))) zq rfl Qa Qa) (Ze Qa Qa (Yt (S:=3) (ty:=38) (tk:=1000) (len:=3) (sz:=1) (e:=3) (kk:=Int.toNat l8_1) (g:=0) (k:=.i64) (n:=2) (es:=List.map Qb (List.set l8_2 (Int.toNat l8_1) (x10.1,wi (x10.2.1+x11),x10.2.2))) rfl Qa Qa Qa Qa Qa Qa) ?_)))))))
  refine Ze Qa Qa (Um (S:=3) (tb:=38) (tk:=1000) (n:=Int.toNat l8_1) (f:=2) (enc:=Qb) (l:=List.set l8_2 (Int.toNat l8_1) (x10.1,wi (x10.2.1+x11),x10.2.2)) (v:=(x10.1,wi (x10.2.1+x11),x10.2.2)) (v':=(x10.1,wi (x10.2.1+x11),wi (x10.2.2+x11))) (xv:=I (wi (x10.2.2+x11))) rfl Qa Qa Qa (YX (JP hx10)) Qa) (Yh Qa (QT (Qk ⟨[(0, .vptr 1000 (List.map Qb l8_2).length (Int.toNat l8_1) 0),(1,I x6.Phases),(2,I x11),(7,I 2)],[(1000, .vec 38 3 (List.map Qb (List.set (List.set l8_2 (Int.toNat l8_1) (x10.1,wi (x10.2.1+x11),x10.2.2)) (Int.toNat l8_1) (x10.1,wi (x10.2.1+x11),wi (x10.2.2+x11)))))]⟩ Qa (sL Qe Qa (UB ⟨[0,1,2,7],[1000],[],[]⟩ ⟨[(0, .vptr 1000 (List.map Qb l8_2).length (Int.toNat l8_1) 0),(1,I x6.Phases),(2,I x11),(7,I 3)],[(1000, .vec 38 3 (List.map Qb (List.set (List.set l8_2 (Int.toNat l8_1) (x10.1,wi (x10.2.1+x11),x10.2.2)) (Int.toNat l8_1) (x10.1,wi (x10.2.1+x11),wi (x10.2.2+x11)))))]⟩ Qa (Qg Qe ⟨[(0, .vptr 1000 (List.map Qb l8_2).length (Int.toNat l8_1) 0),(1,I x6.Phases),(2,I x11),(7,I 3),(8,B false)],[(1000, .vec 38 3 (List.map Qb (List.set (List.set l8_2 (Int.toNat l8_1) (x10.1,wi (x10.2.1+x11),x10.2.2)) (Int.toNat l8_1) (x10.1,wi (x10.2.1+x11),wi (x10.2.2+x11)))))]⟩ Qa (sS (QZ Qa (Qm (Zu (LV (QG (Ww (.id) [1000] [] (.tup []) Qa Qa (sW (QT (PS [1002,1003,1008,1009,1010,1039,1402,1403,4000] [] .busy none Qa Qa (Yq (xR 1 Qa (xE ?_)))))))))))))))))))
  exact vw (List.set (List.set l8_2 (Int.toNat l8_1) (x10.1,wi (x10.2.1+x11),x10.2.2)) (Int.toNat l8_1) (x10.1,wi (x10.2.1+x11),wi (x10.2.2+x11))) ⟨[0,2,4,17],[1002,1003,1008,1009,1010,1039,1402,1403,4000],[],[]⟩ ⟨[(0, .yv 4000),(2, .ptr 1402 0),(4,I l8_1),(17,B false)],[(1002,QM a0s),(1003,(Vk a1amps)),(1008, .box 34 [.vsl 3 1039 (List.map Qb l8_2).length]),(1009, .box 3 [I l5_1]),(1010,Ym x6),(1039, .vec 38 3 (List.map Qb (List.set (List.set l8_2 (Int.toNat l8_1) (x10.1,wi (x10.2.1+x11),x10.2.2)) (Int.toNat l8_1) (x10.1,wi (x10.2.1+x11),wi (x10.2.2+x11))))),(1402,QM a0s),(1403, .box 3 [I x6.At]),(4000, .lp [(2,Jo),(3,NG),(8, .ptr 1008 0),(9, .ptr 1009 0),(10, .ptr 1010 0),(41, .p (.sl 8 (Z5 a0s.Chargers))),(42,I (Qc (Z5 a0s.Chargers))),(43,I l5_1),(51, .fn (.func 56) [] [.ptr 1403 0, .ptr 1402 0])] nf7 .ready none)]⟩ Qa zq
 refine YK Qe rfl (xR 2 Qa (Ze Qa Qa (LQ (S:=3) (ty:=38) (tk:=1000) (k:=Int.toNat l8_1) (f:=0) (es:=List.map Qb l8_2) rfl Qa Qa) (Ze Qa Qa (Yt (S:=3) (ty:=38) (tk:=1000) (len:=3) (sz:=1) (e:=3) (kk:=Int.toNat l8_1) (g:=0) (k:=.i64) (n:=0) (es:=List.map Qb l8_2) rfl Qa Qa Qa Qa Qa Qa) (Ze Qa Qa (G6 (S:=3) (tb:=38) (tk:=1000) (n:=Int.toNat l8_1) (f:=0) (enc:=Qb) (l:=l8_2) (v:=x10) (c:=I x10.1) rfl Qa Qa (YX hx10) Qa) (xR 2 Qa (Ze Qa Qa (LQ (S:=3) (ty:=38) (tk:=1000) (k:=Int.toNat l8_1) (f:=0) (es:=List.map Qb l8_2) rfl Qa Qa) (Ze Qa Qa (Yt (S:=3) (ty:=38) (tk:=1000) (len:=3) (sz:=1) (e:=3) (kk:=Int.toNat l8_1) (g:=0) (k:=.i64) (n:=0) (es:=List.map Qb l8_2) rfl Qa Qa Qa Qa Qa Qa) (Ze Qa Qa (Um (S:=3) (tb:=38) (tk:=1000) (n:=Int.toNat l8_1) (f:=0) (enc:=Qb) (l:=l8_2) (v:=x10) (v':=(wi (x10.1+x11),x10.2.1,x10.2.2)) (xv:=I (wi (x10.1+x11))) rfl Qa Qa Qa (YX hx10) Qa) (Yh Qa (QT (Qk ⟨[(0, .vptr 1000 (List.map Qb l8_2).length (Int.toNat l8_1) 0),(1,I x6.Phases),(2,I x11),(7,I 0)],[(1000, .vec 38 3 (List.map Qb (List.set l8_2 (Int.toNat l8_1) (wi (x10.1+x11),x10.2.1,x10.2.2))))]⟩ Qa (sL Qe Qa (UB ⟨[0,1,2,7],[1000],[],[]⟩ ⟨[(0, .vptr 1000 (List.map Qb l8_2).length (Int.toNat l8_1) 0),(1,I x6.Phases),(2,I x11),(7,I 1)],[(1000, .vec 38 3 (List.map Qb (List.set l8_2 (Int.toNat l8_1) (wi (x10.1+x11),x10.2.1,x10.2.2))))]⟩ Qa (Qg Qe ⟨[(0, .vptr 1000 (List.map Qb l8_2).length (Int.toNat l8_1) 0),(1,I x6.Phases),(2,I x11),(7,I 1),(8,B true)],[(1000, .vec 38 3 (List.map Qb (List.set l8_2 (Int.toNat l8_1) (wi (x10.1+x11),x10.2.1,x10.2.2))))]⟩ Qa (sS ?_)))))))))))))))
 refine Q3 Qa (sK (Qk ⟨[(0, .vptr 1000 (List.map Qb l8_2).length (Int.toNat l8_1) 0),(1,I x6.Phases),(2,I x11),(7,I 1)],[(1000, .vec 38 3 (List.map Qb (List.set l8_2 (Int.toNat l8_1) (wi (x10.1+x11),x10.2.1,x10.2.2))))]⟩ Qa (sS (sB (Qg Qe ⟨[(0, .vptr 1000 (List.map Qb l8_2).length (Int.toNat l8_1) 0),(1,I x6.Phases),(2,I x11),(6,I 1),(7,I 1)],[(1000, .vec 38 3 (List.map Qb (List.set l8_2 (Int.toNat l8_1) (wi (x10.1+x11),x10.2.1,x10.2.2))))]⟩ Qa (Qg Qe ⟨[(0, .vptr 1000 (List.map Qb l8_2).length (Int.toNat l8_1) 0),(1,I x6.Phases),(2,I x11),(6,I 1),(7,I 1),(14,B (!Qs (Js .i64 x6.Phases (Wu .i64 1 1)) 0))],[(1000, .vec 38 3 (List.map Qb (List.set l8_2 (Int.toNat l8_1) (wi (x10.1+x11),x10.2.1,x10.2.2))))]⟩ Qa (sC (!Qs (Js .i64 x6.Phases (Wu .i64 1 1)) 0) Qa ?_ ?_)))))))
 rotate_left
 ·refine sK (QT (Qk ⟨[(0, .vptr 1000 (List.map Qb l8_2).length (Int.toNat l8_1) 0),(1,I x6.Phases),(2,I x11),(7,I 1)],[(1000, .vec 38 3 (List.map Qb (List.set l8_2 (Int.toNat l8_1) (wi (x10.1+x11),x10.2.1,x10.2.2))))]⟩ Qa (sL Qe Qa (UB ⟨[0,1,2,7],[1000],[],[]⟩ ⟨[(0, .vptr 1000 (List.map Qb l8_2).length (Int.toNat l8_1) 0),(1,I x6.Phases),(2,I x11),(7,I 2)],[(1000, .vec 38 3 (List.map Qb (List.set l8_2 (Int.toNat l8_1) (wi (x10.1+x11),x10.2.1,x10.2.2))))]⟩ Qa (Qg Qe ⟨[(0, .vptr 1000 (List.map Qb l8_2).length (Int.toNat l8_1) 0),(1,I x6.Phases),(2,I x11),(7,I 2),(8,B true)],[(1000, .vec 38 3 (List.map Qb (List.set l8_2 (Int.toNat l8_1) (wi (x10.1+x11),x10.2.1,x10.2.2))))]⟩ Qa (sS (Q3 Qa (sK (Qk ⟨[(0, .vptr 1000 (List.map Qb l8_2).length (Int.toNat l8_1) 0),(1,I x6.Phases),(2,I x11),(7,I 2)],[(1000, .vec 38 3 (List.map Qb (List.set l8_2 (Int.toNat l8_1) (wi (x10.1+x11),x10.2.1,x10.2.2))))]⟩ Qa (sS (sB (Qg Qe ⟨[(0, .vptr 1000 (List.map Qb l8_2).length (Int.toNat l8_1) 0),(1,I x6.Phases),(2,I x11),(6,I 2),(7,I 2)],[(1000, .vec 38 3 (List.map Qb (List.set l8_2 (Int.toNat l8_1) (wi (x10.1+x11),x10.2.1,x10.2.2))))]⟩ Qa (Qg Qe ⟨[(0, .vptr 1000 (List.map Qb l8_2).length (Int.toNat l8_1) 0),(1,I x6.Phases),(2,I x11),(6,I 2),(7,I 2),(14,B (!Qs (Js .i64 x6.Phases (Wu .i64 1 2)) 0))],[(1000, .vec 38 3 (List.map Qb (List.set l8_2 (Int.toNat l8_1) (wi (x10.1+x11),x10.2.1,x10.2.2))))]⟩ Qa (sC (!Qs (Js .i64 x6.Phases (Wu .i64 1 2)) 0) Qa ?_ ?_))))))))))))))
  rotate_left
  ·exact sK (QT (Qk ⟨[(0, .vptr 1000 (List.map Qb l8_2).length (Int.toNat l8_1) 0),(1,I x6.Phases),(2,I x11),(7,I 2)],[(1000, .vec 38 3 (List.map Qb (List.set l8_2 (Int.toNat l8_1) (wi (x10.1+x11),x10.2.1,x10.2.2))))]⟩ Qa (sL Qe Qa (UB ⟨[0,1,2,7],[1000],[],[]⟩ ⟨[(0, .vptr 1000 (List.map Qb l8_2).length (Int.toNat l8_1) 0),(1,I x6.Phases),(2,I x11),(7,I 3)],[(1000, .vec 38 3 (List.map Qb (List.set l8_2 (Int.toNat l8_1) (wi (x10.1+x11),x10.2.1,x10.2.2))))]⟩ Qa (Qg Qe ⟨[(0, .vptr 1000 (List.map Qb l8_2).length (Int.toNat l8_1) 0),(1,I x6.Phases),(2,I x11),(7,I 3),(8,B false)],[(1000, .vec 38 3 (List.map Qb (List.set l8_2 (Int.toNat l8_1) (wi (x10.1+x11),x10.2.1,x10.2.2))))]⟩ Qa (sS (QZ Qa (Qm (Zu (LV (QG (Ww (.id) [1000] [] (.tup []) Qa Qa (sW (QT (PS [1002,1003,1008,1009,1010,1039,1402,1403,4000] [] .busy none Qa Qa (Yq (xR 1 Qa (xE (vw (List.set l8_2 (Int.toNat l8_1) (wi (x10.1+x11),x10.2.1,x10.2.2)) ⟨[0,2,4,17],[1002,1003,1008,1009,1010,1039,1402,1403,4000],[],[]⟩ ⟨[(0, .yv 4000),(2, .ptr 1402 0),(4,I l8_1),(17,B false)],[(1002,QM a0s),(1003,(Vk a1amps)),(1008, .box 34 [.vsl 3 1039 (List.map Qb l8_2).length]),(1009, .box 3 [I l5_1]),(1010,Ym x6),(1039, .vec 38 3 (List.map Qb (List.set l8_2 (Int.toNat l8_1) (wi (x10.1+x11),x10.2.1,x10.2.2)))),(1402,QM a0s),(1403, .box 3 [I x6.At]),(4000, .lp [(2,Jo),(3,NG),(8, .ptr 1008 0),(9, .ptr 1009 0),(10, .ptr 1010 0),(41, .p (.sl 8 (Z5 a0s.Chargers))),(42,I (Qc (Z5 a0s.Chargers))),(43,I l5_1),(51, .fn (.func 56) [] [.ptr 1403 0, .ptr 1402 0])] nf7 .ready none)]⟩ Qa zq)))))))))))))))))))
  refine YK Qe rfl (xR 2 Qa (Ze Qa Qa (UD (S:=3) (ty:=38) (tk:=1000) (k:=Int.toNat l8_1) (f:=0) (nn:=(List.map Qb l8_2).length) (es:=List.map Qb (List.set l8_2 (Int.toNat l8_1) (wi (x10.1+x11),x10.2.1,x10.2.2))) zq rfl Qa Qa) (Ze Qa Qa (Yt (S:=3) (ty:=38) (tk:=1000) (len:=3) (sz:=1) (e:=3) (kk:=Int.toNat l8_1) (g:=0) (k:=.i64) (n:=2) (es:=List.map Qb (List.set l8_2 (Int.toNat l8_1) (wi (x10.1+x11),x10.2.1,x10.2.2))) rfl Qa Qa Qa Qa Qa Qa) (Ze Qa Qa (G6 (S:=3) (tb:=38) (tk:=1000) (n:=Int.toNat l8_1) (f:=2) (enc:=Qb) (l:=List.set l8_2 (Int.toNat l8_1) (wi (x10.1+x11),x10.2.1,x10.2.2)) (v:=(wi (x10.1+x11),x10.2.1,x10.2.2)) (c:=I x10.2.2) rfl Qa Qa (YX (JP hx10)) Qa) (xR 2 Qa (Ze Qa Qa (UD (S:=3) (ty:=38) (tk:=1000) (k:=Int.toNat l8_1) (f:=0) (nn:=(List.map Qb l8_2).length) (es:=List.map Qb (List.set l8_2 (Int.toNat l8_1) (wi (x10.1+x11),x10.2.1,x10.2.2))) zq rfl Qa Qa) (Ze Qa Qa (Yt (S:=3) (ty:=38) (tk:=1000) (len:=3) (sz:=1) (e:=3) (kk:=Int.toNat l8_1) (g:=0) (k:=.i64) (n:=2) (es:=List.map Qb (List.set l8_2 (Int.toNat l8_1) (wi (x10.1+x11),x10.2.1,x10.2.2))) rfl Qa Qa Qa Qa Qa Qa) ?_)))))))
  refine Ze Qa Qa (Um (S:=3) (tb:=38) (tk:=1000) (n:=Int.toNat l8_1) (f:=2) (enc:=Qb) (l:=List.set l8_2 (Int.toNat l8_1) (wi (x10.1+x11),x10.2.1,x10.2.2)) (v:=(wi (x10.1+x11),x10.2.1,x10.2.2)) (v':=(wi (x10.1+x11),x10.2.1,wi (x10.2.2+x11))) (xv:=I (wi (x10.2.2+x11))) rfl Qa Qa Qa (YX (JP hx10)) Qa) (Yh Qa (QT (Qk ⟨[(0, .vptr 1000 (List.map Qb l8_2).length (Int.toNat l8_1) 0),(1,I x6.Phases),(2,I x11),(7,I 2)],[(1000, .vec 38 3 (List.map Qb (List.set (List.set l8_2 (Int.toNat l8_1) (wi (x10.1+x11),x10.2.1,x10.2.2)) (Int.toNat l8_1) (wi (x10.1+x11),x10.2.1,wi (x10.2.2+x11)))))]⟩ Qa (sL Qe Qa (UB ⟨[0,1,2,7],[1000],[],[]⟩ ⟨[(0, .vptr 1000 (List.map Qb l8_2).length (Int.toNat l8_1) 0),(1,I x6.Phases),(2,I x11),(7,I 3)],[(1000, .vec 38 3 (List.map Qb (List.set (List.set l8_2 (Int.toNat l8_1) (wi (x10.1+x11),x10.2.1,x10.2.2)) (Int.toNat l8_1) (wi (x10.1+x11),x10.2.1,wi (x10.2.2+x11)))))]⟩ Qa (Qg Qe ⟨[(0, .vptr 1000 (List.map Qb l8_2).length (Int.toNat l8_1) 0),(1,I x6.Phases),(2,I x11),(7,I 3),(8,B false)],[(1000, .vec 38 3 (List.map Qb (List.set (List.set l8_2 (Int.toNat l8_1) (wi (x10.1+x11),x10.2.1,x10.2.2)) (Int.toNat l8_1) (wi (x10.1+x11),x10.2.1,wi (x10.2.2+x11)))))]⟩ Qa (sS (QZ Qa (Qm (Zu (LV (QG (Ww (.id) [1000] [] (.tup []) Qa Qa (sW (QT (PS [1002,1003,1008,1009,1010,1039,1402,1403,4000] [] .busy none Qa Qa (Yq (xR 1 Qa (xE ?_)))))))))))))))))))
  exact vw (List.set (List.set l8_2 (Int.toNat l8_1) (wi (x10.1+x11),x10.2.1,x10.2.2)) (Int.toNat l8_1) (wi (x10.1+x11),x10.2.1,wi (x10.2.2+x11))) ⟨[0,2,4,17],[1002,1003,1008,1009,1010,1039,1402,1403,4000],[],[]⟩ ⟨[(0, .yv 4000),(2, .ptr 1402 0),(4,I l8_1),(17,B false)],[(1002,QM a0s),(1003,(Vk a1amps)),(1008, .box 34 [.vsl 3 1039 (List.map Qb l8_2).length]),(1009, .box 3 [I l5_1]),(1010,Ym x6),(1039, .vec 38 3 (List.map Qb (List.set (List.set l8_2 (Int.toNat l8_1) (wi (x10.1+x11),x10.2.1,x10.2.2)) (Int.toNat l8_1) (wi (x10.1+x11),x10.2.1,wi (x10.2.2+x11))))),(1402,QM a0s),(1403, .box 3 [I x6.At]),(4000, .lp [(2,Jo),(3,NG),(8, .ptr 1008 0),(9, .ptr 1009 0),(10, .ptr 1010 0),(41, .p (.sl 8 (Z5 a0s.Chargers))),(42,I (Qc (Z5 a0s.Chargers))),(43,I l5_1),(51, .fn (.func 56) [] [.ptr 1403 0, .ptr 1402 0])] nf7 .ready none)]⟩ Qa zq
 refine YK Qe rfl (xR 2 Qa (Ze Qa Qa (UD (S:=3) (ty:=38) (tk:=1000) (k:=Int.toNat l8_1) (f:=0) (nn:=(List.map Qb l8_2).length) (es:=List.map Qb (List.set l8_2 (Int.toNat l8_1) (wi (x10.1+x11),x10.2.1,x10.2.2))) zq rfl Qa Qa) (Ze Qa Qa (Yt (S:=3) (ty:=38) (tk:=1000) (len:=3) (sz:=1) (e:=3) (kk:=Int.toNat l8_1) (g:=0) (k:=.i64) (n:=1) (es:=List.map Qb (List.set l8_2 (Int.toNat l8_1) (wi (x10.1+x11),x10.2.1,x10.2.2))) rfl Qa Qa Qa Qa Qa Qa) (Ze Qa Qa (G6 (S:=3) (tb:=38) (tk:=1000) (n:=Int.toNat l8_1) (f:=1) (enc:=Qb) (l:=List.set l8_2 (Int.toNat l8_1) (wi (x10.1+x11),x10.2.1,x10.2.2)) (v:=(wi (x10.1+x11),x10.2.1,x10.2.2)) (c:=I x10.2.1) rfl Qa Qa (YX (JP hx10)) Qa) (xR 2 Qa (Ze Qa Qa (UD (S:=3) (ty:=38) (tk:=1000) (k:=Int.toNat l8_1) (f:=0) (nn:=(List.map Qb l8_2).length) (es:=List.map Qb (List.set l8_2 (Int.toNat l8_1) (wi (x10.1+x11),x10.2.1,x10.2.2))) zq rfl Qa Qa) (Ze Qa Qa (Yt (S:=3) (ty:=38) (tk:=1000) (len:=3) (sz:=1) (e:=3) (kk:=Int.toNat l8_1) (g:=0) (k:=.i64) (n:=1) (es:=List.map Qb (List.set l8_2 (Int.toNat l8_1) (wi (x10.1+x11),x10.2.1,x10.2.2))) rfl Qa Qa Qa Qa Qa Qa) ?_)))))))
 refine Ze Qa Qa (Um (S:=3) (tb:=38) (tk:=1000) (n:=Int.toNat l8_1) (f:=1) (enc:=Qb) (l:=List.set l8_2 (Int.toNat l8_1) (wi (x10.1+x11),x10.2.1,x10.2.2)) (v:=(wi (x10.1+x11),x10.2.1,x10.2.2)) (v':=(wi (x10.1+x11),wi (x10.2.1+x11),x10.2.2)) (xv:=I (wi (x10.2.1+x11))) rfl Qa Qa Qa (YX (JP hx10)) Qa) (Yh Qa (QT (Qk ⟨[(0, .vptr 1000 (List.map Qb l8_2).length (Int.toNat l8_1) 0),(1,I x6.Phases),(2,I x11),(7,I 1)],[(1000, .vec 38 3 (List.map Qb (List.set (List.set l8_2 (Int.toNat l8_1) (wi (x10.1+x11),x10.2.1,x10.2.2)) (Int.toNat l8_1) (wi (x10.1+x11),wi (x10.2.1+x11),x10.2.2))))]⟩ Qa (sL Qe Qa (UB ⟨[0,1,2,7],[1000],[],[]⟩ ⟨[(0, .vptr 1000 (List.map Qb l8_2).length (Int.toNat l8_1) 0),(1,I x6.Phases),(2,I x11),(7,I 2)],[(1000, .vec 38 3 (List.map Qb (List.set (List.set l8_2 (Int.toNat l8_1) (wi (x10.1+x11),x10.2.1,x10.2.2)) (Int.toNat l8_1) (wi (x10.1+x11),wi (x10.2.1+x11),x10.2.2))))]⟩ Qa (Qg Qe ⟨[(0, .vptr 1000 (List.map Qb l8_2).length (Int.toNat l8_1) 0),(1,I x6.Phases),(2,I x11),(7,I 2),(8,B true)],[(1000, .vec 38 3 (List.map Qb (List.set (List.set l8_2 (Int.toNat l8_1) (wi (x10.1+x11),x10.2.1,x10.2.2)) (Int.toNat l8_1) (wi (x10.1+x11),wi (x10.2.1+x11),x10.2.2))))]⟩ Qa (sS (Q3 Qa (sK (Qk ⟨[(0, .vptr 1000 (List.map Qb l8_2).length (Int.toNat l8_1) 0),(1,I x6.Phases),(2,I x11),(7,I 2)],[(1000, .vec 38 3 (List.map Qb (List.set (List.set l8_2 (Int.toNat l8_1) (wi (x10.1+x11),x10.2.1,x10.2.2)) (Int.toNat l8_1) (wi (x10.1+x11),wi (x10.2.1+x11),x10.2.2))))]⟩ Qa (sS (sB (Qg Qe ⟨[(0, .vptr 1000 (List.map Qb l8_2).length (Int.toNat l8_1) 0),(1,I x6.Phases),(2,I x11),(6,I 2),(7,I 2)],[(1000, .vec 38 3 (List.map Qb (List.set (List.set l8_2 (Int.toNat l8_1) (wi (x10.1+x11),x10.2.1,x10.2.2)) (Int.toNat l8_1) (wi (x10.1+x11),wi (x10.2.1+x11),x10.2.2))))]⟩ Qa (Qg Qe ⟨[(0, .vptr 1000 (List.map Qb l8_2).length (Int.toNat l8_1) 0),(1,I x6.Phases),(2,I x11),(6,I 2),(7,I 2),(14,B (!Qs (Js .i64 x6.Phases (Wu .i64 1 2)) 0))],[(1000, .vec 38 3 (List.map Qb (List.set (List.set l8_2 (Int.toNat l8_1) (wi (x10.1+x11),x10.2.1,x10.2.2)) (Int.toNat l8_1) (wi (x10.1+x11),wi (x10.2.1+x11),x10.2.2))))]⟩ Qa (sC (!Qs (Js .i64 x6.Phases (Wu .i64 1 2)) 0) Qa ?_ ?_)))))))))))))))
 rotate_left
 ·exact sK (QT (Qk ⟨[(0, .vptr 1000 (List.map Qb l8_2).length (Int.toNat l8_1) 0),(1,I x6.Phases),(2,I x11),(7,I 2)],[(1000, .vec 38 3 (List.map Qb (List.set (List.set l8_2 (Int.toNat l8_1) (wi (x10.1+x11),x10.2.1,x10.2.2)) (Int.toNat l8_1) (wi (x10.1+x11),wi (x10.2.1+x11),x10.2.2))))]⟩ Qa (sL Qe Qa (UB ⟨[0,1,2,7],[1000],[],[]⟩ ⟨[(0, .vptr 1000 (List.map Qb l8_2).length (Int.toNat l8_1) 0),(1,I x6.Phases),(2,I x11),(7,I 3)],[(1000, .vec 38 3 (List.map Qb (List.set (List.set l8_2 (Int.toNat l8_1) (wi (x10.1+x11),x10.2.1,x10.2.2)) (Int.toNat l8_1) (wi (x10.1+x11),wi (x10.2.1+x11),x10.2.2))))]⟩ Qa (Qg Qe ⟨[(0, .vptr 1000 (List.map Qb l8_2).length (Int.toNat l8_1) 0),(1,I x6.Phases),(2,I x11),(7,I 3),(8,B false)],[(1000, .vec 38 3 (List.map Qb (List.set (List.set l8_2 (Int.toNat l8_1) (wi (x10.1+x11),x10.2.1,x10.2.2)) (Int.toNat l8_1) (wi (x10.1+x11),wi (x10.2.1+x11),x10.2.2))))]⟩ Qa (sS (QZ Qa (Qm (Zu (LV (QG (Ww (.id) [1000] [] (.tup []) Qa Qa (sW (QT (PS [1002,1003,1008,1009,1010,1039,1402,1403,4000] [] .busy none Qa Qa (Yq (xR 1 Qa (xE (vw (List.set (List.set l8_2 (Int.toNat l8_1) (wi (x10.1+x11),x10.2.1,x10.2.2)) (Int.toNat l8_1) (wi (x10.1+x11),wi (x10.2.1+x11),x10.2.2)) ⟨[0,2,4,17],[1002,1003,1008,1009,1010,1039,1402,1403,4000],[],[]⟩ ⟨[(0, .yv 4000),(2, .ptr 1402 0),(4,I l8_1),(17,B false)],[(1002,QM a0s),(1003,(Vk a1amps)),(1008, .box 34 [.vsl 3 1039 (List.map Qb l8_2).length]),(1009, .box 3 [I l5_1]),(1010,Ym x6),(1039, .vec 38 3 (List.map Qb (List.set (List.set l8_2 (Int.toNat l8_1) (wi (x10.1+x11),x10.2.1,x10.2.2)) (Int.toNat l8_1) (wi (x10.1+x11),wi (x10.2.1+x11),x10.2.2)))),(1402,QM a0s),(1403, .box 3 [I x6.At]),(4000, .lp [(2,Jo),(3,NG),(8, .ptr 1008 0),(9, .ptr 1009 0),(10, .ptr 1010 0),(41, .p (.sl 8 (Z5 a0s.Chargers))),(42,I (Qc (Z5 a0s.Chargers))),(43,I l5_1),(51, .fn (.func 56) [] [.ptr 1403 0, .ptr 1402 0])] nf7 .ready none)]⟩ Qa zq)))))))))))))))))))
 refine YK Qe rfl (xR 2 Qa (Ze Qa Qa (UD (S:=3) (ty:=38) (tk:=1000) (k:=Int.toNat l8_1) (f:=0) (nn:=(List.map Qb l8_2).length) (es:=List.map Qb (List.set (List.set l8_2 (Int.toNat l8_1) (wi (x10.1+x11),x10.2.1,x10.2.2)) (Int.toNat l8_1) (wi (x10.1+x11),wi (x10.2.1+x11),x10.2.2))) zq rfl Qa Qa) (Ze Qa Qa (Yt (S:=3) (ty:=38) (tk:=1000) (len:=3) (sz:=1) (e:=3) (kk:=Int.toNat l8_1) (g:=0) (k:=.i64) (n:=2) (es:=List.map Qb (List.set (List.set l8_2 (Int.toNat l8_1) (wi (x10.1+x11),x10.2.1,x10.2.2)) (Int.toNat l8_1) (wi (x10.1+x11),wi (x10.2.1+x11),x10.2.2))) rfl Qa Qa Qa Qa Qa Qa) (Ze Qa Qa (G6 (S:=3) (tb:=38) (tk:=1000) (n:=Int.toNat l8_1) (f:=2) (enc:=Qb) (l:=List.set (List.set l8_2 (Int.toNat l8_1) (wi (x10.1+x11),x10.2.1,x10.2.2)) (Int.toNat l8_1) (wi (x10.1+x11),wi (x10.2.1+x11),x10.2.2)) (v:=(wi (x10.1+x11),wi (x10.2.1+x11),x10.2.2)) (c:=I x10.2.2) rfl Qa Qa (YX (JP (JP hx10))) Qa) (xR 2 Qa (Ze Qa Qa (UD (S:=3) (ty:=38) (tk:=1000) (k:=Int.toNat l8_1) (f:=0) (nn:=(List.map Qb l8_2).length) (es:=List.map Qb (List.set (List.set l8_2 (Int.toNat l8_1) (wi (x10.1+x11),x10.2.1,x10.2.2)) (Int.toNat l8_1) (wi (x10.1+x11),wi (x10.2.1+x11),x10.2.2))) zq rfl Qa Qa) (Ze Qa Qa (Yt (S:=3) (ty:=38) (tk:=1000) (len:=3) (sz:=1) (e:=3) (kk:=Int.toNat l8_1) (g:=0) (k:=.i64) (n:=2) (es:=List.map Qb (List.set (List.set l8_2 (Int.toNat l8_1) (wi (x10.1+x11),x10.2.1,x10.2.2)) (Int.toNat l8_1) (wi (x10.1+x11),wi (x10.2.1+x11),x10.2.2))) rfl Qa Qa Qa Qa Qa Qa) ?_)))))))
 refine Ze Qa Qa (Um (S:=3) (tb:=38) (tk:=1000) (n:=Int.toNat l8_1) (f:=2) (enc:=Qb) (l:=List.set (List.set l8_2 (Int.toNat l8_1) (wi (x10.1+x11),x10.2.1,x10.2.2)) (Int.toNat l8_1) (wi (x10.1+x11),wi (x10.2.1+x11),x10.2.2)) (v:=(wi (x10.1+x11),wi (x10.2.1+x11),x10.2.2)) (v':=(wi (x10.1+x11),wi (x10.2.1+x11),wi (x10.2.2+x11))) (xv:=I (wi (x10.2.2+x11))) rfl Qa Qa Qa (YX (JP (JP hx10))) Qa) (Yh Qa (QT (Qk ⟨[(0, .vptr 1000 (List.map Qb l8_2).length (Int.toNat l8_1) 0),(1,I x6.Phases),(2,I x11),(7,I 2)],[(1000, .vec 38 3 (List.map Qb (List.set (List.set (List.set l8_2 (Int.toNat l8_1) (wi (x10.1+x11),x10.2.1,x10.2.2)) (Int.toNat l8_1) (wi (x10.1+x11),wi (x10.2.1+x11),x10.2.2)) (Int.toNat l8_1) (wi (x10.1+x11),wi (x10.2.1+x11),wi (x10.2.2+x11)))))]⟩ Qa (sL Qe Qa (UB ⟨[0,1,2,7],[1000],[],[]⟩ ⟨[(0, .vptr 1000 (List.map Qb l8_2).length (Int.toNat l8_1) 0),(1,I x6.Phases),(2,I x11),(7,I 3)],[(1000, .vec 38 3 (List.map Qb (List.set (List.set (List.set l8_2 (Int.toNat l8_1) (wi (x10.1+x11),x10.2.1,x10.2.2)) (Int.toNat l8_1) (wi (x10.1+x11),wi (x10.2.1+x11),x10.2.2)) (Int.toNat l8_1) (wi (x10.1+x11),wi (x10.2.1+x11),wi (x10.2.2+x11)))))]⟩ Qa (Qg Qe ⟨[(0, .vptr 1000 (List.map Qb l8_2).length (Int.toNat l8_1) 0),(1,I x6.Phases),(2,I x11),(7,I 3),(8,B false)],[(1000, .vec 38 3 (List.map Qb (List.set (List.set (List.set l8_2 (Int.toNat l8_1) (wi (x10.1+x11),x10.2.1,x10.2.2)) (Int.toNat l8_1) (wi (x10.1+x11),wi (x10.2.1+x11),x10.2.2)) (Int.toNat l8_1) (wi (x10.1+x11),wi (x10.2.1+x11),wi (x10.2.2+x11)))))]⟩ Qa (sS (QZ Qa (Qm (Zu (LV (QG (Ww (.id) [1000] [] (.tup []) Qa Qa (sW (QT (PS [1002,1003,1008,1009,1010,1039,1402,1403,4000] [] .busy none Qa Qa (Yq (xR 1 Qa (xE ?_)))))))))))))))))))
 exact vw (List.set (List.set (List.set l8_2 (Int.toNat l8_1) (wi (x10.1+x11),x10.2.1,x10.2.2)) (Int.toNat l8_1) (wi (x10.1+x11),wi (x10.2.1+x11),x10.2.2)) (Int.toNat l8_1) (wi (x10.1+x11),wi (x10.2.1+x11),wi (x10.2.2+x11))) ⟨[0,2,4,17],[1002,1003,1008,1009,1010,1039,1402,1403,4000],[],[]⟩ ⟨[(0, .yv 4000),(2, .ptr 1402 0),(4,I l8_1),(17,B false)],[(1002,QM a0s),(1003,(Vk a1amps)),(1008, .box 34 [.vsl 3 1039 (List.map Qb l8_2).length]),(1009, .box 3 [I l5_1]),(1010,Ym x6),(1039, .vec 38 3 (List.map Qb (List.set (List.set (List.set l8_2 (Int.toNat l8_1) (wi (x10.1+x11),x10.2.1,x10.2.2)) (Int.toNat l8_1) (wi (x10.1+x11),wi (x10.2.1+x11),x10.2.2)) (Int.toNat l8_1) (wi (x10.1+x11),wi (x10.2.1+x11),wi (x10.2.2+x11))))),(1402,QM a0s),(1403, .box 3 [I x6.At]),(4000, .lp [(2,Jo),(3,NG),(8, .ptr 1008 0),(9, .ptr 1009 0),(10, .ptr 1010 0),(41, .p (.sl 8 (Z5 a0s.Chargers))),(42,I (Qc (Z5 a0s.Chargers))),(43,I l5_1),(51, .fn (.func 56) [] [.ptr 1403 0, .ptr 1402 0])] nf7 .ready none)]⟩ Qa zq
def VN (n:Nat) (a0n:Int) (a1least:Int) (a2greatest:Int):Option Bool :=
 cond (leI a1least a0n)
  (some (leI a0n a2greatest))
  (some false)
def rZ:=fun x0 x1 x2=>(⟨[(0,I x0),(1,I x1),(2,I x2)],[]⟩:St)
theorem WE (n:Nat) (a0n:Int) (a1least:Int) (a2greatest:Int):∀ r,VN n a0n a1least a2greatest=some r→Q0 Tryz.prog 70 [I a0n,I a1least,I a2greatest] (.ret (B r)):=by
 refine Qp Tryz.func70 rfl Tryz.ntmps70 rfl ?_
 unfold VN
 exact Qg Qe (rZ a0n a1least a2greatest) Qa (sS (sG (xR 4 Qa (xS (leI a1least a0n) (fun h1=>xO (Qt Qa h1) Qa (xR 4 Qa (xE (Qk ⟨[(6,B (leI a0n a2greatest))],[]⟩ Qa (sT (qR (.id) Qa Qa Qa)))))) (fun h1=>xN (Qu Qa h1) Qa (xR 4 Qa (xE (Qk ⟨[(6,B false)],[]⟩ Qa (sT (qR (.id) Qa Qa Qa))))))))))
def FO (n:Nat) (a0c:KN):Option Bool :=
 cond (Dw ((Qs a0c.Ambient 0)&&((Qs a0c.Most 0)&&((Qs a0c.Gain 0)&&((Qs a0c.Loss 0)&&((Qs a0c.Den 0)&&true))))))
  (some true)
  (((VN n a0c.Ambient 0 200000).bind fun r2 =>
  cond r2
   (cond (QL a0c.Ambient a0c.Most)
    (cond (leI a0c.Most 200000)
     ((VN n a0c.Gain 0 1000).bind fun r6 =>
     cond r6
      ((VN n a0c.Loss 0 1000).bind fun r8 =>
      cond r8
       ((VN n a0c.Den 1 1000000).bind fun r10 =>
       some r10)
       (some false))
      (some false))
     (some false))
    (some false))
   (some false)).bind fun j1 =>
  some j1)
theorem NV (n:Nat) (a0c:KN):∀ r,FO n a0c=some r→Q0 Tryz.prog 34 [ag (KN.cs a0c)] (.ret (B r)):=by
 refine Qp Tryz.func34 rfl Tryz.ntmps34 rfl ?_
 unfold FO
 refine Qg Qe ⟨[qq 1],vW a0c⟩ Qa (sS (sS (sG (xR 2 Qa (Ze Qa Qa (Eg (xs:=[I a0c.Ambient,I a0c.Most,I a0c.Gain,I a0c.Loss,I a0c.Den]) (ys:=[I 0,I 0,I 0,I 0,I 0]) (vx:=[.int .i64 a0c.Ambient, .int .i64 a0c.Most, .int .i64 a0c.Gain, .int .i64 a0c.Loss, .int .i64 a0c.Den]) (vy:=[.int .i64 0, .int .i64 0, .int .i64 0, .int .i64 0, .int .i64 0]) (b:=(Qs a0c.Ambient 0)&&((Qs a0c.Most 0)&&((Qs a0c.Gain 0)&&((Qs a0c.Loss 0)&&((Qs a0c.Den 0)&&true))))) rfl Qa Qa Qa Qa Qa Qa) (xE (Qk ⟨[qq 1,(5,B (Dw ((Qs a0c.Ambient 0)&&((Qs a0c.Most 0)&&((Qs a0c.Gain 0)&&((Qs a0c.Loss 0)&&((Qs a0c.Den 0)&&true)))))))],vW a0c⟩ Qa (sC (Dw ((Qs a0c.Ambient 0)&&((Qs a0c.Most 0)&&((Qs a0c.Gain 0)&&((Qs a0c.Loss 0)&&((Qs a0c.Den 0)&&true)))))) Qa (Qg Qe ⟨[(2,B true)],[]⟩ Qa (sT (QY (qR (.id) Qa Qa Qa)))) (sK (Qk ⟨[qq 1],vW a0c⟩ Qa (KM (fun j1=>⟨[(2,B j1)],[]⟩:Bool→St) ?_ ?_)))))))))))
 rotate_left
 ·rintro j1
  exact sT (qR (.id) Qa Qa Qa)
 refine sG (xR 2 Qa ?_)
 refine xC [] Qa (WE n a0c.Ambient 0 200000) Qa Qa QW (fun r2=>?_)
 refine xR 1 Qa (xS r2 (fun h3=>xO (Qt Qa h3) Qa (xR 6 Qa (xS (QL a0c.Ambient a0c.Most) (fun h4=>xO (Qt Qa h4) Qa (xR 4 Qa (xS (leI a0c.Most 200000) (fun h5=>xO (Qt Qa h5) Qa (xR 1 Qa ?_)) (fun h5=>xN (Qu Qa h5) Qa (xR 14 Qa (xE (QV false Qa))))))) (fun h4=>xN (Qu Qa h4) Qa (xR 19 Qa (xE (QV false Qa))))))) (fun h3=>xN (Qu Qa h3) Qa (xR 26 Qa (xE (QV false Qa)))))
 refine xC [] Qa (WE n a0c.Gain 0 1000) Qa Qa QW (fun r6=>?_)
 refine xR 2 Qa (xS r6 (fun h7=>?_) (fun h7=>?_))
 ·refine xO (Qt Qa h7) Qa (xR 1 Qa ?_)
  refine xC [] Qa (WE n a0c.Loss 0 1000) Qa Qa QW (fun r8=>?_)
  refine xR 2 Qa (xS r8 (fun h9=>?_) (fun h9=>?_))
  ·refine xO (Qt Qa h9) Qa (xR 1 Qa ?_)
   refine xC [] Qa (WE n a0c.Den 1 1000000) Qa Qa QW (fun r10=>?_)
   exact xR 2 Qa (xE (QV r10 Qa))
  exact xN (Qu Qa h9) Qa (xR 4 Qa (xE (QV false Qa)))
 exact xN (Qu Qa h7) Qa (xR 9 Qa (xE (QV false Qa)))
def XG (n:Nat) (a0w:Z6):Option Bool :=
 some (Dw ((Qs a0w.Cable.Ambient 0)&&((Qs a0w.Cable.Most 0)&&((Qs a0w.Cable.Gain 0)&&((Qs a0w.Cable.Loss 0)&&((Qs a0w.Cable.Den 0)&&true))))))
theorem TK (n:Nat) (a0w:Z6):∀ r,XG n a0w=some r→Q0 Tryz.prog 35 [.eptr (Z6.cs a0w)] (.ret (B r)):=by
 refine Qp Tryz.func35 rfl Tryz.ntmps35 rfl ?_
 unfold XG
 exact Qg Qe ⟨[(0, .eptr (Z6.cs a0w))],[]⟩ Qa (sS (sG (xR 5 Qa (Ze Qa Qa (Eg (xs:=[I a0w.Cable.Ambient,I a0w.Cable.Most,I a0w.Cable.Gain,I a0w.Cable.Loss,I a0w.Cable.Den]) (ys:=[I 0,I 0,I 0,I 0,I 0]) (vx:=[.int .i64 a0w.Cable.Ambient, .int .i64 a0w.Cable.Most, .int .i64 a0w.Cable.Gain, .int .i64 a0w.Cable.Loss, .int .i64 a0w.Cable.Den]) (vy:=[.int .i64 0, .int .i64 0, .int .i64 0, .int .i64 0, .int .i64 0]) (b:=(Qs a0w.Cable.Ambient 0)&&((Qs a0w.Cable.Most 0)&&((Qs a0w.Cable.Gain 0)&&((Qs a0w.Cable.Loss 0)&&((Qs a0w.Cable.Den 0)&&true))))) rfl Qa Qa Qa Qa Qa Qa) (xR 1 Qa (xE (Qk ⟨[(2,B (Dw ((Qs a0w.Cable.Ambient 0)&&((Qs a0w.Cable.Most 0)&&((Qs a0w.Cable.Gain 0)&&((Qs a0w.Cable.Loss 0)&&((Qs a0w.Cable.Den 0)&&true)))))))],[]⟩ Qa (sT (qR (.id) Qa Qa Qa)))))))))
def XH (n:Nat) (a0w:Z6):Option Int :=
 some (Fu a0w.Cable.Loss a0w.Cable.Den)
theorem TL (n:Nat) (a0w:Z6):∀ r,XH n a0w=some r→Q0 Tryz.prog 36 [.eptr (Z6.cs a0w)] (.ret (I r)):=by
 refine Qp Tryz.func36 rfl Tryz.ntmps36 rfl ?_
 unfold XH
 exact Qg Qe ⟨[(0, .eptr (Z6.cs a0w))],[]⟩ Qa (Qg Qe ⟨[(2,I (Fu a0w.Cable.Loss a0w.Cable.Den))],[]⟩ Qa (sT (qR (.id) Qa Qa Qa)))
def WZ (a0c:KN) (r3:Int) (recl5:(Int × Int)→Option Int) (l5_1:Int) (l5_2:Int):Option Int :=
 cond (QL l5_1 l5_2)
  (cond (leI (wi ((wi (a0c.Gain * (wi (l5_1+(wi (Int.tdiv (wi ((wi (l5_2 - l5_1))+1)) 2)))))) * (wi (l5_1+(wi (Int.tdiv (wi ((wi (l5_2 - l5_1))+1)) 2)))))) (wi (r3 * (wi (a0c.Most - a0c.Ambient)))))
   (recl5 (wi (l5_1+(wi (Int.tdiv (wi ((wi (l5_2 - l5_1))+1)) 2))),l5_2))
   (recl5 (l5_1,wi ((wi (l5_1+(wi (Int.tdiv (wi ((wi (l5_2 - l5_1))+1)) 2)))) - 1))))
  (some l5_1)
def XI (n:Nat) (a0c:KN):Option (Int × Int) :=
 (FO n a0c).bind fun r1 =>
 cond (!r1)
  (some (0,1))
  ((XG n (⟨a0c,0⟩:Z6)).bind fun r2 =>
  cond r2
   (some (1000,0))
   ((XH n (⟨a0c,0⟩:Z6)).bind fun r3 =>
   (Q4 (fun recl5 (l5_1,l5_2)=>WZ a0c r3 recl5 l5_1 l5_2) n (0,1000)).bind fun j4 =>
   some (j4,0)))
def jB:=fun x0=>([(4, .box 90 [.ptr 11 0]),(11, .box 92 (Kw (Z6.cs x0)))]:List (Nat × Blk))
def Ru:=fun x0 x1=>([(1000,(nH x0)),(1001, .box 92 (Kw (Z6.cs x1))),(1002, .box 90 [.ptr 1001 0])]:List (Nat × Blk))
def nM:=fun x0 x1=>([(0,I x0),(1,I x1),(2, .fn (.func 38) [] [.ptr 1002 0, .ptr 1000 0])]:List (Nat × AV))
theorem TM (n:Nat) (a0c:KN):∀ r,XI n a0c=some r→Q0 Tryz.prog 13 [ag (KN.cs a0c)] (.ret (.tup [I r.1,I r.2])):=by
 refine Qp Tryz.func13 rfl Tryz.ntmps13 rfl ?_
 unfold XI
 refine Qg Qe ⟨[qq 1],vW a0c⟩ Qa (sS (sS (sG (xR 1 Qa ?_))))
 refine xC [] Qa (NV n a0c) Qa Qa QW (fun r1=>?_)
 refine xR 1 Qa (xE (Qk ⟨[qq 1,(8,B (!r1))],vW a0c⟩ Qa (sC (!r1) Qa (Qg Qe ⟨[(2,I 0),(3,I 1)],[]⟩ Qa (sT (QY (qR (.id) Qa Qa Qa)))) (sK (Qk ⟨[qq 1],vW a0c⟩ Qa (Qg Qe ⟨[qq 4],jB ⟨a0c,0⟩⟩ Qa (sS (sS (sG (xR 1 Qa ?_))))))))))
 refine Gh [.ro []] Qa (TK n (⟨a0c,0⟩:Z6)) Qa Qa QW (fun r2=>?_)
 refine xE (Qk ⟨[qq 4,(13,B r2)],jB ⟨a0c,0⟩⟩ Qa (sC r2 Qa (Qg Qe ⟨[(2,I 1000),(3,I 0)],[]⟩ Qa (sT (QY (qR (.id) Qa Qa Qa)))) (sK (Qk ⟨[qq 4],jB ⟨a0c,0⟩⟩ Qa (sS (M3 ⟨[qq 4],jB ⟨a0c,0⟩⟩ Qa (SV [0,2,3,4,5,6,7,8,9,10,11,12] 14 5 [1,13,14,15] Qe rfl Qa Qa (Qo (Qz (.ptr 11 0) Qa rfl) (Qo (Qz (.ptr 11 0) Qa rfl) (Qo (Qz (.ptr 11 0) Qa rfl) (Qo (Qz (.ptr 11 0) Qa rfl) (Qo (Qz (.ptr 11 1) Qa rfl) (Qo (Qz (I a0c.Most) Qa rfl) (Qo (Qz (.ptr 11 0) Qa rfl) (Qo (Qz (.ptr 11 0) Qa rfl) (Qo (Qz (.ptr 11 0) Qa rfl) (Qo (Qz (.ptr 11 0) Qa rfl) (Qo (Qz (I a0c.Ambient) Qa rfl) (Qo (Qz (I (wi (a0c.Most - a0c.Ambient))) Qa rfl) (Ql))))))))))))) Qa (BO (f:=36) (args:=[.ptr 11 0]) (dst:=some 15) Qa Qa rfl ?_))))))))
 refine tq [.ro []] (TL n (⟨a0c,0⟩:Z6)) Qa Qa QW (fun r3=>?_)
 refine kf [2,3,4,5,6,7,8,9,10,11,12] Qa (Qo (Qz (.ptr 11 0) Qa rfl) (Qo (Qz (.ptr 11 0) Qa rfl) (Qo (Qz (.ptr 11 0) Qa rfl) (Qo (Qz (.ptr 11 1) Qa rfl) (Qo (Qz (I a0c.Most) Qa rfl) (Qo (Qz (.ptr 11 0) Qa rfl) (Qo (Qz (.ptr 11 0) Qa rfl) (Qo (Qz (.ptr 11 0) Qa rfl) (Qo (Qz (.ptr 11 0) Qa rfl) (Qo (Qz (I a0c.Ambient) Qa rfl) (Qo (Qz (I (wi (a0c.Most - a0c.Ambient))) Qa rfl) (Ql)))))))))))) Qa (df [] rfl Qa Qa (Ql) Qa (f_q [0,2,3,4,5,6,7,8,9,10,11,12] Qa Qa (Qo (Qz (.ptr 11 0) Qa rfl) (Qo (Qz (.ptr 11 0) Qa rfl) (Qo (Qz (.ptr 11 0) Qa rfl) (Qo (Qz (.ptr 11 0) Qa rfl) (Qo (Qz (.ptr 11 1) Qa rfl) (Qo (Qz (I a0c.Most) Qa rfl) (Qo (Qz (.ptr 11 0) Qa rfl) (Qo (Qz (.ptr 11 0) Qa rfl) (Qo (Qz (.ptr 11 0) Qa rfl) (Qo (Qz (.ptr 11 0) Qa rfl) (Qo (Qz (I a0c.Ambient) Qa rfl) (Qo (Qz (I (wi (a0c.Most - a0c.Ambient))) Qa rfl) (Ql))))))))))))) (df [] rfl Qa Qa (Ql) Qa (mP (Qk ⟨[qq 4,qq 5],[(4, .box 90 [.ptr 11 0]),(5,(nH (wi (r3 * (wi (a0c.Most - a0c.Ambient)))))),(11, .box 92 (Kw (Z6.cs ⟨a0c,0⟩)))]⟩ Qa (sS (sG (xR 1 Qa (Yr (Ru (wi (r3 * (wi (a0c.Most - a0c.Ambient)))) ⟨a0c,0⟩) [I 0,I 1000, .fn (.func 38) [] [Jo,Ka]] [(1002,4),(1000,5),(1001,11)] [] [] Qa Tryz.func37 rfl Tryz.ntmps37 rfl Qa Qa Qa (Qg Qe ⟨nM 0 1000,Ru (wi (r3 * (wi (a0c.Most - a0c.Ambient)))) ⟨a0c,0⟩⟩ Qa (KM (fun j4=>⟨[(0,I j4)],Ru (wi (r3 * (wi (a0c.Most - a0c.Ambient)))) ⟨a0c,0⟩⟩:Int→St) ?_ ?_)))))))))))
 rotate_left
 ·rintro j4
  exact Qg Qe ⟨[(6,I j4)],Ru (wi (r3 * (wi (a0c.Most - a0c.Ambient)))) ⟨a0c,0⟩⟩ Qa (sT (QN (.id) [1000,1001,1002] [] (I j4) Qa Qa (Yq (xR 2 Qa (xE (Qk ⟨[(2,I j4),(3,I 0)],[]⟩ Qa (sT (qR (.id) Qa Qa Qa))))))))
 refine sB (Qw (fun (l5_1,l5_2)=>⟨nM l5_1 l5_2,Ru (wi (r3 * (wi (a0c.Most - a0c.Ambient)))) ⟨a0c,0⟩⟩:(Int × Int)→St) (Wq Qa) ?_)
 rintro recl5 ⟨l5_1,l5_2⟩
 show QU (WZ a0c r3 recl5 l5_1 l5_2) _ _ _ _ _ _
 unfold WZ
 exact sS (Qg Qe ⟨[(0,I l5_1),(1,I l5_2),(2, .fn (.func 38) [] [Jo,Ka]),(10,B (QL l5_1 l5_2))],Ru (wi (r3 * (wi (a0c.Most - a0c.Ambient)))) ⟨a0c,0⟩⟩ Qa (sC (QL l5_1 l5_2) Qa (sK (Qk ⟨nM l5_1 l5_2,Ru (wi (r3 * (wi (a0c.Most - a0c.Ambient)))) ⟨a0c,0⟩⟩ Qa (sB (Qg Qe ⟨[(0,I l5_1),(1,I l5_2),(2, .fn (.func 38) [] [Jo,Ka]),(7,I (wi (l5_1+(wi (Int.tdiv (wi ((wi (l5_2 - l5_1))+1)) 2)))))],Ru (wi (r3 * (wi (a0c.Most - a0c.Ambient)))) ⟨a0c,0⟩⟩ Qa (sS (sG (xR 2 Qa (Yr (Ru (wi (r3 * (wi (a0c.Most - a0c.Ambient)))) ⟨a0c,0⟩) [I (wi (l5_1+(wi (Int.tdiv (wi ((wi (l5_2 - l5_1))+1)) 2)))),Jo,Ka] nq2 [] [] Qa Tryz.func38 rfl Tryz.ntmps38 rfl Qa Qa Qa (Qg Qe ⟨[(0,I (wi (l5_1+(wi (Int.tdiv (wi ((wi (l5_2 - l5_1))+1)) 2))))),(1,Jo),(2,Ka)],Ru (wi (r3 * (wi (a0c.Most - a0c.Ambient)))) ⟨a0c,0⟩⟩ Qa (Qg Qe ⟨[(4,B (leI (wi ((wi (a0c.Gain * (wi (l5_1+(wi (Int.tdiv (wi ((wi (l5_2 - l5_1))+1)) 2)))))) * (wi (l5_1+(wi (Int.tdiv (wi ((wi (l5_2 - l5_1))+1)) 2)))))) (wi (r3 * (wi (a0c.Most - a0c.Ambient))))))],Ru (wi (r3 * (wi (a0c.Most - a0c.Ambient)))) ⟨a0c,0⟩⟩ Qa (sT (QN (.id) [1000,1001,1002] [] (B (leI (wi ((wi (a0c.Gain * (wi (l5_1+(wi (Int.tdiv (wi ((wi (l5_2 - l5_1))+1)) 2)))))) * (wi (l5_1+(wi (Int.tdiv (wi ((wi (l5_2 - l5_1))+1)) 2)))))) (wi (r3 * (wi (a0c.Most - a0c.Ambient)))))) Qa Qa (Yq (xE (Qk ⟨[(0,I l5_1),(1,I l5_2),(2, .fn (.func 38) [] [Jo,Ka]),(7,I (wi (l5_1+(wi (Int.tdiv (wi ((wi (l5_2 - l5_1))+1)) 2))))),(20,B (leI (wi ((wi (a0c.Gain * (wi (l5_1+(wi (Int.tdiv (wi ((wi (l5_2 - l5_1))+1)) 2)))))) * (wi (l5_1+(wi (Int.tdiv (wi ((wi (l5_2 - l5_1))+1)) 2)))))) (wi (r3 * (wi (a0c.Most - a0c.Ambient))))))],Ru (wi (r3 * (wi (a0c.Most - a0c.Ambient)))) ⟨a0c,0⟩⟩ Qa (sC (leI (wi ((wi (a0c.Gain * (wi (l5_1+(wi (Int.tdiv (wi ((wi (l5_2 - l5_1))+1)) 2)))))) * (wi (l5_1+(wi (Int.tdiv (wi ((wi (l5_2 - l5_1))+1)) 2)))))) (wi (r3 * (wi (a0c.Most - a0c.Ambient))))) Qa (sL Qe Qa (QT (Ky (wi (l5_1+(wi (Int.tdiv (wi ((wi (l5_2 - l5_1))+1)) 2))),l5_2) Qa))) (sL Qe Qa (QT (Ky (l5_1,wi ((wi (l5_1+(wi (Int.tdiv (wi ((wi (l5_2 - l5_1))+1)) 2)))) - 1)) Qa))))))))))))))))))) (Qm (Zu (ZP (QG (QV l5_1 Qa)))))))
def XJ (a1others:List Int) (recl1:(Int × Int)→Option Int) (l1_1:Int) (l1_2:Int):Option Int :=
 cond (QL l1_2 (Qc (List.map ci a1others)))
  ((Zc a1others l1_2).bind fun x2 =>
  recl1 (Fu l1_1 x2,wi (l1_2+1)))
  (some l1_1)
def XK (n:Nat) (a0first:Int) (a1others:List Int):Option Int :=
 Q4 (fun recl1 (l1_1,l1_2)=>XJ a1others recl1 l1_1 l1_2) n (a0first,0)
def jC:=fun x0 x1 x2=>([(0,I x0),(7, .p (.sl 1 (List.map ci x1))),(8,I (Qc (List.map ci x1))),(9,I x2)]:List (Nat × AV))
theorem Ff (n:Nat) (a0first:Int) (a1others:List Int):∀ r,XK n a0first a1others=some r→Q0 Tryz.prog 65 [I a0first, .p (.sl 1 (List.map ci a1others))] (.ret (I r)):=by
 refine Qp Tryz.func65 rfl Tryz.ntmps65 rfl ?_
 unfold XK
 refine Qg Qe ⟨[(0,I a0first),(1, .p (.sl 1 (List.map ci a1others)))],[]⟩ Qa (sS (Qg Qe ⟨jC a0first a1others 0,[]⟩ Qa (sB (Qw (fun (l1_1,l1_2)=>⟨jC l1_1 a1others l1_2,[]⟩:(Int × Int)→St) (Wq Qa) ?_))))
 rintro recl1 ⟨l1_1,l1_2⟩
 show QU (XJ a1others recl1 l1_1 l1_2) _ _ _ _ _ _
 unfold XJ
 exact Qg Qe ⟨[(0,I l1_1),(7, .p (.sl 1 (List.map ci a1others))),(8,I (Qc (List.map ci a1others))),(9,I l1_2),(10,B (QL l1_2 (Qc (List.map ci a1others))))],[]⟩ Qa (sS (sC (QL l1_2 (Qc (List.map ci a1others))) Qa (sK (Qk ⟨jC l1_1 a1others l1_2,[]⟩ Qa (sS (sB (sS (sG (xG Qa Qa (QC (e:=3) (S:=1) (enc:=ci) (l:=a1others) (k:=.i64) (n:=l1_2) (sv:=.p (.sl 1 (List.map ci a1others))) rfl Qa Qa Qa Qa Qa) (fun x2=>xR 2 Qa (xE (Qk ⟨[(0,I l1_1),(6,I x2),(7, .p (.sl 1 (List.map ci a1others))),(8,I (Qc (List.map ci a1others))),(9,I l1_2)],[]⟩ Qa (sL Qe Qa (QT (Qk ⟨jC (Fu l1_1 x2) a1others l1_2,[]⟩ Qa (sL Qe Qa (Ky (Fu l1_1 x2,wi (l1_2+1)) Qa))))))))))))))) (Qm (Zu (ZP (QG (Qk ⟨[(0,I l1_1)],[]⟩ Qa (Qg Qe ⟨[(4,I l1_1)],[]⟩ Qa (sT (qR (.id) Qa Qa Qa))))))))))
def VO (n:Nat) (a0c:ZI):Option Int :=
 (XI n a0c.Cable).bind fun r1 =>
 (cond (!Qs r1.2 0)
  (some 0)
  (some r1.1)).bind fun j2 =>
 cond (Qs a0c.Fuse.Rated 0)
  ((XK n a0c.Limit [a0c.Neutral,j2]).bind fun r3 =>
  some r3)
  ((XK n a0c.Limit [a0c.Neutral,j2,a0c.Fuse.Rated]).bind fun r4 =>
  some r4)
def Og:=fun x0=>([(1, .box 54 (Kw (ZI.cs x0)))]:List (Nat × Blk))
theorem WF (n:Nat) (a0c:ZI):∀ r,VO n a0c=some r→Q0 Tryz.prog 30 [ag (ZI.cs a0c)] (.ret (I r)):=by
 refine Qp Tryz.func30 rfl Tryz.ntmps30 rfl ?_
 unfold VO
 refine Qg Qe ⟨[qq 1],Og a0c⟩ Qa (sS (sG (xR 2 Qa ?_)))
 refine xC [] Qa (TM n a0c.Cable) Qa Qa QW (fun r1=>?_)
 refine xR 5 Qa (xE (Qk ⟨[qq 1,(3,I r1.1),(4,I r1.2)],Og a0c⟩ Qa (KM (fun j2=>⟨[qq 1,(3,I j2)],Og a0c⟩:Int→St) (Qg Qe ⟨[qq 1,(3,I r1.1),(12,B (!Qs r1.2 0))],Og a0c⟩ Qa (sC (!Qs r1.2 0) Qa (sL Qe Qa (QV 0 Qa)) (sK (QV r1.1 Qa)))) ?_)))
 rintro j2
 refine sS (Qg Qe ⟨[qq 1,(3,I j2),(16,B (Qs a0c.Fuse.Rated 0))],Og a0c⟩ Qa (sC (Qs a0c.Fuse.Rated 0) Qa ?_ ?_))
 ·refine sS (sG (xR 6 Qa ?_))
  refine xC [.id, .sl 1] Qa (Ff n a0c.Limit [a0c.Neutral,j2]) Qa Qa QW (fun r3=>?_)
  exact xR 1 Qa (xE (Qk ⟨[(2,I r3)],[]⟩ Qa (sT (QY (qR (.id) Qa Qa Qa)))))
 refine sK (Qk ⟨[qq 1,(3,I j2)],Og a0c⟩ Qa (sS (sG (xR 9 Qa ?_))))
 refine xC [.id, .sl 1] Qa (Ff n a0c.Limit [a0c.Neutral,j2,a0c.Fuse.Rated]) Qa Qa QW (fun r4=>?_)
 exact xR 1 Qa (xE (Qk ⟨[(2,I r4)],[]⟩ Qa (sT (qR (.id) Qa Qa Qa))))
def XL (n:Nat) (a0s:Qj) (r1:(List (Int × Int × Int)) × Int) (recl3:Int→Option (ZT × Bool × Int)) (l3:Int):Option (ZT × Bool × Int) :=
 cond (QL l3 (Qc (List.map ZI.cs a0s.Conductors)))
  ((Zc r1.1 l3).bind fun x5 =>
  (Zc a0s.Conductors l3).bind fun x6 =>
  (VO n x6).bind fun r7 =>
  cond (QL r7 x5.1)
   (some ((⟨l3,0,x5.1⟩:ZT),true,0))
   ((Zc r1.1 l3).bind fun x9 =>
   (Zc a0s.Conductors l3).bind fun x10 =>
   (VO n x10).bind fun r11 =>
   cond (QL r11 x9.2.1)
    (some ((⟨l3,1,x9.2.1⟩:ZT),true,0))
    ((Zc r1.1 l3).bind fun x13 =>
    (Zc a0s.Conductors l3).bind fun x14 =>
    (VO n x14).bind fun r15 =>
    cond (QL r15 x13.2.2)
     (some ((⟨l3,2,x13.2.2⟩:ZT),true,0))
     (recl3 (wi (l3+1))))))
  (some ((⟨0,0,0⟩:ZT),false,0))
def Gz (n:Nat) (a0s:Qj) (a1amps:List Int):Option (ZT × Bool × Int) :=
 (V8 n a0s a1amps).bind fun r1 =>
 cond (!Qs r1.2 0)
  (some ((⟨0,0,0⟩:ZT),false,1))
  (Q4 (fun recl3 l3=>XL n a0s r1 recl3 l3) n 0)
def QbR:=fun x0=>(.box 34 [.p (.sl 3 (List.map Qb x0))]:Blk)
def jD:=fun x0 x1=>([(2, .box 28 (Kw (Qj.cs x0))),(4, .box 46 [I 0,I 0,I 0]),(5, .box 4 [B false]),(6, .box 35 [I 0]),(7,(QbR x1))]:List (Nat × Blk))
def AA:List (Nat × AV):=[(4, .ptr 4 0),(5, .ptr 5 0),(6, .ptr 6 0)]
def AB:=fun x0 x1 x2 x3 x4=>([(4, .box 46 [I x0,I x1,I x2]),(5, .box 4 [B x3]),(6, .box 35 [I x4])]:List (Nat × Blk))
def QbS:List (Nat × AV):=[(2, .ptr 2 0),(4, .ptr 4 0),(5, .ptr 5 0),(6, .ptr 6 0),(7, .ptr 7 0),(21, .fn (.func 64) [] [.ptr 401 0])]
def QbT:=fun x0 x1=>(⟨QbS,jD x0 x1++[(401, .box 28 (Kw (Qj.cs x0)))]⟩:St)
def Yg:=fun x0 x1 x2 x3 x4 x5 x6=>([(1002, .box 28 (Kw (Qj.cs x0))),(1004, .box 46 [I x1,I x2,I x3]),(1005, .box 4 [B x4]),(1006, .box 35 [I 0]),(1007,(QbR x5)),(1401, .box 28 (Kw (Qj.cs x0))),(4000,x6)]:List (Nat × Blk))
def K6:List (Nat × AV):=[(2, .ptr 1002 0),(4, .ptr 1004 0),(5, .ptr 1005 0),(6, .ptr 1006 0),(7, .ptr 1007 0),(21, .fn (.func 64) [] [.ptr 1401 0])]
def jE:=fun x0 x1=>([(0,(.yv 4000)),(7,I (Qc (List.map ZI.cs (Qj.Conductors x0)))),(8,I x1)]:List (Nat × AV))
def QbU:=fun x0 x1 x2=>([(0,(.yv 4000)),(3,I x0),(7,I (Qc (List.map ZI.cs (Qj.Conductors x1)))),(8,I x0),(11,I x2)]:List (Nat × AV))
def Iy:=fun x0 x1 x2 x3 x4=>(⟨QbU x0 x1 x2,Yg x1 0 0 0 false x3 x4⟩:St)
def jF:=fun x0 x1 x2 x3=>([(0,(.yv 4000)),(3,I x0),(7,I (Qc (List.map ZI.cs (Qj.Conductors x1)))),(8,I x0),(11,I x2),(12,B x3)]:List (Nat × AV))
def nN:=fun x0 x1 x2 x3=>([(0,(.yv 4000)),(3,I x0),(4,I x1),(7,I (Qc (List.map ZI.cs (Qj.Conductors x2)))),(8,I x0),(11,I x3)]:List (Nat × AV))
def nO:List (Nat × AV):=[(2, .ptr 1002 0),(4, .ptr 1004 0),(5, .ptr 1005 0),(6, .ptr 1006 0),(7, .ptr 1007 0),(9, .ptr 9 0)]
def MV:=fun x0 x1=>([(9, .box 83 [I x0,I x1])]:List (Nat × Blk))
def nP:=fun x0=>([(2, .ptr 1002 0),(4, .ptr 1004 0),(5, .ptr 1005 0),(6, .ptr 1006 0),(9, .ptr 9 0),(10,I x0)]:List (Nat × AV))
def nQ:=fun x0 x1=>([(4, .ptr 1004 0),(5, .ptr 1005 0),(6, .ptr 1006 0),(9, .ptr 9 0),(10,I x0),(39,B x1)]:List (Nat × AV))
def Oh:=fun x0 x1 x2 x3=>([(0,(.yv 4000)),(3,I x0),(7,I (Qc (List.map ZI.cs (Qj.Conductors x1)))),(8,I x0),(11,I x2),(19,B x3)]:List (Nat × AV))
theorem MW (n:Nat) (a0s:Qj) (a1amps:List Int):∀ r,Gz n a0s a1amps=some r→Q0 Tryz.prog 10 [ag (Qj.cs a0s), .p (.sl 1 (List.map ci a1amps))] (.ret (.tup [ag (ZT.cs r.1),B r.2.1,I r.2.2])):=by
 refine Qp Tryz.func10 rfl Tryz.ntmps10 rfl ?_
 unfold Gz
 refine Qg Qe ⟨[(1, .p (.sl 1 (List.map ci a1amps))),qq 2,qq 4,qq 5,qq 6],[(2,QM a0s),(4, .box 46 [I 0,I 0,I 0]),(5, .box 4 [B false]),(6, .box 35 [I 0])]⟩ Qa (sS (sG (xR 2 Qa ?_)))
 refine xC [] Qa (UV n a0s a1amps) Qa Qa QW (fun r1=>?_)
 refine xR 6 Qa (xE (Qk ⟨[qq 2,qq 4,qq 5,qq 6,qq 7,(8,I r1.2)],jD a0s r1.1⟩ Qa (sS (Qg Qe ⟨[qq 2,qq 4,qq 5,qq 6,qq 7,(18,B (!Qs r1.2 0))],jD a0s r1.1⟩ Qa (sC (!Qs r1.2 0) Qa (Qg Qe ⟨AA,AB 0 0 0 false 1⟩ Qa (sT (QY (qR (.id) Qa Qa Qa)))) (sK (Qk ⟨[qq 2,qq 4,qq 5,qq 6,qq 7],jD a0s r1.1⟩ Qa (sS (sS (sG (xR 1 Qa (Yr [] [.agg [.p (.sl 11 (XM a0s.Conductors)), .p (.sl 1 (K3 a0s.Owners)), .p (.sl 4 (Fw a0s.Contracts)), .p (.sl 8 (Z5 a0s.Chargers)), .p (.sl 2 (Wx a0s.Bays))]] [(1,401)] [] [] Qa Tryz.func29 rfl Tryz.ntmps29 rfl Qa Qa Qa (Qg Qe ⟨[qq 1],ZC a0s⟩ Qa (Qg Qe ⟨[(2, .fn (.func 64) [] [.ptr 1 0])],ZC a0s⟩ Qa (sT (QN (.id) [1] [] (.fn (.func 64) [] [.ptr 1 0]) Qa Qa (Yq (xE (Qk (QbT a0s r1.1) Qa (sB (M3 (QbT a0s r1.1) Qa (NB 64 3000 [] [.ptr 401 0] Qa Qa (fun nf2 _ hnf2=>(Zn (hc:=(Yg a0s 0 0 0 false r1.1 (.lp K6 nf2 .ready none))) (args':=[.yv 4000, .ptr 1401 0]) [(1002,2),(1004,4),(1005,5),(1006,6),(1007,7),(1401,401),(4000,3000)] [] [] Tryz.func64 rfl Tryz.ntmps64 rfl Qa Qa Qa (Qg Qe ⟨jE a0s 0,Yg a0s 0 0 0 false r1.1 (.lp K6 nf2 .ready none)⟩ Qa (sB (Qw (fun l3=>⟨jE a0s l3,Yg a0s 0 0 0 false r1.1 (.lp K6 nf2 .ready none)⟩:Int→St) (Wq Qa) ?_)))))))))))))))))))))))))))
 rintro recl3 l3
 show QU (XL n a0s r1 recl3 l3) _ _ _ _ _ _
 unfold XL
 refine Qg Qe ⟨[(0, .yv 4000),(7,I (Qc (XM a0s.Conductors))),(8,I l3),(9,B (QL l3 (Qc (XM a0s.Conductors))))],Yg a0s 0 0 0 false r1.1 (.lp K6 nf2 .ready none)⟩ Qa (sS (sC (QL l3 (Qc (XM a0s.Conductors))) Qa ?_ ?_))
 rotate_left
 ·refine Qm (Zu (ZP (QG (Ww .id [1002,1004,1005,1006,1007,1401,4000] [] (.tup []) Qa Qa ?_))))
  refine eY .ready ⟨[4,5,6],[4,5,6],[],[]⟩ ⟨AA,AB 0 0 0 false 0⟩ Qa (by intro h; cases h) Qa ?_
  exact QT (Qk ⟨AA,AB 0 0 0 false 0⟩ Qa (Qg Qe ⟨AA,AB 0 0 0 false 0⟩ Qa (sT (qR (.id) Qa Qa Qa))))
 refine sK (Qk ⟨jE a0s l3,Yg a0s 0 0 0 false r1.1 (.lp K6 nf2 .ready none)⟩ Qa (sS (sB (Qg Qe ⟨[(0, .yv 4000),(3,I l3),(7,I (Qc (XM a0s.Conductors))),(8,I l3)],Yg a0s 0 0 0 false r1.1 (.lp K6 nf2 .ready none)⟩ Qa (Qg Qe (Iy l3 a0s 0 r1.1 (.lp K6 nf2 .ready none)) Qa (sB (Yx 3 (Qg Qe ⟨jF l3 a0s 0 true,Yg a0s 0 0 0 false r1.1 (.lp K6 nf2 .ready none)⟩ Qa (sS (Q3 Qa (sK (Qk (Iy l3 a0s 0 r1.1 (.lp K6 nf2 .ready none)) Qa (sS (sB (Qg Qe ⟨nN l3 0 a0s 0,Yg a0s 0 0 0 false r1.1 (.lp K6 nf2 .ready none)⟩ Qa (sS (sG (xR 4 Qa (Tq [] (Yg a0s 0 0 0 false r1.1 (.lp K6 nf2 .ready none)) 4000 K6 [] [] [.agg [I l3,I 0]] Qa hnf2 Qa Qa Qa Qa Qa (fun _=>sL Qe Qa (mo ⟨[2,4,5,6,7,9],[9,1002,1004,1005,1006,1007,1401,4000],[],[]⟩ ⟨nO,MV l3 0++Yg a0s 0 0 0 false r1.1 (.lp [(2,Jo),(4, .ptr 1004 0),(5, .ptr 1005 0),(6, .ptr 1006 0),(7, .ptr 1007 0),(21, .fn (.func 64) [] [.ptr 1401 0])] nf2 .busy none)⟩ none Qa Qa (sB (sS (YK Qe rfl (xR 5 Qa (xG Qa Qa (QC (e:=38) (S:=3) (enc:=Qb) (l:=r1.1) (k:=.i64) (n:=l3) (sv:=.p (.sl 3 (List.map Qb r1.1))) rfl Qa Qa Qa Qa Qa) (fun x5=>xR 3 Qa (Yh Qa (Qk ⟨nP x5.1,MV l3 0++Yg a0s 0 0 0 false r1.1 (.lp [(2,Jo),(4, .ptr 1004 0),(5, .ptr 1005 0),(6, .ptr 1006 0),(7, .ptr 1007 0),(21, .fn (.func 64) [] [.ptr 1401 0])] nf2 .busy none)⟩ Qa (sS (sG (xR 5 Qa (xG Qa Qa (QC (e:=54) (S:=11) (enc:=ZI.cs) (l:=a0s.Conductors) (k:=.i64) (n:=l3) (sv:=.p (.sl 11 (XM a0s.Conductors))) rfl Qa Qa Qa Qa Qa) (fun x6=>xR 1 Qa ?_))))))))))))))))))))))))))))))))))
 refine xC [] Qa (WF n x6) Qa Qa QW (fun r7=>?_)
 refine xR 1 Qa (xE (Qk ⟨nQ x5.1 (QL r7 x5.1),MV l3 0++Yg a0s 0 0 0 false r1.1 (.lp [(2,Jo),(4, .ptr 1004 0),(5, .ptr 1005 0),(6, .ptr 1006 0),(7, .ptr 1007 0),(21, .fn (.func 64) [] [.ptr 1401 0])] nf2 .busy none)⟩ Qa (sC (QL r7 x5.1) Qa ?_ ?_)))
 ·refine Qg Qe ⟨[],Yg a0s l3 0 x5.1 true r1.1 (.lp K6 nf2 .busy none)⟩ Qa (sT (Q9 (bT [1002,1004,1005,1006,1007,1401,4000] [] .busy none Qa Qa (Yq (xR 1 Qa (xE (Qk ⟨Oh l3 a0s 0 true,Yg a0s l3 0 x5.1 true r1.1 (.lp K6 nf2 .done (some .ret))⟩ Qa (Q3 Qa (sT (Q9 (QY (ae (Q9 (Q9 (QY (KC (Q9 (QN .id [1002,1004,1005,1006,1007,1401,4000] [] (.tup []) Qa Qa ?_))))))))))))))))))
  refine bR .done ⟨[4,5,6],[4,5,6],[],[]⟩ ⟨AA,AB l3 0 x5.1 true 0⟩ Qa (by intro h; cases h) Qa ?_
  exact Q9 (QY (qR (.id) Qa Qa Qa))
 refine sK (QT (PS [1002,1004,1005,1006,1007,1401,4000] [] .busy none Qa Qa (Yq (xR 1 Qa (xE (Qk ⟨Oh l3 a0s 0 false,Yg a0s 0 0 0 false r1.1 (.lp K6 nf2 .ready none)⟩ Qa (QZ Qa (sK (QT (Qk (Iy l3 a0s 0 r1.1 (.lp K6 nf2 .ready none)) Qa (sL Qe Qa (UB ⟨[0,3,7,8,11],[1002,1004,1005,1006,1007,1401,4000],[],[]⟩ (Iy l3 a0s 1 r1.1 (.lp K6 nf2 .ready none)) Qa (Qg Qe ⟨jF l3 a0s 1 true,Yg a0s 0 0 0 false r1.1 (.lp K6 nf2 .ready none)⟩ Qa (sS (Q3 Qa (sK (Qk (Iy l3 a0s 1 r1.1 (.lp K6 nf2 .ready none)) Qa (sS (sB (Qg Qe ⟨nN l3 1 a0s 1,Yg a0s 0 0 0 false r1.1 (.lp K6 nf2 .ready none)⟩ Qa (sS (sG (xR 4 Qa (Tq [] (Yg a0s 0 0 0 false r1.1 (.lp K6 nf2 .ready none)) 4000 K6 [] [] [.agg [I l3,I 1]] Qa hnf2 Qa Qa Qa Qa Qa (fun _=>sL Qe Qa (mo ⟨[2,4,5,6,7,9],[9,1002,1004,1005,1006,1007,1401,4000],[],[]⟩ ⟨nO,MV l3 1++Yg a0s 0 0 0 false r1.1 (.lp [(2,Jo),(4, .ptr 1004 0),(5, .ptr 1005 0),(6, .ptr 1006 0),(7, .ptr 1007 0),(21, .fn (.func 64) [] [.ptr 1401 0])] nf2 .busy none)⟩ none Qa Qa (sB (sS (YK Qe rfl (xR 5 Qa (xG Qa Qa (QC (e:=38) (S:=3) (enc:=Qb) (l:=r1.1) (k:=.i64) (n:=l3) (sv:=.p (.sl 3 (List.map Qb r1.1))) rfl Qa Qa Qa Qa Qa) (fun x9=>xR 3 Qa (Yh Qa (Qk ⟨nP x9.2.1,MV l3 1++Yg a0s 0 0 0 false r1.1 (.lp [(2,Jo),(4, .ptr 1004 0),(5, .ptr 1005 0),(6, .ptr 1006 0),(7, .ptr 1007 0),(21, .fn (.func 64) [] [.ptr 1401 0])] nf2 .busy none)⟩ Qa (sS (sG (xR 5 Qa (xG Qa Qa (QC (e:=54) (S:=11) (enc:=ZI.cs) (l:=a0s.Conductors) (k:=.i64) (n:=l3) (sv:=.p (.sl 11 (XM a0s.Conductors))) rfl Qa Qa Qa Qa Qa) (fun x10=>xR 1 Qa ?_)))))))))))))))))))))))))))))))))))))))
 refine xC [] Qa (WF n x10) Qa Qa QW (fun r11=>?_)
 refine xR 1 Qa (xE (Qk ⟨nQ x9.2.1 (QL r11 x9.2.1),MV l3 1++Yg a0s 0 0 0 false r1.1 (.lp [(2,Jo),(4, .ptr 1004 0),(5, .ptr 1005 0),(6, .ptr 1006 0),(7, .ptr 1007 0),(21, .fn (.func 64) [] [.ptr 1401 0])] nf2 .busy none)⟩ Qa (sC (QL r11 x9.2.1) Qa ?_ ?_)))
 ·refine Qg Qe ⟨[],Yg a0s l3 1 x9.2.1 true r1.1 (.lp K6 nf2 .busy none)⟩ Qa (sT (Q9 (bT [1002,1004,1005,1006,1007,1401,4000] [] .busy none Qa Qa (Yq (xR 1 Qa (xE (Qk ⟨Oh l3 a0s 1 true,Yg a0s l3 1 x9.2.1 true r1.1 (.lp K6 nf2 .done (some .ret))⟩ Qa (Q3 Qa (sT (Q9 (QY (ae (Q9 (Q9 (QY (KC (Q9 (QN .id [1002,1004,1005,1006,1007,1401,4000] [] (.tup []) Qa Qa ?_))))))))))))))))))
  refine bR .done ⟨[4,5,6],[4,5,6],[],[]⟩ ⟨AA,AB l3 1 x9.2.1 true 0⟩ Qa (by intro h; cases h) Qa ?_
  exact Q9 (QY (qR (.id) Qa Qa Qa))
 refine sK (QT (PS [1002,1004,1005,1006,1007,1401,4000] [] .busy none Qa Qa (Yq (xR 1 Qa (xE (Qk ⟨Oh l3 a0s 1 false,Yg a0s 0 0 0 false r1.1 (.lp K6 nf2 .ready none)⟩ Qa (QZ Qa (sK (QT (Qk (Iy l3 a0s 1 r1.1 (.lp K6 nf2 .ready none)) Qa (sL Qe Qa (UB ⟨[0,3,7,8,11],[1002,1004,1005,1006,1007,1401,4000],[],[]⟩ (Iy l3 a0s 2 r1.1 (.lp K6 nf2 .ready none)) Qa (Qg Qe ⟨jF l3 a0s 2 true,Yg a0s 0 0 0 false r1.1 (.lp K6 nf2 .ready none)⟩ Qa (sS (Q3 Qa (sK (Qk (Iy l3 a0s 2 r1.1 (.lp K6 nf2 .ready none)) Qa (sS (sB (Qg Qe ⟨nN l3 2 a0s 2,Yg a0s 0 0 0 false r1.1 (.lp K6 nf2 .ready none)⟩ Qa (sS (sG (xR 4 Qa (Tq [] (Yg a0s 0 0 0 false r1.1 (.lp K6 nf2 .ready none)) 4000 K6 [] [] [.agg [I l3,I 2]] Qa hnf2 Qa Qa Qa Qa Qa (fun _=>sL Qe Qa (mo ⟨[2,4,5,6,7,9],[9,1002,1004,1005,1006,1007,1401,4000],[],[]⟩ ⟨nO,MV l3 2++Yg a0s 0 0 0 false r1.1 (.lp [(2,Jo),(4, .ptr 1004 0),(5, .ptr 1005 0),(6, .ptr 1006 0),(7, .ptr 1007 0),(21, .fn (.func 64) [] [.ptr 1401 0])] nf2 .busy none)⟩ none Qa Qa (sB (sS (YK Qe rfl (xR 5 Qa (xG Qa Qa (QC (e:=38) (S:=3) (enc:=Qb) (l:=r1.1) (k:=.i64) (n:=l3) (sv:=.p (.sl 3 (List.map Qb r1.1))) rfl Qa Qa Qa Qa Qa) (fun x13=>xR 3 Qa (Yh Qa (Qk ⟨nP x13.2.2,MV l3 2++Yg a0s 0 0 0 false r1.1 (.lp [(2,Jo),(4, .ptr 1004 0),(5, .ptr 1005 0),(6, .ptr 1006 0),(7, .ptr 1007 0),(21, .fn (.func 64) [] [.ptr 1401 0])] nf2 .busy none)⟩ Qa (sS (sG (xR 5 Qa (xG Qa Qa (QC (e:=54) (S:=11) (enc:=ZI.cs) (l:=a0s.Conductors) (k:=.i64) (n:=l3) (sv:=.p (.sl 11 (XM a0s.Conductors))) rfl Qa Qa Qa Qa Qa) (fun x14=>xR 1 Qa ?_)))))))))))))))))))))))))))))))))))))))
 refine xC [] Qa (WF n x14) Qa Qa QW (fun r15=>?_)
 refine xR 1 Qa (xE (Qk ⟨nQ x13.2.2 (QL r15 x13.2.2),MV l3 2++Yg a0s 0 0 0 false r1.1 (.lp [(2,Jo),(4, .ptr 1004 0),(5, .ptr 1005 0),(6, .ptr 1006 0),(7, .ptr 1007 0),(21, .fn (.func 64) [] [.ptr 1401 0])] nf2 .busy none)⟩ Qa (sC (QL r15 x13.2.2) Qa ?_ ?_)))
 ·refine Qg Qe ⟨[],Yg a0s l3 2 x13.2.2 true r1.1 (.lp K6 nf2 .busy none)⟩ Qa (sT (Q9 (bT [1002,1004,1005,1006,1007,1401,4000] [] .busy none Qa Qa (Yq (xR 1 Qa (xE (Qk ⟨Oh l3 a0s 2 true,Yg a0s l3 2 x13.2.2 true r1.1 (.lp K6 nf2 .done (some .ret))⟩ Qa (Q3 Qa (sT (Q9 (QY (ae (Q9 (Q9 (QY (KC (Q9 (QN .id [1002,1004,1005,1006,1007,1401,4000] [] (.tup []) Qa Qa ?_))))))))))))))))))
  refine bR .done ⟨[4,5,6],[4,5,6],[],[]⟩ ⟨AA,AB l3 2 x13.2.2 true 0⟩ Qa (by intro h; cases h) Qa ?_
  exact Q9 (QY (qR (.id) Qa Qa Qa))
 exact sK (QT (PS [1002,1004,1005,1006,1007,1401,4000] [] .busy none Qa Qa (Yq (xR 1 Qa (xE (Qk ⟨Oh l3 a0s 2 false,Yg a0s 0 0 0 false r1.1 (.lp K6 nf2 .ready none)⟩ Qa (QZ Qa (sK (QT (Qk (Iy l3 a0s 2 r1.1 (.lp K6 nf2 .ready none)) Qa (sL Qe Qa (UB ⟨[0,3,7,8,11],[1002,1004,1005,1006,1007,1401,4000],[],[]⟩ (Iy l3 a0s 3 r1.1 (.lp K6 nf2 .ready none)) Qa (Qg Qe ⟨jF l3 a0s 3 false,Yg a0s 0 0 0 false r1.1 (.lp K6 nf2 .ready none)⟩ Qa (sS (QZ Qa (Qm (Zu (LV (QG (QT (Qk ⟨jE a0s l3,Yg a0s 0 0 0 false r1.1 (.lp K6 nf2 .ready none)⟩ Qa (sL Qe Qa (Ky (wi (l3+1)) Qa)))))))))))))))))))))))
def Wm :Option Bool :=
 some false
def Uj (a0s:Qj) (a1conductor:Int) (recl10:Int→Option Bool) (l10:Int):Option Bool :=
 cond (leI 0 l10)
  (cond (Qs l10 a1conductor)
   (some true)
   ((Zc a0s.Conductors l10).bind fun x12 =>
   recl10 x12.Up))
  Wm
def UW (n:Nat) (a0s:Qj) (a1conductor:Int) (recl5:((List Int) × Int)→Option ((List Int) × Int)) (l5_1:List Int) (l5_2:Int):Option ((List Int) × Int) :=
 cond (QL l5_2 (Qc (List.map ZL.cs a0s.Chargers)))
  ((Zc a0s.Chargers l5_2).bind fun x6 =>
  (Q4 (fun recl10 l10=>Uj a0s a1conductor recl10 l10) n x6.At).bind fun j7 =>
  cond j7
   (cond (ZB (List.length (l5_1++[l5_2])) 8) (
    recl5 (l5_1++[l5_2],wi (l5_2+1))) none)
   (recl5 (l5_1,wi (l5_2+1))))
  (some (l5_1,0))
def Rk (n:Nat) (a0s:Qj) (a1conductor:Int):Option ((List Int) × Int) :=
 ((V7 n a0s).bind fun r2 =>
 cond (!r2)
  (some true)
  (cond (QL a1conductor 0)
   (some true)
   (some (leI (Qc (List.map ZI.cs a0s.Conductors)) a1conductor)))).bind fun j1 =>
 cond j1
  (some ([],1))
  (Q4 (fun recl5 (l5_1,l5_2)=>UW n a0s a1conductor recl5 l5_1 l5_2) n ([],0))
def AC:=fun x0 x1=>([(2, .box 28 (Kw (Qj.cs x0))),(3, .box 3 [I x1])]:List (Nat × Blk))
def iQ:=fun x0 x1=>(⟨[(2, .ptr 2 0),(3, .ptr 3 0)],AC x0 x1⟩:St)
def tO:=fun x0=>([(6, .fn (.func 105) [] [.ptr 2 0, .ptr 3 0]),(7, .p (.val (.slice none 0 0))),(26, .p (.sl 8 (List.map ZL.cs (Qj.Chargers x0)))),(27,I (Qc (List.map ZL.cs (Qj.Chargers x0)))),(28,I 0)]:List (Nat × AV))
def QbV:=fun x0 x1 x2=>([(6, .fn (.func 105) [] [.ptr 2 0, .ptr 3 0]),(7, .tsl 1 (List.map ci x0) 39),(26, .p (.sl 8 (List.map ZL.cs (Qj.Chargers x1)))),(27,I (Qc (List.map ZL.cs (Qj.Chargers x1)))),(28,I x2)]:List (Nat × AV))
def nR:=fun x0 x1 x2=>([(2, .box 28 (Kw (Qj.cs x0))),(3, .box 3 [I x1]),(39, .arr 3 1 (List.map ci x2).length)]:List (Nat × Blk))
def si:=fun x0 x1 x2 x3=>(⟨QbV x0 x1 x2,nR x1 x3 x0⟩:St)
def PL:=fun x0 x1=>([(1000, .box 28 (Kw (Qj.cs x0))),(1001, .box 3 [I x1])]:List (Nat × Blk))
def nS:=fun x0=>([(3, .box 3 [I x0]),(4, .box 4 [B false])]:List (Nat × Blk))
def sj:=fun x0 x1 x2=>(⟨[(4, .ptr 4 0)],[(4, .box 4 [B x0])]++PL x1 x2⟩:St)
def tQ:List (Nat × AV):=[(3, .ptr 3 0),(4, .ptr 4 0),(6, .fn (.func 56) [] [.ptr 1001 0, .ptr 1000 0])]
def Rw:=fun x0 x1 x2 x3 x4=>([(1003, .box 3 [I x0]),(1004, .box 4 [B x1]),(2000, .box 28 (Kw (Qj.cs x2))),(2001, .box 3 [I x3]),(4000,x4)]:List (Nat × Blk))
def Lm:List (Nat × AV):=[(3, .ptr 1003 0),(4, .ptr 1004 0),(6, .fn (.func 56) [] [.ptr 2001 0, .ptr 2000 0])]
def jG:=fun x0=>([(0,(.yv 4000)),(2, .ptr 2000 0),(4,I x0)]:List (Nat × AV))
theorem PZ (n:Nat) (a0s:Qj) (a1conductor:Int):∀ r,Rk n a0s a1conductor=some r→Q0 Tryz.prog 57 [ag (Qj.cs a0s),I a1conductor] (.ret (.tup [.p (.sl 1 (List.map ci r.1)),I r.2])):=by
 refine Qp Tryz.func57 rfl Tryz.ntmps57 rfl ?_
 unfold Rk
 refine Qg Qe (iQ a0s a1conductor) Qa (sS (KM (fun j1=>⟨[qq 2,qq 3,(23,B j1)],AC a0s a1conductor⟩:Bool→St) ?_ ?_))
 ·refine sG (xR 1 Qa ?_)
  refine xC [] Qa (UU n a0s) Qa Qa QW (fun r2=>?_)
  exact xR 2 Qa (xS (!r2) (fun h3=>xN (QB Qa h3) Qa (xR 9 Qa (xE (QV true Qa)))) (fun h3=>xO (QA Qa h3) Qa (xR 3 Qa (xS (QL a1conductor 0) (fun h4=>xN (QB Qa h4) Qa (xR 5 Qa (xE (QV true Qa)))) (fun h4=>xO (QA Qa h4) Qa (xR 5 Qa (xE (QV (leI (Qc (XM a0s.Conductors)) a1conductor) Qa))))))))
 rintro j1
 refine sC j1 Qa (Qg Qe iP Qa (sT (QY (qR (.agg [.sl 1, .id]) Qa Qa Qa)))) (sK (Qk (iQ a0s a1conductor) Qa (Qg Qe ⟨[qq 2,(6, .fn (.func 105) [] [.ptr 2 0, .ptr 3 0])],AC a0s a1conductor⟩ Qa (Qg Qe ⟨[qq 2,(6, .fn (.func 105) [] [.ptr 2 0, .ptr 3 0]),(7,zS)],AC a0s a1conductor⟩ Qa (sS (Qg Qe ⟨tO a0s,AC a0s a1conductor⟩ Qa (sB (M3 ⟨tO a0s,AC a0s a1conductor⟩ Qa (Zq (KZ 3 1 39 [7] [] Qa) (Qw (fun (l5_1,l5_2)=>(si l5_1 a0s l5_2 a1conductor):((List Int) × Int)→St) (Wq Qa) ?_))))))))))
 rintro recl5 ⟨l5_1,l5_2⟩
 show QU (UW n a0s a1conductor recl5 l5_1 l5_2) _ _ _ _ _ _
 unfold UW
 refine Qg Qe ⟨[(6, .fn (.func 105) [] [.ptr 2 0, .ptr 3 0]),(7, .tsl 1 (List.map ci l5_1) 39),(26, .p (.sl 8 (Z5 a0s.Chargers))),(27,I (Qc (Z5 a0s.Chargers))),(28,I l5_2),(29,B (QL l5_2 (Qc (Z5 a0s.Chargers))))],nR a0s a1conductor l5_1⟩ Qa (sS (sC (QL l5_2 (Qc (Z5 a0s.Chargers))) Qa (sK (Qk (si l5_1 a0s l5_2 a1conductor) Qa (sS (sB (sS (sG (xR 1 Qa (xG Qa Qa (QC (e:=32) (S:=8) (enc:=ZL.cs) (l:=a0s.Chargers) (k:=.i64) (n:=l5_2) (sv:=.p (.sl 8 (Z5 a0s.Chargers))) rfl Qa Qa Qa Qa Qa) (fun x6=>xR 4 Qa (xE (Qk ⟨[(6, .fn (.func 105) [] [.ptr 2 0, .ptr 3 0]),(7, .tsl 1 (List.map ci l5_1) 39),(8,I l5_2),qq 9,(26, .p (.sl 8 (Z5 a0s.Chargers))),(27,I (Qc (Z5 a0s.Chargers))),(28,I l5_2)],[(2,QM a0s),(3, .box 3 [I a1conductor]),(9,Ym x6),(39, .arr 3 1 (List.map ci l5_1).length)]⟩ Qa (sS (sG (xR 2 Qa (Yr (PL a0s a1conductor) [.agg [S x6.Name,I x6.At,I x6.Phases,I x6.Min,I x6.Max,I x6.Step,I x6.Fallback,I x6.Owner],Ka,Gl] [(1000,2),(1001,3)] [] [] Qa Tryz.func105 rfl Tryz.ntmps105 rfl Qa Qa Qa (Qg Qe ⟨[(1,Ka),(2,Gl),qq 3],[(3,Ym x6)]++PL a0s a1conductor⟩ Qa (KM (fun j7=>⟨[(4,B j7)],PL a0s a1conductor⟩:Bool→St) ?_ ?_))))))))))))))))) (Qm (Zu (ZP (QG (Qk ⟨[(7, .tsl 1 (List.map ci l5_1) 39)],[(39, .arr 3 1 (List.map ci l5_1).length)]⟩ Qa (Qg Qe ⟨[(4, .tsl 1 (List.map ci l5_1) 39),(5,I 0)],[(39, .arr 3 1 (List.map ci l5_1).length)]⟩ Qa (sT (qR (.agg [.sl 1, .id]) Qa Qa Qa))))))))))
 rotate_left
 ·rintro j7
  exact sT (QN (.id) [1000,1001] [] (B j7) Qa Qa (Yq (xE (Qk ⟨[(6, .fn (.func 105) [] [.ptr 2 0, .ptr 3 0]),(7, .tsl 1 (List.map ci l5_1) 39),(8,I l5_2),(26, .p (.sl 8 (Z5 a0s.Chargers))),(27,I (Qc (Z5 a0s.Chargers))),(28,I l5_2),(35,B j7)],nR a0s a1conductor l5_1⟩ Qa (sC j7 Qa (sG (xR 3 Qa (xF Qa Qa (ZM (e:=3) (S:=1) (by_:=8) (enc:=ci) (tk:=39) (l:=l5_1) (l2:=[l5_2]) (xv:=.tsl 1 (List.map ci [l5_2]) 38) rfl Qa Qa rfl Qa Qa Qa rfl Qa) (xR 1 Qa (xE (QT (Qk (si (l5_1++[l5_2]) a0s l5_2 a1conductor) Qa (sL Qe Qa (Ky (l5_1++[l5_2],wi (l5_2+1)) Qa))))))))) (sK (QT (Qk (si l5_1 a0s l5_2 a1conductor) Qa (sL Qe Qa (Ky (l5_1,wi (l5_2+1)) Qa))))))))))
 refine Vu [0,1,2,4] [4] [(3,[]),(5,[]),(6,[])] Qe rfl Qa Qa (KY (f:=22) (args:=[.agg [.p (.sl 11 (XM a0s.Conductors)), .p (.sl 1 (K3 a0s.Owners)), .p (.sl 4 (Fw a0s.Contracts)), .p (.sl 8 (Z5 a0s.Chargers)), .p (.sl 2 (Wx a0s.Bays))],I x6.At]) (dst:=some 8) Qa Qa (Zn (hc:=[]) (args':=[.agg [.p (.sl 11 (XM a0s.Conductors)), .p (.sl 1 (K3 a0s.Owners)), .p (.sl 4 (Fw a0s.Contracts)), .p (.sl 8 (Z5 a0s.Chargers)), .p (.sl 2 (Wx a0s.Bays))],I x6.At]) [(2,402),(3,403)] [] [] Tryz.func22 rfl Tryz.ntmps22 rfl Qa Qa Qa (Qg Qe (iQ a0s x6.At) Qa (Qg Qe ⟨[(4, .fn (.func 56) [] [.ptr 3 0, .ptr 2 0])],AC a0s x6.At⟩ Qa (sT (QN (.id) [2,3] [] (.fn (.func 56) [] [.ptr 3 0, .ptr 2 0]) Qa Qa (kh [4] Qa (Qo (Qz (I a1conductor) Qa rfl) (Ql)) Qa (KY (f:=106) (args:=[.fn (.func 56) [] [.ptr 403 0, .ptr 402 0],I a1conductor]) (dst:=some 10) Qa Qa (Zn (hc:=(PL a0s x6.At)) (args':=[.fn (.func 56) [] [Gl,Ka],I a1conductor]) [(1000,402),(1001,403)] [] [] Tryz.func106 rfl Tryz.ntmps106 rfl Qa Qa Qa (Qg Qe ⟨[(0, .fn (.func 56) [] [Gl,Ka]),qq 3,qq 4],nS a1conductor++PL a0s x6.At⟩ Qa (ZY (fun _=>(sj false a0s x6.At):Unit→St) (fun _=>Wm) ?_ ?_)))))))))))
 ·rintro _
  show QU (Wm) _ _ _ _ _ _
  unfold Wm
  exact Qg Qe (sj false a0s x6.At) Qa (sT (QN (.id) [1000,1001] [] (B false) Qa Qa (kh [] Qa (Ql) Qa (WJ [] Qa Qa (Ql) (WV (QV false Qa))))))
 refine Qg Qe ⟨tQ,nS a1conductor++PL a0s x6.At⟩ Qa (sB (M3 ⟨tQ,nS a1conductor++PL a0s x6.At⟩ Qa (NB 56 3000 [] [Gl,Ka] Qa Qa (fun nf9 _ hnf9=>(Zn (hc:=(Rw a1conductor false a0s x6.At (.lp Lm nf9 .ready none))) (args':=[.yv 4000, .ptr 2001 0, .ptr 2000 0]) [(1003,3),(1004,4),(2000,1000),(2001,1001),(4000,3000)] [] [] Tryz.func56 rfl Tryz.ntmps56 rfl Qa Qa Qa (Qg Qe ⟨jG x6.At,Rw a1conductor false a0s x6.At (.lp Lm nf9 .ready none)⟩ Qa (sB (Qw (fun l10=>⟨jG l10,Rw a1conductor false a0s x6.At (.lp Lm nf9 .ready none)⟩:Int→St) (Wq Qa) ?_))))))))
 rintro recl10 l10
 show QU (Uj a0s a1conductor recl10 l10) _ _ _ _ _ _
 unfold Uj
 refine sS (Qg Qe ⟨[(0, .yv 4000),(2, .ptr 2000 0),(4,I l10),(7,B (leI 0 l10))],Rw a1conductor false a0s x6.At (.lp Lm nf9 .ready none)⟩ Qa (sC (leI 0 l10) Qa ?_ ?_))
 rotate_left
 ·refine Qm (Zu (ZP (QG (Ww .id [1003,1004,2000,2001,4000] [] (.tup []) Qa Qa ?_))))
  refine eY .ready ⟨[4],[4,1000,1001],[],[]⟩ (sj false a0s x6.At) Qa (by intro h; cases h) Qa ?_
  exact QT (Ky (k:=fun _=>Wm) () Qa)
 refine sK (Qk ⟨jG l10,Rw a1conductor false a0s x6.At (.lp Lm nf9 .ready none)⟩ Qa (sS (sB (sS (sG (xR 2 Qa (Tq [] (Rw a1conductor false a0s x6.At (.lp Lm nf9 .ready none)) 4000 Lm [] [] [I l10] Qa hnf9 Qa Qa Qa Qa Qa (fun _=>sL Qe Qa (mo ⟨[3,4,5],[1003,1004,2000,2001,4000],[],[]⟩ ⟨[(3,NG),(4, .ptr 1004 0),(5,I l10)],Rw a1conductor false a0s x6.At (.lp Lm nf9 .busy none)⟩ none Qa Qa (sB (Qg Qe ⟨[(4, .ptr 1004 0),(10,B (Qs l10 a1conductor))],Rw a1conductor false a0s x6.At (.lp Lm nf9 .busy none)⟩ Qa (sC (Qs l10 a1conductor) Qa (Qg Qe ⟨[],Rw a1conductor true a0s x6.At (.lp Lm nf9 .busy none)⟩ Qa (sT (Q9 (bT [1003,1004,2000,2001,4000] [] .busy none Qa Qa (Yq (xR 1 Qa (xE (Qk ⟨[(0, .yv 4000),(2, .ptr 2000 0),(4,I l10),(17,B true)],Rw a1conductor true a0s x6.At (.lp Lm nf9 .done (some .ret))⟩ Qa (Q3 Qa (sT (Q9 (QY (KC (Q9 (QN .id [1003,1004,2000,2001,4000] [] (.tup []) Qa Qa ?_))))))))))))))) (sK (QT (PS [1003,1004,2000,2001,4000] [] .busy none Qa Qa (Yq (xR 1 Qa (xE (Qk ⟨[(0, .yv 4000),(2, .ptr 2000 0),(4,I l10),(17,B false)],Rw a1conductor false a0s x6.At (.lp Lm nf9 .ready none)⟩ Qa (QZ Qa (sK (QT (Qk ⟨jG l10,Rw a1conductor false a0s x6.At (.lp Lm nf9 .ready none)⟩ Qa (sG (xR 3 Qa (xG Qa Qa (QC (e:=54) (S:=11) (enc:=ZI.cs) (l:=a0s.Conductors) (k:=.i64) (n:=l10) (sv:=.p (.sl 11 (XM a0s.Conductors))) rfl Qa Qa Qa Qa Qa) (fun x12=>xR 3 Qa (xE (Ky x12.Up Qa)))))))))))))))))))))))))))))
 refine bR .done ⟨[4],[4,1000,1001],[],[]⟩ (sj true a0s x6.At) Qa (by intro h; cases h) Qa ?_
 exact Q9 (KC (QN (.id) [1000,1001] [] (B true) Qa Qa (kh [] Qa (Ql) Qa (WJ [] Qa Qa (Ql) (WV (QV true Qa))))))
def GA (n:Nat) (a0s:Qj) (a1conductor:Int):Option (Int × Int) :=
 ((V7 n a0s).bind fun r2 =>
 cond (!r2)
  (some true)
  (cond (QL a1conductor 0)
   (some true)
   (some (leI (Qc (List.map ZI.cs a0s.Conductors)) a1conductor)))).bind fun j1 =>
 cond j1
  (some (0,1))
  ((Zc a0s.Conductors a1conductor).bind fun x5 =>
  (VO n x5).bind fun r6 =>
  some (r6,0))
def Fg:=fun x0=>([(2, .box 28 (Kw (Qj.cs x0)))]:List (Nat × Blk))
theorem MX (n:Nat) (a0s:Qj) (a1conductor:Int):∀ r,GA n a0s a1conductor=some r→Q0 Tryz.prog 11 [ag (Qj.cs a0s),I a1conductor] (.ret (.tup [I r.1,I r.2])):=by
 refine Qp Tryz.func11 rfl Tryz.ntmps11 rfl ?_
 unfold GA
 refine Qg Qe ⟨[(1,I a1conductor),qq 2],Fg a0s⟩ Qa (sS (KM (fun j1=>⟨[(1,I a1conductor),qq 2,(19,B j1)],Fg a0s⟩:Bool→St) ?_ ?_))
 rotate_left
 ·rintro j1
  refine sC j1 Qa (Qg Qe ⟨[(4,I 0),(5,I 1)],[]⟩ Qa (sT (QY (qR (.id) Qa Qa Qa)))) (sK (Qk ⟨[(1,I a1conductor),qq 2],Fg a0s⟩ Qa (sS (sG (xR 3 Qa (xG Qa Qa (QC (e:=54) (S:=11) (enc:=ZI.cs) (l:=a0s.Conductors) (k:=.i64) (n:=a1conductor) (sv:=.p (.sl 11 (XM a0s.Conductors))) rfl Qa Qa Qa Qa Qa) (fun x5=>xR 1 Qa ?_)))))))
  refine xC [] Qa (WF n x5) Qa Qa QW (fun r6=>?_)
  exact xR 2 Qa (xE (Qk ⟨[(4,I r6),(5,I 0)],[]⟩ Qa (sT (qR (.id) Qa Qa Qa))))
 refine sG (xR 1 Qa ?_)
 refine xC [] Qa (UU n a0s) Qa Qa QW (fun r2=>?_)
 exact xR 2 Qa (xS (!r2) (fun h3=>xN (QB Qa h3) Qa (xR 9 Qa (xE (QV true Qa)))) (fun h3=>xO (QA Qa h3) Qa (xR 3 Qa (xS (QL a1conductor 0) (fun h4=>xN (QB Qa h4) Qa (xR 5 Qa (xE (QV true Qa)))) (fun h4=>xO (QA Qa h4) Qa (xR 5 Qa (xE (QV (leI (Qc (XM a0s.Conductors)) a1conductor) Qa))))))))
def V9 (n:Nat) (a0s:List Int):Option (List Int) :=
 cond (!List.isEmpty a0s) (
  cond (ZB (List.length ([]++a0s)) 8) (
   some ([]++a0s)) none) none
def su:=fun x0=>(⟨[(0, .p (.sl 1 (List.map ci x0)))],[]⟩:St)
theorem GJ (n:Nat) (a0s:List Int):∀ r,V9 n a0s=some r→Q0 Tryz.prog 59 [.p (.sl 1 (List.map ci a0s))] (.ret (.p (.sl 1 (List.map ci r)))):=by
 refine Qp Tryz.func59 rfl Tryz.ntmps59 rfl ?_
 unfold V9
 exact Qg Qe (su a0s) Qa (sS (sS (sG (xR 1 Qa (xS (!List.isEmpty a0s) (fun h1=>dC (e:=3) (S:=1) (enc:=ci) (l:=a0s) Qa rfl Qa Qa Qa Qa h1 (xE (Qk ⟨[(0, .p (.sl 1 (List.map ci a0s))),(4,B false)],[]⟩ Qa (QZ Qa (sK (Qk (su a0s) Qa (sS (sG (xR 2 Qa (xF Qa Qa (zU (e:=3) (S:=1) (by_:=8) (enc:=ci) (tk:=5) (l:=[]) (l2:=a0s) (xv:=.p (.sl 1 (List.map ci a0s))) (n:=(List.map ci []).length) rfl Qa Qa rfl Qa Qa Qa Qa zq) (xR 1 Qa (xE (Qk ⟨[(2, .vsl 1 5 (List.map ci ([]++a0s)).length)],[(5, .vec 3 1 (List.map ci ([]++a0s)))]⟩ Qa (Zq (FY 5 3 1 (List.map ci ([]++a0s)) [(List.map ci ([]++a0s)).length] Qa Qa zq Qa Qa) (sT (qR (.id) Qa Qa Qa)))))))))))))))) (fun _=>O6))))))
def J5 (n:Nat) (a0x:Int):Option Bool :=
 some (!Qs a0x a0x)
theorem GD (n:Nat) (a0x:Int):∀ r,J5 n a0x=some r→Q0 Tryz.prog 109 [I a0x] (.ret (B r)):=by
 refine Qp Tryz.func109 rfl Tryz.ntmps109 rfl ?_
 unfold J5
 exact Qg Qe ⟨[(0,I a0x)],[]⟩ Qa (Qg Qe ⟨[(2,B (!Qs a0x a0x))],[]⟩ Qa (sT (qR (.id) Qa Qa Qa)))
def WG (n:Nat) (a0x:Int) (a1y:Int):Option Int :=
 (J5 n a0x).bind fun r1 =>
 (J5 n a1y).bind fun r2 =>
 cond r1
  (cond r2
   (some 0)
   (some (-1)))
  (cond r2
   (some 1)
   (cond (QL a0x a1y)
    (some (-1))
    (cond (QL a1y a0x)
     (some 1)
     (some 0))))
theorem UI (n:Nat) (a0x:Int) (a1y:Int):∀ r,WG n a0x a1y=some r→Q0 Tryz.prog 63 [I a0x,I a1y] (.ret (I r)):=by
 refine Qp Tryz.func63 rfl Tryz.ntmps63 rfl ?_
 unfold WG
 refine Qg Qe ⟨[(0,I a0x),(1,I a1y)],[]⟩ Qa (sS (sG (xR 1 Qa ?_)))
 refine xC [] Qa (GD n a0x) Qa Qa QW (fun r1=>?_)
 refine xR 1 Qa (xE (Qk ⟨[(0,I a0x),(1,I a1y),(5,B r1)],[]⟩ Qa (sS (sG (xR 1 Qa ?_)))))
 refine xC [] Qa (GD n a1y) Qa Qa QW (fun r2=>?_)
 exact xR 1 Qa (xE (Qk ⟨[(0,I a0x),(1,I a1y),(5,B r1),(6,B r2)],[]⟩ Qa (sS (Qg Qe ⟨[(0,I a0x),(1,I a1y),(6,B r2),(11,B r1)],[]⟩ Qa (sC r1 Qa (sS (Qg Qe ⟨[(12,B r2)],[]⟩ Qa (sC r2 Qa (Qg Qe ⟨[(4,I 0)],[]⟩ Qa (sT (QY (QY (qR (.id) Qa Qa Qa))))) (sK (Qk ⟨[],[]⟩ Qa (Qg Qe ⟨[(4,I (-1))],[]⟩ Qa (sT (QY (qR (.id) Qa Qa Qa))))))))) (sK (Qk ⟨[(0,I a0x),(1,I a1y),(6,B r2)],[]⟩ Qa (sS (Qg Qe ⟨[(0,I a0x),(1,I a1y),(13,B r2)],[]⟩ Qa (sC r2 Qa (Qg Qe ⟨[(4,I 1)],[]⟩ Qa (sT (QY (qR (.id) Qa Qa Qa)))) (sK (Qk ⟨[(0,I a0x),(1,I a1y)],[]⟩ Qa (sS (Qg Qe ⟨[(0,I a0x),(1,I a1y),(16,B (QL a0x a1y))],[]⟩ Qa (sC (QL a0x a1y) Qa (Qg Qe ⟨[(4,I (-1))],[]⟩ Qa (sT (QY (qR (.id) Qa Qa Qa)))) (sK (Qk ⟨[(0,I a0x),(1,I a1y)],[]⟩ Qa (sS (Qg Qe ⟨[(19,B (QL a1y a0x))],[]⟩ Qa (sC (QL a1y a0x) Qa (Qg Qe ⟨[(4,I 1)],[]⟩ Qa (sT (QY (qR (.id) Qa Qa Qa)))) (sK (Qk ⟨[],[]⟩ Qa (Qg Qe ⟨[(4,I 0)],[]⟩ Qa (sT (qR (.id) Qa Qa Qa)))))))))))))))))))))))))
def YV :Option Int :=
 some (-1)
def Xc (a0s:Qj) (a2at:ZT) (r3:List Int) (recl6:Int→Option Int) (l6:Int):Option Int :=
 cond (QL l6 (Qc (List.map ci r3)))
  ((Zc r3 l6).bind fun x7 =>
  (Zc a0s.Chargers x7).bind fun x8 =>
  cond (!QL a2at.Phase 0) (
   cond (Qs (Js .i64 x8.Phases (Wu .i64 1 a2at.Phase)) 0)
    (some l6)
    (recl6 (wi (l6+1)))) none)
  YV
def Jy (n:Nat) (a1tops:List Int) (r3:List Int) (l10_1:Int) (l11:Int) (recl11:Int→Option Int) (recl12:Unit→Option Int):Option Int :=
 (cond (QL l10_1 l11)
  ((Zc r3 l11).bind fun x15 =>
  (Zc r3 (wi (l11 - 1))).bind fun x16 =>
  (Zc a1tops x16).bind fun x17 =>
  (Zc a1tops x15).bind fun x18 =>
  (WG n x17 x18).bind fun r19 =>
  some (QL r19 0))
  (some false)).bind fun j13 =>
 cond j13
  none
  (recl11 (wi (l11+1)))
def Jz (n:Nat) (a1tops:List Int) (r3:List Int) (l10_1:Int) (l10_2:Int) (recl10:(Int × Int)→Option Int) (recl11:Int→Option Int) (l11:Int):Option Int :=
 cond (QL l11 l10_2)
  (Q4 (fun recl12 _=>Jy n a1tops r3 l10_1 l11 recl11 recl12) n ())
  (recl10 (l10_2,wi (l10_2+20)))
def JA (n:Nat) (a1tops:List Int) (r3:List Int) (recl10:(Int × Int)→Option Int) (l10_1:Int) (l10_2:Int):Option Int :=
 cond (leI l10_2 (Qc (List.map ci r3)))
  (Q4 (fun recl11 l11=>Jz n a1tops r3 l10_1 l10_2 recl10 recl11 l11) n (wi (l10_1+1)))
  (some l10_1)
def JB (n:Nat) (a1tops:List Int) (r3:List Int) (j9:Int) (l20:Int) (recl20:Int→Option (List Int)) (recl21:Unit→Option (List Int)):Option (List Int) :=
 (cond (QL j9 l20)
  ((Zc r3 l20).bind fun x24 =>
  (Zc r3 (wi (l20 - 1))).bind fun x25 =>
  (Zc a1tops x25).bind fun x26 =>
  (Zc a1tops x24).bind fun x27 =>
  (WG n x26 x27).bind fun r28 =>
  some (QL r28 0))
  (some false)).bind fun j22 =>
 cond j22
  none
  (recl20 (wi (l20+1)))
def JC (r3:List Int) (l29:Int) (recl31:Unit→Option Unit):Option Unit :=
 cond (leI (wi (2 * l29)) (Qc (List.map ci r3)))
  none
  (some ())
def JD (a1tops:List Int) (r3:List Int) (recl32:((List Int) × Int × Int)→Option (List Int)) (l32_1:List Int) (l32_2:Int) (l32_3:Int):Option (List Int) :=
 cond (QL l32_3 (Qc (List.map ci r3)))
  ((Zc r3 l32_3).bind fun x33 =>
  (Zc a1tops x33).bind fun x34 =>
  (Zc l32_1 x33).bind fun x35 =>
  (Zc (List.set l32_1 (Int.toNat x33) (Fu x34 l32_2)) x33).bind fun x36 =>
  cond (Qs (wi (l32_2 - x36)) 0)
   (some (List.set l32_1 (Int.toNat x33) (Fu x34 l32_2)))
   (recl32 (List.set l32_1 (Int.toNat x33) (Fu x34 l32_2),wi (l32_2 - x36),wi (l32_3+1))))
  (some l32_1)
def JE (n:Nat) (a1tops:List Int) (r2:Int × Int) (r3:List Int) (recl29:Int→Option (List Int)) (l29:Int):Option (List Int) :=
 cond (QL l29 (Qc (List.map ci r3)))
  ((Q4 (fun recl31 _=>JC r3 l29 recl31) n ()).bind fun _ =>
  cond (QL (wi (0+l29)) (Qc (List.map ci r3)))
   none
   (recl29 (wi (l29 * 2))))
  (cond (Sz (Qc (List.map ci a1tops)) (Qc (List.map ci a1tops)) 8) (
   Q4 (fun recl32 (l32_1,l32_2,l32_3)=>JD a1tops r3 recl32 l32_1 l32_2 l32_3) n (List.replicate (Int.toNat (Qc (List.map ci a1tops))) 0,wi (r2.1+1),0)) none)
def JF (n:Nat) (a1tops:List Int) (r2:Int × Int) (r3:List Int) (j9:Int) (recl20:Int→Option (List Int)) (l20:Int):Option (List Int) :=
 cond (QL l20 (Qc (List.map ci r3)))
  (Q4 (fun recl21 _=>JB n a1tops r3 j9 l20 recl20 recl21) n ())
  (Q4 (fun recl29 l29=>JE n a1tops r2 r3 recl29 l29) n 20)
def UX (n:Nat) (a0s:Qj) (a1tops:List Int) (a2at:ZT):Option (List Int) :=
 (Rk n a0s a2at.Conductor).bind fun r1 =>
 (GA n a0s a2at.Conductor).bind fun r2 =>
 (V9 n r1.1).bind fun r3 =>
 (Q4 (fun recl6 l6=>Xc a0s a2at r3 recl6 l6) n 0).bind fun j4 =>
 cond (Qs j4 (-1))
  ((Q4 (fun recl10 (l10_1,l10_2)=>JA n a1tops r3 recl10 l10_1 l10_2) n (0,20)).bind fun j9 =>
  Q4 (fun recl20 l20=>JF n a1tops r2 r3 j9 recl20 l20) n (wi (j9+1)))
  none
def nT:=fun x0 x1 x2=>([(3, .box 28 (Kw (Qj.cs x0))),(4,(Vk x1)),(5, .box 46 (Kw (ZT.cs x2)))]:List (Nat × Blk))
def Jp:=fun x0 x1=>([(1000, .box 28 (Kw (Qj.cs x0))),(1001, .box 46 (Kw (ZT.cs x1)))]:List (Nat × Blk))
def tT:=fun x0=>([(0, .p (.sl 1 (List.map ci x0))),(1, .fn (.func 60) [] [.ptr 1000 0, .ptr 1001 0])]:List (Nat × AV))
def tV:=fun x0 x1=>([(0, .p (.sl 1 (List.map ci x0))),(1, .fn (.func 60) [] [.ptr 1000 0, .ptr 1001 0]),(5,I x1)]:List (Nat × AV))
def jH:=fun x0 x1=>([(0, .p (.sl 1 (List.map ci x0))),(1, .fn (.func 60) [] [.ptr 1000 0, .ptr 1001 0]),(7,I (Qc (List.map ci x0))),(8,I x1)]:List (Nat × AV))
def tX:=fun x0 x1=>([(4, .ptr 4 0),(9,I x0),(11, .p (.sl 1 (List.map ci x1)))]:List (Nat × AV))
def ZX:=fun x0=>([(1000,(Vk x0))]:List (Nat × Blk))
def yf:=fun x0 x1=>([(0, .p (.sl 1 (List.map ci x0))),(1,I (Qc (List.map ci x0))),(2, .fn (.func 62) [] [.ptr 1000 0]),(6,I x1)]:List (Nat × AV))
def Oi:=fun x0 x1 x2 x3=>([(0, .p (.sl 1 (List.map ci x0))),(1,I (Qc (List.map ci x0))),(2, .fn (.func 62) [] [.ptr 1000 0]),(6,I x1),(7,I x2),(8,I x3)]:List (Nat × AV))
def tY:=fun x0 x1 x2=>([(0, .p (.sl 1 (List.map ci x0))),(1,I (Qc (List.map ci x0))),(2, .fn (.func 62) [] [.ptr 1000 0]),(6,I x1),(7,I x2)]:List (Nat × AV))
def jI:=fun x0 x1 x2 x3=>([(0, .p (.sl 1 (List.map ci x0))),(1,I x1),(2,I x2),(3, .fn (.func 62) [] [.ptr 1000 0]),(8,I x3)]:List (Nat × AV))
def nU:=fun x0 x1 x2 x3=>([(0, .p (.sl 1 (List.map ci x0))),(1,I x1),(2,I x2),(3, .fn (.func 62) [] [.ptr 1000 0]),(8,I x3),(9,I x3)]:List (Nat × AV))
def jJ:=fun x0 x1 x2=>([(0, .p (.sl 1 (List.map ci x0))),(1,I x1),(2,I (Qc (List.map ci x0))),(3, .fn (.func 62) [] [.ptr 1000 0]),(8,I x2)]:List (Nat × AV))
def nV:=fun x0 x1 x2=>([(0, .p (.sl 1 (List.map ci x0))),(1,I x1),(2,I (Qc (List.map ci x0))),(3, .fn (.func 62) [] [.ptr 1000 0]),(8,I x2),(9,I x2)]:List (Nat × AV))
theorem CU (n:Nat) (a0s:Qj) (a1tops:List Int) (a2at:ZT):∀ r,UX n a0s a1tops a2at=some r→Q0 Tryz.prog 28 [ag (Qj.cs a0s), .p (.sl 1 (List.map ci a1tops)),ag (ZT.cs a2at)] (.ret (.p (.sl 1 (List.map ci r)))):=by
 refine Qp Tryz.func28 rfl Tryz.ntmps28 rfl ?_
 unfold UX
 refine Qg Qe ⟨[qq 3,qq 4,qq 5],nT a0s a1tops a2at⟩ Qa (sS (sG (xR 3 Qa ?_)))
 refine xC [] Qa (PZ n a0s a2at.Conductor) Qa Qa QW (fun r1=>?_)
 refine xR 5 Qa (xE (Qk ⟨[qq 3,qq 4,qq 5,(7, .p (.sl 1 (List.map ci r1.1)))],nT a0s a1tops a2at⟩ Qa (sS (sG (xR 3 Qa ?_)))))
 refine xC [] Qa (MX n a0s a2at.Conductor) Qa Qa QW (fun r2=>?_)
 refine xR 5 Qa (xE (Qk ⟨[qq 3,qq 4,qq 5,(7, .p (.sl 1 (List.map ci r1.1))),(9,I r2.1)],nT a0s a1tops a2at⟩ Qa (sS (sG (xR 1 Qa ?_)))))
 refine xC [] Qa (GJ n r1.1) Qa Qa QW (fun r3=>?_)
 refine xR 1 Qa (Yr (Jp a0s a2at) [.p (.sl 1 (List.map ci r3)), .fn (.func 60) [] [Ka,Gl]] [(1000,3),(1001,5)] [] [] Qa Tryz.func58 rfl Tryz.ntmps58 rfl Qa Qa Qa (Qg Qe ⟨tT r3,Jp a0s a2at⟩ Qa (KM (fun j4=>⟨tV r3 j4,Jp a0s a2at⟩:Int→St) ?_ ?_)))
 ·refine sG (xR 2 Qa (Yr (Jp a0s a2at) [.p (.sl 1 (List.map ci r3)), .fn (.func 60) [] [Ka,Gl]] [(1000,1000),(1001,1001)] [] [] Qa Tryz.func107 rfl Tryz.ntmps107 rfl Qa Qa Qa (Qg Qe ⟨tT r3,Jp a0s a2at⟩ Qa (ZY (fun _=>⟨[],Jp a0s a2at⟩:Unit→St) (fun _=>YV) ?_ ?_))))
  ·rintro _
   show QU (YV) _ _ _ _ _ _
   unfold YV
   exact Qg Qe ⟨[(4,I (-1))],Jp a0s a2at⟩ Qa (sT (QN (.id) [1000,1001] [] (I (-1)) Qa Qa (Yq (xR 1 Qa (xE (QV (-1) Qa))))))
  refine Qg Qe ⟨jH r3 0,Jp a0s a2at⟩ Qa (sB (Qw (fun l6=>⟨jH r3 l6,Jp a0s a2at⟩:Int→St) (Wq Qa) ?_))
  rintro recl6 l6
  show QU (Xc a0s a2at r3 recl6 l6) _ _ _ _ _ _
  unfold Xc
  exact Qg Qe ⟨[(0, .p (.sl 1 (List.map ci r3))),(1, .fn (.func 60) [] [Ka,Gl]),(7,I (Qc (List.map ci r3))),(8,I l6),(9,B (QL l6 (Qc (List.map ci r3))))],Jp a0s a2at⟩ Qa (sS (sC (QL l6 (Qc (List.map ci r3))) Qa (sK (Qk ⟨jH r3 l6,Jp a0s a2at⟩ Qa (sS (sB (Qg Qe ⟨[(0, .p (.sl 1 (List.map ci r3))),(1, .fn (.func 60) [] [Ka,Gl]),(5,I l6),(7,I (Qc (List.map ci r3))),(8,I l6)],Jp a0s a2at⟩ Qa (sS (sG (xR 3 Qa (xG Qa Qa (QC (e:=3) (S:=1) (enc:=ci) (l:=r3) (k:=.i64) (n:=l6) (sv:=.p (.sl 1 (List.map ci r3))) rfl Qa Qa Qa Qa Qa) (fun x7=>xR 1 Qa (Yr (Jp a0s a2at) [I x7,Ka,Gl] [(1000,1000),(1001,1001)] [] [] Qa Tryz.func60 rfl Tryz.ntmps60 rfl Qa Qa Qa (Qg Qe ⟨[(0,I x7),(1,Ka),(2,Gl)],Jp a0s a2at⟩ Qa (sS (YK Qe rfl (xR 3 Qa (xG Qa Qa (QC (e:=32) (S:=8) (enc:=ZL.cs) (l:=a0s.Chargers) (k:=.i64) (n:=x7) (sv:=.p (.sl 8 (Z5 a0s.Chargers))) rfl Qa Qa Qa Qa Qa) (fun x8=>xR 4 Qa (xF Qa Qa (wZ (k:=.i64) (k':=.i64) (a:=1) (b:=a2at.Phase) rfl Qa Qa) (xR 3 Qa (Yh Qa (Qk ⟨[(4,B (Qs (Js .i64 x8.Phases (Wu .i64 1 a2at.Phase)) 0))],Jp a0s a2at⟩ Qa (sT (QN (.id) [1000,1001] [] (B (Qs (Js .i64 x8.Phases (Wu .i64 1 a2at.Phase)) 0)) Qa Qa (Yq (xE (Qk ⟨[(0, .p (.sl 1 (List.map ci r3))),(1, .fn (.func 60) [] [Ka,Gl]),(5,I l6),(7,I (Qc (List.map ci r3))),(8,I l6),(16,B (Qs (Js .i64 x8.Phases (Wu .i64 1 a2at.Phase)) 0))],Jp a0s a2at⟩ Qa (sC (Qs (Js .i64 x8.Phases (Wu .i64 1 a2at.Phase)) 0) Qa (Qg Qe ⟨[(4,I l6)],Jp a0s a2at⟩ Qa (sT (Q9 (QY (KC (Q9 (KC (QN (.id) [1000,1001] [] (I l6) Qa Qa (Yq (xR 1 Qa (xE (QV l6 Qa)))))))))))) (sK (QT (Qk ⟨jH r3 l6,Jp a0s a2at⟩ Qa (sL Qe Qa (Ky (wi (l6+1)) Qa)))))))))))))))))))))))))))))))) (Qm (Zu (ZP (QG (Ky (k:=fun _=>YV) () Qa)))))))
 rintro j4
 refine sS (Qg Qe ⟨[(0, .p (.sl 1 (List.map ci r3))),(1, .fn (.func 60) [] [Ka,Gl]),(5,I j4),(12,B (Qs j4 (-1)))],Jp a0s a2at⟩ Qa (sC (Qs j4 (-1)) Qa (Qg Qe ⟨[(4, .p (.sl 1 (List.map ci r3)))],Jp a0s a2at⟩ Qa (sT (QY (QN (.id) [1000,1001] [] (.p (.sl 1 (List.map ci r3))) Qa Qa (Yq (xR 1 Qa (xE (Qk ⟨tX r2.1 r3,[(4,(Vk a1tops))]⟩ Qa (sS (sG (xR 2 Qa (Yr (ZX a1tops) [.p (.sl 1 (List.map ci r3)), .fn (.func 62) [] [Ka]] [(1000,4)] [] [] Qa Tryz.func61 rfl Tryz.ntmps61 rfl Qa Qa Qa (sG (xR 4 Qa (Yr (ZX a1tops) [.p (.sl 1 (List.map ci r3)),I (Qc (List.map ci r3)), .fn (.func 62) [] [Ka]] [(1000,1000)] [] [] Qa Tryz.func108 rfl Tryz.ntmps108 rfl Qa Qa Qa (Qg Qe ⟨yf r3 20,ZX a1tops⟩ Qa (Qg Qe ⟨Oi r3 20 0 20,ZX a1tops⟩ Qa (KM (fun j9=>⟨tY r3 20 j9,ZX a1tops⟩:Int→St) ?_ ?_)))))))))))))))))) (sK (Qk ⟨tV r3 j4,Jp a0s a2at⟩ Qa (sS (Qg Qe ⟨[(0, .p (.sl 1 (List.map ci r3))),(1, .fn (.func 60) [] [Ka,Gl]),(5,I j4),(6,I (wi (j4+1)))],Jp a0s a2at⟩ Qa (sB Sn)))))))
 ·refine sB (Qw (fun (l10_1,l10_2)=>⟨Oi r3 20 l10_1 l10_2,ZX a1tops⟩:(Int × Int)→St) (Wq Qa) ?_)
  rintro recl10 ⟨l10_1,l10_2⟩
  show QU (JA n a1tops r3 recl10 l10_1 l10_2) _ _ _ _ _ _
  unfold JA
  refine sS (Qg Qe ⟨[(0, .p (.sl 1 (List.map ci r3))),(1,I (Qc (List.map ci r3))),(2, .fn (.func 62) [] [Ka]),(6,I 20),(7,I l10_1),(8,I l10_2),(13,B (leI l10_2 (Qc (List.map ci r3))))],ZX a1tops⟩ Qa (sC (leI l10_2 (Qc (List.map ci r3))) Qa (sK (Qk ⟨Oi r3 20 l10_1 l10_2,ZX a1tops⟩ Qa (sB (sS (sG (xR 4 Qa (Yr (ZX a1tops) [.p (.sl 1 (List.map ci r3)),I l10_1,I l10_2, .fn (.func 62) [] [Ka]] [(1000,1000)] [] [] Qa Tryz.func143 rfl Tryz.ntmps143 rfl Qa Qa Qa (Qg Qe ⟨jI r3 l10_1 l10_2 (wi (l10_1+1)),ZX a1tops⟩ Qa (sB (Qw (fun l11=>⟨jI r3 l10_1 l10_2 l11,ZX a1tops⟩:Int→St) (Wq Qa) ?_)))))))))) (Qm (Zu (ZP (QG (QV l10_1 Qa)))))))
  rintro recl11 l11
  show QU (Jz n a1tops r3 l10_1 l10_2 recl10 recl11 l11) _ _ _ _ _ _
  unfold Jz
  refine sS (Qg Qe ⟨[(0, .p (.sl 1 (List.map ci r3))),(1,I l10_1),(2,I l10_2),(3, .fn (.func 62) [] [Ka]),(8,I l11),(14,B (QL l11 l10_2))],ZX a1tops⟩ Qa (sC (QL l11 l10_2) Qa (sK (Qk ⟨jI r3 l10_1 l10_2 l11,ZX a1tops⟩ Qa (sS (sB (Qg Qe ⟨nU r3 l10_1 l10_2 l11,ZX a1tops⟩ Qa (sB (Qw (fun _=>⟨nU r3 l10_1 l10_2 l11,ZX a1tops⟩:Unit→St) (Wq Qa) ?_))))))) (Qm (Zu (ZP (QG (Ww (.id) [1000] [] (.tup []) Qa Qa (Yq (xE (Qk ⟨[(0, .p (.sl 1 (List.map ci r3))),(1,I (Qc (List.map ci r3))),(2, .fn (.func 62) [] [Ka]),(6,I 20),(8,I l10_2)],ZX a1tops⟩ Qa (Qg Qe ⟨[(0, .p (.sl 1 (List.map ci r3))),(1,I (Qc (List.map ci r3))),(2, .fn (.func 62) [] [Ka]),(6,I 20),(7,I l10_2),(8,I l10_2)],ZX a1tops⟩ Qa (sL Qe Qa (QT (Ky (l10_2,wi (l10_2+20)) Qa))))))))))))))
  rintro recl12 _
  show QU (Jy n a1tops r3 l10_1 l11 recl11 recl12) _ _ _ _ _ _
  unfold Jy
  refine sS (KM (fun j13=>⟨[(0, .p (.sl 1 (List.map ci r3))),(1,I l10_1),(2,I l10_2),(3, .fn (.func 62) [] [Ka]),(8,I l11),(9,I l11),(34,B j13)],ZX a1tops⟩:Bool→St) ?_ ?_)
  rotate_left
  ·rintro j13
   exact sC j13 Qa (sK (Qk ⟨nU r3 l10_1 l10_2 l11,ZX a1tops⟩ Qa (sS Sn))) (Qm (Zu (ZP (QG (QT (Qk ⟨jI r3 l10_1 l10_2 l11,ZX a1tops⟩ Qa (sL Qe Qa (Ky (wi (l11+1)) Qa))))))))
  refine YK Qe rfl (xR 4 Qa (xS (QL l10_1 l11) (fun h14=>xO (Qt Qa h14) Qa (xR 2 Qa (xG Qa Qa (QC (e:=3) (S:=1) (enc:=ci) (l:=r3) (k:=.i64) (n:=l11) (sv:=.p (.sl 1 (List.map ci r3))) rfl Qa Qa Qa Qa Qa) (fun x15=>xR 4 Qa (xG Qa Qa (QC (e:=3) (S:=1) (enc:=ci) (l:=r3) (k:=.i64) (n:=wi (l11 - 1)) (sv:=.p (.sl 1 (List.map ci r3))) rfl Qa Qa Qa Qa Qa) (fun x16=>xR 1 Qa (U7 rfl Qa Qa (Yr (ZX a1tops) [I x15,I x16,Ka] [(1000,1000)] [] [] Qa Tryz.func62 rfl Tryz.ntmps62 rfl Qa Qa Qa (Qg Qe ⟨[(0,I x15),(1,I x16),(2,Ka)],ZX a1tops⟩ Qa (sS (YK Qe rfl (xR 2 Qa (xG Qa Qa (QC (e:=3) (S:=1) (enc:=ci) (l:=a1tops) (k:=.i64) (n:=x16) (sv:=.p (.sl 1 (List.map ci a1tops))) rfl Qa Qa Qa Qa Qa) (fun x17=>xR 3 Qa (xG Qa Qa (QC (e:=3) (S:=1) (enc:=ci) (l:=a1tops) (k:=.i64) (n:=x15) (sv:=.p (.sl 1 (List.map ci a1tops))) rfl Qa Qa Qa Qa Qa) (fun x18=>xR 1 Qa ?_)))))))))))))))) (fun h14=>xN (Qu Qa h14) Qa (xR 12 Qa (Yh Qa (QV false Qa))))))
  refine xC [] Qa (UI n x17 x18) Qa Qa QW (fun r19=>?_)
  exact xR 1 Qa (Yh Qa (Qk ⟨[(5,I r19)],ZX a1tops⟩ Qa (sT (QN (.id) [1000] [] (I r19) Qa Qa (Yq (xR 2 Qa (xE (QV (QL r19 0) Qa))))))))
 rintro j9
 refine sS (sG (xR 4 Qa (Yr (ZX a1tops) [.p (.sl 1 (List.map ci r3)),I j9,I (Qc (List.map ci r3)), .fn (.func 62) [] [Ka]] [(1000,1000)] [] [] Qa Tryz.func143 rfl Tryz.ntmps143 rfl Qa Qa Qa (Qg Qe ⟨jJ r3 j9 (wi (j9+1)),ZX a1tops⟩ Qa (sB (Qw (fun l20=>⟨jJ r3 j9 l20,ZX a1tops⟩:Int→St) (Wq Qa) ?_))))))
 rintro recl20 l20
 show QU (JF n a1tops r2 r3 j9 recl20 l20) _ _ _ _ _ _
 unfold JF
 refine sS (Qg Qe ⟨[(0, .p (.sl 1 (List.map ci r3))),(1,I j9),(2,I (Qc (List.map ci r3))),(3, .fn (.func 62) [] [Ka]),(8,I l20),(14,B (QL l20 (Qc (List.map ci r3))))],ZX a1tops⟩ Qa (sC (QL l20 (Qc (List.map ci r3))) Qa ?_ ?_))
 ·refine sK (Qk ⟨jJ r3 j9 l20,ZX a1tops⟩ Qa (sS (sB (Qg Qe ⟨nV r3 j9 l20,ZX a1tops⟩ Qa (sB (Qw (fun _=>⟨nV r3 j9 l20,ZX a1tops⟩:Unit→St) (Wq Qa) ?_))))))
  rintro recl21 _
  show QU (JB n a1tops r3 j9 l20 recl20 recl21) _ _ _ _ _ _
  unfold JB
  refine sS (KM (fun j22=>⟨[(0, .p (.sl 1 (List.map ci r3))),(1,I j9),(2,I (Qc (List.map ci r3))),(3, .fn (.func 62) [] [Ka]),(8,I l20),(9,I l20),(34,B j22)],ZX a1tops⟩:Bool→St) ?_ ?_)
  rotate_left
  ·rintro j22
   exact sC j22 Qa (sK (Qk ⟨nV r3 j9 l20,ZX a1tops⟩ Qa (sS Sn))) (Qm (Zu (ZP (QG (QT (Qk ⟨jJ r3 j9 l20,ZX a1tops⟩ Qa (sL Qe Qa (Ky (wi (l20+1)) Qa))))))))
  refine YK Qe rfl (xR 4 Qa (xS (QL j9 l20) (fun h23=>xO (Qt Qa h23) Qa (xR 2 Qa (xG Qa Qa (QC (e:=3) (S:=1) (enc:=ci) (l:=r3) (k:=.i64) (n:=l20) (sv:=.p (.sl 1 (List.map ci r3))) rfl Qa Qa Qa Qa Qa) (fun x24=>xR 4 Qa (xG Qa Qa (QC (e:=3) (S:=1) (enc:=ci) (l:=r3) (k:=.i64) (n:=wi (l20 - 1)) (sv:=.p (.sl 1 (List.map ci r3))) rfl Qa Qa Qa Qa Qa) (fun x25=>xR 1 Qa (U7 rfl Qa Qa (Yr (ZX a1tops) [I x24,I x25,Ka] [(1000,1000)] [] [] Qa Tryz.func62 rfl Tryz.ntmps62 rfl Qa Qa Qa (Qg Qe ⟨[(0,I x24),(1,I x25),(2,Ka)],ZX a1tops⟩ Qa (sS (YK Qe rfl (xR 2 Qa (xG Qa Qa (QC (e:=3) (S:=1) (enc:=ci) (l:=a1tops) (k:=.i64) (n:=x25) (sv:=.p (.sl 1 (List.map ci a1tops))) rfl Qa Qa Qa Qa Qa) (fun x26=>xR 3 Qa (xG Qa Qa (QC (e:=3) (S:=1) (enc:=ci) (l:=a1tops) (k:=.i64) (n:=x24) (sv:=.p (.sl 1 (List.map ci a1tops))) rfl Qa Qa Qa Qa Qa) (fun x27=>xR 1 Qa ?_)))))))))))))))) (fun h23=>xN (Qu Qa h23) Qa (xR 12 Qa (Yh Qa (QV false Qa))))))
  refine xC [] Qa (UI n x26 x27) Qa Qa QW (fun r28=>?_)
  exact xR 1 Qa (Yh Qa (Qk ⟨[(5,I r28)],ZX a1tops⟩ Qa (sT (QN (.id) [1000] [] (I r28) Qa Qa (Yq (xR 2 Qa (xE (QV (QL r28 0) Qa))))))))
 refine Qm (Zu (ZP (QG (Ww (.id) [1000] [] (.tup []) Qa Qa (Yq (xE (Qk ⟨yf r3 20,ZX a1tops⟩ Qa (sB (Qw (fun l29=>⟨yf r3 l29,ZX a1tops⟩:Int→St) (Wq Qa) ?_)))))))))
 rintro recl29 l29
 show QU (JE n a1tops r2 r3 recl29 l29) _ _ _ _ _ _
 unfold JE
 refine sS (Qg Qe ⟨[(0, .p (.sl 1 (List.map ci r3))),(1,I (Qc (List.map ci r3))),(2, .fn (.func 62) [] [Ka]),(6,I l29),(30,B (QL l29 (Qc (List.map ci r3))))],ZX a1tops⟩ Qa (sC (QL l29 (Qc (List.map ci r3))) Qa ?_ ?_))
 ·refine sK (Qk ⟨yf r3 l29,ZX a1tops⟩ Qa (sB (Qg Qe ⟨Oi r3 l29 0 (wi (2 * l29)),ZX a1tops⟩ Qa (KM (fun _=>⟨tY r3 l29 0,ZX a1tops⟩:Unit→St) ?_ ?_))))
  rotate_left
  ·rintro _
   exact sS (Qg Qe ⟨[(0, .p (.sl 1 (List.map ci r3))),(1,I (Qc (List.map ci r3))),(2, .fn (.func 62) [] [Ka]),(6,I l29),(7,I 0),(9,I (wi (0+l29)))],ZX a1tops⟩ Qa (Qg Qe ⟨[(0, .p (.sl 1 (List.map ci r3))),(1,I (Qc (List.map ci r3))),(2, .fn (.func 62) [] [Ka]),(6,I l29),(7,I 0),(9,I (wi (0+l29))),(54,B (QL (wi (0+l29)) (Qc (List.map ci r3))))],ZX a1tops⟩ Qa (sC (QL (wi (0+l29)) (Qc (List.map ci r3))) Qa (sG (xR 5 Qa O6)) (sK (Qk ⟨yf r3 l29,ZX a1tops⟩ Qa (sL Qe Qa (QT (Ky (wi (l29 * 2)) Qa))))))))
  refine sB (Qw (fun _=>⟨Oi r3 l29 0 (wi (2 * l29)),ZX a1tops⟩:Unit→St) (Wq Qa) ?_)
  rintro recl31 _
  show QU (JC r3 l29 recl31) _ _ _ _ _ _
  unfold JC
  exact sS (Qg Qe ⟨[(0, .p (.sl 1 (List.map ci r3))),(1,I (Qc (List.map ci r3))),(2, .fn (.func 62) [] [Ka]),(6,I l29),(7,I 0),(8,I (wi (2 * l29))),(35,B (leI (wi (2 * l29)) (Qc (List.map ci r3))))],ZX a1tops⟩ Qa (sC (leI (wi (2 * l29)) (Qc (List.map ci r3))) Qa (sK (Qk ⟨Oi r3 l29 0 (wi (2 * l29)),ZX a1tops⟩ Qa (sB (sS (sG (xR 7 Qa O6)))))) (Qm (Zu (ZP (QG (QV () Qa)))))))
 refine Qm (Zu (ZP (QG (Ww (.id) [1000] [] (.tup []) Qa Qa (Yq (xE (Ww (.id) [1000] [] (.tup []) Qa Qa (Yq (xE (Qk ⟨tX r2.1 r3,[(4,(Vk a1tops))]⟩ Qa (sS (sG (xR 2 Qa (xF Qa Qa (SA (e:=3) (S:=1) (by_:=8) (d:=39) (enc:=ci) (z0:=0) (k:=.i64) (k':=.i64) (l:=Qc (List.map ci a1tops)) (c:=Qc (List.map ci a1tops)) rfl rfl Qa Qa rfl Qa Qa Qa Qa) (xR 1 Qa (xE (Qk ⟨[qq 4,(9,I r2.1),(11, .p (.sl 1 (List.map ci r3))),(12, .vsl 1 39 (List.map ci (List.replicate (Int.toNat (Qc (List.map ci a1tops))) 0)).length)],[(4,(Vk a1tops)),(39, .vec 3 1 (List.map ci (List.replicate (Int.toNat (Qc (List.map ci a1tops))) 0)))]⟩ Qa (Qg Qe ⟨[qq 4,(11, .p (.sl 1 (List.map ci r3))),(12, .vsl 1 39 (List.map ci (List.replicate (Int.toNat (Qc (List.map ci a1tops))) 0)).length),(13,I (wi (r2.1+1)))],[(4,(Vk a1tops)),(39, .vec 3 1 (List.map ci (List.replicate (Int.toNat (Qc (List.map ci a1tops))) 0)))]⟩ Qa (sS (Qg Qe ⟨[qq 4,(12, .vsl 1 39 (List.map ci (List.replicate (Int.toNat (Qc (List.map ci a1tops))) 0)).length),(13,I (wi (r2.1+1))),(42, .p (.sl 1 (List.map ci r3))),(43,I (Qc (List.map ci r3))),(44,I 0)],[(4,(Vk a1tops)),(39, .vec 3 1 (List.map ci (List.replicate (Int.toNat (Qc (List.map ci a1tops))) 0)))]⟩ Qa (sB (Qw (fun (l32_1,l32_2,l32_3)=>⟨[qq 4,(12, .vsl 1 39 (List.map ci l32_1).length),(13,I l32_2),(42, .p (.sl 1 (List.map ci r3))),(43,I (Qc (List.map ci r3))),(44,I l32_3)],[(4,(Vk a1tops)),(39, .vec 3 1 (List.map ci l32_1))]⟩:((List Int) × Int × Int)→St) (Wq Qa) ?_))))))))))))))))))))))
 rintro recl32 ⟨l32_1,l32_2,l32_3⟩
 show QU (JD a1tops r3 recl32 l32_1 l32_2 l32_3) _ _ _ _ _ _
 unfold JD
 refine Qg Qe ⟨[qq 4,(12, .vsl 1 39 (List.map ci l32_1).length),(13,I l32_2),(42, .p (.sl 1 (List.map ci r3))),(43,I (Qc (List.map ci r3))),(44,I l32_3),(45,B (QL l32_3 (Qc (List.map ci r3))))],[(4,(Vk a1tops)),(39, .vec 3 1 (List.map ci l32_1))]⟩ Qa (sS (sC (QL l32_3 (Qc (List.map ci r3))) Qa (sK (Qk ⟨[qq 4,(12, .vsl 1 39 (List.map ci l32_1).length),(13,I l32_2),(42, .p (.sl 1 (List.map ci r3))),(43,I (Qc (List.map ci r3))),(44,I l32_3)],[(4,(Vk a1tops)),(39, .vec 3 1 (List.map ci l32_1))]⟩ Qa (sS (sB (sS (sG (xG Qa Qa (QC (e:=3) (S:=1) (enc:=ci) (l:=r3) (k:=.i64) (n:=l32_3) (sv:=.p (.sl 1 (List.map ci r3))) rfl Qa Qa Qa Qa Qa) (fun x33=>xR 2 Qa (xE (Qk ⟨[qq 4,(12, .vsl 1 39 (List.map ci l32_1).length),(13,I l32_2),(15,I x33),(42, .p (.sl 1 (List.map ci r3))),(43,I (Qc (List.map ci r3))),(44,I l32_3)],[(4,(Vk a1tops)),(39, .vec 3 1 (List.map ci l32_1))]⟩ Qa (sS (sG (xR 4 Qa (xG Qa Qa (QC (e:=3) (S:=1) (enc:=ci) (l:=a1tops) (k:=.i64) (n:=x33) (sv:=.p (.sl 1 (List.map ci a1tops))) rfl Qa Qa Qa Qa Qa) (fun x34=>xR 3 Qa (BJ Qa Qa (Tp (e:=3) (S:=1) (tk:=39) (ty:=3) (enc:=ci) (l:=l32_1) (k:=.i64) (n:=x33) (nn:=(List.map ci l32_1).length) rfl Qa Qa Qa Qa Qa zq) (fun x35 hx35=>(Ze Qa Qa (Um (S:=1) (tb:=3) (tk:=39) (n:=Int.toNat x33) (f:=0) (enc:=ci) (l:=l32_1) (v:=x35) (v':=(Fu x34 l32_2)) (xv:=I (Fu x34 l32_2)) rfl Qa Qa Qa (YX hx35) Qa) (xE (Qk ⟨[qq 4,(12, .vsl 1 39 (List.map ci l32_1).length),(13,I l32_2),(15,I x33),(42, .p (.sl 1 (List.map ci r3))),(43,I (Qc (List.map ci r3))),(44,I l32_3)],[(4,(Vk a1tops)),(39, .vec 3 1 (List.map ci (List.set l32_1 (Int.toNat x33) (Fu x34 l32_2))))]⟩ Qa (sS (sG (xR 3 Qa (BJ Qa Qa (Tp (e:=3) (S:=1) (tk:=39) (ty:=3) (enc:=ci) (l:=List.set l32_1 (Int.toNat x33) (Fu x34 l32_2)) (k:=.i64) (n:=x33) (nn:=(List.map ci l32_1).length) rfl Qa Qa Qa Qa Qa zq) (fun x36 hx36=>?_))))))))))))))))))))))))) (Qm (Zu (ZP (QG (Qk ⟨[(12, .vsl 1 39 (List.map ci l32_1).length)],[(39, .vec 3 1 (List.map ci l32_1))]⟩ Qa (Zq (FY 39 3 1 (List.map ci l32_1) [(List.map ci l32_1).length] Qa Qa zq Qa Qa) (Qg Qe ⟨[(6, .p (.sl 1 (List.map ci l32_1)))],[]⟩ Qa (sT (qR (.id) Qa Qa Qa)))))))))))
 exact Ze Qa Qa (G6 (S:=1) (tb:=3) (tk:=39) (n:=Int.toNat x33) (f:=0) (enc:=ci) (l:=List.set l32_1 (Int.toNat x33) (Fu x34 l32_2)) (v:=x36) (c:=I x36) rfl Qa Qa (YX hx36) Qa) (xR 2 Qa (xE (Qk ⟨[qq 4,(12, .vsl 1 39 (List.map ci l32_1).length),(13,I (wi (l32_2 - x36))),(42, .p (.sl 1 (List.map ci r3))),(43,I (Qc (List.map ci r3))),(44,I l32_3)],[(4,(Vk a1tops)),(39, .vec 3 1 (List.map ci (List.set l32_1 (Int.toNat x33) (Fu x34 l32_2))))]⟩ Qa (Qg Qe ⟨[qq 4,(12, .vsl 1 39 (List.map ci l32_1).length),(13,I (wi (l32_2 - x36))),(42, .p (.sl 1 (List.map ci r3))),(43,I (Qc (List.map ci r3))),(44,I l32_3),(64,B (Qs (wi (l32_2 - x36)) 0))],[(4,(Vk a1tops)),(39, .vec 3 1 (List.map ci (List.set l32_1 (Int.toNat x33) (Fu x34 l32_2))))]⟩ Qa (sC (Qs (wi (l32_2 - x36)) 0) Qa (Qm (Ee rfl (Zu (ZP (QG (Qk ⟨[(12, .vsl 1 39 (List.map ci l32_1).length)],[(39, .vec 3 1 (List.map ci (List.set l32_1 (Int.toNat x33) (Fu x34 l32_2))))]⟩ Qa (Zq (FY 39 3 1 (List.map ci (List.set l32_1 (Int.toNat x33) (Fu x34 l32_2))) [(List.map ci l32_1).length] Qa Qa zq Qa Qa) (Qg Qe ⟨[(6, .p (.sl 1 (List.map ci (List.set l32_1 (Int.toNat x33) (Fu x34 l32_2)))))],[]⟩ Qa (sT (qR (.id) Qa Qa Qa)))))))))) (sK (QT (Qk ⟨[qq 4,(12, .vsl 1 39 (List.map ci l32_1).length),(13,I (wi (l32_2 - x36))),(42, .p (.sl 1 (List.map ci r3))),(43,I (Qc (List.map ci r3))),(44,I l32_3)],[(4,(Vk a1tops)),(39, .vec 3 1 (List.map ci (List.set l32_1 (Int.toNat x33) (Fu x34 l32_2))))]⟩ Qa (sL Qe Qa (bP  (List.set l32_1 (Int.toNat x33) (Fu x34 l32_2),wi (l32_2 - x36),wi (l32_3+1)) ⟨[4,12,13,42,43,44],[4,39],[],[]⟩ ⟨[qq 4,(12, .vsl 1 39 (List.map ci l32_1).length),(13,I (wi (l32_2 - x36))),(42, .p (.sl 1 (List.map ci r3))),(43,I (Qc (List.map ci r3))),(44,I (wi (l32_3+1)))],[(4,(Vk a1tops)),(39, .vec 3 1 (List.map ci (List.set l32_1 (Int.toNat x33) (Fu x34 l32_2))))]⟩ Qa zq))))))))))
def Ur (n:Nat) (a0s:Qj) (a1tops:List Int):Option (Cj × (List Int) × Int) :=
 (Gz n a0s a1tops).bind fun r1 =>
 cond (!Qs r1.2.2 0)
  (some ((⟨[]⟩:Cj),[],1))
  (cond r1.2.1
   ((UX n a0s a1tops r1.1).bind fun r2 =>
   some ((⟨[]⟩:Cj),r2,13))
   ((V8 n a0s a1tops).bind fun r3 =>
   cond (!Qs r3.2 0)
    (some ((⟨[]⟩:Cj),[],1))
    (some ((⟨r3.1⟩:Cj),[],0))))
def tZ:=fun x0=>([(1, .p (.sl 1 (List.map ci x0))),(2, .ptr 2 0),(4, .ptr 4 0)]:List (Nat × AV))
def lc:=fun x0=>([(2, .box 28 (Kw (Qj.cs x0))),(4, .box 42 [.p (.val (.slice none 0 0))])]:List (Nat × Blk))
def jK:=fun x0 x1=>([(2, .box 28 (Kw (Qj.cs x0))),(4, .box 42 [.p (.val (.slice none 0 0))]),(7, .box 46 (Kw (ZT.cs x1)))]:List (Nat × Blk))
def nW:=fun x0=>([(4, .ptr 4 0),(5, .p (.val (.slice none 0 0))),(6,I x0)]:List (Nat × AV))
def Oj:List (Nat × Blk):=[(4, .box 42 [.p (.val (.slice none 0 0))])]
theorem Lp (n:Nat) (a0s:Qj) (a1tops:List Int):∀ r,Ur n a0s a1tops=some r→Q0 Tryz.prog 9 [ag (Qj.cs a0s), .p (.sl 1 (List.map ci a1tops))] (.ret (.tup [.agg [.p (.sl 3 (List.map Qb r.1.Sums))], .p (.sl 1 (List.map ci r.2.1)),I r.2.2])):=by
 refine Qp Tryz.func9 rfl Tryz.ntmps9 rfl ?_
 unfold Ur
 refine Qg Qe ⟨tZ a1tops,lc a0s⟩ Qa (sS (sG (xR 2 Qa ?_)))
 refine xC [] Qa (MW n a0s a1tops) Qa Qa QW (fun r1=>?_)
 refine xR 8 Qa (xE (Qk ⟨[(1, .p (.sl 1 (List.map ci a1tops))),qq 2,qq 4,qq 7,(8,B r1.2.1),(9,I r1.2.2)],jK a0s r1.1⟩ Qa (sS (Qg Qe ⟨[(1, .p (.sl 1 (List.map ci a1tops))),qq 2,qq 4,qq 7,(8,B r1.2.1),(19,B (!Qs r1.2.2 0))],jK a0s r1.1⟩ Qa (sC (!Qs r1.2.2 0) Qa (Qg Qe ⟨nW 1,Oj⟩ Qa (sT (QY (qR (.agg [.agg [.sl 3], .sl 1, .id]) Qa Qa Qa)))) (sK (Qk ⟨[(1, .p (.sl 1 (List.map ci a1tops))),qq 2,qq 4,qq 7,(8,B r1.2.1)],jK a0s r1.1⟩ Qa (sS (Qg Qe ⟨[(1, .p (.sl 1 (List.map ci a1tops))),qq 2,qq 4,qq 7,(21,B r1.2.1)],jK a0s r1.1⟩ Qa (sC r1.2.1 Qa ?_ ?_))))))))))
 ·refine sS (sG (xR 4 Qa ?_))
  refine xC [] Qa (CU n a0s a1tops r1.1) Qa Qa QW (fun r2=>?_)
  exact xR 3 Qa (xE (Qk ⟨[qq 4,(5, .p (.sl 1 (List.map ci r2))),(6,I 13)],Oj⟩ Qa (sT (QY (qR (.agg [.agg [.sl 3], .id, .id]) Qa Qa Qa)))))
 refine sK (Qk ⟨tZ a1tops,lc a0s⟩ Qa (sS (sG (xR 2 Qa ?_))))
 refine xC [] Qa (UV n a0s a1tops) Qa Qa QW (fun r3=>?_)
 exact xR 5 Qa (xE (Qk ⟨[qq 4,(9,I r3.2),(10, .p (.sl 3 (List.map Qb r3.1)))],Oj⟩ Qa (sS (Qg Qe ⟨[qq 4,(10, .p (.sl 3 (List.map Qb r3.1))),(34,B (!Qs r3.2 0))],Oj⟩ Qa (sC (!Qs r3.2 0) Qa (Qg Qe ⟨nW 1,Oj⟩ Qa (sT (QY (qR (.agg [.agg [.sl 3], .sl 1, .id]) Qa Qa Qa)))) (sK (Qk ⟨[qq 4,(10, .p (.sl 3 (List.map Qb r3.1)))],Oj⟩ Qa (Qg Qe ⟨nW 0,[(4, .box 42 [.p (.sl 3 (List.map Qb r3.1))])]⟩ Qa (sT (qR (.agg [.id, .sl 1, .id]) Qa Qa Qa))))))))))
def UY (a0a:List Int) (a1b:List Int) (recl1:Int→Option Bool) (l1:Int):Option Bool :=
 cond (QL l1 (Qc (List.map ci a0a)))
  ((Zc a0a l1).bind fun x2 =>
  (Zc a1b l1).bind fun x3 =>
  cond (!Qs x2 x3)
   (some false)
   (recl1 (wi (l1+1))))
  (some true)
def Rl (n:Nat) (a0a:List Int) (a1b:List Int):Option Bool :=
 cond (!Qs (Qc (List.map ci a0a)) (Qc (List.map ci a1b)))
  (some false)
  (Q4 (fun recl1 l1=>UY a0a a1b recl1 l1) n 0)
def lg:=fun x0 x1=>([(0, .p (.sl 1 (List.map ci x0))),(1, .p (.sl 1 (List.map ci x1)))]:List (Nat × AV))
def jL:=fun x0 x1 x2=>([(0, .p (.sl 1 (List.map ci x0))),(1, .p (.sl 1 (List.map ci x1))),(5,I x2)]:List (Nat × AV))
theorem P5 (n:Nat) (a0a:List Int) (a1b:List Int):∀ r,Rl n a0a a1b=some r→Q0 Tryz.prog 17 [.p (.sl 1 (List.map ci a0a)), .p (.sl 1 (List.map ci a1b))] (.ret (B r)):=by
 refine Qp Tryz.func17 rfl Tryz.ntmps17 rfl ?_
 unfold Rl
 refine Qg Qe ⟨lg a0a a1b,[]⟩ Qa (sS (Qg Qe ⟨[(0, .p (.sl 1 (List.map ci a0a))),(1, .p (.sl 1 (List.map ci a1b))),(10,B (!Qs (Qc (List.map ci a0a)) (Qc (List.map ci a1b))))],[]⟩ Qa (sC (!Qs (Qc (List.map ci a0a)) (Qc (List.map ci a1b))) Qa (Qg Qe ⟨[(4,B false)],[]⟩ Qa (sT (QY (qR (.id) Qa Qa Qa)))) (sK (Qk ⟨lg a0a a1b,[]⟩ Qa (sS (Qg Qe ⟨jL a0a a1b 0,[]⟩ Qa (sB (Qw (fun l1=>⟨jL a0a a1b l1,[]⟩:Int→St) (Wq Qa) ?_)))))))))
 rintro recl1 l1
 show QU (UY a0a a1b recl1 l1) _ _ _ _ _ _
 unfold UY
 exact sS (Qg Qe ⟨[(0, .p (.sl 1 (List.map ci a0a))),(1, .p (.sl 1 (List.map ci a1b))),(5,I l1),(14,B (QL l1 (Qc (List.map ci a0a))))],[]⟩ Qa (sC (QL l1 (Qc (List.map ci a0a))) Qa (sK (Qk ⟨jL a0a a1b l1,[]⟩ Qa (sS (sB (sS (YK Qe rfl (xR 2 Qa (xG Qa Qa (QC (e:=3) (S:=1) (enc:=ci) (l:=a0a) (k:=.i64) (n:=l1) (sv:=.p (.sl 1 (List.map ci a0a))) rfl Qa Qa Qa Qa Qa) (fun x2=>xR 3 Qa (xG Qa Qa (QC (e:=3) (S:=1) (enc:=ci) (l:=a1b) (k:=.i64) (n:=l1) (sv:=.p (.sl 1 (List.map ci a1b))) rfl Qa Qa Qa Qa Qa) (fun x3=>xR 2 Qa (Yh Qa (Qk ⟨[(0, .p (.sl 1 (List.map ci a0a))),(1, .p (.sl 1 (List.map ci a1b))),(5,I l1),(25,B (!Qs x2 x3))],[]⟩ Qa (sC (!Qs x2 x3) Qa (Qg Qe ⟨[(4,B false)],[]⟩ Qa (sT (Q9 (QY (KC (Q9 (QY (qR (.id) Qa Qa Qa)))))))) (sK (QT (Qk ⟨jL a0a a1b l1,[]⟩ Qa (sL Qe Qa (Ky (wi (l1+1)) Qa))))))))))))))))))) (Qm (Zu (ZP (QG (Qk ⟨[],[]⟩ Qa (Qg Qe ⟨[(4,B true)],[]⟩ Qa (sT (qR (.id) Qa Qa Qa))))))))))
def ZV (n:Nat):Option Bool :=
 (NN n [102,101,101,100,101,114,32,102,32,108,105,109,105,116,32,49,48,48,32,110,101,117,116,114,97,108,32,54,48,32,102,117,115,101,32,53,48,32,51,48,48,48,59,32,111,119,110,101,114,32,111,59,32,99,104,97,114,103,101,114,32,120,32,97,116,32,102,32,112,104,97,115,101,115,32,49,32,97,109,112,115,32,54,32,51,50,32,49,32,102,97,108,108,98,97,99,107,32,48,32,111,119,110,101,114,32,111,59,32,99,104,97,114,103,101,114,32,121,32,97,116,32,102,32,112,104,97,115,101,115,32,49,32,97,109,112,115,32,54,32,51,50,32,49,32,102,97,108,108,98,97,99,107,32,54,32,111,119,110,101,114,32,111,59]).bind fun r1 =>
 (Ri n r1.1).bind fun r2 =>
 (Ur n r2.1 [32,32]).bind fun r3 =>
 (Ur n r2.1 [32,18]).bind fun r4 =>
 (cond (Qs (Qc (List.map KG.cs r1.2)) 0)
  (cond (Qs (Qc (List.map KG.cs r2.2)) 0)
   (cond (Qs r3.2.2 13)
    (cond (Qs r4.2.2 0)
     ((Rl n r3.2.1 [32,19]).bind fun r10 =>
     some r10)
     (some false))
    (some false))
   (some false))
  (some false)).bind fun j5 =>
 some j5
theorem Uk (n:Nat):∀ r,ZV n=some r→Q0 Tryz.prog 5 [] (.ret (B r)):=by
 refine Qp Tryz.func5 rfl Tryz.ntmps5 rfl ?_
 unfold ZV
 refine Qg Qe ⟨[],[]⟩ Qa (sS (sG ?_))
 refine xC [] Qa (qo n [102,101,101,100,101,114,32,102,32,108,105,109,105,116,32,49,48,48,32,110,101,117,116,114,97,108,32,54,48,32,102,117,115,101,32,53,48,32,51,48,48,48,59,32,111,119,110,101,114,32,111,59,32,99,104,97,114,103,101,114,32,120,32,97,116,32,102,32,112,104,97,115,101,115,32,49,32,97,109,112,115,32,54,32,51,50,32,49,32,102,97,108,108,98,97,99,107,32,48,32,111,119,110,101,114,32,111,59,32,99,104,97,114,103,101,114,32,121,32,97,116,32,102,32,112,104,97,115,101,115,32,49,32,97,109,112,115,32,54,32,51,50,32,49,32,102,97,108,108,98,97,99,107,32,54,32,111,119,110,101,114,32,111,59]) Qa Qa QW (fun r1=>?_)
 refine xR 6 Qa (xE (Qk ⟨[qq 1,(2, .p (.sl 2 (Fa r1.2)))],MI r1.1⟩ Qa (sS (sG (xR 1 Qa ?_)))))
 refine xC [] Qa (PY n r1.1) Qa Qa QW (fun r2=>?_)
 refine xR 6 Qa (xE (Qk ⟨[(2, .p (.sl 2 (Fa r1.2))),qq 3,(4, .p (.sl 2 (Fa r2.2)))],[(3,QM r2.1)]⟩ Qa (sS (sG (xR 2 Qa ?_)))))
 refine xC [.id, .sl 1] Qa (Lp n r2.1 [32,32]) Qa Qa QW (fun r3=>?_)
 refine xR 8 Qa (xE (Qk ⟨[(2, .p (.sl 2 (Fa r1.2))),qq 3,(4, .p (.sl 2 (Fa r2.2))),(6, .p (.sl 1 (List.map ci r3.2.1))),(7,I r3.2.2)],[(3,QM r2.1)]⟩ Qa (sS (sG (xR 2 Qa ?_)))))
 refine xC [.id, .sl 1] Qa (Lp n r2.1 [32,18]) Qa Qa QW (fun r4=>?_)
 refine xR 8 Qa (xE (Qk ⟨[(2, .p (.sl 2 (Fa r1.2))),(4, .p (.sl 2 (Fa r2.2))),(6, .p (.sl 1 (List.map ci r3.2.1))),(7,I r3.2.2),(10,I r4.2.2)],[]⟩ Qa (KM (fun j5=>⟨[(0,B j5)],[]⟩:Bool→St) ?_ ?_)))
 rotate_left
 ·rintro j5
  exact sT (qR (.id) Qa Qa Qa)
 refine sG (xR 4 Qa (xS (Qs (Qc (Fa r1.2)) 0) (fun h6=>xO (Qt Qa h6) Qa (xR 4 Qa (xS (Qs (Qc (Fa r2.2)) 0) (fun h7=>xO (Qt Qa h7) Qa (xR 3 Qa (xS (Qs r3.2.2 13) (fun h8=>?_) (fun h8=>?_)))) (fun h7=>xN (Qu Qa h7) Qa (xR 12 Qa (xE (QV false Qa))))))) (fun h6=>xN (Qu Qa h6) Qa (xR 17 Qa (xE (QV false Qa))))))
 ·refine xO (Qt Qa h8) Qa (xR 3 Qa (xS (Qs r4.2.2 0) (fun h9=>?_) (fun h9=>?_)))
  ·refine xO (Qt Qa h9) Qa (xR 1 Qa ?_)
   refine xC [.id, .sl 1] Qa (P5 n r3.2.1 [32,19]) Qa Qa QW (fun r10=>?_)
   exact xR 2 Qa (xE (QV r10 Qa))
  exact xN (Qu Qa h9) Qa (xR 4 Qa (xE (QV false Qa)))
 exact xN (Qu Qa h8) Qa (xR 8 Qa (xE (QV false Qa)))
def UJ (n:Nat) (a0s:Qj):Option Bool :=
 (cond (leI (Qc (List.map ZI.cs a0s.Conductors)) 40)
  (cond (leI (Qc (List.map Zf.cs a0s.Owners)) 40)
   (cond (leI (Qc (List.map Kq.cs a0s.Contracts)) 40)
    (cond (leI (Qc (List.map ZL.cs a0s.Chargers)) 40)
     (some (leI (Qc (List.map Zt.cs a0s.Bays)) 40))
     (some false))
    (some false))
   (some false))
  (some false)).bind fun j1 =>
 some j1
theorem AJ (n:Nat) (a0s:Qj):∀ r,UJ n a0s=some r→Q0 Tryz.prog 18 [ag (Qj.cs a0s)] (.ret (B r)):=by
 refine Qp Tryz.func18 rfl Tryz.ntmps18 rfl ?_
 unfold UJ
 refine Qg Qe ⟨[qq 1],ZC a0s⟩ Qa (KM (fun j1=>⟨[(2,B j1)],[]⟩:Bool→St) ?_ ?_)
 rotate_left
 ·rintro j1
  exact sT (qR (.id) Qa Qa Qa)
 exact sG (xR 5 Qa (xS (leI (Qc (XM a0s.Conductors)) 40) (fun h2=>xO (Qt Qa h2) Qa (xR 5 Qa (xS (leI (Qc (K3 a0s.Owners)) 40) (fun h3=>xO (Qt Qa h3) Qa (xR 5 Qa (xS (leI (Qc (Fw a0s.Contracts)) 40) (fun h4=>xO (Qt Qa h4) Qa (xR 5 Qa (xS (leI (Qc (Z5 a0s.Chargers)) 40) (fun h5=>xO (Qt Qa h5) Qa (xR 5 Qa (xE (QV (leI (Qc (Wx a0s.Bays)) 40) Qa)))) (fun h5=>xN (Qu Qa h5) Qa (xR 5 Qa (xE (QV false Qa))))))) (fun h4=>xN (Qu Qa h4) Qa (xR 11 Qa (xE (QV false Qa))))))) (fun h3=>xN (Qu Qa h3) Qa (xR 17 Qa (xE (QV false Qa))))))) (fun h2=>xN (Qu Qa h2) Qa (xR 23 Qa (xE (QV false Qa))))))
def Qy (n:Nat) (a0n:Int) (a1low:Int) (a2high:Int):Option Bool :=
 cond (leI a1low a0n)
  (some (leI a0n a2high))
  (some false)
theorem QO (n:Nat) (a0n:Int) (a1low:Int) (a2high:Int):∀ r,Qy n a0n a1low a2high=some r→Q0 Tryz.prog 49 [I a0n,I a1low,I a2high] (.ret (B r)):=by
 refine Qp Tryz.func49 rfl Tryz.ntmps49 rfl ?_
 unfold Qy
 exact Qg Qe (rZ a0n a1low a2high) Qa (sS (sG (xR 4 Qa (xS (leI a1low a0n) (fun h1=>xO (Qt Qa h1) Qa (xR 4 Qa (xE (Qk ⟨[(6,B (leI a0n a2high))],[]⟩ Qa (sT (qR (.id) Qa Qa Qa)))))) (fun h1=>xN (Qu Qa h1) Qa (xR 4 Qa (xE (Qk ⟨[(6,B false)],[]⟩ Qa (sT (qR (.id) Qa Qa Qa))))))))))
def Vn (n:Nat):Option (List (List UInt8)) :=
 some [[102,101,101,100,101,114],[99,97,98,108,101],[111,119,110,101,114],[99,111,110,116,114,97,99,116],[99,104,97,114,103,101,114],[98,97,121],[116,97,114,105,102,102]]
theorem NW (n:Nat):∀ r,Vn n=some r→Q0 Tryz.prog 139 [] (.ret (.p (.sl 1 (List.map Zo r)))):=by
 refine Qp Tryz.func139 rfl Tryz.ntmps139 rfl ?_
 unfold Vn
 exact Qg Qe ⟨[],[]⟩ Qa (Qg Qe ⟨[(0, .tsl 1 (List.map Zo [[102,101,101,100,101,114],[99,97,98,108,101],[111,119,110,101,114],[99,111,110,116,114,97,99,116],[99,104,97,114,103,101,114],[98,97,121],[116,97,114,105,102,102]]) 1)],[(1, .arr 9 1 (List.map Zo [[102,101,101,100,101,114],[99,97,98,108,101],[111,119,110,101,114],[99,111,110,116,114,97,99,116],[99,104,97,114,103,101,114],[98,97,121],[116,97,114,105,102,102]]).length)]⟩ Qa (sT (qR (.sl 1) Qa Qa Qa)))
def Wt (a0l:List (List UInt8)) (a1s:List UInt8) (recl1:Int→Option Int) (l1:Int):Option Int :=
 cond (QL l1 (Qc (List.map Zo a0l)))
  ((Zc a0l l1).bind fun x2 =>
  cond (Q8 x2 a1s)
   (some l1)
   (recl1 (wi (l1+1))))
  (some (-1))
def W9 (n:Nat) (a0l:List (List UInt8)) (a1s:List UInt8):Option Int :=
 Q4 (fun recl1 l1=>Wt a0l a1s recl1 l1) n 0
def QbW:=fun x0 x1=>(⟨[(0, .p (.sl 1 (List.map Zo x0))),(1,S x1)],[]⟩:St)
def PM:=fun x0 x1 x2=>([(0, .p (.sl 1 (List.map Zo x0))),(1,S x1),(5,I x2)]:List (Nat × AV))
def lh:=fun x0 x1 x2 x3=>([(0, .p (.sl 1 (List.map Zo x0))),(1,S x1),(5,I x2),(9,B x3)]:List (Nat × AV))
def lm:=fun x0 x1 x2 x3=>([(0, .p (.sl 1 (List.map Zo x0))),(1,S x1),(5,I x2),(17,B x3)]:List (Nat × AV))
theorem Us (n:Nat) (a0l:List (List UInt8)) (a1s:List UInt8):∀ r,W9 n a0l a1s=some r→Q0 Tryz.prog 138 [.p (.sl 1 (List.map Zo a0l)),S a1s] (.ret (I r)):=by
 refine Qp Tryz.func138 rfl Tryz.ntmps138 rfl ?_
 unfold W9
 refine Qg Qe (QbW a0l a1s) Qa (sS (Qg Qe ⟨PM a0l a1s 0,[]⟩ Qa (sB (Qw (fun l1=>⟨PM a0l a1s l1,[]⟩:Int→St) (Wq Qa) ?_))))
 rintro recl1 l1
 show QU (Wt a0l a1s recl1 l1) _ _ _ _ _ _
 unfold Wt
 exact sS (Qg Qe ⟨lh a0l a1s l1 (QL l1 (Qc (List.map Zo a0l))),[]⟩ Qa (sC (QL l1 (Qc (List.map Zo a0l))) Qa (sK (Qk ⟨PM a0l a1s l1,[]⟩ Qa (sS (sB (sS (sG (xR 2 Qa (xG Qa Qa (QC (e:=9) (S:=1) (enc:=Zo) (l:=a0l) (k:=.i64) (n:=l1) (sv:=.p (.sl 1 (List.map Zo a0l))) rfl Qa Qa Qa Qa Qa) (fun x2=>xR 3 Qa (xE (Qk ⟨lm a0l a1s l1 (Q8 x2 a1s),[]⟩ Qa (sC (Q8 x2 a1s) Qa (Qg Qe ⟨[(4,I l1)],[]⟩ Qa (sT (Q9 (QY (KC (Q9 (QY (qR (.id) Qa Qa Qa)))))))) (sK (QT (Qk ⟨PM a0l a1s l1,[]⟩ Qa (sL Qe Qa (Ky (wi (l1+1)) Qa))))))))))))))))) (Qm (Zu (ZP (QG (Qk ⟨[],[]⟩ Qa (Qg Qe ⟨[(4,I (-1))],[]⟩ Qa (sT (qR (.id) Qa Qa Qa))))))))))
def Vo (n:Nat):Option (List (List UInt8)) :=
 some [[108,105,109,105,116],[110,101,117,116,114,97,108],[102,117,115,101],[116,104,101,114,109,97,108],[102,114,111,109],[97,116],[112,104,97,115,101,115],[97,109,112,115],[102,97,108,108,98,97,99,107],[111,119,110,101,114],[99,97,114,100],[114,97,110,107],[99,104,97,114,103,101,114]]
theorem NY (n:Nat):∀ r,Vo n=some r→Q0 Tryz.prog 140 [] (.ret (.p (.sl 1 (List.map Zo r)))):=by
 refine Qp Tryz.func140 rfl Tryz.ntmps140 rfl ?_
 unfold Vo
 exact Qg Qe ⟨[],[]⟩ Qa (Qg Qe ⟨[(0, .tsl 1 (List.map Zo [[108,105,109,105,116],[110,101,117,116,114,97,108],[102,117,115,101],[116,104,101,114,109,97,108],[102,114,111,109],[97,116],[112,104,97,115,101,115],[97,109,112,115],[102,97,108,108,98,97,99,107],[111,119,110,101,114],[99,97,114,100],[114,97,110,107],[99,104,97,114,103,101,114]]) 1)],[(1, .arr 9 1 (List.map Zo [[108,105,109,105,116],[110,101,117,116,114,97,108],[102,117,115,101],[116,104,101,114,109,97,108],[102,114,111,109],[97,116],[112,104,97,115,101,115],[97,109,112,115],[102,97,108,108,98,97,99,107],[111,119,110,101,114],[99,97,114,100],[114,97,110,107],[99,104,97,114,103,101,114]]).length)]⟩ Qa (sT (qR (.sl 1) Qa Qa Qa)))
def Yf (n:Nat):Option (List (List UInt8)) :=
 some [[115,116,97,114,116],[101,110,101,114,103,121],[116,105,109,101],[105,100,108,101],[99,97,112],[116,97,120]]
theorem Du (n:Nat):∀ r,Yf n=some r→Q0 Tryz.prog 141 [] (.ret (.p (.sl 1 (List.map Zo r)))):=by
 refine Qp Tryz.func141 rfl Tryz.ntmps141 rfl ?_
 unfold Yf
 exact Qg Qe ⟨[],[]⟩ Qa (Qg Qe ⟨[(0, .tsl 1 (List.map Zo [[115,116,97,114,116],[101,110,101,114,103,121],[116,105,109,101],[105,100,108,101],[99,97,112],[116,97,120]]) 1)],[(1, .arr 9 1 (List.map Zo [[115,116,97,114,116],[101,110,101,114,103,121],[116,105,109,101],[105,100,108,101],[99,97,112],[116,97,120]]).length)]⟩ Qa (sT (qR (.sl 1) Qa Qa Qa)))
def Vp (n:Nat):Option (List (List UInt8)) :=
 some [[111,110],[119,111,114,107],[115,97,116,117,114,100,97,121],[115,117,110,100,97,121],[98,101,116,119,101,101,110],[112,101,114],[102,114,101,101]]
theorem NZ (n:Nat):∀ r,Vp n=some r→Q0 Tryz.prog 142 [] (.ret (.p (.sl 1 (List.map Zo r)))):=by
 refine Qp Tryz.func142 rfl Tryz.ntmps142 rfl ?_
 unfold Vp
 exact Qg Qe ⟨[],[]⟩ Qa (Qg Qe ⟨[(0, .tsl 1 (List.map Zo [[111,110],[119,111,114,107],[115,97,116,117,114,100,97,121],[115,117,110,100,97,121],[98,101,116,119,101,101,110],[112,101,114],[102,114,101,101]]) 1)],[(1, .arr 9 1 (List.map Zo [[111,110],[119,111,114,107],[115,97,116,117,114,100,97,121],[115,117,110,100,97,121],[98,101,116,119,101,101,110],[112,101,114],[102,114,101,101]]).length)]⟩ Qa (sT (qR (.sl 1) Qa Qa Qa)))
def YB (n:Nat) (a0s:List UInt8):Option Bool :=
 ((Vn n).bind fun r3 =>
 (W9 n r3 a0s).bind fun r4 =>
 cond (leI 0 r4)
  (some true)
  ((Vo n).bind fun r6 =>
  (W9 n r6 a0s).bind fun r7 =>
  cond (leI 0 r7)
   (some true)
   ((Yf n).bind fun r9 =>
   (W9 n r9 a0s).bind fun r10 =>
   cond (leI 0 r10)
    (some true)
    ((Vp n).bind fun r12 =>
    (W9 n r12 a0s).bind fun r13 =>
    some (leI 0 r13))))).bind fun j2 =>
 cond (leI 1 (Qc a0s))
  (cond (leI (Qc a0s) 12)
   (some (!j2))
   (some false))
  (some false)
def Zz (n:Nat) (a0s:List UInt8) (recl16:Int→Option Bool) (l16:Int):Option Bool :=
 cond (QL l16 (Qc a0s))
  ((Zc a0s l16).bind fun x17 =>
  (cond (QL (YY x17) 97)
   (cond (Qs l16 0)
    (some true)
    (cond (QL (YY x17) 48)
     (some (!Qs (YY x17) 95))
     (cond (QL 57 (YY x17))
      (some (!Qs (YY x17) 95))
      (some false))))
   (cond (QL 122 (YY x17))
    (cond (Qs l16 0)
     (some true)
     (cond (QL (YY x17) 48)
      (some (!Qs (YY x17) 95))
      (cond (QL 57 (YY x17))
       (some (!Qs (YY x17) 95))
       (some false))))
    (some false))).bind fun j18 =>
  cond j18
   (some false)
   (recl16 (wi (l16+1))))
  (YB n a0s)
def Vl (n:Nat) (a0s:List UInt8):Option Bool :=
 Q4 (fun recl16 l16=>Zz n a0s recl16 l16) n 0
theorem P6 (n:Nat) (a0s:List UInt8):∀ r,Vl n a0s=some r→Q0 Tryz.prog 100 [S a0s] (.ret (B r)):=by
 refine Qp Tryz.func100 rfl Tryz.ntmps100 rfl ?_
 unfold Vl
 refine Qg Qe ⟨[(0,S a0s)],[]⟩ Qa (ZY (fun _=>⟨[(0,S a0s)],[]⟩:Unit→St) (fun _=>YB n a0s) ?_ ?_)
 ·rintro _
  show QU (YB n a0s) _ _ _ _ _ _
  unfold YB
  refine KM (fun j2=>⟨[(0,S a0s),(5,B j2)],[]⟩:Bool→St) ?_ ?_
  rotate_left
  ·rintro j2
   exact sS (sG (xR 4 Qa (xS (leI 1 (Qc a0s)) (fun h14=>xO (Qt Qa h14) Qa (xR 4 Qa (xS (leI (Qc a0s) 12) (fun h15=>xO (Qt Qa h15) Qa (xR 3 Qa (xE (Qk ⟨[(2,B (!j2))],[]⟩ Qa (sT (qR (.id) Qa Qa Qa)))))) (fun h15=>xN (Qu Qa h15) Qa (xR 3 Qa (xE (Qk ⟨[(2,B false)],[]⟩ Qa (sT (qR (.id) Qa Qa Qa))))))))) (fun h14=>xN (Qu Qa h14) Qa (xR 8 Qa (xE (Qk ⟨[(2,B false)],[]⟩ Qa (sT (qR (.id) Qa Qa Qa)))))))))
  refine sG ?_
  refine xC [] Qa (NW n) Qa Qa QW (fun r3=>?_)
  refine xR 1 Qa ?_
  refine xC [] Qa (Us n r3 a0s) Qa Qa QW (fun r4=>?_)
  refine xR 2 Qa (xS (leI 0 r4) (fun h5=>xN (QB Qa h5) Qa (xR 17 Qa (xE (QV true Qa)))) (fun h5=>?_))
  refine xC [] (QA Qa h5) (NY n) Qa Qa QW (fun r6=>?_)
  refine xR 1 Qa ?_
  refine xC [] Qa (Us n r6 a0s) Qa Qa QW (fun r7=>?_)
  refine xR 3 Qa (xS (leI 0 r7) (fun h8=>xN (QB Qa h8) Qa (xR 11 Qa (xE (QV true Qa)))) (fun h8=>?_))
  refine xC [] (QA Qa h8) (Du n) Qa Qa QW (fun r9=>?_)
  refine xR 1 Qa ?_
  refine xC [] Qa (Us n r9 a0s) Qa Qa QW (fun r10=>?_)
  refine xR 3 Qa (xS (leI 0 r10) (fun h11=>xN (QB Qa h11) Qa (xR 5 Qa (xE (QV true Qa)))) (fun h11=>?_))
  refine xC [] (QA Qa h11) (NZ n) Qa Qa QW (fun r12=>?_)
  refine xR 1 Qa ?_
  refine xC [] Qa (Us n r12 a0s) Qa Qa QW (fun r13=>?_)
  exact xR 3 Qa (xE (QV (leI 0 r13) Qa))
 refine Qg Qe ⟨[(0,S a0s),(3,I 0)],[]⟩ Qa (sB (Qw (fun l16=>⟨[(0,S a0s),(3,I l16)],[]⟩:Int→St) (Wq Qa) ?_))
 rintro recl16 l16
 show QU (Zz n a0s recl16 l16) _ _ _ _ _ _
 unfold Zz
 refine sS (Qg Qe ⟨[(0,S a0s),(3,I l16),(9,B (QL l16 (Qc a0s)))],[]⟩ Qa (sC (QL l16 (Qc a0s)) Qa (sK (Qk ⟨[(0,S a0s),(3,I l16)],[]⟩ Qa (sS (sB (sS (sG (xR 2 Qa (xG Qa Qa (WR (l:=a0s) (k:=.i64) (n:=l16) rfl Qa Qa Qa) (fun x17=>xR 1 Qa (xE (Qk ⟨[(0,S a0s),(3,I l16),(4,B8 (YY x17))],[]⟩ Qa (KM (fun j18=>⟨[(0,S a0s),(3,I l16),(36,B j18)],[]⟩:Bool→St) ?_ ?_)))))))))))) (Qm (Zu (ZP (QG (Ky (k:=fun _=>YB n a0s) () Qa)))))))
 rotate_left
 ·rintro j18
  exact sC j18 Qa (Qg Qe ⟨[(2,B false)],[]⟩ Qa (sT (Q9 (QY (KC (Q9 (KC (qR (.id) Qa Qa Qa)))))))) (sK (QT (Qk ⟨[(0,S a0s),(3,I l16)],[]⟩ Qa (sL Qe Qa (Ky (wi (l16+1)) Qa)))))
 exact sG (xR 3 Qa (xS (QL (YY x17) 97) (fun h19=>xN (QB Qa h19) Qa (xR 6 Qa (xS (Qs l16 0) (fun h20=>xN (QB Qa h20) Qa (xR 11 Qa (xE (QV true Qa)))) (fun h20=>xO (QA Qa h20) Qa (xR 2 Qa (xS (QL (YY x17) 48) (fun h21=>xN (QB Qa h21) Qa (xR 8 Qa (xE (QV (!Qs (YY x17) 95) Qa)))) (fun h21=>xO (QA Qa h21) Qa (xR 3 Qa (xS (QL 57 (YY x17)) (fun h22=>xO (Qt Qa h22) Qa (xR 4 Qa (xE (QV (!Qs (YY x17) 95) Qa)))) (fun h22=>xN (Qu Qa h22) Qa (xR 4 Qa (xE (QV false Qa))))))))))))) (fun h19=>xO (QA Qa h19) Qa (xR 3 Qa (xS (QL 122 (YY x17)) (fun h23=>xO (Qt Qa h23) Qa (xR 2 Qa (xS (Qs l16 0) (fun h24=>xN (QB Qa h24) Qa (xR 11 Qa (xE (QV true Qa)))) (fun h24=>xO (QA Qa h24) Qa (xR 2 Qa (xS (QL (YY x17) 48) (fun h25=>xN (QB Qa h25) Qa (xR 8 Qa (xE (QV (!Qs (YY x17) 95) Qa)))) (fun h25=>xO (QA Qa h25) Qa (xR 3 Qa (xS (QL 57 (YY x17)) (fun h26=>xO (Qt Qa h26) Qa (xR 4 Qa (xE (QV (!Qs (YY x17) 95) Qa)))) (fun h26=>xN (Qu Qa h26) Qa (xR 4 Qa (xE (QV false Qa))))))))))))) (fun h23=>xN (Qu Qa h23) Qa (xR 14 Qa (xE (QV false Qa)))))))))
def YW (a0l:List (List UInt8)) (a1s:List UInt8) (recl1:Int→Option Bool) (l1:Int):Option Bool :=
 cond (QL l1 (Qc (List.map Zo a0l)))
  ((Zc a0l l1).bind fun x2 =>
  cond (Q8 x2 a1s)
   (some true)
   (recl1 (wi (l1+1))))
  (some false)
def Ja (n:Nat) (a0l:List (List UInt8)) (a1s:List UInt8):Option Bool :=
 Q4 (fun recl1 l1=>YW a0l a1s recl1 l1) n 0
theorem AL (n:Nat) (a0l:List (List UInt8)) (a1s:List UInt8):∀ r,Ja n a0l a1s=some r→Q0 Tryz.prog 101 [.p (.sl 1 (List.map Zo a0l)),S a1s] (.ret (B r)):=by
 refine Qp Tryz.func101 rfl Tryz.ntmps101 rfl ?_
 unfold Ja
 refine Qg Qe (QbW a0l a1s) Qa (sS (Qg Qe ⟨PM a0l a1s 0,[]⟩ Qa (sB (Qw (fun l1=>⟨PM a0l a1s l1,[]⟩:Int→St) (Wq Qa) ?_))))
 rintro recl1 l1
 show QU (YW a0l a1s recl1 l1) _ _ _ _ _ _
 unfold YW
 exact sS (Qg Qe ⟨lh a0l a1s l1 (QL l1 (Qc (List.map Zo a0l))),[]⟩ Qa (sC (QL l1 (Qc (List.map Zo a0l))) Qa (sK (Qk ⟨PM a0l a1s l1,[]⟩ Qa (sS (sB (sS (sG (xR 2 Qa (xG Qa Qa (QC (e:=9) (S:=1) (enc:=Zo) (l:=a0l) (k:=.i64) (n:=l1) (sv:=.p (.sl 1 (List.map Zo a0l))) rfl Qa Qa Qa Qa Qa) (fun x2=>xR 3 Qa (xE (Qk ⟨lm a0l a1s l1 (Q8 x2 a1s),[]⟩ Qa (sC (Q8 x2 a1s) Qa (Qg Qe ⟨[(4,B true)],[]⟩ Qa (sT (Q9 (QY (KC (Q9 (QY (qR (.id) Qa Qa Qa)))))))) (sK (QT (Qk ⟨PM a0l a1s l1,[]⟩ Qa (sL Qe Qa (Ky (wi (l1+1)) Qa))))))))))))))))) (Qm (Zu (ZP (QG (Qk ⟨[],[]⟩ Qa (Qg Qe ⟨[(4,B false)],[]⟩ Qa (sT (qR (.id) Qa Qa Qa))))))))))
def Jk (a0s:Qj) (recl2:((List (List UInt8)) × Int)→Option (List (List UInt8))) (l2_1:List (List UInt8)) (l2_2:Int):Option (List (List UInt8)) :=
 cond (QL l2_2 (Qc (List.map ZI.cs a0s.Conductors)))
  ((Zc a0s.Conductors l2_2).bind fun x3 =>
  cond (ZB (List.length (l2_1++[x3.Name])) 16) (
   recl2 (l2_1++[x3.Name],wi (l2_2+1))) none)
  (some l2_1)
def Jl (a0s:Qj) (recl5:((List (List UInt8)) × Int)→Option (List (List UInt8))) (l5_1:List (List UInt8)) (l5_2:Int):Option (List (List UInt8)) :=
 cond (QL l5_2 (Qc (List.map Zf.cs a0s.Owners)))
  ((Zc a0s.Owners l5_2).bind fun x6 =>
  cond (ZB (List.length (l5_1++[x6.Name])) 16) (
   recl5 (l5_1++[x6.Name],wi (l5_2+1))) none)
  (some l5_1)
def Jm (a0s:Qj) (recl8:((List (List UInt8)) × Int)→Option (List (List UInt8))) (l8_1:List (List UInt8)) (l8_2:Int):Option (List (List UInt8)) :=
 cond (QL l8_2 (Qc (List.map Kq.cs a0s.Contracts)))
  ((Zc a0s.Contracts l8_2).bind fun x9 =>
  cond (ZB (List.length (l8_1++[x9.Name])) 16) (
   recl8 (l8_1++[x9.Name],wi (l8_2+1))) none)
  (some l8_1)
def WH (a0s:Qj) (recl11:((List (List UInt8)) × Int)→Option (List (List UInt8))) (l11_1:List (List UInt8)) (l11_2:Int):Option (List (List UInt8)) :=
 cond (QL l11_2 (Qc (List.map ZL.cs a0s.Chargers)))
  ((Zc a0s.Chargers l11_2).bind fun x12 =>
  cond (ZB (List.length (l11_1++[x12.Name])) 16) (
   recl11 (l11_1++[x12.Name],wi (l11_2+1))) none)
  (some l11_1)
def WI (a0s:Qj) (recl14:((List (List UInt8)) × Int)→Option (List (List UInt8))) (l14_1:List (List UInt8)) (l14_2:Int):Option (List (List UInt8)) :=
 cond (QL l14_2 (Qc (List.map Zt.cs a0s.Bays)))
  ((Zc a0s.Bays l14_2).bind fun x15 =>
  cond (ZB (List.length (l14_1++[x15.Name])) 16) (
   recl14 (l14_1++[x15.Name],wi (l14_2+1))) none)
  (some l14_1)
def Yu (n:Nat) (j13:List (List UInt8)) (recl16:Int→Option Bool) (l16:Int):Option Bool :=
 cond (QL l16 (Qc (List.map Zo j13)))
  (((Zc j13 l16).bind fun x18 =>
  (Vl n x18).bind fun r19 =>
  cond (!r19)
   (some true)
   (cond (sliceB 0 l16 (List.length j13)) (
    (Zc j13 l16).bind fun x21 =>
    (Ja n (List.drop (Int.toNat 0) (List.take (Int.toNat l16) j13)) x21).bind fun r22 =>
    some r22) none)).bind fun j17 =>
  cond j17
   (some false)
   (recl16 (wi (l16+1))))
  (some true)
def JS (n:Nat) (a0s:Qj):Option Bool :=
 (Q4 (fun recl2 (l2_1,l2_2)=>Jk a0s recl2 l2_1 l2_2) n ([],0)).bind fun j1 =>
 (Q4 (fun recl5 (l5_1,l5_2)=>Jl a0s recl5 l5_1 l5_2) n (j1,0)).bind fun j4 =>
 (Q4 (fun recl8 (l8_1,l8_2)=>Jm a0s recl8 l8_1 l8_2) n (j4,0)).bind fun j7 =>
 (Q4 (fun recl11 (l11_1,l11_2)=>WH a0s recl11 l11_1 l11_2) n (j7,0)).bind fun j10 =>
 (Q4 (fun recl14 (l14_1,l14_2)=>WI a0s recl14 l14_1 l14_2) n (j10,0)).bind fun j13 =>
 Q4 (fun recl16 l16=>Yu n j13 recl16 l16) n 0
def nX:=fun x0 x1=>([(1, .ptr 1 0),(3, .tsl 1 (List.map Zo x0) 25),(4,I x1)]:List (Nat × AV))
def jM:=fun x0 x1=>([(1, .ptr 1 0),(3, .tsl 1 (List.map Zo x0) 25),(5,I x1)]:List (Nat × AV))
def jN:=fun x0 x1=>([(1, .ptr 1 0),(3, .tsl 1 (List.map Zo x0) 25),(6,I x1)]:List (Nat × AV))
def jO:=fun x0 x1=>([(1, .ptr 1 0),(3, .tsl 1 (List.map Zo x0) 25),(7,I x1)]:List (Nat × AV))
def jP:=fun x0 x1=>([(1, .ptr 1 0),(3, .tsl 1 (List.map Zo x0) 25),(8,I x1)]:List (Nat × AV))
def jQ:=fun x0 x1=>([(3, .tsl 1 (List.map Zo x0) 25),(9,I x1)]:List (Nat × AV))
end Go.Proofs
